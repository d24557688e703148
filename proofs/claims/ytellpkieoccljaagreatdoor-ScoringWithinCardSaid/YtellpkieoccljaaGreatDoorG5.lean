import Derived.Test.YtellpkieoccljaaGreatDoorAcD
import Derived.Test.YtellpkieoccljaaGreatDoorG4
import Derived.Test.YtellpkieoccljaaGreatDoorG0
import Derived.Defers
import Derived.Recover
import Derived.Tactics
import Derived.Tactics2
import Derived.Laws.Pointers
import Derived.Test.YtellpkieoccljaaGreatDoorG3
import Derived.Test.YtellpkieoccljaaGreatDoorG2
set_option autoImplicit false
namespace Go.Proofs
open Go Go.Ab Go.RowKit
set_option maxHeartbeats 4000000
set_option maxRecDepth 100000
variable {G:IH}
/-! The value of a number. -/
theorem Yp {n d:Int} (h:ru n d=true):ok n d=true:=by
 unfold ru at h
 simp only[aT] at h
 have h:=h.1.1
 unfold nI at h
 cases hk:ok n d with
 | true=>rfl
 | false=>rw[hk] at h;cases h
theorem XP {l:List Ft} {s:ByteArray} (h:tH l (.string s)=false):tM l (.string s)=aJ:=by
 induction l with
 | nil=>rfl
 | cons x l ih=>
  unfold tH at h
  rw[Bool.or_eq_false_iff] at h
  unfold tM
  rw[h.1];exact ih h.2
theorem CZ {l:List Ft} {s:ByteArray} (h:tH l (.string s)=false):DV.imp (eX aJ) (tV l (.string s)):=by
 show DV.imp (eX aJ) (eX (tM l (.string s)))
 rw[XP h];exact fun _ _ hv=>hv
theorem Ce {l:List gY}:∀{k:Nat},0<k→0≤dZ l k
 | 0,h=>absurd h (Nat.lt_irrefl 0)
 | k+1,_=>by
  rw[pK]
  split
  ·rename_i h;exact h.1
  ·omega
theorem Io {F:List Ft} {l:List Fc} {ws:List ByteArray} (hN:VR F l) (m:Nat):∀(x:Ex) (p:gY),ht x≤m→aV x=true→(bZ l ws x).2.2=0→(bZ l ws x).1=0→gX F x=some p→ok p.1 p.2=true:=by
 induction m using Nat.strongRecOn with
 | _ m ih=>
 intro x p hx hsn h2 h1 hv
 rw[vU] at hv
 unfold Gy at hv
 have hnu:=IJ m x hx hsn h2 h1
 have hk:=IX hnu
 split at hv
 ·rename_i hk1
  simp only[aH] at hv;subst hv
  exact Yp (Lj hsn hk1)
 split at hv
 ·rename_i hk2
  simp only[aH] at hv;subst hv
  obtain ⟨t1,t2⟩:=(nJ hsn h2).2.2 hk2
  unfold lN at t1 t2
  split at t2
  ·rename_i hh
   rw[if_pos hh] at t1
   exact hN _ hh (t1.symm.trans h1)
  ·rename_i hh
   rw[if_neg hh] at t1
   split at t2
   ·rename_i hw
    rw[if_pos hw] at t1
    rw[t1] at h1;cases h1
   ·cases t2
 rename_i hk1 hk2
 cases hr:vZ F x.kids with
 | none=>rw[hr] at hv;cases hv
 | some r=>
  rw[hr] at hv
  obtain ⟨rfl,hkv⟩:=yV hr
  have h5:5≤x.k∧x.k≤11:=by omega
  have hlen:1≤x.kids.length:=by
   by_cases ha:x.k=5
   ·have:=kG hsn (.inl ha);omega
   ·by_cases hb:x.k=10∨x.k=11
    ·exact rZ hsn hb
    ·have:=kH hsn (by omega);omega
  refine Zj (by rw[List.length_map];exact hlen) (fun i hi=>?_) hv
  rw[List.length_map] at hi
  rw[List.getD,List.getElem?_map,bQ hi]
  have hh:=iC hi
  have hq:=ih (m-1) (by omega) (x.kids.getD i ak) (fB F (x.kids.getD i ak)) (by omega) (dO hsn hi) ((ig h2).1 i hi) ((iw h2).1 (.inl h5) i hi) (hkv i hi)
  rw[List.getD,bQ hi] at hq
  exact hq
theorem f46 {F:List Ft} {l:List Fc} {ws:List ByteArray} (hN:VR F l) (m:Nat):∀(x:Ex),ht x≤m→Sm x→aV x=true→(bZ l ws x).2.2=0→(bZ l ws x).1=0→
  (∀p,gX F x=some p→aj Tryz.prog G 46 [gI F,bG m x] (fr p.1 p.2))∧(gX F x=none→jy Tryz.prog G 46 [gI F,bG m x] dY):=by
 induction m using Nat.strongRecOn with
 | _ m ih=>
 intro x hx hs hsn h2 h1
 have hnu:=IJ m x hx hsn h2 h1
 have hk:=IX hnu
 have ev:=vU F x
 unfold Gy at ev
 by_cases k1:x.k=1
 ·rw[if_pos k1] at ev
  refine⟨fun p hp=>?_,fun hn=>by rw[ev] at hn;cases hn⟩
  rw[ev] at hp
  simp only[aH] at hp;subst hp
  refine aj.iE Tryz.func46 rfl Tryz.call46 ?_
  refine aK (ay:=mG F) (keep:=[]) (cuts:=[4]) (n:=1000) follows ?_
  refine aA (fun ZT ZW ZQ _=>((((x.k==1)=true)→(ZS ((fr (x.n,x.d).fst (x.n,x.d).snd):DV)))∧(((x.k==1)=false)→ZW [cd Tryz.f46 [1,0,1,0,1,1],(.blk 0),cd Tryz.f46 [1,1]] (aI ZT [1]) ZQ))) (by kernel_rfl) ?_
  exact⟨fun _=>rfl,fun h=>absurd k1 (by simpa using h)⟩
 rw[if_neg k1] at ev
 by_cases k2:x.k=2
 ·rw[if_pos k2] at ev
  refine⟨fun p hp=>?_,fun hn=>by rw[ev] at hn;cases hn⟩
  rw[ev] at hp
  simp only[aH] at hp;subst hp
  refine aj.iE Tryz.func46 rfl Tryz.call46 ?_
  refine aK (ay:=mG F) (keep:=[]) (cuts:=[6]) (n:=1000) follows ?_
  refine aA (fun ZT ZW ZQ _=>(fun Za=>((((x.k==1)=true)→(((.agg [(di x.n),(di x.d)]):DV)=(fr Za.fst Za.snd)))∧(((x.k==1)=false)→((((x.k==2)=true)→((((tH F (Value.string x.s))=false)→((DV.agg (List.map DV.con [Value.string (ByteArray.mk #[]),Value.int IntKind.i64 0,Value.int IntKind.i64 0,Value.int IntKind.i64 0,Value.bool false,Value.string (ByteArray.mk #[])])).imp (tV F (Value.string x.s))))∧(ZS ((fr Za.fst Za.snd):DV))))∧(((x.k==2)=false)→ZW [cd Tryz.f46 [1,1]] (aI ZT [1,1]) ZQ))))) ((tM F (Value.string x.s)).n,(tM F (Value.string x.s)).d)) (by kernel_rfl) ?_
  exact⟨fun h=>absurd (eq_of_beq h) k1,fun _=>⟨fun _=>⟨fun h=>CZ h,rfl⟩,fun h=>absurd k2 (by simpa using h)⟩⟩
 rw[if_neg k2] at ev
 have h5:5≤x.k∧x.k≤11:=by omega
 have hlen:=hs.len.1
 have h46:∀i,i<x.kids.length→(gX F (x.kids.getD i ak)≠none→aj Tryz.prog G 46 [gI F,aS m x i] (fr (fB F (x.kids.getD i ak)).1 (fB F (x.kids.getD i ak)).2))∧(gX F (x.kids.getD i ak)=none→jy Tryz.prog G 46 [gI F,aS m x i] dY):=fun i hi=>by
  have key:=jD (Q:=fun d=>(∀p,gX F (x.kids.getD i ak)=some p→aj Tryz.prog G 46 [gI F,d] (fr p.1 p.2))∧(gX F (x.kids.getD i ak)=none→jy Tryz.prog G 46 [gI F,d] dY)) hx hi fun m' h3 h4=>ih m' h3 _ h4 (hs.kid hi) (dO hsn hi) ((ig h2).1 i hi) ((iw h2).1 (.inl h5) i hi)
  refine⟨fun hv=>key.1 _ ?_,key.2⟩
  unfold fB
  cases hx:gX F (x.kids.getD i ak) with
  | none=>exact absurd hx hv
  | some p=>rfl
 have hmin:1≤x.kids.length∧(x.k=5→x.kids.length=1)∧(6≤x.k∧x.k≤9→x.kids.length=2):=by
  by_cases ha:x.k=5
  ·have:=kG hsn (.inl ha);omega
  ·by_cases hb:x.k=10∨x.k=11
   ·have:=rZ hsn hb;omega
   ·have:=kH hsn (by omega);omega
 cases hr:vZ F x.kids with
 | none=>
  rw[hr] at ev
  refine⟨fun p hp=>(by rw[ev] at hp;cases hp),fun _=>jy.iE Tryz.func46 rfl Tryz.call46 ?_⟩
  exact IU F _ m x hx hs h5 h46 (fun _ _=>rfl) (fun h=>absurd hr h)
 | some r=>
  rw[hr] at ev
  obtain ⟨er,hkv⟩:=yV hr
  have hrl:r.length=x.kids.length:=by rw[er,List.length_map]
  have hro:∀i,i<r.length→ok (r.getD i (0,0)).1 (r.getD i (0,0)).2=true:=fun i hi=>by
   have hi2:i<x.kids.length:=by omega
   have hh:=iC hi2
   have hq:=Io hN m (x.kids.getD i ak) (fB F (x.kids.getD i ak)) (by omega) (dO hsn hi2) ((ig h2).1 i hi2) ((iw h2).1 (.inl h5) i hi2) (hkv i hi2)
   rw[er,List.getD,List.getElem?_map,bQ hi2]
   rw[List.getD,bQ hi2] at hq
   exact hq
  have ev:gX F x=vM x.k r:=ev
  constructor
  ·intro p hp
   rw[ev] at hp
   refine aj.iE Tryz.func46 rfl Tryz.call46 (IU F _ m x hx hs h5 h46 (fun h=>by rw[hr] at h;cases h) fun _=>?_)
   by_cases c5:x.k=5
   ·have e0:r.getD 0 (0,0)=fB F (x.kids.getD 0 ak):=by
     have h0:0<x.kids.length:=by omega
     rw[er,List.getD,List.getElem?_map,List.getD,bQ h0];rfl
    have ho:=kR (hro 0 (by omega))
    unfold vM at hp
    rw[if_pos c5,e0] at hp
    simp only[aH] at hp;subst hp
    rw[e0] at ho
    exact abd F m x (hmin.2.1 c5) c5 ⟨by omega,by omega⟩
   refine PD ?_
   rw[←er]
   by_cases c11:x.k=11
   ·have ha:nU r=true:=by
     unfold nU
     rw[List.all_eq_true]
     intro q hq
     obtain ⟨i,hi,rfl⟩:=List.getElem_of_mem hq
     have:=hro i hi
     rwa [List.getD,bQ hi] at this
    unfold vM at hp
    rw[if_neg c5,if_pos c11] at hp
    simp only[aH] at hp;subst hp
    refine aav m x r ?_ (by omega) c11
    unfold jM
    rw[if_pos ha]
    exact Ce (by omega)
   by_cases c10:x.k=10
   ·unfold vM at hp
    rw[if_neg c5,if_neg c11,if_pos c10] at hp
    simp only[aH] at hp;subst hp
    exact Y8 m x r (by omega) (by omega) c10
   unfold vM at hp
   rw[if_neg c5,if_neg c11,if_neg c10] at hp
   have Fg:2≤r.length:=by have:=hmin.2.2 (by omega);omega
   split at hp
   ·rename_i hz
    simp only[aH] at hp;subst hp
    rcases (by omega:x.k=6∨x.k=7∨x.k=8∨x.k=9) with c|c|c|c
    ·rw[c] at hz⊢;exact XF m x r Fg c (fun _=>z46 m x _ _) fun h=>absurd hz h
    ·rw[c] at hz⊢;exact XG m x r Fg c (fun _=>z46 m x _ _) fun h=>absurd hz h
    ·rw[c] at hz⊢;exact Xt m x r Fg c (fun _=>z46 m x _ _) fun h=>absurd hz h
    ·rw[c] at hz⊢;exact Xc m x r Fg c (fun _=>z46 m x _ _) fun h=>absurd hz h
   ·cases hp
  ·intro hn
   rw[ev] at hn
   refine jy.iE Tryz.func46 rfl Tryz.call46 (IU F _ m x hx hs h5 h46 (fun h=>by rw[hr] at h;cases h) fun _=>PD ?_)
   rw[←er]
   unfold vM at hn
   split at hn
   ·cases hn
   rename_i c5
   split at hn
   ·cases hn
   rename_i c11
   split at hn
   ·cases hn
   rename_i c10
   have Fg:2≤r.length:=by have:=hmin.2.2 (by omega);omega
   split at hn
   ·cases hn
   rename_i hz
   rcases (by omega:x.k=6∨x.k=7∨x.k=8∨x.k=9) with c|c|c|c
   ·rw[c] at hz;exact XF m x r Fg c (fun h=>absurd h hz) fun _ _=>rfl
   ·rw[c] at hz;exact XG m x r Fg c (fun h=>absurd h hz) fun _ _=>rfl
   ·rw[c] at hz;exact Xt m x r Fg c (fun h=>absurd h hz) fun _ _=>rfl
   ·rw[c] at hz;exact Xc m x r Fg c (fun h=>absurd h hz) fun _ _=>rfl
/-! Words,Rw,comparisons. -/
def wP (F:List Ft) (a:Ex):Bool:=a.k==2&&(!tH F (.string a.s)||(tM F (.string a.s)).kind==2)
def qK (F:List Ft) (a:Ex):Bool:=if a.k=2 then tH F (.string a.s)&&(tM F (.string a.s)).kind==1 else decide (a.k=3∨a.k=4∨a.k=18∨a.k=19∨a.k=20)||(decide (a.k≥12)&&decide (a.k≤17))
def tZ (F:List Ft) (a:Ex):ByteArray:=if tH F (.string a.s) then (tM F (.string a.s)).wd else a.s
theorem f139 (F:List Ft) (m:Nat) (a:Ex):aj Tryz.prog G 139 [gI F,bG m a] (db (wP F a)):=by
 refine aj.aK (ay:=jo) (keep:=[]) follows Tryz.func139 rfl Tryz.call139 ?_
 refine aA (fun _ _ _ _=>((((tH F (Value.string a.s))=false)→((DV.agg (List.map DV.con [Value.string (ByteArray.mk #[]),Value.int IntKind.i64 0,Value.int IntKind.i64 0,Value.int IntKind.i64 0,Value.bool false,Value.string (ByteArray.mk #[])])).imp (tV F (Value.string a.s))))∧((db (a.k==2&&(!tH F (Value.string a.s)||(tM F (Value.string a.s)).kind==2))):DV)=(db (wP F a)))) (by kernel_rfl) ?_
 exact⟨fun h=>CZ h,rfl⟩
theorem f140 (F:List Ft) (m:Nat) (a:Ex):aj Tryz.prog G 140 [gI F,bG m a] (db (qK F a)):=by
 refine aj.aK (ay:=jo) (keep:=[]) follows Tryz.func140 rfl Tryz.call140 ?_
 refine aA (fun _ _ _ _=>((((a.k==2)=true)→((((tH F (Value.string a.s))=false)→((DV.agg (List.map DV.con [Value.string (ByteArray.mk #[]),Value.int IntKind.i64 0,Value.int IntKind.i64 0,Value.int IntKind.i64 0,Value.bool false,Value.string (ByteArray.mk #[])])).imp (tV F (Value.string a.s))))∧((db (tH F (Value.string a.s)&&(tM F (Value.string a.s)).kind==1)):DV)=(db (qK F a))))∧(((a.k==2)=false)→((((a.k==3)=true)→(((db true):DV)=(db (qK F a))))∧(((a.k==3)=false)→((((a.k==4)=true)→(((db true):DV)=(db (qK F a))))∧(((a.k==4)=false)→((((a.k==18)=true)→(((db true):DV)=(db (qK F a))))∧(((a.k==18)=false)→((((a.k==19)=true)→(((db true):DV)=(db (qK F a))))∧(((a.k==19)=false)→((((a.k==20)=true)→(((db true):DV)=(db (qK F a))))∧(((a.k==20)=false)→(((db (decide (a.k≥12)&&decide (a.k≤17))):DV)=(db (qK F a)))))))))))))))) (by kernel_rfl) ?_
 unfold qK
 refine⟨fun h=>⟨fun h=>CZ h,?_⟩,fun h2=>⟨fun h=>?_,fun h3=>⟨fun h=>?_,fun h4=>⟨fun h=>?_,fun h5=>⟨fun h=>?_,fun h6=>⟨fun h=>?_,fun h7=>?_⟩⟩⟩⟩⟩⟩
 ·rw[if_pos (eq_of_beq h)]
 all_goals simp only[beq_eq_false_iff_ne,ne_eq] at h2
 all_goals rw[if_neg h2]
 ·have h:=eq_of_beq h;rw[decide_eq_true (by omega:a.k=3∨a.k=4∨a.k=18∨a.k=19∨a.k=20)];rfl
 ·have h:=eq_of_beq h;rw[decide_eq_true (by omega:a.k=3∨a.k=4∨a.k=18∨a.k=19∨a.k=20)];rfl
 ·have h:=eq_of_beq h;rw[decide_eq_true (by omega:a.k=3∨a.k=4∨a.k=18∨a.k=19∨a.k=20)];rfl
 ·have h:=eq_of_beq h;rw[decide_eq_true (by omega:a.k=3∨a.k=4∨a.k=18∨a.k=19∨a.k=20)];rfl
 ·have h:=eq_of_beq h;rw[decide_eq_true (by omega:a.k=3∨a.k=4∨a.k=18∨a.k=19∨a.k=20)];rfl
 ·simp only[beq_eq_false_iff_ne,ne_eq] at h3 h4 h5 h6 h7
  rw[decide_eq_false (by omega:¬(a.k=3∨a.k=4∨a.k=18∨a.k=19∨a.k=20)),Bool.false_or]
theorem f48 (F:List Ft) (m:Nat) (a:Ex):aj Tryz.prog G 48 [gI F,bG m a] (ds (tZ F a)):=by
 refine aj.aK (ay:=jo) (keep:=[]) follows Tryz.func48 rfl Tryz.call48 ?_
 refine aA (fun _ _ _ _=>((((tH F (Value.string a.s))=false)→((DV.agg (List.map DV.con [Value.string (ByteArray.mk #[]),Value.int IntKind.i64 0,Value.int IntKind.i64 0,Value.int IntKind.i64 0,Value.bool false,Value.string (ByteArray.mk #[])])).imp (tV F (Value.string a.s))))∧(((tH F (Value.string a.s))=true)→(((ds (tM F (Value.string a.s)).wd):DV)=(ds (tZ F a))))∧(((tH F (Value.string a.s))=false)→(((ds a.s):DV)=(ds (tZ F a)))))) (by kernel_rfl) ?_
 unfold tZ
 exact⟨fun h=>CZ h,fun h=>by rw[h];rfl,fun h=>by rw[h];rfl⟩
def rG (F:List Ft) (a b:Ex):Option Int:=match gX F a,gX F b with
 | some p,some q=>some (dM p.1 p.2 q.1 q.2)
 | _,_=>none
def CG (G:IH) (F:List Ft) (d:DV) (a:Ex):Prop:=(∀p,gX F a=some p→aj Tryz.prog G 46 [gI F,d] (fr p.1 p.2))∧(gX F a=none→jy Tryz.prog G 46 [gI F,d] dY)
theorem CG.get {F:List Ft} {d:DV} {a:Ex} (h:CG G F d a) (hv:gX F a≠none):aj Tryz.prog G 46 [gI F,d] (fr (fB F a).1 (fB F a).2):=by
 refine h.1 _ ?_
 unfold fB
 cases hx:gX F a with
 | none=>exact absurd hx hv
 | some p=>rfl
noncomputable def GY (F:List Ft):aZ:=fun f a=>match f,a with
 | 46,[_,e]=>some (fr (fB F (ah e)).1 (fB F (ah e)).2)
 | 81,[fr a b,fr c d]=>some (.au [di (dM a b c d),db (iF a b c d)])
 | _,_=>none
theorem f83 (F:List Ft) (m m':Nat) (a b:Ex) (ha:ht a≤m) (hb:ht b≤m') (na:CG G F (bG m a) a) (nb:CG G F (bG m' b) b) :
  (∀c,rG F a b=some c→aj Tryz.prog G 83 [gI F,bG m a,bG m' b] (di c))∧(rG F a b=none→jy Tryz.prog G 83 [gI F,bG m a,bG m' b] dY):=by
 have e1:ah (aB m a)=a:=fU ha
 have e2:ah (aB m' b)=b:=fU hb
 constructor
 ·intro c hc
  have h1:gX F a≠none:=fun h=>by unfold rG at hc;rw[h] at hc;cases hc
  have h2:gX F b≠none:=fun h=>by
   unfold rG at hc;rw[h] at hc
   cases hh:gX F a<;>rw[hh] at hc<;>cases hc
  refine aj.aK (ay:=GY F) (keep:=[]) follows Tryz.func83 rfl Tryz.call83 ?_
  refine aA (fun _ _ _ ZK=>(fun Za Zb Zc=>(ZK 46 [(.ptr [(.mp none (tV F) (tH F))]),(aB m a)] Zc∧(ZK 46 [(.ptr [(.mp none (tV F) (tH F))]),(aB m' b)] Zb∧ZK 81 [Zc,Zb] (.au [Za,(db (iF (fB F (ah (aB m a))).fst (fB F (ah (aB m a))).snd (fB F (ah (aB m' b))).fst (fB F (ah (aB m' b))).snd))]))∧(Za:DV)=(di c))) (di (dM (fB F (ah (aB m a))).fst (fB F (ah (aB m a))).snd (fB F (ah (aB m' b))).fst (fB F (ah (aB m' b))).snd)) ((.agg [(di (fB F (ah (aB m' b))).fst),(di (fB F (ah (aB m' b))).snd)]):DV) ((.agg [(di (fB F (ah (aB m a))).fst),(di (fB F (ah (aB m a))).snd)]):DV)) (by kernel_rfl) ?_
  simp only[e1,e2]
  refine⟨na.get h1,⟨nb.get h2,f81 _ _ _ _⟩,?_⟩
  refine congrArg (fun z:Int=>(di z:DV)) ?_
  unfold rG at hc
  unfold fB
  cases hg:gX F a with
  | none=>exact absurd hg h1
  | some p=>
   cases hh:gX F b with
   | none=>exact absurd hh h2
   | some q=>rw[hg,hh] at hc;exact Option.some.inj hc
 ·intro hn
  by_cases h1:gX F a=none
  ·refine jy.iE Tryz.func83 rfl Tryz.call83 ?_
   refine aK (ay:=GY F) (keep:=[]) (cuts:=[1]) (n:=1000) follows ?_
   refine aA (fun ZT ZW ZQ _=>ZW [cd Tryz.f83 [1]] (aI ZT []) ZQ) (by kernel_rfl) ?_
   refine aC.panic follows (GY F) 2 (pv:=dY) ?_ rfl
   refine aA (fun _ _ _ _=>(jy Tryz.prog G 46 [(.ptr [(.mp none (tV F) (tH F))]),(aB m a)] dY∧True)) (by kernel_rfl) ?_
   exact⟨na.2 h1,trivial⟩
  ·have h2:gX F b=none:=by
    cases hh:gX F b with
    | none=>rfl
    | some q=>
     exfalso
     cases hg:gX F a with
     | none=>exact h1 hg
     | some p=>unfold rG at hn;rw[hh,hg] at hn;cases hn
   refine jy.iE Tryz.func83 rfl Tryz.call83 ?_
   refine aK (ay:=GY F) (keep:=[]) (cuts:=[2]) (n:=1000) follows ?_
   refine aA (fun ZT ZW ZQ ZK=>(ZK 46 [(.ptr [(.mp none (tV F) (tH F))]),(aB m a)] (.agg [(di (fB F (ah (aB m a))).fst),(di (fB F (ah (aB m a))).snd)])∧ZW [cd Tryz.f83 [1,1]] (aI ZT []) ZQ)) (by kernel_rfl) ?_
   simp only[e1,e2]
   refine⟨na.get h1,?_⟩
   refine aC.panic follows (GY F) 3 (pv:=dY) ?_ rfl
   refine aA (fun _ _ _ _=>(jy Tryz.prog G 46 [(.ptr [(.mp none (tV F) (tH F))]),(aB m' b)] dY∧True)) (by kernel_rfl) ?_
   exact⟨nb.2 h2,trivial⟩
/-! Equality,and Rw. -/
def zU (F:List Ft) (pa pb:Option Bool) (a b:Ex):Option Bool:=
 if wP F a=true then some (decide (tZ F a=tZ F b))
 else if qK F a=true then (match pa with
  | none=>none
  | some p=>match pb with
   | none=>none
   | some q=>some (p==q))
 else match rG F a b with
  | none=>none
  | some c=>some (c==0)
def sV (F:List Ft) (k:Int) (s:ByteArray) (kids:List Ex) (bs:List (Option Bool)):Option Bool:=
 if k=3 then some true else if k=4 then some false else if k=2 then some (tM F (.string s)).tr
 else if k=18 then (match bs.getD 0 none with|none=>none|some p=>some (!p))
 else if k=19 then (match bs.getD 0 none with|none=>none|some p=>if p then bs.getD 1 none else some false)
 else if k=20 then (match bs.getD 0 none with|none=>none|some p=>if p then some true else bs.getD 1 none)
 else if k=12 then zU F (bs.getD 0 none) (bs.getD 1 none) (kids.getD 0 ak) (kids.getD 1 ak)
 else if k=13 then (match zU F (bs.getD 0 none) (bs.getD 1 none) (kids.getD 0 ak) (kids.getD 1 ak) with|none=>none|some p=>some (!p))
 else match rG F (kids.getD 0 ak) (kids.getD 1 ak) with
  | none=>none
  | some c=>some (if k=14 then decide (c<0) else if k=15 then decide (c≤0) else if k=16 then decide (c>0) else decide (c≥0))
mutual
def dI (F:List Ft):Ex→Option Bool
 | .mk k s _ _ _ kids=>sV F k s kids (ED F kids)
def ED (F:List Ft):List Ex→List (Option Bool)
 | []=>[]
 | x :: l=>dI F x :: ED F l
end
theorem lX (F:List Ft) (x:Ex):dI F x=sV F x.k x.s x.kids (ED F x.kids):=by cases x;simp only[dI,Ex.k,Ex.s,Ex.kids]
theorem iH (F:List Ft):∀(l:List Ex) (i:Nat),i<l.length→(ED F l).getD i none=dI F (l.getD i ak)
 | [],_,h=>by simp at h
 | x :: l,0,_=>rfl
 | x :: l,i+1,h=>by
  have:=iH F l i (by simpa using h)
  simpa [ED] using this
def ug (G:IH) (F:List Ft) (d:DV) (a:Ex):Prop:=(∀b,dI F a=some b→aj Tryz.prog G 47 [gI F,d] (db b))∧(dI F a=none→jy Tryz.prog G 47 [gI F,d] dY)
structure EqH (G:IH) (F:List Ft) (da db':DV) (a b:Ex):Prop where
 tr:wP F a=false→qK F a=true→ug G F da a∧ug G F db' b
 nu:wP F a=false→qK F a=false→CG G F da a∧CG G F db' b
def gy (F:List Ft) (a:Ex):Bool:=(dI F a).getD false
def Vj (F:List Ft) (a b:Ex):Int:=(rG F a b).getD 0
noncomputable def kP (F:List Ft):aZ:=fun f a=>match f,a with
 | 139,[_,e]=>some (db (wP F (ah e)))
 | 140,[_,e]=>some (db (qK F (ah e)))
 | 48,[_,e]=>some (ds (tZ F (ah e)))
 | 47,[_,e]=>some (db (gy F (ah e)))
 | 83,[_,e,g]=>some (di (Vj F (ah e) (ah g)))
 | _,_=>none
theorem ug.get {F:List Ft} {d:DV} {a:Ex} (h:ug G F d a) (hv:dI F a≠none):aj Tryz.prog G 47 [gI F,d] (db (gy F a)):=by
 refine h.1 _ ?_
 unfold gy
 cases hx:dI F a with
 | none=>exact absurd hx hv
 | some p=>rfl
theorem f82 (F:List Ft) (m m':Nat) (a b:Ex) (ha:ht a≤m) (hb:ht b≤m') (H:EqH G F (bG m a) (bG m' b) a b) :
  (∀c,zU F (dI F a) (dI F b) a b=some c→aj Tryz.prog G 82 [gI F,bG m a,bG m' b] (db c))∧(zU F (dI F a) (dI F b) a b=none→jy Tryz.prog G 82 [gI F,bG m a,bG m' b] dY):=by
 have e1:ah (aB m a)=a:=fU ha
 have e2:ah (aB m' b)=b:=fU hb
 constructor
 ·intro c hc
  refine aj.aK (ay:=kP F) (keep:=[]) follows Tryz.func82 rfl Tryz.call82 ?_
  refine aA (fun _ _ _ ZK=>(fun Za=>(ZK 139 [Za,(aB m a)] (db (wP F (ah (aB m a))))∧(((wP F (ah (aB m a)))=true)→((ZK 48 [Za,(aB m a)] (ds (tZ F (ah (aB m a))))∧ZK 48 [Za,(aB m' b)] (ds (tZ F (ah (aB m' b)))))∧((db ((tZ F (ah (aB m a))).toList==(tZ F (ah (aB m' b))).toList)):DV)=(db c)))∧(((wP F (ah (aB m a)))=false)→(ZK 140 [Za,(aB m a)] (db (qK F (ah (aB m a))))∧(((qK F (ah (aB m a)))=true)→(ZK 47 [Za,(aB m a)] (db (gy F (ah (aB m a))))∧ZK 47 [Za,(aB m' b)] (db (gy F (ah (aB m' b))))∧((db (gy F (ah (aB m a))==gy F (ah (aB m' b)))):DV)=(db c)))∧(((qK F (ah (aB m a)))=false)→(ZK 83 [Za,(aB m a),(aB m' b)] (di (Vj F (ah (aB m a)) (ah (aB m' b))))∧((db (Vj F (ah (aB m a)) (ah (aB m' b))==0)):DV)=(db c))))))) ((.ptr [(.mp none (tV F) (tH F))]):DV)) (by kernel_rfl) ?_
  simp only[e1,e2,iT]
  unfold zU at hc
  refine⟨f139 F m a,fun h1=>⟨⟨f48 F m a,f48 F m' b⟩,?_⟩,fun h1=>⟨f140 F m a,fun h2=>?_,fun h2=>?_⟩⟩
  ·rw[if_pos h1] at hc
   exact congrArg db (Option.some.inj hc)
  ·rw[if_neg (by rw[h1];decide),if_pos h2] at hc
   obtain ⟨ta,tb⟩:=H.tr h1 h2
   have n1:dI F a≠none:=fun h=>by rw[h] at hc;cases hc
   have n2:dI F b≠none:=fun h=>by
    rw[h] at hc
    cases hh:dI F a<;>rw[hh] at hc<;>cases hc
   refine⟨ta.get n1,tb.get n2,congrArg db ?_⟩
   unfold gy
   cases hp:dI F a with
   | none=>exact absurd hp n1
   | some p=>
    cases hq:dI F b with
    | none=>exact absurd hq n2
    | some q=>rw[hp,hq] at hc;exact Option.some.inj hc
  ·rw[if_neg (by rw[h1];decide),if_neg (by rw[h2];decide)] at hc
   obtain ⟨na,nb⟩:=H.nu h1 h2
   have Z8:=f83 F m m' a b ha hb na nb
   cases hv:rG F a b with
   | none=>rw[hv] at hc;cases hc
   | some v=>
    rw[hv] at hc
    have:Vj F a b=v:=by unfold Vj;rw[hv];rfl
    rw[this]
    exact⟨Z8.1 v hv,congrArg db (Option.some.inj hc)⟩
 ·intro hn
  refine jy.iE Tryz.func82 rfl Tryz.call82 ?_
  refine aK (ay:=kP F) (keep:=[]) (cuts:=[2,4,5,6]) (n:=1000) follows ?_
  refine aA (fun ZT ZW ZQ ZK=>(ZK 139 [(.ptr [(.mp none (tV F) (tH F))]),(aB m a)] (db (wP F (ah (aB m a))))∧(((wP F (ah (aB m a)))=true)→ZW [cd Tryz.f82 [1,0,0,1,0],(.blk 0),cd Tryz.f82 [1,1]] (aI ZT [0]) ZQ)∧(((wP F (ah (aB m a)))=false)→(ZK 140 [(.ptr [(.mp none (tV F) (tH F))]),(aB m a)] (db (qK F (ah (aB m a))))∧(((qK F (ah (aB m a)))=true)→ZW [cd Tryz.f82 [1,0,0,1,1,1,0],(.blk 0),cd Tryz.f82 [1,1]] (aI ZT [1,0]) ZQ)∧(((qK F (ah (aB m a)))=false)→ZW [cd Tryz.f82 [1,1]] (aI ZT [1,1]) ZQ))))) (by kernel_rfl) ?_
  simp only[e1,e2]
  unfold zU at hn
  refine⟨f139 F m a,fun h1=>?_,fun h1=>⟨f140 F m a,fun h2=>?_,fun h2=>?_⟩⟩
  ·rw[if_pos h1] at hn;cases hn
  ·rw[if_neg (by rw[h1];decide),if_pos h2] at hn
   obtain ⟨ta,tb⟩:=H.tr h1 h2
   by_cases n1:dI F a=none
   ·refine aC.panic follows (kP F) 2 (pv:=dY) ?_ rfl
    refine aA (fun _ _ _ _=>(jy Tryz.prog G 47 [(.ptr [(.mp none (tV F) (tH F))]),(aB m a)] dY∧True)) (by kernel_rfl) ?_
    exact⟨ta.2 n1,trivial⟩
   ·have n2:dI F b=none:=by
     cases hp:dI F a with
     | none=>exact absurd hp n1
     | some p=>
      cases hq:dI F b with
      | none=>rfl
      | some q=>rw[hp,hq] at hn;cases hn
    refine aK (ay:=kP F) (keep:=[]) (cuts:=[5]) (n:=1000) follows ?_
    refine aA (fun ZT ZW ZQ ZK=>(ZK 47 [(.ptr [(.mp none (tV F) (tH F))]),(aB m a)] (db (gy F (ah (aB m a))))∧ZW [cd Tryz.f82 [1,0,0,1,1,1,0,1],(.blk 0),cd Tryz.f82 [1,1]] (aI ZT []) ZQ)) (by kernel_rfl) ?_
    simp only[e1]
    refine⟨ta.get n1,?_⟩
    refine aC.panic follows (kP F) 3 (pv:=dY) ?_ rfl
    refine aA (fun _ _ _ _=>(jy Tryz.prog G 47 [(.ptr [(.mp none (tV F) (tH F))]),(aB m' b)] dY∧True)) (by kernel_rfl) ?_
    exact⟨tb.2 n2,trivial⟩
  ·rw[if_neg (by rw[h1];decide),if_neg (by rw[h2];decide)] at hn
   obtain ⟨na,nb⟩:=H.nu h1 h2
   have Z8:=f83 F m m' a b ha hb na nb
   refine aC.panic follows (kP F) 3 (pv:=dY) ?_ rfl
   refine aA (fun _ _ _ _=>(jy Tryz.prog G 83 [(.ptr [(.mp none (tV F) (tH F))]),(aB m a),(aB m' b)] dY∧True)) (by kernel_rfl) ?_
   refine⟨Z8.2 ?_,trivial⟩
   cases hv:rG F a b with
   | none=>rfl
   | some v=>rw[hv] at hn;cases hn
/-! Kinds and what the evaluator finds. -/
structure TK (F:List Ft) (l:List Fc):Prop where
 has:∀s,tH F (.string s)=fH l (.string s)
 kd:∀s,(tM F (.string s)).kind=(fM l (.string s)).kind
 num:VR F l
theorem Yl {l:List Fc} {a b:ByteArray} {p q:Int} (h:cmK l a b p q=true):p=q:=by
 unfold cmK at h
 split at h
 ·exact eq_of_beq h
 ·rename_i hh
  simp only[Bool.or_eq_true,not_or,bne_iff_ne,ne_eq,Classical.not_not] at hh
  exact hh.1
theorem Q5 {l:List Fc} {ws:List ByteArray} {x:Ex} (hs:aV x=true) (h:(bZ l ws x).2.2=0) (hk:x.k=12∨x.k=13):(bZ l ws (x.kids.getD 0 ak)).1=(bZ l ws (x.kids.getD 1 ak)).1:=by
 obtain ⟨h1,h2,h3⟩:=ig h
 obtain ⟨a1,a2,a3,a4⟩:=@F8 l ws x.k x.s ((jJ l ws x.kids).map (·.1)) (x.kids.getD 0 ak).s (x.kids.getD 1 ak).s
 rw[a4 hk] at h3
 have Fg:=kH hs (by omega)
 simp only at h3
 have hc:cmK l (x.kids.getD 0 ak).s (x.kids.getD 1 ak).s (((jJ l ws x.kids).map (·.1)).getD 0 0) (((jJ l ws x.kids).map (·.1)).getD 1 0)=true:=by
  cases hh:cmK l (x.kids.getD 0 ak).s (x.kids.getD 1 ak).s (((jJ l ws x.kids).map (·.1)).getD 0 0) (((jJ l ws x.kids).map (·.1)).getD 1 0) with
  | true=>rfl
  | false=>rw[hh] at h3;exact absurd h3 (by decide)
 have:=Yl hc
 rwa [yU (by omega),yU (by omega)] at this
theorem SX {F:List Ft} {l:List Fc} {ws:List ByteArray} (hF:TK F l) {a:Ex} (hs:aV a=true) (h:(bZ l ws a).2.2=0):(wP F a=true↔(bZ l ws a).1=2)∧(qK F a=true↔(bZ l ws a).1=1):=by
 obtain ⟨t1,t2,t3⟩:=nJ hs h
 have hk:=qC hs
 unfold wP qK
 by_cases k2:a.k=2
 ·obtain ⟨u1,u2⟩:=t3 k2
  rw[if_pos k2,k2,hF.has,hF.kd,u1]
  unfold lN at u2⊢
  by_cases hh:fH l (.string a.s)=true
  ·rw[hh,if_pos rfl]
   simp
  ·rw[if_neg hh] at u2⊢
   have hh:fH l (.string a.s)=false:=by simpa using hh
   rw[hh]
   split at u2
   ·rename_i hw
    rw[if_pos hw];simp
   ·cases u2
 ·rw[if_neg k2,show (a.k==2)=false from by simpa using k2,Bool.false_and]
  by_cases k1:a.k=1∨(5≤a.k∧a.k≤11)
  ·rw[t1 k1]
   simp only[Bool.or_eq_true,decide_eq_true_eq,aT]
   constructor
   ·constructor
    ·intro h;cases h
    ·intro h;cases h
   ·constructor
    ·intro h;omega
    ·intro h;cases h
  ·rw[t2 (by omega)]
   simp only[Bool.or_eq_true,decide_eq_true_eq,aT]
   constructor
   ·constructor
    ·intro h;cases h
    ·intro h;cases h
   ·constructor
    ·intro h;trivial
    ·intro h;omega
def TI (l:List Fc):Prop:=∀s,fH l (.string s)=true→(fM l (.string s)).kind=0∨(fM l (.string s)).kind=1∨(fM l (.string s)).kind=2
theorem Q9 {l:List Fc} {ws:List ByteArray} (hK:TI l) {a:Ex} (hs:aV a=true) (h:(bZ l ws a).2.2=0):(bZ l ws a).1=0∨(bZ l ws a).1=1∨(bZ l ws a).1=2:=by
 obtain ⟨t1,t2,t3⟩:=nJ hs h
 have hk:=qC hs
 by_cases k2:a.k=2
 ·obtain ⟨u1,u2⟩:=t3 k2
  rw[u1]
  unfold lN at u2⊢
  by_cases hh:fH l (.string a.s)=true
  ·rw[if_pos hh]
   exact hK _ hh
  ·rw[if_neg hh] at u2⊢
   split at u2
   ·rename_i hw
    rw[if_pos hw];simp
   ·cases u2
 ·by_cases k1:a.k=1∨(5≤a.k∧a.k≤11)
  ·exact .inl (t1 k1)
  ·exact .inr (.inl (t2 (by omega)))
/-! The value of a truth. -/
noncomputable def Xv (p:Bool):aZ:=fun f a=>match f,a with
 | 82,_=>some (db p)
 | _,_=>none
noncomputable def ab8 (p:Int):aZ:=fun f a=>match f,a with
 | 83,_=>some (di p)
 | _,_=>none
noncomputable def pF (F:List Ft) (m:Nat) (x:Ex):AS:=⟨regs Tryz.f47.ntmps [(0,.d (gI F)),(3,.box 3 0),(4,.d (db false))],[(3,l7 m x)]⟩
theorem Qi (F:List Ft) (Q:Exit→AS→Prop) (m:Nat) (x:Ex) (h3:x.k=3→aC Tryz.prog G [cd Tryz.f47 [1,0,1,0,1,0],.blk 0,cd Tryz.f47 [1,1]] (pF F m x) Q) (h4:x.k=4→aC Tryz.prog G [cd Tryz.f47 [1,0,1,0,1,1,1,0],.blk 0,cd Tryz.f47 [1,1]] (pF F m x) Q) (h2:x.k=2→aC Tryz.prog G [cd Tryz.f47 [1,0,1,0,1,1,1,1,1,0],.blk 0,cd Tryz.f47 [1,1]] (pF F m x) Q) (h18:x.k=18→aC Tryz.prog G [cd Tryz.f47 [1,0,1,0,1,1,1,1,1,1,1,0],.blk 0,cd Tryz.f47 [1,1]] (pF F m x) Q) (h19:x.k=19→aC Tryz.prog G [cd Tryz.f47 [1,0,1,0,1,1,1,1,1,1,1,1,1,0],.blk 0,cd Tryz.f47 [1,1]] (pF F m x) Q) (h20:x.k=20→aC Tryz.prog G [cd Tryz.f47 [1,0,1,0,1,1,1,1,1,1,1,1,1,1,1,0],.blk 0,cd Tryz.f47 [1,1]] (pF F m x) Q) (h12:x.k=12→aC Tryz.prog G [cd Tryz.f47 [1,0,1,0,1,1,1,1,1,1,1,1,1,1,1,1,1,0],.blk 0,cd Tryz.f47 [1,1]] (pF F m x) Q) (h13:x.k=13→aC Tryz.prog G [cd Tryz.f47 [1,0,1,0,1,1,1,1,1,1,1,1,1,1,1,1,1,1,1,0],.blk 0,cd Tryz.f47 [1,1]] (pF F m x) Q) (hc:x.k≠3→x.k≠4→x.k≠2→x.k≠18→x.k≠19→x.k≠20→x.k≠12→x.k≠13→aC Tryz.prog G [cd Tryz.f47 [1,1]] (pF F m x) Q):aC Tryz.prog G [.code (aQ Tryz.f47)] (entry [gI F,bG m x] Tryz.f47.ntmps) Q:=by
 refine aK (ay:=kP F) (keep:=[]) (cuts:=[3,5,7,9,11,13,15,17,18]) (n:=1000) follows ?_
 refine aA (fun ZT ZW ZQ _=>((((x.k==3)=true)→ZW [cd Tryz.f47 [1,0,1,0,1,0],(.blk 0),cd Tryz.f47 [1,1]] (aI ZT [0]) ZQ)∧(((x.k==3)=false)→((((x.k==4)=true)→ZW [cd Tryz.f47 [1,0,1,0,1,1,1,0],(.blk 0),cd Tryz.f47 [1,1]] (aI ZT [1,0]) ZQ)∧(((x.k==4)=false)→((((x.k==2)=true)→ZW [cd Tryz.f47 [1,0,1,0,1,1,1,1,1,0],(.blk 0),cd Tryz.f47 [1,1]] (aI ZT [1,1,0]) ZQ)∧(((x.k==2)=false)→((((x.k==18)=true)→ZW [cd Tryz.f47 [1,0,1,0,1,1,1,1,1,1,1,0],(.blk 0),cd Tryz.f47 [1,1]] (aI ZT [1,1,1,0]) ZQ)∧(((x.k==18)=false)→((((x.k==19)=true)→ZW [cd Tryz.f47 [1,0,1,0,1,1,1,1,1,1,1,1,1,0],(.blk 0),cd Tryz.f47 [1,1]] (aI ZT [1,1,1,1,0]) ZQ)∧(((x.k==19)=false)→((((x.k==20)=true)→ZW [cd Tryz.f47 [1,0,1,0,1,1,1,1,1,1,1,1,1,1,1,0],(.blk 0),cd Tryz.f47 [1,1]] (aI ZT [1,1,1,1,1,0]) ZQ)∧(((x.k==20)=false)→((((x.k==12)=true)→ZW [cd Tryz.f47 [1,0,1,0,1,1,1,1,1,1,1,1,1,1,1,1,1,0],(.blk 0),cd Tryz.f47 [1,1]] (aI ZT [1,1,1,1,1,1,0]) ZQ)∧(((x.k==12)=false)→((((x.k==13)=true)→ZW [cd Tryz.f47 [1,0,1,0,1,1,1,1,1,1,1,1,1,1,1,1,1,1,1,0],(.blk 0),cd Tryz.f47 [1,1]] (aI ZT [1,1,1,1,1,1,1,0]) ZQ)∧(((x.k==13)=false)→ZW [cd Tryz.f47 [1,1]] (aI ZT [1,1,1,1,1,1,1,1]) ZQ))))))))))))))))) (by kernel_rfl) ?_
 refine⟨fun h3'=>aC.weaken ?_ (h3 (eq_of_beq h3')),fun n3=>⟨fun h4'=>aC.weaken ?_ (h4 (eq_of_beq h4')),fun n4=>⟨fun h2'=>aC.weaken ?_ (h2 (eq_of_beq h2')),fun n2=>⟨fun adi=>aC.weaken ?_ (h18 (eq_of_beq adi)),fun n18=>⟨fun adG=>aC.weaken ?_ (h19 (eq_of_beq adG)),fun n19=>⟨fun adU=>aC.weaken ?_ (h20 (eq_of_beq adU)),fun n20=>⟨fun aax=>aC.weaken ?_ (h12 (eq_of_beq aax)),fun n12=>⟨fun ad2=>aC.weaken ?_ (h13 (eq_of_beq ad2)),fun n13=>aC.weaken ?_ (hc (beq_eq_false_iff_ne.1 n3) (beq_eq_false_iff_ne.1 n4) (beq_eq_false_iff_ne.1 n2) (beq_eq_false_iff_ne.1 n18) (beq_eq_false_iff_ne.1 n19) (beq_eq_false_iff_ne.1 n20) (beq_eq_false_iff_ne.1 n12) (beq_eq_false_iff_ne.1 n13))⟩⟩⟩⟩⟩⟩⟩⟩
 ·exact AS.dB (by kernel_rfl)
 ·exact AS.dB (by kernel_rfl)
 ·exact AS.dB (by kernel_rfl)
 ·exact AS.dB (by kernel_rfl)
 ·exact AS.dB (by kernel_rfl)
 ·exact AS.dB (by kernel_rfl)
 ·exact AS.dB (by kernel_rfl)
 ·exact AS.dB (by kernel_rfl)
 ·exact AS.dB (by kernel_rfl)
section
variable {F:List Ft} {m:Nat} {x:Ex}
theorem aea:aC Tryz.prog G [cd Tryz.f47 [1,0,1,0,1,0],.blk 0,cd Tryz.f47 [1,1]] (pF F m x) (fF Tryz.prog Tryz.f47 (db true)):=by
 refine aK (ay:=kP F) (keep:=[]) (cuts:=[]) (n:=1000) follows ?_
 refine aA (fun _ _ _ _=>(ZS ((db true):DV))) (by kernel_rfl) ?_
 rfl
theorem adA:aC Tryz.prog G [cd Tryz.f47 [1,0,1,0,1,1,1,0],.blk 0,cd Tryz.f47 [1,1]] (pF F m x) (fF Tryz.prog Tryz.f47 (db false)):=by
 refine aK (ay:=kP F) (keep:=[]) (cuts:=[]) (n:=1000) follows ?_
 refine aA (fun _ _ _ _=>(ZS ((db false):DV))) (by kernel_rfl) ?_
 rfl
theorem ad7:aC Tryz.prog G [cd Tryz.f47 [1,0,1,0,1,1,1,1,1,0],.blk 0,cd Tryz.f47 [1,1]] (pF F m x) (fF Tryz.prog Tryz.f47 (db (tM F (.string x.s)).tr)):=by
 refine aK (ay:=kP F) (keep:=[]) (cuts:=[]) (n:=1000) follows ?_
 refine aA (fun _ _ _ _=>((((tH F (Value.string x.s))=false)→((DV.agg (List.map DV.con [Value.string (ByteArray.mk #[]),Value.int IntKind.i64 0,Value.int IntKind.i64 0,Value.int IntKind.i64 0,Value.bool false,Value.string (ByteArray.mk #[])])).imp (tV F (Value.string x.s))))∧(ZS ((db (tM F (Value.string x.s)).tr):DV)))) (by kernel_rfl) ?_
 exact⟨fun h=>CZ h,rfl⟩
theorem lM {F:List Ft} {a:Ex} {p:Bool} (h:dI F a=some p):gy F a=p:=by unfold gy;rw[h];rfl
theorem AB {F:List Ft} {a:Ex} {p:Bool} (h:dI F a=some p):dI F a≠none:=by rw[h];exact fun h=>by cases h
variable (hx:ht x≤m)
include hx
theorem XC (h1:x.kids.length=1) (b0:ug G F (aS m x 0) (x.kids.getD 0 ak)) :
  (∀p,dI F (x.kids.getD 0 ak)=some p→aC Tryz.prog G [cd Tryz.f47 [1,0,1,0,1,1,1,1,1,1,1,0],.blk 0,cd Tryz.f47 [1,1]] (pF F m x) (fF Tryz.prog Tryz.f47 (db (!p))))∧
  (dI F (x.kids.getD 0 ak)=none→aC Tryz.prog G [cd Tryz.f47 [1,0,1,0,1,1,1,1,1,1,1,0],.blk 0,cd Tryz.f47 [1,1]] (pF F m x) fun e _=>e=.panic (oC dY)):=by
 have e0:ah (aS m x 0)=x.kids.getD 0 ak:=dL hx (by omega)
 constructor
 ·intro p hp
  refine aK (ay:=kP F) (keep:=[]) (cuts:=[]) (n:=1000) follows ?_
  refine aA (fun _ _ _ ZK=>(fun Za=>(((((0:Int)≤(0:Int))∧(0<(↑x.kids.length:Int)))∧ZK 47 [(.ptr [(.mp none (tV F) (tH F))]),Za] (db (gy F (ah Za))))∧((db (!gy F (ah Za))):DV)=(db !p))) (aY m (x.kids.getD (Int.toNat 0) ak))) (by kernel_rfl) ?_
  simp only[Int.toNat_zero,e0]
  exact⟨⟨⟨by omega,by omega⟩,b0.get (AB hp)⟩,by rw[lM hp]⟩
 ·intro hn
  refine aC.panic follows (kP F) 5 (pv:=dY) ?_ rfl
  refine aA (fun _ _ _ _=>(((((0:Int)≤(0:Int))∧(0<(↑x.kids.length:Int)))∧jy Tryz.prog G 47 [(.ptr [(.mp none (tV F) (tH F))]),(aY m (x.kids.getD (Int.toNat 0) ak))] dY)∧True)) (by kernel_rfl) ?_
  exact⟨⟨⟨by omega,by omega⟩,b0.2 hn⟩,trivial⟩
theorem SC (h1:x.kids.length=2) (b0:ug G F (aS m x 0) (x.kids.getD 0 ak)) (b1:ug G F (aS m x 1) (x.kids.getD 1 ak)) :
  (∀p,dI F (x.kids.getD 0 ak)=some p→(p=true→dI F (x.kids.getD 1 ak)≠none)→aC Tryz.prog G [cd Tryz.f47 [1,0,1,0,1,1,1,1,1,1,1,1,1,0],.blk 0,cd Tryz.f47 [1,1]] (pF F m x) (fF Tryz.prog Tryz.f47 (db (p&&gy F (x.kids.getD 1 ak)))))∧
  (dI F (x.kids.getD 0 ak)=none∨(dI F (x.kids.getD 0 ak)=some true∧dI F (x.kids.getD 1 ak)=none)→aC Tryz.prog G [cd Tryz.f47 [1,0,1,0,1,1,1,1,1,1,1,1,1,0],.blk 0,cd Tryz.f47 [1,1]] (pF F m x) fun e _=>e=.panic (oC dY)):=by
 have e0:ah (aS m x 0)=x.kids.getD 0 ak:=dL hx (by omega)
 have e1:ah (aS m x 1)=x.kids.getD 1 ak:=dL hx (by omega)
 have t1:Int.toNat 1=1:=rfl
 constructor
 ·intro p hp hq
  refine aK (ay:=kP F) (keep:=[]) (cuts:=[]) (n:=1000) follows ?_
  refine aA (fun _ _ _ ZK=>(fun Za Zb=>(((((0:Int)≤(0:Int))∧(0<(↑x.kids.length:Int)))∧ZK 47 [(.ptr [(.mp none (tV F) (tH F))]),Za] (db (gy F (ah Za)))∧(((gy F (ah Za))=true)→(((0:Int)≤(1:Int))∧(1<(↑x.kids.length:Int))))∧(((gy F (ah Za))=true)→ZK 47 [(.ptr [(.mp none (tV F) (tH F))]),Zb] (db (gy F (ah Zb)))))∧((db (gy F (ah Za)&&gy F (ah Zb))):DV)=(db (p&&gy F (x.kids.getD 1 ak))))) (aY m (x.kids.getD (Int.toNat 0) ak)) (aY m (x.kids.getD (Int.toNat 1) ak))) (by kernel_rfl) ?_
  simp only[Int.toNat_zero,t1,e0,e1,lM hp]
  exact⟨⟨⟨by omega,by omega⟩,lM hp▸b0.get (AB hp),fun _=>⟨by omega,by omega⟩,fun h=>b1.get (hq (by simpa using h))⟩,trivial⟩
 ·rintro (hn|⟨hp,hn⟩)
  ·refine aC.panic follows (kP F) 5 (pv:=dY) ?_ rfl
   refine aA (fun _ _ _ _=>(((((0:Int)≤(0:Int))∧(0<(↑x.kids.length:Int)))∧jy Tryz.prog G 47 [(.ptr [(.mp none (tV F) (tH F))]),(aY m (x.kids.getD (Int.toNat 0) ak))] dY)∧True)) (by kernel_rfl) ?_
   exact⟨⟨⟨by omega,by omega⟩,b0.2 hn⟩,trivial⟩
  ·refine aC.panic follows (kP F) 12 (pv:=dY) ?_ rfl
   refine aA (fun _ _ _ ZK=>(fun Za=>(((((0:Int)≤(0:Int))∧(0<(↑x.kids.length:Int)))∧ZK 47 [(.ptr [(.mp none (tV F) (tH F))]),Za] (db (gy F (ah Za)))∧(((gy F (ah Za))=true)→(((0:Int)≤(1:Int))∧(1<(↑x.kids.length:Int))))∧(gy F (ah Za))=true∧jy Tryz.prog G 47 [(.ptr [(.mp none (tV F) (tH F))]),(aY m (x.kids.getD (Int.toNat 1) ak))] dY)∧True)) (aY m (x.kids.getD (Int.toNat 0) ak))) (by kernel_rfl) ?_
   simp only[Int.toNat_zero,t1,e0,lM hp]
   exact⟨⟨⟨by omega,by omega⟩,lM hp▸b0.get (AB hp),fun _=>⟨by omega,by omega⟩,by first|trivial|rfl,b1.2 hn⟩,trivial⟩
theorem Rz (h1:x.kids.length=2) (b0:ug G F (aS m x 0) (x.kids.getD 0 ak)) (b1:ug G F (aS m x 1) (x.kids.getD 1 ak)) :
  (∀p,dI F (x.kids.getD 0 ak)=some p→(p=false→dI F (x.kids.getD 1 ak)≠none)→aC Tryz.prog G [cd Tryz.f47 [1,0,1,0,1,1,1,1,1,1,1,1,1,1,1,0],.blk 0,cd Tryz.f47 [1,1]] (pF F m x) (fF Tryz.prog Tryz.f47 (db (p||gy F (x.kids.getD 1 ak)))))∧
  (dI F (x.kids.getD 0 ak)=none∨(dI F (x.kids.getD 0 ak)=some false∧dI F (x.kids.getD 1 ak)=none)→aC Tryz.prog G [cd Tryz.f47 [1,0,1,0,1,1,1,1,1,1,1,1,1,1,1,0],.blk 0,cd Tryz.f47 [1,1]] (pF F m x) fun e _=>e=.panic (oC dY)):=by
 have e0:ah (aS m x 0)=x.kids.getD 0 ak:=dL hx (by omega)
 have e1:ah (aS m x 1)=x.kids.getD 1 ak:=dL hx (by omega)
 have t1:Int.toNat 1=1:=rfl
 constructor
 ·intro p hp hq
  refine aK (ay:=kP F) (keep:=[]) (cuts:=[]) (n:=1000) follows ?_
  refine aA (fun _ _ _ ZK=>(fun Za Zb=>(((((0:Int)≤(0:Int))∧(0<(↑x.kids.length:Int)))∧ZK 47 [(.ptr [(.mp none (tV F) (tH F))]),Za] (db (gy F (ah Za)))∧(((!gy F (ah Za))=true)→(((0:Int)≤(1:Int))∧(1<(↑x.kids.length:Int))))∧(((!gy F (ah Za))=true)→ZK 47 [(.ptr [(.mp none (tV F) (tH F))]),Zb] (db (gy F (ah Zb)))))∧((db (gy F (ah Za)||gy F (ah Zb))):DV)=(db (p||gy F (x.kids.getD 1 ak))))) (aY m (x.kids.getD (Int.toNat 0) ak)) (aY m (x.kids.getD (Int.toNat 1) ak))) (by kernel_rfl) ?_
  simp only[Int.toNat_zero,t1,e0,e1,lM hp]
  exact⟨⟨⟨by omega,by omega⟩,lM hp▸b0.get (AB hp),fun _=>⟨by omega,by omega⟩,fun h=>b1.get (hq (by simpa using h))⟩,trivial⟩
 ·rintro (hn|⟨hp,hn⟩)
  ·refine aC.panic follows (kP F) 5 (pv:=dY) ?_ rfl
   refine aA (fun _ _ _ _=>(((((0:Int)≤(0:Int))∧(0<(↑x.kids.length:Int)))∧jy Tryz.prog G 47 [(.ptr [(.mp none (tV F) (tH F))]),(aY m (x.kids.getD (Int.toNat 0) ak))] dY)∧True)) (by kernel_rfl) ?_
   exact⟨⟨⟨by omega,by omega⟩,b0.2 hn⟩,trivial⟩
  ·refine aC.panic follows (kP F) 12 (pv:=dY) ?_ rfl
   refine aA (fun _ _ _ ZK=>(fun Za=>(((((0:Int)≤(0:Int))∧(0<(↑x.kids.length:Int)))∧ZK 47 [(.ptr [(.mp none (tV F) (tH F))]),Za] (db (gy F (ah Za)))∧(((!gy F (ah Za))=true)→(((0:Int)≤(1:Int))∧(1<(↑x.kids.length:Int))))∧(!gy F (ah Za))=true∧jy Tryz.prog G 47 [(.ptr [(.mp none (tV F) (tH F))]),(aY m (x.kids.getD (Int.toNat 1) ak))] dY)∧True)) (aY m (x.kids.getD (Int.toNat 0) ak))) (by kernel_rfl) ?_
   simp only[Int.toNat_zero,t1,e0,lM hp]
   exact⟨⟨⟨by omega,by omega⟩,lM hp▸b0.get (AB hp),fun _=>⟨by omega,by omega⟩,by first|trivial|rfl,b1.2 hn⟩,trivial⟩
theorem Xx (h1:x.kids.length=2) {ov:Option Bool} (H:(∀c,ov=some c→aj Tryz.prog G 82 [gI F,aS m x 0,aS m x 1] (db c))∧(ov=none→jy Tryz.prog G 82 [gI F,aS m x 0,aS m x 1] dY)) :
  (∀p,ov=some p→aC Tryz.prog G [cd Tryz.f47 [1,0,1,0,1,1,1,1,1,1,1,1,1,1,1,1,1,0],.blk 0,cd Tryz.f47 [1,1]] (pF F m x) (fF Tryz.prog Tryz.f47 (db (p))))∧
  (ov=none→aC Tryz.prog G [cd Tryz.f47 [1,0,1,0,1,1,1,1,1,1,1,1,1,1,1,1,1,0],.blk 0,cd Tryz.f47 [1,1]] (pF F m x) fun e _=>e=.panic (oC dY)):=by
 have _:=hx
 clear hx
 constructor
 ·intro p hp
  refine aK (ay:=Xv p) (keep:=[]) (cuts:=[]) (n:=1000) follows ?_
  refine aA (fun _ _ _ ZK=>(((((0:Int)≤(0:Int))∧(0<(↑x.kids.length:Int)))∧(((0:Int)≤(1:Int))∧(1<(↑x.kids.length:Int)))∧ZK 82 [(.ptr [(.mp none (tV F) (tH F))]),(aY m (x.kids.getD (Int.toNat 0) ak)),(aY m (x.kids.getD (Int.toNat 1) ak))] (db p))∧(ZS ((db p):DV)))) (by kernel_rfl) ?_
  exact⟨⟨⟨by omega,by omega⟩,⟨by omega,by omega⟩,H.1 p hp⟩,rfl⟩
 ·intro hn
  refine aC.panic follows (kP F) 9 (pv:=dY) ?_ rfl
  refine aA (fun _ _ _ _=>(((((0:Int)≤(0:Int))∧(0<(↑x.kids.length:Int)))∧(((0:Int)≤(1:Int))∧(1<(↑x.kids.length:Int)))∧jy Tryz.prog G 82 [(.ptr [(.mp none (tV F) (tH F))]),(aY m (x.kids.getD (Int.toNat 0) ak)),(aY m (x.kids.getD (Int.toNat 1) ak))] dY)∧True)) (by kernel_rfl) ?_
  exact⟨⟨⟨by omega,by omega⟩,⟨by omega,by omega⟩,H.2 hn⟩,trivial⟩
theorem XA (h1:x.kids.length=2) {ov:Option Bool} (H:(∀c,ov=some c→aj Tryz.prog G 82 [gI F,aS m x 0,aS m x 1] (db c))∧(ov=none→jy Tryz.prog G 82 [gI F,aS m x 0,aS m x 1] dY)) :
  (∀p,ov=some p→aC Tryz.prog G [cd Tryz.f47 [1,0,1,0,1,1,1,1,1,1,1,1,1,1,1,1,1,1,1,0],.blk 0,cd Tryz.f47 [1,1]] (pF F m x) (fF Tryz.prog Tryz.f47 (db (!p))))∧
  (ov=none→aC Tryz.prog G [cd Tryz.f47 [1,0,1,0,1,1,1,1,1,1,1,1,1,1,1,1,1,1,1,0],.blk 0,cd Tryz.f47 [1,1]] (pF F m x) fun e _=>e=.panic (oC dY)):=by
 have _:=hx
 clear hx
 constructor
 ·intro p hp
  refine aK (ay:=Xv p) (keep:=[]) (cuts:=[]) (n:=1000) follows ?_
  refine aA (fun _ _ _ ZK=>(((((0:Int)≤(0:Int))∧(0<(↑x.kids.length:Int)))∧(((0:Int)≤(1:Int))∧(1<(↑x.kids.length:Int)))∧ZK 82 [(.ptr [(.mp none (tV F) (tH F))]),(aY m (x.kids.getD (Int.toNat 0) ak)),(aY m (x.kids.getD (Int.toNat 1) ak))] (db p))∧(ZS ((db !p):DV)))) (by kernel_rfl) ?_
  exact⟨⟨⟨by omega,by omega⟩,⟨by omega,by omega⟩,H.1 p hp⟩,rfl⟩
 ·intro hn
  refine aC.panic follows (kP F) 9 (pv:=dY) ?_ rfl
  refine aA (fun _ _ _ _=>(((((0:Int)≤(0:Int))∧(0<(↑x.kids.length:Int)))∧(((0:Int)≤(1:Int))∧(1<(↑x.kids.length:Int)))∧jy Tryz.prog G 82 [(.ptr [(.mp none (tV F) (tH F))]),(aY m (x.kids.getD (Int.toNat 0) ak)),(aY m (x.kids.getD (Int.toNat 1) ak))] dY)∧True)) (by kernel_rfl) ?_
  exact⟨⟨⟨by omega,by omega⟩,⟨by omega,by omega⟩,H.2 hn⟩,trivial⟩
theorem Z5 (h1:x.kids.length=2) {ov:Option Int} (H:(∀c,ov=some c→aj Tryz.prog G 83 [gI F,aS m x 0,aS m x 1] (di c))∧(ov=none→jy Tryz.prog G 83 [gI F,aS m x 0,aS m x 1] dY)) :
  (∀c,ov=some c→aC Tryz.prog G [cd Tryz.f47 [1,1]] (pF F m x) (fF Tryz.prog Tryz.f47 (db (if x.k=14 then decide (c<0) else if x.k=15 then decide (c≤0) else if x.k=16 then decide (c>0) else decide (c≥0)))))∧
  (ov=none→aC Tryz.prog G [cd Tryz.f47 [1,1]] (pF F m x) fun e _=>e=.panic (oC dY)):=by
 have _:=hx
 clear hx
 constructor
 ·intro p hp
  refine aK (ay:=ab8 p) (keep:=[]) (cuts:=[]) (n:=1000) follows ?_
  refine aA (fun _ _ _ ZK=>(((((0:Int)≤(0:Int))∧(0<(↑x.kids.length:Int)))∧(((0:Int)≤(1:Int))∧(1<(↑x.kids.length:Int)))∧ZK 83 [(.ptr [(.mp none (tV F) (tH F))]),(aY m (x.kids.getD (Int.toNat 0) ak)),(aY m (x.kids.getD (Int.toNat 1) ak))] (di p))∧(((x.k==14)=true)→(((db (decide (p<0))):DV)=(db (if x.k=14 then decide (p<0) else if x.k=15 then decide (p≤0) else if x.k=16 then decide (p>0) else decide (p≥0)))))∧(((x.k==14)=false)→((((x.k==15)=true)→(((db (decide (p≤0))):DV)=(db (if x.k=14 then decide (p<0) else if x.k=15 then decide (p≤0) else if x.k=16 then decide (p>0) else decide (p≥0)))))∧(((x.k==15)=false)→((((x.k==16)=true)→(((db (decide (p>0))):DV)=(db (if x.k=14 then decide (p<0) else if x.k=15 then decide (p≤0) else if x.k=16 then decide (p>0) else decide (p≥0)))))∧(((x.k==16)=false)→(((db (decide (p≥0))):DV)=(db (if x.k=14 then decide (p<0) else if x.k=15 then decide (p≤0) else if x.k=16 then decide (p>0) else decide (p≥0))))))))))) (by kernel_rfl) ?_
  refine⟨⟨⟨by omega,by omega⟩,⟨by omega,by omega⟩,H.1 p hp⟩,fun h=>?_,fun h=>⟨fun h2=>?_,fun h2=>⟨fun h3=>?_,fun h3=>?_⟩⟩⟩
  ·rw[if_pos (eq_of_beq h)]
  ·rw[if_neg (beq_eq_false_iff_ne.1 h),if_pos (eq_of_beq h2)]
  ·rw[if_neg (beq_eq_false_iff_ne.1 h),if_neg (beq_eq_false_iff_ne.1 h2),if_pos (eq_of_beq h3)]
  ·rw[if_neg (beq_eq_false_iff_ne.1 h),if_neg (beq_eq_false_iff_ne.1 h2),if_neg (beq_eq_false_iff_ne.1 h3)]
 ·intro hn
  refine aC.panic follows (kP F) 9 (pv:=dY) ?_ rfl
  refine aA (fun _ _ _ _=>(((((0:Int)≤(0:Int))∧(0<(↑x.kids.length:Int)))∧(((0:Int)≤(1:Int))∧(1<(↑x.kids.length:Int)))∧jy Tryz.prog G 83 [(.ptr [(.mp none (tV F) (tH F))]),(aY m (x.kids.getD (Int.toNat 0) ak)),(aY m (x.kids.getD (Int.toNat 1) ak))] dY)∧True)) (by kernel_rfl) ?_
  exact⟨⟨⟨by omega,by omega⟩,⟨by omega,by omega⟩,H.2 hn⟩,trivial⟩
end
theorem f47 {F:List Ft} {l:List Fc} {ws:List ByteArray} (hF:TK F l) (hK:TI l) (m:Nat):∀(x:Ex),ht x≤m→Sm x→aV x=true→(bZ l ws x).2.2=0→(bZ l ws x).1=1→ug G F (bG m x) x:=by
 induction m using Nat.strongRecOn with
 | _ m ih=>
 intro x hx hs hsn h2 h1
 have hlen:=hs.len.1
 obtain ⟨t1,t2,t3⟩:=nJ hsn h2
 have hk:=qC hsn
 have hkk:x.k=2∨x.k=3∨x.k=4∨12≤x.k:=by
  refine Classical.byContradiction fun hn=>?_
  rw[t1 (by omega)] at h1;cases h1
 have one:=fun h=>kG (x:=x) hsn (.inr h)
 have two:=fun h=>(kH (x:=x) hsn h).1
 have ev:=lX F x
 -- the operands
 have kid:∀i,i<x.kids.length→(bZ l ws (x.kids.getD i ak)).1=1→ug G F (aS m x i) (x.kids.getD i ak):=fun i hi ht1=>
  jD (Q:=fun d=>ug G F d (x.kids.getD i ak)) hx hi fun m' h3 h4=>ih m' h3 _ h4 (hs.kid hi) (dO hsn hi) ((ig h2).1 i hi) ht1
 have RI:∀i,i<x.kids.length→(bZ l ws (x.kids.getD i ak)).1=0→CG G F (aS m x i) (x.kids.getD i ak):=fun i hi ht1=>
  jD (Q:=fun d=>CG G F d (x.kids.getD i ak)) hx hi fun m' h3 h4=>f46 hF.num m' _ h4 (hs.kid hi) (dO hsn hi) ((ig h2).1 i hi) ht1
 have g0:∀i,i<x.kids.length→(ED F x.kids).getD i none=dI F (x.kids.getD i ak):=fun i hi=>iH F _ i hi
 have XD:x.k=12∨x.k=13→x.kids.length=2∧((∀c,zU F (dI F (x.kids.getD 0 ak)) (dI F (x.kids.getD 1 ak)) (x.kids.getD 0 ak) (x.kids.getD 1 ak)=some c→aj Tryz.prog G 82 [gI F,aS m x 0,aS m x 1] (db c))∧(zU F (dI F (x.kids.getD 0 ak)) (dI F (x.kids.getD 1 ak)) (x.kids.getD 0 ak) (x.kids.getD 1 ak)=none→jy Tryz.prog G 82 [gI F,aS m x 0,aS m x 1] dY)):=fun hc=>by
  have hl:=two (by omega)
  have hh0:=iC (x:=x) (i:=0) (by omega)
  have hh1:=iC (x:=x) (i:=1) (by omega)
  obtain ⟨m',rfl⟩:∃m',m=m'+1:=⟨m-1,by omega⟩
  have hty:=Q5 hsn h2 hc
  have s0:=dO (x:=x) hsn (i:=0) (by omega)
  have s1:=dO (x:=x) hsn (i:=1) (by omega)
  have f0:=(ig h2).1 0 (by omega)
  have f1:=(ig h2).1 1 (by omega)
  obtain ⟨w0,r0⟩:=SX hF s0 f0
  refine⟨hl,f82 F m' m' (x.kids.getD 0 ak) (x.kids.getD 1 ak) (by omega) (by omega) ⟨fun hw htr=>?_,fun hw htr=>?_⟩⟩
  ·have:=r0.1 htr
   exact⟨kid 0 (by omega) this,kid 1 (by omega) (by rw[←hty];exact this)⟩
  ·have:(bZ l ws (x.kids.getD 0 ak)).1=0:=by
    rcases Q9 hK s0 f0 with h|h|h
    ·exact h
    ·rw[r0.2 h] at htr;cases htr
    ·rw[w0.2 h] at hw;cases hw
   exact⟨RI 0 (by omega) this,RI 1 (by omega) (by rw[←hty];exact this)⟩
 have E83:14≤x.k∧x.k≤17→x.kids.length=2∧((∀c,rG F (x.kids.getD 0 ak) (x.kids.getD 1 ak)=some c→aj Tryz.prog G 83 [gI F,aS m x 0,aS m x 1] (di c))∧(rG F (x.kids.getD 0 ak) (x.kids.getD 1 ak)=none→jy Tryz.prog G 83 [gI F,aS m x 0,aS m x 1] dY)):=fun hc=>by
  have hl:=two (by omega)
  have hh0:=iC (x:=x) (i:=0) (by omega)
  have hh1:=iC (x:=x) (i:=1) (by omega)
  obtain ⟨m',rfl⟩:∃m',m=m'+1:=⟨m-1,by omega⟩
  have Uy:=(iw h2).1 (.inr hc)
  exact⟨hl,f83 F m' m' (x.kids.getD 0 ak) (x.kids.getD 1 ak) (by omega) (by omega) (RI 0 (by omega) (Uy 0 (by omega))) (RI 1 (by omega) (Uy 1 (by omega)))⟩
 have pX:18≤x.k→∀i,i<x.kids.length→ug G F (aS m x i) (x.kids.getD i ak):=fun h i hi=>kid i hi ((iw h2).2 h i hi)
 -- both ends of the walk
 constructor
 ·intro b hb
  rw[ev] at hb
  unfold sV at hb
  refine aj.iE Tryz.func47 rfl Tryz.call47 (Qi F _ m x (fun k3=>?_) (fun k4=>?_) (fun k2=>?_) (fun k18=>?_) (fun k19=>?_) (fun k20=>?_) (fun k12=>?_) (fun k13=>?_) (fun n3 n4 n2 n18 n19 n20 n12 n13=>?_))
  ·rw[if_pos k3] at hb;obtain rfl:=Option.some.inj hb;exact aea
  ·rw[if_neg (by omega),if_pos k4] at hb;obtain rfl:=Option.some.inj hb;exact adA
  ·rw[if_neg (by omega),if_neg (by omega),if_pos k2] at hb;obtain rfl:=Option.some.inj hb;exact ad7
  ·have hl:=one k18
   rw[if_neg (by omega),if_neg (by omega),if_neg (by omega),if_pos k18,g0 0 (by omega)] at hb
   cases hv:dI F (x.kids.getD 0 ak) with
   | none=>rw[hv] at hb;cases hb
   | some p=>
    rw[hv] at hb
    obtain rfl:=Option.some.inj hb
    exact(XC hx hl (pX (by omega) 0 (by omega))).1 p hv
  ·have hl:=two (by omega)
   rw[if_neg (by omega),if_neg (by omega),if_neg (by omega),if_neg (by omega),if_pos k19,g0 0 (by omega),g0 1 (by omega)] at hb
   cases hv:dI F (x.kids.getD 0 ak) with
   | none=>rw[hv] at hb;cases hb
   | some p=>
    rw[hv] at hb
    cases p with
    | false=>
     obtain rfl:=Option.some.inj hb
     exact(SC hx hl (pX (by omega) 0 (by omega)) (pX (by omega) 1 (by omega))).1 false hv fun h=>by cases h
    | true=>
     have hb:dI F (x.kids.getD 1 ak)=some b:=hb
     have:=(SC (G:=G) hx hl (pX (by omega) 0 (by omega)) (pX (by omega) 1 (by omega))).1 true hv fun _=>AB hb
     rw[lM hb,Bool.true_and] at this
     exact this
  ·have hl:=two (by omega)
   rw[if_neg (by omega),if_neg (by omega),if_neg (by omega),if_neg (by omega),if_neg (by omega),if_pos k20,g0 0 (by omega),g0 1 (by omega)] at hb
   cases hv:dI F (x.kids.getD 0 ak) with
   | none=>rw[hv] at hb;cases hb
   | some p=>
    rw[hv] at hb
    cases p with
    | true=>
     obtain rfl:=Option.some.inj hb
     exact(Rz hx hl (pX (by omega) 0 (by omega)) (pX (by omega) 1 (by omega))).1 true hv fun h=>by cases h
    | false=>
     have hb:dI F (x.kids.getD 1 ak)=some b:=hb
     have:=(Rz (G:=G) hx hl (pX (by omega) 0 (by omega)) (pX (by omega) 1 (by omega))).1 false hv fun _=>AB hb
     rw[lM hb,Bool.false_or] at this
     exact this
  ·obtain ⟨hl,H⟩:=XD (.inl k12)
   rw[if_neg (by omega),if_neg (by omega),if_neg (by omega),if_neg (by omega),if_neg (by omega),if_neg (by omega),if_pos k12,g0 0 (by omega),g0 1 (by omega)] at hb
   exact(Xx hx hl H).1 b hb
  ·obtain ⟨hl,H⟩:=XD (.inr k13)
   rw[if_neg (by omega),if_neg (by omega),if_neg (by omega),if_neg (by omega),if_neg (by omega),if_neg (by omega),if_neg (by omega),if_pos k13,g0 0 (by omega),g0 1 (by omega)] at hb
   split at hb
   ·cases hb
   ·rename_i p hp
    obtain rfl:=Option.some.inj hb
    exact(XA hx hl H).1 p hp
  ·obtain ⟨hl,H⟩:=E83 (by omega)
   rw[if_neg (by omega),if_neg (by omega),if_neg (by omega),if_neg (by omega),if_neg (by omega),if_neg (by omega),if_neg (by omega),if_neg (by omega)] at hb
   split at hb
   ·cases hb
   ·rename_i c hc
    obtain rfl:=Option.some.inj hb
    exact(Z5 hx hl H).1 c hc
 ·intro hb
  rw[ev] at hb
  unfold sV at hb
  refine jy.iE Tryz.func47 rfl Tryz.call47 (Qi F _ m x (fun k3=>?_) (fun k4=>?_) (fun k2=>?_) (fun k18=>?_) (fun k19=>?_) (fun k20=>?_) (fun k12=>?_) (fun k13=>?_) (fun n3 n4 n2 n18 n19 n20 n12 n13=>?_))
  ·rw[if_pos k3] at hb;cases hb
  ·rw[if_neg (by omega),if_pos k4] at hb;cases hb
  ·rw[if_neg (by omega),if_neg (by omega),if_pos k2] at hb;cases hb
  ·have hl:=one k18
   rw[if_neg (by omega),if_neg (by omega),if_neg (by omega),if_pos k18,g0 0 (by omega)] at hb
   cases hv:dI F (x.kids.getD 0 ak) with
   | none=>exact(XC hx hl (pX (by omega) 0 (by omega))).2 hv
   | some p=>rw[hv] at hb;cases hb
  ·have hl:=two (by omega)
   rw[if_neg (by omega),if_neg (by omega),if_neg (by omega),if_neg (by omega),if_pos k19,g0 0 (by omega),g0 1 (by omega)] at hb
   refine(SC hx hl (pX (by omega) 0 (by omega)) (pX (by omega) 1 (by omega))).2 ?_
   cases hv:dI F (x.kids.getD 0 ak) with
   | none=>exact .inl rfl
   | some p=>
    rw[hv] at hb
    cases p with
    | false=>cases hb
    | true=>exact .inr ⟨rfl,hb⟩
  ·have hl:=two (by omega)
   rw[if_neg (by omega),if_neg (by omega),if_neg (by omega),if_neg (by omega),if_neg (by omega),if_pos k20,g0 0 (by omega),g0 1 (by omega)] at hb
   refine(Rz hx hl (pX (by omega) 0 (by omega)) (pX (by omega) 1 (by omega))).2 ?_
   cases hv:dI F (x.kids.getD 0 ak) with
   | none=>exact .inl rfl
   | some p=>
    rw[hv] at hb
    cases p with
    | true=>cases hb
    | false=>exact .inr ⟨rfl,hb⟩
  ·obtain ⟨hl,H⟩:=XD (.inl k12)
   rw[if_neg (by omega),if_neg (by omega),if_neg (by omega),if_neg (by omega),if_neg (by omega),if_neg (by omega),if_pos k12,g0 0 (by omega),g0 1 (by omega)] at hb
   exact(Xx hx hl H).2 hb
  ·obtain ⟨hl,H⟩:=XD (.inr k13)
   rw[if_neg (by omega),if_neg (by omega),if_neg (by omega),if_neg (by omega),if_neg (by omega),if_neg (by omega),if_neg (by omega),if_pos k13,g0 0 (by omega),g0 1 (by omega)] at hb
   refine(XA hx hl H).2 ?_
   split at hb
   ·rename_i hp;exact hp
   ·cases hb
  ·obtain ⟨hl,H⟩:=E83 (by omega)
   rw[if_neg (by omega),if_neg (by omega),if_neg (by omega),if_neg (by omega),if_neg (by omega),if_neg (by omega),if_neg (by omega),if_neg (by omega)] at hb
   refine(Z5 hx hl H).2 ?_
   split at hb
   ·rename_i hp;exact hp
   ·cases hb
theorem ZP:Tryz.f75.ntmps=15:=rfl
theorem aaD:Tryz.f75.results=#[]:=rfl
theorem WE (p:Addr) (w:World) :
  CallsD Tryz.prog 75 #[.pointer (some p)] .returning w fun e u' w'=>e=.returned (.tuple #[])∧u'=.returning∧w'=w:=by
 refine callsD_of_wpS Tryz.func75 rfl fun c₀ cs hu=>?_
 apply wpS_seq
 apply wpS_region
 simp[wpOpsS,go_sem,recoverD,hu,ZP,Exit.thenS]
 apply wpS_seq
 apply wpS_region
 simp[wpOpsS,go_sem,recoverD,hu,Exit.thenS]
 refine wpS_cond (t:=false) (by simp[Act.eval,Array.replicate]) ?_
 simp only[Bool.false_eq_true,if_false]
 refine wpS_of_wp (wp_skip ?_)
 cases c₀
 simp_all [bodyPostS,results,aaD]
theorem Vs (w:World):(Instr.typeAssert dY 20 119 true).run Tryz.prog w=.ok (.tuple #[.agg #[],.bool true]) w:=by kernel_rfl
theorem TF (p:Addr) (w:World) (x:Value) (hc:(w.alloc (.cells #[] 119)).cell? p=some x) (hz:(w.alloc (.cells #[] 119)).frozen? p=false) (older:List PanicEntry) :
  CallsD Tryz.prog 75 #[.pointer (some p)] (.panicking ({ v:=dY,recovered:=false } :: older)) w fun e u' w'=>
   e=.returned (.tuple #[])∧u'=.panicking ({ v:=dY,recovered:=true } :: older)∧w'=(w.alloc (.cells #[] 119)).setCell p (.int .i64 2):=by
 refine callsD_of_wpS Tryz.func75 rfl fun c₀ cs hu=>?_
 apply wpS_seq
 apply wpS_region
 simp[wpOpsS,go_sem,recoverD,hu,ZP,Exit.thenS]
 apply wpS_seq
 apply wpS_region
 simp[wpOpsS,go_sem,recoverD,hu,Exit.thenS]
 refine wpS_cond (t:=true) (by simp[Act.eval,Array.replicate]) ?_
 simp only[if_true]
 apply wpS_seq
 apply wpS_seq
 apply wpS_region
 simp[wpOpsS,go_sem,recoverD,hu,Exit.thenS,Vs]
 apply wpS_seq
 apply wpS_region
 simp[wpOpsS,go_sem,Exit.thenS]
 refine wpS_cond (t:=false) (by simp[Act.eval,Array.replicate]) ?_
 simp only[Bool.false_eq_true,if_false]
 refine wpS_of_wp (wp_skip ?_)
 simp only[Exit.thenS]
 apply wpS_region
 simp[wpOpsS,go_sem,hc,hz]
 trace_state
 simp[bodyPostS,results,aaD]
theorem aap:Tryz.f44.results=#[.cell 2 33]:=rfl
theorem ZX {c:FuncId} {vs:Array Value} {w:World} {R:Ending→World→Prop} {RR:World→Prop} (hcf:∀(us:Array Value) (w:World),(callFunc c us).run Tryz.prog w=.ok (.enter c us) w)
  (hc:Calls Tryz.prog c vs (w.alloc (.cells #[.int .i64 0] 33)) fun e w'=>(∃v,e=.returned v)∧RR w')
  (hk:∀w',RR w'→w'.cell? ⟨w.heap.size,0,none⟩=some (.int .i64 0)∧w'.frozen? ⟨w.heap.size,0,none⟩=false)
  (hR:∀w',RR w'→R (.returned (.int .i64 0)) (w'.setCell ⟨w.heap.size,0,none⟩ (.int .i64 0))) :
  Calls Tryz.prog 44 #[.func (.func c) #[] vs] w R:=by
 have hmf:∀(fn:Fn) (first cap:Array Value) (w:World),(Instr.makeFunc fn first cap).run Tryz.prog w=.ok (.func fn first cap) w:=fun _ _ _ _=>rfl
 go_enter_defers Tryz.func44,(show Tryz.f44.ntmps=6 from rfl)
 go_wp2
 rename_i K1 hK1 K hK
 refine hc.mono ?_
 rintro e w' ⟨⟨v,rfl⟩,hw⟩
 obtain ⟨k1,k2⟩:=hk w' hw
 refine hK _ _ ?_
 simp only[wpList,Exit.then]
 refine hK1 _ _ ?_
 clear hK hK1
 go_wp2
 refine leaves_cons (f:=75) (args:=#[.pointer (some ⟨w.heap.size,0,none⟩)]) (by simp) (by simp[go_sem]) ?_
 refine(WE ⟨w.heap.size,0,none⟩ _).mono ?_
 rintro e u' w'' ⟨rfl,rfl,rfl⟩
 have h:=hR w' hw
 simp[Leaves,settle,results,aap,go_sem,k1,k2,h]
theorem Yw {c:FuncId} {vs:Array Value} {w:World} {R:Ending→World→Prop} {RR:World→Prop} (hcf:∀(us:Array Value) (w:World),(callFunc c us).run Tryz.prog w=.ok (.enter c us) w)
  (hc:Calls Tryz.prog c vs (w.alloc (.cells #[.int .i64 0] 33)) fun e w'=>e=.panicked (oC dY)∧RR w')
  (hk:∀w',RR w'→(w'.alloc (.cells #[] 119)).cell? ⟨w.heap.size,0,none⟩=some (.int .i64 0)∧(w'.alloc (.cells #[] 119)).frozen? ⟨w.heap.size,0,none⟩=false)
  (hR:∀w',RR w'→R (.returned (.int .i64 2)) ((w'.alloc (.cells #[] 119)).setCell ⟨w.heap.size,0,none⟩ (.int .i64 2))) :
  Calls Tryz.prog 44 #[.func (.func c) #[] vs] w R:=by
 have hmf:∀(fn:Fn) (first cap:Array Value) (w:World),(Instr.makeFunc fn first cap).run Tryz.prog w=.ok (.func fn first cap) w:=fun _ _ _ _=>rfl
 go_enter_defers Tryz.func44,(show Tryz.f44.ntmps=6 from rfl)
 go_wp2
 rename_i K1 hK1 K hK
 refine hc.mono ?_
 rintro e w' ⟨rfl,hw⟩
 obtain ⟨k1,k2⟩:=hk w' hw
 clear hK hK1
 simp only[bodyPostD]
 refine leaves_cons (f:=75) (args:=#[.pointer (some ⟨w.heap.size,0,none⟩)]) (by simp) (by simp[go_sem]) ?_
 refine(TF ⟨w.heap.size,0,none⟩ w' _ k1 k2 []).mono ?_
 rintro e u' w'' ⟨rfl,rfl,rfl⟩
 have h:=hR w' hw
 simp[Leaves,settle,results,aap,go_sem,k1,k2,h]
theorem OZ {h:IH} {n:Nat} {w w':World} (hw:h.holds w) (hb:∀b,b<w.heap.size→b≠n→w'.heap[b]?=w.heap[b]?) (hn:(∀o,h.cell n o=none)∧h.obj n=none):h.holds w':=by
 refine⟨fun b o v e=>?_,fun b o e=>?_⟩
 ·have h1:=hw.1 b o v e
  have hne:b≠n:=fun hh=>by subst hh;rw[hn.1] at e;cases e
  have hlt:b<w.heap.size:=by
   simp only[World.cell?] at h1
   split at h1
   ·rename_i hh;exact lt_of_heap hh
   ·simp at h1
  have h2:=hb b hlt hne
  simp only[World.cell?] at h1⊢
  rw[h2];exact h1
 ·have h1:=hw.2 b o e
  have hne:b≠n:=fun hh=>by subst hh;rw[hn.2] at e;cases e
  rw[hb b (lt_of_heap h1) hne];exact h1
def Je (pre:List (Nat×List AV)) (β:Nat→Nat):Fr:=⟨fun k=>∃s l,Go.Ab.look pre s=some l∧Live β s l∧blk β s=k,β⟩
theorem U4 {F:Fr} {w:World} {h:IH} {a:List AV} {pre:List (Nat×List AV)} {β:Nat→Nat} {us:Array Value} {c:FuncId} (g:bF G F w h ⟨[.clo (.func c) [] a],pre⟩ β h us w) (o:Obj) :
  ∃vc:List Value,us=#[.func (.func c) #[] vc.toArray]∧bF G (Je pre β) (w.alloc o) h ⟨a,pre⟩ β h vc.toArray (w.alloc o):=by
 obtain ⟨v,hv,va,vc,rfl,hva,zG⟩:=g.regs 0 _ rfl
 have aem:va=[]:=hva
 subst aem
 have hus:us=#[.func (.func c) #[] vc.toArray]:=by
  have hs:us.size=1:=g.size
  apply Array.ext
  ·simpa using hs
  ·intro i h1 h2
   obtain rfl:i=0:=by simp at h2;omega
   have:=(Array.getElem?_eq_some_iff.1 hv).2
   simpa using this
 refine⟨vc,hus,g.glob,y9 g.holds _,IH.le.refl _,fun _ _ _=>⟨fun _=>rfl,rfl⟩,Kept.refl _ _,fun _ _=>⟨rfl,rfl,rfl⟩,by simpa using zG.length,fun t y hy=>?_,fun s l hb=>?_,g.inj⟩
 ·obtain ⟨v,h1,h2⟩:=zG.get hy
  exact⟨v,by simpa using h1,h2⟩
 ·obtain ⟨h1,h2⟩:=g.box s l hb
  refine⟨fun hl=>⟨.inl ⟨s,l,hb,hl,rfl⟩,(h1 hl).2⟩,Own.move (fun hl=>?_) (IH.le.refl _) h2⟩
  have:=Own.lt hl h2
  show (w.heap.push o)[_]?=_
  rw[Array.getElem?_push,if_neg (by omega)]
theorem Qy {F:Fr} {w:World} {h:IH} {x:AV} {y:List AV} {pre post:List (Nat×List AV)} {β β':Nat→Nat} {h':IH} {us tm:Array Value} {w' w'':World} {o:Obj} {kd:Int}
  (g:bF G F w h ⟨[x],pre⟩ β h us w) (g1:bF G (Je pre β) (w.alloc o) h ⟨y,post⟩ β' h' tm w')
  (hw:w''.os=w'.os∧w''.tape=w'.tape∧w''.output=w'.output∧w'.heap.size≤w''.heap.size) (hb:∀b,b<w'.heap.size→b≠w.heap.size→w''.heap[b]?=w'.heap[b]?) :
  bF G F w h ⟨[.d (di kd)],post⟩ β' h' #[.int .i64 kd] w'':=by
 have hsz:(w.alloc o).heap.size=w.heap.size+1:=by simp
 have hF:∀k,(Je pre β).on k→k<w.heap.size∧(F.on k∨w.heap.size≤k):=by
  rintro k ⟨s,l,h1,h2,rfl⟩
  obtain ⟨h3,h4⟩:=g.box s l h1
  exact⟨Own.lt h2 h4,(h3 h2).1⟩
 have hn:(∀o,h'.cell w.heap.size o=none)∧h'.obj w.heap.size=none:=by
  have h1:=g1.old w.heap.size (by omega) fun hh=>by have:=(hF _ hh).1;omega
  have h2:=holds_none g.holds (Nat.le_refl w.heap.size)
  exact⟨fun o=>(h1.1 o).trans (h2.1 o),h1.2.trans h2.2⟩
 have hk:=g1.kept
 have hsz2:w.heap.size+1≤w'.heap.size:=by have:=hk.size;omega
 refine⟨g1.glob,OZ g1.holds hb hn,g1.ext,fun b hb' hnF=>?_,?_,fun s hs=>?_,rfl,fun t z hz=>?_,fun s l hl=>?_,g1.inj⟩
 ·refine g1.old b (by omega) fun hh=>?_
  have:=hF _ hh
  rcases this.2 with h1|h1
  ·exact hnF h1
  ·omega
 ·refine⟨?_,?_,?_,by omega,fun k hk' hnF=>?_⟩
  ·rw[hw.1,hk.os];rfl
  ·rw[hw.2.1,hk.tape];rfl
  ·rw[hw.2.2.1,hk.output];rfl
  ·rw[hb k (by omega) (by omega),hk.block k (by omega) fun hh=>?_]
   ·exact Below.heap_alloc _ _ _ hk'
   ·rcases (hF _ hh).2 with h1|h1
    ·exact hnF h1
    ·omega
 ·have h1:=g1.fix s hs
  have h2:=g.fix s hs
  exact⟨h1.1.trans h2.1,h1.2.1.trans h2.2.1,h1.2.2.trans h2.2.2⟩
 ·cases t with
  | zero=>
   simp only[List.getElem?_cons_zero,aH] at hz
   subst hz
   exact⟨_,rfl,rfl⟩
  | succ t=>simp at hz
 ·obtain ⟨h1,h2⟩:=g1.box s l hl
  have hne:Live β' s l→blk β' s≠w.heap.size:=by
   intro hL hh
   rcases (h1 hL).1 with h3|h3
   ·have:=(hF _ h3).1;omega
   ·omega
  refine⟨fun hL=>⟨?_,(h1 hL).2⟩,Own.move (fun hL=>hb _ (Own.lt hL h2) (hne hL)) (IH.le.refl _) h2⟩
  rcases (h1 hL).1 with h3|h3
  ·rcases (hF _ h3).2 with h4|h4
   ·exact .inl h4
   ·exact .inr h4
  ·exact .inr (by omega)
theorem ND {F:Fr} {w:World} {h:IH} {x:AV} {y:List AV} {pre post:List (Nat×List AV)} {β β':Nat→Nat} {h':IH} {us tm:Array Value} {w':World} {o:Obj}
  (g:bF G F w h ⟨[x],pre⟩ β h us w) (g1:bF G (Je pre β) (w.alloc o) h ⟨y,post⟩ β' h' tm w'):w'.heap[w.heap.size]?=some o:=by
 rw[g1.kept.block w.heap.size (by simp) ?_]
 ·show (w.heap.push _)[w.heap.size]?=_;simp
 ·rintro ⟨s,l,h1,h2,h3⟩
  obtain ⟨_,h4⟩:=g.box s l h1
  have:=Own.lt h2 h4
  omega
theorem vw {c:FuncId} {xs:List AV} {pre post:List (Nat×List AV)} {r:AV} (hx:cZ Tryz.prog G c xs pre r post):cZ Tryz.prog G 44 [.clo (.func c) [] xs] pre (.d (di 0)) post:=by
 refine⟨Tryz.call44,fun F w h β us g=>?_⟩
 obtain ⟨vc,rfl,gi⟩:=U4 g (.cells #[.int .i64 0] 33)
 refine ZX (RR:=fun w'=>∃v β' h',bF G (Je pre β) (w.alloc (.cells #[.int .i64 0] 33)) h ⟨[r],post⟩ β' h' #[v] w') hx.1 ((hx.2 _ _ _ _ _ gi).mono ?_) ?_ ?_
 ·rintro e w' ⟨v,β',h',rfl,g1⟩
  exact⟨⟨v,rfl⟩,v,β',h',g1⟩
 ·rintro w' ⟨v,β',h',g1⟩
  have:=ND g g1
  simp[World.cell?,World.frozen?,this]
 ·rintro w' ⟨v,β',h',g1⟩
  refine⟨_,β',h',rfl,Qy g g1 ⟨rfl,rfl,rfl,by simp[World.setCell]⟩ fun b hb hne=>?_⟩
  simp only[World.setCell,Array.getElem?_modify]
  rw[if_neg (fun e=>hne e.symm)]
theorem Lh {c:FuncId} {xs:List AV} {pre:List (Nat×List AV)} (hx:BP Tryz.prog G c xs pre dY):cZ Tryz.prog G 44 [.clo (.func c) [] xs] pre (.d (di 2)) pre:=by
 refine⟨Tryz.call44,fun F w h β us g=>?_⟩
 obtain ⟨vc,rfl,gi⟩:=U4 g (.cells #[.int .i64 0] 33)
 refine Yw (RR:=fun w'=>∃β' h',bF G (Je pre β) (w.alloc (.cells #[.int .i64 0] 33)) h ⟨[],pre⟩ β' h' #[] w') hx.1 ((hx.2 _ _ _ _ _ gi).mono ?_) ?_ ?_
 ·rintro e w' ⟨rfl,β',h',g1⟩
  exact⟨rfl,β',h',g1⟩
 ·rintro w' ⟨β',h',g1⟩
  have h1:=ND g g1
  have h2:=lt_of_heap h1
  have h3:(w'.alloc (.cells #[] 119)).heap[w.heap.size]?=some (.cells #[.int .i64 0] 33):=by
   show (w'.heap.push _)[_]?=_
   rw[Array.getElem?_push,if_neg (by omega)];exact h1
  simp[World.cell?,World.frozen?,h3]
 ·rintro w' ⟨β',h',g1⟩
  refine⟨_,β',h',rfl,Qy g g1 ⟨rfl,rfl,rfl,by simp[World.setCell]⟩ fun b hb hne=>?_⟩
  simp only[World.setCell,Array.getElem?_modify]
  rw[if_neg (fun e=>hne e.symm)]
  show (w'.heap.push _)[_]?=_
  rw[Array.getElem?_push,if_neg (by omega)]
abbrev vP (k:Int) (F:List Ft) (m:Nat) (x:Ex) (o:Ft):List (Nat×List AV):=[(1000000,[.d (di k)]),(1000001,[.d (gI F)]),(1000002,l7 m x),(1000003,[.d (ds o.nm),.d (di o.kind),.d (di o.n),.d (di o.d),.d (db o.tr),.d (ds o.wd)])]
abbrev Gw:List AV:=[.box 1000000 0,.box 1000001 0,.box 1000002 0,.box 1000003 0]
def Aj (n d:Int) (t:Bool) (s:ByteArray):aZ:=fun f _=>match f with
 | 46=>some (fr n d)
 | 47=>some (db t)
 | 48=>some (ds s)
 | _=>none
theorem X4 {F:List Ft} {m:Nat} {x:Ex} {n d:Int} (hx:aj Tryz.prog G 46 [gI F,bG m x] (fr n d)) (o:Ft):cZ Tryz.prog G 45 Gw (vP 0 F m x o) (.d (.au [])) (vP 0 F m x { o with n:=n,d:=d }):=by
 refine cZ.walk (ay:=(Aj n d false .empty:iq)) (keep:=[]) [] follows (by kernel_rfl) Tryz.func45 rfl Tryz.call45 ?_
 refine aA (fun _ _ _ ZK=>(fun Za Zb Zc Zd=>(((true=true)→(ZK 46 [Zb,(aB m x)] (.agg [(di n),(di d)])∧(ZS ((.d (.au [])):AV))∧Zd=(some [(vi 0)])∧((some [(.d Zb)]):(Option (List AV)))=(some [(.d Zb)])∧(Za:(Option (List AV)))=Za∧(Zc:(Option (List AV)))=Zc∧True))∧((true=false)→(((false=true)→(ZK 47 [Zb,(aB m x)] (db false)∧(ZS ((.d (.au [])):AV))∧Zd=(some [(vi 0)])∧((some [(.d Zb)]):(Option (List AV)))=(some [(.d Zb)])∧(Za:(Option (List AV)))=Za∧((some [(vs o.nm),(vi o.kind),(vi o.n),(vi o.d),(vb false),(vs o.wd)]):(Option (List AV)))=Zc∧True))∧((false=false)→(ZK 48 [Zb,(aB m x)] (ds ByteArray.empty)∧(ZS ((.d (.au [])):AV))∧Zd=(some [(vi 0)])∧((some [(.d Zb)]):(Option (List AV)))=(some [(.d Zb)])∧(Za:(Option (List AV)))=Za∧((some [(vs o.nm),(vi o.kind),(vi o.n),(vi o.d),(vb o.tr),(vs ByteArray.empty)]):(Option (List AV)))=Zc∧True)))))) (some [(vi x.k),(vs x.s),(vi x.n),(vi x.d),(vi x.pos),(.d (.slc 6 x.kids.length (lay (bJ m) x.kids)))]) ((.ptr [(.mp none (tV F) (tH F))]):DV) (some [(vs o.nm),(vi o.kind),(vi n),(vi d),(vb o.tr),(vs o.wd)]) ((some [(vi 0)]):(Option (List AV)))) (by kernel_rfl) ?_
 exact⟨fun _=>⟨hx,rfl,rfl,rfl,rfl,rfl,trivial⟩,fun h=>Bool.noConfusion h⟩
theorem Uo {F:List Ft} {m:Nat} {x:Ex} {t:Bool} (hx:aj Tryz.prog G 47 [gI F,bG m x] (db t)) (o:Ft):cZ Tryz.prog G 45 Gw (vP 1 F m x o) (.d (.au [])) (vP 1 F m x { o with tr:=t }):=by
 refine cZ.walk (ay:=(Aj 0 0 t .empty:iq)) (keep:=[]) [] follows (by kernel_rfl) Tryz.func45 rfl Tryz.call45 ?_
 refine aA (fun _ _ _ ZK=>(fun Za Zb Zc Zd=>(((false=true)→(ZK 46 [Zb,(aB m x)] (.agg [(di 0),(di 0)])∧(ZS ((.d (.au [])):AV))∧Zd=(some [(vi 1)])∧((some [(.d Zb)]):(Option (List AV)))=(some [(.d Zb)])∧(Za:(Option (List AV)))=Za∧((some [(vs o.nm),(vi o.kind),(vi 0),(vi 0),(vb o.tr),(vs o.wd)]):(Option (List AV)))=Zc∧True))∧((false=false)→(((true=true)→(ZK 47 [Zb,(aB m x)] (db t)∧(ZS ((.d (.au [])):AV))∧Zd=(some [(vi 1)])∧((some [(.d Zb)]):(Option (List AV)))=(some [(.d Zb)])∧(Za:(Option (List AV)))=Za∧(Zc:(Option (List AV)))=Zc∧True))∧((true=false)→(ZK 48 [Zb,(aB m x)] (ds ByteArray.empty)∧(ZS ((.d (.au [])):AV))∧Zd=(some [(vi 1)])∧((some [(.d Zb)]):(Option (List AV)))=(some [(.d Zb)])∧(Za:(Option (List AV)))=Za∧((some [(vs o.nm),(vi o.kind),(vi o.n),(vi o.d),(vb o.tr),(vs ByteArray.empty)]):(Option (List AV)))=Zc∧True)))))) (some [(vi x.k),(vs x.s),(vi x.n),(vi x.d),(vi x.pos),(.d (.slc 6 x.kids.length (lay (bJ m) x.kids)))]) ((.ptr [(.mp none (tV F) (tH F))]):DV) (some [(vs o.nm),(vi o.kind),(vi o.n),(vi o.d),(vb t),(vs o.wd)]) ((some [(vi 1)]):(Option (List AV)))) (by kernel_rfl) ?_
 exact⟨fun h=>Bool.noConfusion h,fun _=>⟨fun _=>⟨hx,rfl,rfl,rfl,rfl,rfl,trivial⟩,fun h=>Bool.noConfusion h⟩⟩
theorem WQ {F:List Ft} {m:Nat} {x:Ex} {s:ByteArray} {k:Int} (h0:k≠0) (h1:k≠1) (hx:aj Tryz.prog G 48 [gI F,bG m x] (ds s)) (o:Ft):cZ Tryz.prog G 45 Gw (vP k F m x o) (.d (.au [])) (vP k F m x { o with wd:=s }):=by
 refine cZ.walk (ay:=(Aj 0 0 false s:iq)) (keep:=[]) [] follows (by kernel_rfl) Tryz.func45 rfl Tryz.call45 ?_
 refine aA (fun _ _ _ ZK=>(fun Za Zb Zc Zd=>((((k==0)=true)→(ZK 46 [Zb,(aB m x)] (.agg [(di 0),(di 0)])∧(ZS ((.d (.au [])):AV))∧Zd=(some [(vi k)])∧((some [(.d Zb)]):(Option (List AV)))=(some [(.d Zb)])∧(Za:(Option (List AV)))=Za∧((some [(vs o.nm),(vi o.kind),(vi 0),(vi 0),(vb o.tr),(vs o.wd)]):(Option (List AV)))=Zc∧True))∧(((k==0)=false)→((((k==1)=true)→(ZK 47 [Zb,(aB m x)] (db false)∧(ZS ((.d (.au [])):AV))∧Zd=(some [(vi k)])∧((some [(.d Zb)]):(Option (List AV)))=(some [(.d Zb)])∧(Za:(Option (List AV)))=Za∧((some [(vs o.nm),(vi o.kind),(vi o.n),(vi o.d),(vb false),(vs o.wd)]):(Option (List AV)))=Zc∧True))∧(((k==1)=false)→(ZK 48 [Zb,(aB m x)] (ds s)∧(ZS ((.d (.au [])):AV))∧Zd=(some [(vi k)])∧((some [(.d Zb)]):(Option (List AV)))=(some [(.d Zb)])∧(Za:(Option (List AV)))=Za∧(Zc:(Option (List AV)))=Zc∧True)))))) (some [(vi x.k),(vs x.s),(vi x.n),(vi x.d),(vi x.pos),(.d (.slc 6 x.kids.length (lay (bJ m) x.kids)))]) ((.ptr [(.mp none (tV F) (tH F))]):DV) (some [(vs o.nm),(vi o.kind),(vi o.n),(vi o.d),(vb o.tr),(vs s)]) ((some [(vi k)]):(Option (List AV)))) (by kernel_rfl) ?_
 exact⟨fun h=>absurd (eq_of_beq h) h0,fun _=>⟨fun h=>absurd (eq_of_beq h) h1,fun _=>⟨hx,rfl,rfl,rfl,rfl,rfl,trivial⟩⟩⟩
theorem Wu {F:List Ft} {m:Nat} {x:Ex} (hx:jy Tryz.prog G 46 [gI F,bG m x] dY) (o:Ft):BP Tryz.prog G 45 Gw (vP 0 F m x o) dY:=by
 refine BP.iE Tryz.func45 rfl Tryz.call45 ?_
 refine aK (ay:=(Aj 0 0 false .empty:iq)) (keep:=[]) (cuts:=[3,5,1]) (n:=1000) follows ?_
 refine aA (fun ZT ZW ZQ _=>(((true=true)→ZW [cd Tryz.f45 [1,0,1,0],(.blk 0)] (aI ZT [0]) ZQ)∧((true=false)→(((false=true)→ZW [cd Tryz.f45 [1,0,1,1,1,0],(.blk 0)] (aI ZT [1,0]) ZQ)∧((false=false)→ZW [cd Tryz.f45 [1,0,1,1,1,1],(.blk 0)] (aI ZT [1,1]) ZQ))))) (by kernel_rfl) ?_
 refine⟨fun _=>?_,fun h=>Bool.noConfusion h⟩
 refine aC.panic follows (Aj 0 0 false .empty:iq) 2 (pv:=dY) ?_ ⟨rfl,?_⟩
 ·refine aA (fun _ _ _ _=>(jy Tryz.prog G 46 [(.ptr [(.mp none (tV F) (tH F))]),(aB m x)] dY∧True)) (by kernel_rfl) ?_
  exact⟨hx,trivial⟩
 ·refine lG (some [(vi x.k),(vs x.s),(vi x.n),(vi x.d),(vi x.pos),(.d (.slc 6 x.kids.length (lay (bJ m) x.kids)))]) (fun Za=>(((some [(vi 0)]):(Option (List AV)))=(some [(vi 0)])∧((some [(.d (.ptr [(.mp none (tV F) (tH F))]))]):(Option (List AV)))=(some [(.d (.ptr [(.mp none (tV F) (tH F))]))])∧(Za:(Option (List AV)))=Za∧((some [(vs o.nm),(vi o.kind),(vi o.n),(vi o.d),(vb o.tr),(vs o.wd)]):(Option (List AV)))=(some [(vs o.nm),(vi o.kind),(vi o.n),(vi o.d),(vb o.tr),(vs o.wd)])∧True)) (by kernel_rfl) ?_
  exact⟨rfl,rfl,rfl,rfl,trivial⟩
theorem SL {F:List Ft} {m:Nat} {x:Ex} (hx:jy Tryz.prog G 47 [gI F,bG m x] dY) (o:Ft):BP Tryz.prog G 45 Gw (vP 1 F m x o) dY:=by
 refine BP.iE Tryz.func45 rfl Tryz.call45 ?_
 refine aK (ay:=(Aj 0 0 false .empty:iq)) (keep:=[]) (cuts:=[3,5,1]) (n:=1000) follows ?_
 refine aA (fun ZT ZW ZQ _=>(((false=true)→ZW [cd Tryz.f45 [1,0,1,0],(.blk 0)] (aI ZT [0]) ZQ)∧((false=false)→(((true=true)→ZW [cd Tryz.f45 [1,0,1,1,1,0],(.blk 0)] (aI ZT [1,0]) ZQ)∧((true=false)→ZW [cd Tryz.f45 [1,0,1,1,1,1],(.blk 0)] (aI ZT [1,1]) ZQ))))) (by kernel_rfl) ?_
 refine⟨fun h=>Bool.noConfusion h,fun _=>⟨fun _=>?_,fun h=>Bool.noConfusion h⟩⟩
 refine aC.panic follows (Aj 0 0 false .empty:iq) 2 (pv:=dY) ?_ ⟨rfl,?_⟩
 ·refine aA (fun _ _ _ _=>(jy Tryz.prog G 47 [(.ptr [(.mp none (tV F) (tH F))]),(aB m x)] dY∧True)) (by kernel_rfl) ?_
  exact⟨hx,trivial⟩
 ·refine lG (some [(vi x.k),(vs x.s),(vi x.n),(vi x.d),(vi x.pos),(.d (.slc 6 x.kids.length (lay (bJ m) x.kids)))]) (fun Za=>(((some [(vi 1)]):(Option (List AV)))=(some [(vi 1)])∧((some [(.d (.ptr [(.mp none (tV F) (tH F))]))]):(Option (List AV)))=(some [(.d (.ptr [(.mp none (tV F) (tH F))]))])∧(Za:(Option (List AV)))=Za∧((some [(vs o.nm),(vi o.kind),(vi o.n),(vi o.d),(vb o.tr),(vs o.wd)]):(Option (List AV)))=(some [(vs o.nm),(vi o.kind),(vi o.n),(vi o.d),(vb o.tr),(vs o.wd)])∧True)) (by kernel_rfl) ?_
  exact⟨rfl,rfl,rfl,rfl,trivial⟩
/-! Which facts fit. -/
def vJ (f:Ft) (x:Fc):Bool:=iF x.ln x.ld f.n f.d&&iF f.n f.d x.hn x.hd&&decide (dM x.ln x.ld f.n f.d≤0)&&decide (dM f.n f.d x.hn x.hd≤0)
def jK (f:Ft) (x:Fc):Bool:=decide (f.nm=x.name)&&decide (f.kind=x.kind)&&(x.kind==0||(decide (f.n=0)&&decide (f.d=0)))&&(x.kind==1||!f.tr)&&(x.kind==2||decide (f.wd=.empty))&&(x.kind != 0||vJ f x)&&(x.kind != 2||cu x.words f.wd)
noncomputable def abG:aZ:=fun f a=>match f,a with
 | 81,[fr a b,fr c d]=>some (.au [di (dM a b c d),db (iF a b c d)])
 | 99,[w,.con (.string s)]=>some (db (cu (jP w) s))
 | _,_=>none
theorem f53 (f:Ft) (x:Fc) (h:x.words.length≤1000000):aj Tryz.prog G 53 [eX f,qU x] (db (jK f x)):=by
 refine aj.aK (ay:=abG) (keep:=[]) follows Tryz.func53 rfl Tryz.call53 ?_
 refine aA (fun _ _ _ ZK=>(fun Za Zb Zc=>((((x.kind==0)=true)→(ZK 81 [(.agg [(di x.ln),(di x.ld)]),(.agg [(di f.n),(di f.d)])] (.au [(di (dM x.ln x.ld f.n f.d)),(db (iF x.ln x.ld f.n f.d))])∧ZK 81 [(.agg [(di f.n),(di f.d)]),(.agg [(di x.hn),(di x.hd)])] (.au [(di (dM f.n f.d x.hn x.hd)),(db (iF f.n f.d x.hn x.hd))])∧((Za=true)→(((db false):DV)=(db (jK f x))))∧((Za=false)→(((db (Bool.rec false (f.kind==x.kind&&(f.n==f.n&&f.d==f.d&&(f.tr==false&&f.wd.toList==(ByteArray.mk #[]).toList))) Zc)):DV)=(db (jK f x))))))∧(((x.kind==0)=false)→((((x.kind==1)=true)→(((db (Bool.rec false (f.kind==x.kind&&(f.n==0&&f.d==0&&(f.tr==f.tr&&f.wd.toList==(ByteArray.mk #[]).toList))) Zc)):DV)=(db (jK f x))))∧(((x.kind==1)=false)→((((x.kind==2)=true)→(ZK 99 [(.slc 1 x.words.length (dX x.words)),(ds f.wd)] (db (cu Zb f.wd))∧(((!cu Zb f.wd)=true)→(((db false):DV)=(db (jK f x))))∧(((!cu Zb f.wd)=false)→(((db (Bool.rec false (f.kind==x.kind&&(f.n==0&&f.d==0&&(f.tr==false&&f.wd.toList==f.wd.toList))) Zc)):DV)=(db (jK f x))))))∧(((x.kind==2)=false)→(((db (Bool.rec false (f.kind==x.kind&&(f.n==0&&f.d==0&&(f.tr==false&&f.wd.toList==(ByteArray.mk #[]).toList))) Zc)):DV)=(db (jK f x)))))))))) (!iF x.ln x.ld f.n f.d||!iF f.n f.d x.hn x.hd||decide (dM x.ln x.ld f.n f.d>0)||decide (dM f.n f.d x.hn x.hd>0)) (jP (DV.slc 1 x.words.length (dX x.words))) (f.nm.toList==x.name.toList)) (by kernel_rfl) ?_
 have bn:(ByteArray.mk #[])=ByteArray.empty:=rfl
 simp only[oO,QZ,iT,bn]
 refine⟨fun k0=>⟨f81 _ _ _ _,f81 _ _ _ _,fun h1=>?_,fun h1=>?_⟩,fun k0=>⟨fun k1=>?_,fun k1=>⟨fun k2=>⟨f99 _ _ h,fun h1=>?_,fun h1=>?_⟩,fun k2=>?_⟩⟩⟩
 all_goals refine congrArg db ?_
 ·have hn:vJ f x=false:=by
   unfold vJ
   rw[Bool.eq_false_iff]
   intro hh
   simp only[aT,decide_eq_true_eq] at hh
   obtain ⟨⟨⟨a1,a2⟩,a3⟩,a4⟩:=hh
   rw[a1,a2,decide_eq_false (by omega:¬dM x.ln x.ld f.n f.d>0),decide_eq_false (by omega:¬dM f.n f.d x.hn x.hd>0)] at h1
   cases h1
  unfold jK
  rw[hn,show (x.kind != 0)=false from by rw[bne,k0];rfl]
  simp
 ·have hn:vJ f x=true:=by
   unfold vJ
   simp only[Bool.or_eq_false_iff,Bool.not_eq_false',decide_eq_false_iff_not] at h1
   simp only[aT,decide_eq_true_eq]
   exact⟨⟨⟨h1.1.1.1,h1.1.1.2⟩,by omega⟩,by omega⟩
  have e0:x.kind=0:=by simpa using k0
  unfold jK
  rw[hn,e0]
  simp
  grind
 ·have e1:x.kind=1:=by simpa using k1
  unfold jK
  rw[e1]
  simp
  grind
 ·have h1:cu x.words f.wd=false:=by simpa using h1
  have e2:x.kind=2:=by simpa using k2
  unfold jK
  rw[h1,e2]
  simp
 ·have h1:cu x.words f.wd=true:=by simpa using h1
  have e2:x.kind=2:=by simpa using k2
  unfold jK
  rw[h1,e2]
  simp
  grind
 ·have e0:¬x.kind=0:=by simpa using k0
  have e1:¬x.kind=1:=by simpa using k1
  have e2:¬x.kind=2:=by simpa using k2
  unfold jK
  simp[e0,e1,e2]
  grind
def lJ (F:List Ft) (L:List Fc):Bool:=decide (F.length=L.length)&&(List.range L.length).all fun i=>jK (F.getD i aJ) (L.getD i aG)
theorem Ju {F:List Ft} {L:List Fc} {k:Nat} (hk:k<L.length) (h:jK (F.getD k aJ) (L.getD k aG)=false):lJ F L=false:=by
 have:((List.range L.length).all fun i=>jK (F.getD i aJ) (L.getD i aG))=false:=by
  rw[List.all_eq_false]
  exact⟨k,List.mem_range.2 hk,by rw[h];decide⟩
 unfold lJ
 rw[this,Bool.and_false]
theorem NK {F:List Ft} {L:List Fc} (hl:F.length=L.length) (h:∀i,i<L.length→jK (F.getD i aJ) (L.getD i aG)=true):lJ F L=true:=by
 unfold lJ
 rw[decide_eq_true hl,Bool.true_and,List.all_eq_true]
 exact fun i hi=>h i (List.mem_range.1 hi)
def WT (d:DV):Ft:=match d with
 | .agg [.con (.string a),.con (.int _ k),.con (.int _ n),.con (.int _ m),.con (.bool t),.con (.string w)]=>⟨a,k,n,m,t,w⟩
 | _=>aJ
def Js (d:DV):Fc:=match d with
 | .agg [.con (.string a),.con (.int _ k),.con (.int _ ln),.con (.int _ ld),.con (.int _ hn),.con (.int _ hd),w]=>⟨a,k,ln,ld,hn,hd,jP w⟩
 | _=>aG
theorem Yb (x:Fc):Js (qU x)=x:=by
 show Fc.mk x.name x.kind x.ln x.ld x.hn x.hd (jP (lC x.words))=x
 rw[oO]
noncomputable def SQ:aZ:=fun f a=>match f,a with
 | 53,[a,b]=>some (db (jK (WT a) (Js b)))
 | _,_=>none
noncomputable def S52 (F:List Ft) (L:List Fc) (k:Nat):AS:=⟨regs Tryz.f52.ntmps [(1,.d (fC L)),(2,.d (.con (.func (.func 53) #[] #[]))),(15,.d (iJ F)),(16,vi F.length),(17,vi k)],[]⟩
theorem f52 (F:List Ft) (L:List Fc) (hF:F.length≤9223372036854775807) (hL:L.length≤100000) (hw:∀i,i<L.length→(L.getD i aG).words.length≤1000000):aj Tryz.prog G 52 [iJ F,fC L,.con (.func (.func 53) #[] #[])] (db (lJ F L)):=by
 refine aj.aK (ay:=SQ) (keep:=[]) follows Tryz.func52 rfl Tryz.call52 ?_
 refine aA (fun ZT ZW ZQ _=>(((((↑F.length:Int) != ↑L.length)=true)→(((db false):DV)=(db (lJ F L))))∧((((↑F.length:Int) != ↑L.length)=false)→ZW [cd Tryz.f52 [1,1,0,1,0],(.blk 0),cd Tryz.f52 [1,1,1]] (aI ZT [1]) ZQ))) (by kernel_rfl) ?_
 refine⟨fun h=>?_,fun h=>?_⟩
 ·have h:¬F.length=L.length:=by simp at h;omega
  unfold lJ
  rw[decide_eq_false h];rfl
 have hlen:F.length=L.length:=by simp at h;omega
 refine aC.loop (c:=dR (aQ Tryz.f52) [1,1,0,1,0,0]) (by kernel_rfl) (S52 F L) (fun k=>k≤L.length∧∀i,i<k→jK (F.getD i aJ) (L.getD i aG)=true) (fun k=>L.length-k) 0 ?_ ⟨Nat.zero_le _,fun i hi=>by omega⟩ ?_
 ·exact AS.dB (by kernel_rfl)
 ·rintro k ⟨hk,hkd⟩
  refine aK (ay:=SQ) (keep:=[]) (cuts:=[]) (n:=1000) follows ?_
  refine bW (fun ZT ZW ZQ ZK ZA _=>(fun Za Zb=>((((decide ((↑k:Int)<↑F.length))=true)→(((0≤(↑k:Int))∧((↑k:Int)<↑F.length))∧((0≤(↑k:Int))∧((↑k:Int)<↑L.length))∧ZK 53 [(.agg [(ds (F.getD (↑k:Int).toNat aJ).nm),(di (F.getD (↑k:Int).toNat aJ).kind),(di (F.getD (↑k:Int).toNat aJ).n),(di (F.getD (↑k:Int).toNat aJ).d),(db (F.getD (↑k:Int).toNat aJ).tr),(ds (F.getD (↑k:Int).toNat aJ).wd)]),Zb] (db (jK Za (Js Zb)))∧(((!jK Za (Js Zb))=true)→(((db false):DV)=(db (lJ F L))))∧(((!jK Za (Js Zb))=false)→((I64 (↑k+1))∧(ZA (aI ZT [0,1]))))))∧(((decide ((↑k:Int)<↑F.length))=false)→ZW [cd Tryz.f52 [1,1,1]] (aI ZT [1]) ZQ))) (WT (DV.agg [DV.con (Value.string (F.getD (↑k:Int).toNat aJ).nm),DV.con (Value.int IntKind.i64 (F.getD (↑k:Int).toNat aJ).kind),DV.con (Value.int IntKind.i64 (F.getD (↑k:Int).toNat aJ).n),DV.con (Value.int IntKind.i64 (F.getD (↑k:Int).toNat aJ).d),DV.con (Value.bool (F.getD (↑k:Int).toNat aJ).tr),DV.con (Value.string (F.getD (↑k:Int).toNat aJ).wd)])) (qU (L.getD (↑k:Int).toNat aG))) (by kernel_rfl) ?_
  refine⟨fun h2=>?_,fun h2=>?_⟩
  ·have hk2:k<L.length:=by have:=of_decide_eq_true h2;omega
   have e1:Js (qU (L.getD k aG))=L.getD k aG:=Yb _
   have e2:WT (eX (F.getD k aJ))=F.getD k aJ:=rfl
   simp only[Int.toNat_natCast,e1,e2]
   refine⟨⟨by omega,by omega⟩,⟨by omega,by omega⟩,f53 _ _ (hw k hk2),fun h3=>?_,fun h3=>⟨⟨by omega,by omega⟩,Again.mk (k+1) ?_ ⟨hk2,fun i hi=>?_⟩ (by omega)⟩⟩
   ·rw[Ju hk2 (by simpa using h3)]
   ·exact AS.dB (by kernel_rfl)
   ·rcases Nat.lt_or_ge i k with h4|h4
    ·exact hkd i h4
    ·obtain rfl:i=k:=by omega
     simpa using h3
  ·have h2:=of_decide_eq_false h2
   refine aK (ay:=SQ) (keep:=[]) (cuts:=[]) (n:=1000) follows ?_
   refine aA (fun _ _ _ _=>(((db true):DV)=(db (lJ F L)))) (by kernel_rfl) ?_
   rw[NK hlen fun i hi=>hkd i (by omega)]
def gJ (F:List Ft) (L:List Fc):Bool:=jk L&&lJ F L
noncomputable def aaK (F:List Ft) (L:List Fc):aZ:=fun f a=>match f,a with
 | 51,[_]=>some (db (jk L))
 | 54,[_]=>some (db (jk L))
 | 52,[_,_,_]=>some (db (lJ F L))
 | 81,[fr a b,fr c d]=>some (.au [di (dM a b c d),db (iF a b c d)])
 | 25,[fr a b,fr c d]=>some (.au [di (dM a b c d),db (iF a b c d)])
 | 55,[w,.con (.string s)]=>some (db (cu (jP w) s))
 | _,_=>none
theorem f14 (hT:Tab G) (F:List Ft) (L:List Fc) (h:∀i,i<L.length→sS (L.getD i aG)) (hl:L.length≤1000) (hF:F.length≤9223372036854775807):aj Tryz.prog G 14 [iJ F,fC L] (db (gJ F L)):=by
 refine aj.aK (ay:=aaK F L) (keep:=[]) follows Tryz.func14 rfl Tryz.call14 ?_
 refine aA (fun _ _ _ ZK=>((ZK 51 [(.slc 7 L.length (gV L))] (db (jk L))∧(((jk L)=true)→ZK 52 [(.slc 6 F.length (kT F)),(.slc 7 L.length (gV L)),(.con (.func (.func 53) ⟨[]⟩ ⟨[]⟩))] (db (lJ F L))))∧((db (jk L&&lJ F L)):DV)=(db (gJ F L)))) (by kernel_rfl) ?_
 exact⟨⟨f51 hT L h hl,fun _=>f52 F L hF (by omega) fun i hi=>by have:=(h i hi).ln;omega⟩,rfl⟩
abbrev eY (k:Int):Ft:=⟨.empty,k,0,0,false,.empty⟩
noncomputable def dEv (F:List Ft) (L:List Fc):aZ:=fun f a=>match f,a with
 | 14,[_,_]=>some (db (gJ F L))
 | 42,[x,_]=>some (.au [di (aP L (ah x)).1,di (aP L (ah x)).2.1,di (aP L (ah x)).2.2])
 | 43,[_]=>some (gI (bC F F.length))
 | _,_=>none
def mEv (e:Int) (o:Ft):FuncId→List AV→List (Nat×List AV)→Option (AV×List (Nat×List AV)):=fun f _ pre=>match f,pre with
 | 44,[a,b,c,(u,_)]=>some (.d (di e),[a,b,c,(u,[.d (ds o.nm),.d (di o.kind),.d (di o.n),.d (di o.d),.d (db o.tr),.d (ds o.wd)])])
 | _,_=>none
noncomputable def abI (F:List Ft) (L:List Fc) (e:Int) (o:Ft):iq:={ d:=dEv F L,m:=mEv e o }
theorem UZ (hT:Tab G) (F:List Ft) (L:List Fc) (h:∀i,i<L.length→sS (L.getD i aG)) (hl:L.length≤1000) (hF:F.length≤100000) (m:Nat) (x:Ex) (hx:ht x≤m) (hs:Sm x) (e:Int) (o:Ft)
  (h44:gJ F L=true→(aP L x).2.2=0→cZ Tryz.prog G 44 [.clo (.func 45) [] Gw] (vP (aP L x).1 (bC F F.length) m x (eY (aP L x).1)) (.d (di e)) (vP (aP L x).1 (bC F F.length) m x o)) :
  aj Tryz.prog G 12 [bG m x,iJ F,fC L] (.au [eX (if gJ F L=true∧(aP L x).2.2=0∧e=0 then o else aJ),di (if gJ F L=true then if (aP L x).2.2=0 then e else (aP L x).2.2 else 1)]):=by
 have er:ah (exV x.k x.s x.n x.d x.pos x.kids.length (lay (bJ m) x.kids))=x:=fU hx
 refine aj.aK (ay:=abI F L e o) (keep:=[]) follows Tryz.func12 rfl Tryz.call12 ?_
 refine aA (fun _ _ _ ZK=>(fun Za Zb=>(ZK 14 [(.slc 6 F.length (kT F)),(.slc 7 L.length (gV L))] (db (gJ F L))∧(((!gJ F L)=true)→(((.au [Za,(di 1)]):DV)=(.au [(eX (if gJ F L=true∧(aP L x).snd.snd=0∧e=0 then o else aJ)),(di (if gJ F L=true then if (aP L x).snd.snd=0 then e else (aP L x).snd.snd else 1))])))∧(((!gJ F L)=false)→(ZK 42 [(aB m x),(.slc 7 L.length (gV L))] (.au [(di (aP L (ah (aB m x))).fst),(di (aP L (ah (aB m x))).snd.fst),(di (aP L (ah (aB m x))).snd.snd)])∧((((aP L (ah (aB m x))).snd.snd != 0)=true)→(((.au [Za,(di (aP L (ah (aB m x))).snd.snd)]):DV)=(.au [(eX (if gJ F L=true∧(aP L x).snd.snd=0∧e=0 then o else aJ)),(di (if gJ F L=true then if (aP L x).snd.snd=0 then e else (aP L x).snd.snd else 1))])))∧((((aP L (ah (aB m x))).snd.snd != 0)=false)→(ZK 43 [(.slc 6 F.length (kT F))] Zb∧cZ Tryz.prog G 44 [(.clo (.func 45) [] [(.box 1000000 0),(.box 1000001 0),(.box 1000002 0),(.box 1000003 0)])] [(1000000,[(vi (aP L (ah (aB m x))).fst)]),(1000001,[(.d Zb)]),(1000002,[(vi x.k),(vs x.s),(vi x.n),(vi x.d),(vi x.pos),(.d (.slc 6 x.kids.length (lay (bJ m) x.kids)))]),(1000003,[(vs (ByteArray.mk #[])),(vi (aP L (ah (aB m x))).fst),(vi 0),(vi 0),(vb false),(vs (ByteArray.mk #[]))])] (vi e) [(1000000,[(vi (aP L (ah (aB m x))).fst)]),(1000001,[(.d Zb)]),(1000002,[(vi x.k),(vs x.s),(vi x.n),(vi x.d),(vi x.pos),(.d (.slc 6 x.kids.length (lay (bJ m) x.kids)))]),(1000003,[(vs o.nm),(vi o.kind),(vi o.n),(vi o.d),(vb o.tr),(vs o.wd)])]∧(((e != 0)=true)→(((.au [Za,(di e)]):DV)=(.au [(eX (if gJ F L=true∧(aP L x).snd.snd=0∧e=0 then o else aJ)),(di (if gJ F L=true then if (aP L x).snd.snd=0 then e else (aP L x).snd.snd else 1))])))∧(((e != 0)=false)→(((.au [(.agg [(ds o.nm),(di o.kind),(di o.n),(di o.d),(db o.tr),(ds o.wd)]),(di 0)]):DV)=(.au [(eX (if gJ F L=true∧(aP L x).snd.snd=0∧e=0 then o else aJ)),(di (if gJ F L=true then if (aP L x).snd.snd=0 then e else (aP L x).snd.snd else 1))]))))))))) ((.agg [(ds (ByteArray.mk #[])),(di 0),(di 0),(di 0),(db false),(ds (ByteArray.mk #[]))]):DV) ((.ptr [(.mp none (tV (bC F F.length)) (tH (bC F F.length)))]):DV)) (by kernel_rfl) ?_
 simp only[er]
 refine⟨f14 hT F L h hl (by omega),fun h1=>?_,fun h1=>?_⟩
 ·have h1:gJ F L=false:=by simpa using h1
  simp only[h1,Bool.false_eq_true,false_and,if_false];rfl
 have h1:gJ F L=true:=by simpa using h1
 refine⟨f42 hT m x L hx hs h hl,fun h2=>?_,fun h2=>?_⟩
 ·have h2:(aP L x).2.2≠0:=by simpa using h2
  rw[if_neg (fun hh=>h2 hh.2.1),if_pos h1,if_neg h2];rfl
 have h2:(aP L x).2.2=0:=by simpa using h2
 refine⟨f43 F hF,h44 h1 h2,fun h3=>?_,fun h3=>?_⟩
 ·have h3:e≠0:=by simpa using h3
  rw[if_neg (fun hh=>h3 hh.2.2),if_pos h1,if_pos h2];rfl
 ·have h3:e=0:=by simpa using h3
  subst h3
  rw[if_pos ⟨h1,h2,rfl⟩,if_pos h1,if_pos h2]
/-! The bounds of an expression. -/
abbrev BR:=Bd×Bool
abbrev fE:Bd:=⟨0,0,0,0⟩
def mO (mx:Bool) (R:List BR):Nat→Bd
 | 0=>(R.getD 0 (fE,true)).1
 | n+1=>if mx then ⟨x9 (mO mx R n).a (mO mx R n).b (R.getD n (fE,true)).1.a (R.getD n (fE,true)).1.b,xY (mO mx R n).a (mO mx R n).b (R.getD n (fE,true)).1.a (R.getD n (fE,true)).1.b,x9 (mO mx R n).c (mO mx R n).d (R.getD n (fE,true)).1.c (R.getD n (fE,true)).1.d,xY (mO mx R n).c (mO mx R n).d (R.getD n (fE,true)).1.c (R.getD n (fE,true)).1.d⟩
  else ⟨xX (mO mx R n).a (mO mx R n).b (R.getD n (fE,true)).1.a (R.getD n (fE,true)).1.b,xZ (mO mx R n).a (mO mx R n).b (R.getD n (fE,true)).1.a (R.getD n (fE,true)).1.b,xX (mO mx R n).c (mO mx R n).d (R.getD n (fE,true)).1.c (R.getD n (fE,true)).1.d,xZ (mO mx R n).c (mO mx R n).d (R.getD n (fE,true)).1.c (R.getD n (fE,true)).1.d⟩
def EK (k:Int) (R:List BR):BR:=
 let p:=(R.getD 0 (fE,true)).1
 let q:=(R.getD 1 (fE,true)).1
 if k=5 then (oN bD ⟨0,1,0,1⟩ p,!jm bD ⟨0,1,0,1⟩ p)
 else if k=6 then (Iw (dG p.a p.b q.a q.b) (dG p.c p.d q.c q.d),yc (dG p.a p.b q.a q.b) (dG p.c p.d q.c q.d))
 else if k=7 then (Iw (bD p.a p.b q.c q.d) (bD p.c p.d q.a q.b),yc (bD p.a p.b q.c q.d) (bD p.c p.d q.a q.b))
 else if k=8 then (oN bY p q,!jm bY p q)
 else if k=9 then (if xW q.a q.c=0 then (fE,false) else (oN dD p q,!jm dD p q))
 else (mO (decide (k=11)) R R.length,true)
mutual
def jO (l:List Fc):Ex→BR
 | .mk k s n d _ kids=>if k=1 then (⟨n,d,n,d⟩,true) else if k=2 then (⟨(fM l (.string s)).ln,(fM l (.string s)).ld,(fM l (.string s)).hn,(fM l (.string s)).hd⟩,true)
  else if (EL l kids).any (fun r=>!r.2) then (fE,false) else EK k (EL l kids)
def EL (l:List Fc):List Ex→List BR
 | []=>[]
 | x :: r=>jO l x :: EL l r
end
theorem FH (l:List Fc):∀r:List Ex,EL l r=r.map (jO l)
 | []=>rfl
 | x :: r=>by simp only[EL,List.map_cons,FH l r]
theorem TY {l:List Fc} {r:List Ex} {i:Nat} (hi:i<r.length):(EL l r).getD i (fE,true)=jO l (r.getD i ak):=by
 rw[FH,List.getD,List.getElem?_map,bQ hi,List.getD,bQ hi];rfl
theorem aaN (l:List Fc) (x:Ex):jO l x=if x.k=1 then (⟨x.n,x.d,x.n,x.d⟩,true) else if x.k=2 then (⟨(fM l (.string x.s)).ln,(fM l (.string x.s)).ld,(fM l (.string x.s)).hn,(fM l (.string x.s)).hd⟩,true)
  else if (EL l x.kids).any (fun r=>!r.2) then (fE,false) else EK x.k (EL l x.kids):=by cases x;simp only[jO,Ex.k,Ex.s,Ex.n,Ex.d,Ex.kids];rfl
noncomputable def abA (l:List Fc):aZ:=fun f a=>match f,a with
 | 64,[_,e]=>some (.au [iG (jO l (ah e)).1,db (jO l (ah e)).2])
 | 106,[.agg [.con (.int .i64 a),_,.con (.int .i64 c),_]]=>some (di (xW a c))
 | 107,[fr a b,fr c d]=>some (fr (xX a b c d) (xZ a b c d))
 | 108,[fr a b,fr c d]=>some (fr (x9 a b c d) (xY a b c d))
 | _,_=>none
noncomputable def L6 (l:List Fc):aZ:=fun f a=>match f,a with
 | 104,[.agg [.con (.int .i64 a),.con (.int .i64 b),.con (.int .i64 c),.con (.int .i64 d)],.agg [.con (.int .i64 e),.con (.int .i64 f),.con (.int .i64 g),.con (.int .i64 h)],.con (.func (.func 77) #[] #[])]=>some (.au [iG (oN bD ⟨a,b,c,d⟩ ⟨e,f,g,h⟩),db (!jm bD ⟨a,b,c,d⟩ ⟨e,f,g,h⟩)])
 | 104,[.agg [.con (.int .i64 a),.con (.int .i64 b),.con (.int .i64 c),.con (.int .i64 d)],.agg [.con (.int .i64 e),.con (.int .i64 f),.con (.int .i64 g),.con (.int .i64 h)],.con (.func (.func 78) #[] #[])]=>some (.au [iG (oN bY ⟨a,b,c,d⟩ ⟨e,f,g,h⟩),db (!jm bY ⟨a,b,c,d⟩ ⟨e,f,g,h⟩)])
 | 104,[.agg [.con (.int .i64 a),.con (.int .i64 b),.con (.int .i64 c),.con (.int .i64 d)],.agg [.con (.int .i64 e),.con (.int .i64 f),.con (.int .i64 g),.con (.int .i64 h)],.con (.func (.func 79) #[] #[])]=>some (.au [iG (oN dD ⟨a,b,c,d⟩ ⟨e,f,g,h⟩),db (!jm dD ⟨a,b,c,d⟩ ⟨e,f,g,h⟩)])
 | 105,[.agg [.con (.int .i64 a),.con (.int .i64 b),.con (.int .i64 c),.con (.int .i64 d)],.agg [.con (.int .i64 e),.con (.int .i64 f),.con (.int .i64 g),.con (.int .i64 h)],.con (.func (.func 76) #[] #[])]=>some (.au [iG (Iw (dG a b e f) (dG c d g h)),db (yc (dG a b e f) (dG c d g h))])
 | 105,[.agg [.con (.int .i64 a),.con (.int .i64 b),.con (.int .i64 c),.con (.int .i64 d)],.agg [.con (.int .i64 e),.con (.int .i64 f),.con (.int .i64 g),.con (.int .i64 h)],.con (.func (.func 77) #[] #[])]=>some (.au [iG (Iw (bD a b e f) (bD c d g h)),db (yc (bD a b e f) (bD c d g h))])
 | 106,[.agg [.con (.int .i64 a),_,.con (.int .i64 c),_]]=>some (di (xW a c))
 | 107,[fr a b,fr c d]=>some (fr (xX a b c d) (xZ a b c d))
 | 108,[fr a b,fr c d]=>some (fr (x9 a b c d) (xY a b c d))
 | _,_=>none
abbrev bdK:RK:=⟨true,94,false,none⟩
def AQ (l:List Fc) (x:Ex):Nat→Nat→DV:=um (fun _=>DV.con undef) true 4 fun j=>[di (jO l (x.kids.getD j ak)).1.a,di (jO l (x.kids.getD j ak)).1.b,di (jO l (x.kids.getD j ak)).1.c,di (jO l (x.kids.getD j ak)).1.d]
theorem Zq {l:List Fc} {x:Ex} (k:Nat) {p q r t:Int} (hp:p=(jO l (x.kids.getD k ak)).1.a) (hq:q=(jO l (x.kids.getD k ak)).1.b) (hr:r=(jO l (x.kids.getD k ak)).1.c) (ht:t=(jO l (x.kids.getD k ak)).1.d):(fun i=>bif Nat.blt i k then AQ l x k i else aN true 4 [di p,di q,di r,di t] (i-k))=AQ l x (k+1):=by
 subst hp;subst hq;subst hr;subst ht;rfl
noncomputable def S46 (l:List Fc) (ws:List ByteArray) (m:Nat) (x:Ex) (k:Nat):AS:=⟨regs Tryz.f64.ntmps [(0,.d (dQ l ws)),(3,.box 3 0),(4,.box 4 0),(6,.vec 900 4 0 k),(45,.d (.slc 6 x.kids.length (lay (bJ m) x.kids))),(46,vi x.kids.length),(47,vi k)],[(3,l7 m x),(4,[vi 0,vi 0,vi 0,vi 0]),(900,[.arr bdK 4 (AQ l x k)])]⟩
def bdF (R:List BR) (i:Nat):DV:=iG (R.getD i (fE,true)).1
def Dp (mx:Bool) (R:List BR) (k:Nat):Int:=(mO mx R k).a
def CS (mx:Bool) (R:List BR) (k:Nat):Int:=(mO mx R k).b
def Dz (mx:Bool) (R:List BR) (k:Nat):Int:=(mO mx R k).c
def CP (mx:Bool) (R:List BR) (k:Nat):Int:=(mO mx R k).d
noncomputable def aeh (mx:Bool) (R:List BR) (n k:Nat):AS:=⟨regs Tryz.f64.ntmps [(4,.box 4 0),(12,.d (.con (.func (.func (if mx then 108 else 107)) #[] #[]))),(13,.box 13 0),(141,.d (.slc 4 n (bdF R))),(142,vi n),(143,vi k)],[(13,[vi (Dp mx R k),vi (CS mx R k),vi (Dz mx R k),vi (CP mx R k)]),(4,[vi 0,vi 0,vi 0,vi 0])]⟩
section
variable {k:Int} {R:List BR}
theorem ach (h:k=5):EK k R=(oN bD ⟨0,1,0,1⟩ (R.getD 0 (fE,true)).1,!jm bD ⟨0,1,0,1⟩ (R.getD 0 (fE,true)).1):=by subst h;rfl
theorem abn (h:k=6):EK k R=(Iw (dG (R.getD 0 (fE,true)).1.a (R.getD 0 (fE,true)).1.b (R.getD 1 (fE,true)).1.a (R.getD 1 (fE,true)).1.b) (dG (R.getD 0 (fE,true)).1.c (R.getD 0 (fE,true)).1.d (R.getD 1 (fE,true)).1.c (R.getD 1 (fE,true)).1.d),yc (dG (R.getD 0 (fE,true)).1.a (R.getD 0 (fE,true)).1.b (R.getD 1 (fE,true)).1.a (R.getD 1 (fE,true)).1.b) (dG (R.getD 0 (fE,true)).1.c (R.getD 0 (fE,true)).1.d (R.getD 1 (fE,true)).1.c (R.getD 1 (fE,true)).1.d)):=by subst h;rfl
theorem abS (h:k=7):EK k R=(Iw (bD (R.getD 0 (fE,true)).1.a (R.getD 0 (fE,true)).1.b (R.getD 1 (fE,true)).1.c (R.getD 1 (fE,true)).1.d) (bD (R.getD 0 (fE,true)).1.c (R.getD 0 (fE,true)).1.d (R.getD 1 (fE,true)).1.a (R.getD 1 (fE,true)).1.b),yc (bD (R.getD 0 (fE,true)).1.a (R.getD 0 (fE,true)).1.b (R.getD 1 (fE,true)).1.c (R.getD 1 (fE,true)).1.d) (bD (R.getD 0 (fE,true)).1.c (R.getD 0 (fE,true)).1.d (R.getD 1 (fE,true)).1.a (R.getD 1 (fE,true)).1.b)):=by subst h;rfl
theorem acf (h:k=8):EK k R=(oN bY (R.getD 0 (fE,true)).1 (R.getD 1 (fE,true)).1,!jm bY (R.getD 0 (fE,true)).1 (R.getD 1 (fE,true)).1):=by subst h;rfl
theorem YU (h:k=9):EK k R=if xW (R.getD 1 (fE,true)).1.a (R.getD 1 (fE,true)).1.c=0 then (fE,false) else (oN dD (R.getD 0 (fE,true)).1 (R.getD 1 (fE,true)).1,!jm dD (R.getD 0 (fE,true)).1 (R.getD 1 (fE,true)).1):=by subst h;rfl
theorem VA (h:k=10∨k=11):EK k R=(mO (decide (k=11)) R R.length,true):=by rcases h with rfl|rfl<;>rfl
end
theorem f64 (l:List Fc) (ws:List ByteArray) (m:Nat):∀(x:Ex),ht x≤m→Sm x→aV x=true→vN x=true→aj Tryz.prog G 64 [dQ l ws,bG m x] (.au [iG (jO l x).1,db (jO l x).2]):=by
 induction m using Nat.strongRecOn with
 | _ m ih=>
 intro x hx hs hsn hnu
 have hlen:=hs.len.1
 have h46:∀i,i<x.kids.length→aj Tryz.prog G 64 [dQ l ws,aS m x i] (.au [iG (jO l (x.kids.getD i ak)).1,db (jO l (x.kids.getD i ak)).2]):=fun i hi=>
  jD (Q:=fun d=>aj Tryz.prog G 64 [dQ l ws,d] _) hx hi fun m' h1 h2=>ih m' h1 _ h2 (hs.kid hi) (dO hsn hi) (aa5 hnu hi)
 have eb:=aaN l x
 refine aj.walk (ay:=abA l) (keep:=[]) follows Tryz.func64 rfl Tryz.call64 ?_
 refine aA (fun ZT ZW ZQ _=>(fun Za=>((((x.k==1)=true)→(((.au [(.agg [(di x.n),(di x.d),(di x.n),(di x.d)]),(db true)]):DV)=(.au [(iG (jO l x).fst),(db (jO l x).snd)])))∧(((x.k==1)=false)→((((x.k==2)=true)→(((((fH l (Value.string x.s))=false)→Za)∧(((fH l (Value.string x.s))=false)→Za))∧((.au [(.agg [(di (fM l (Value.string x.s)).ln),(di (fM l (Value.string x.s)).ld),(di (fM l (Value.string x.s)).hn),(di (fM l (Value.string x.s)).hd)]),(db true)]):DV)=(.au [(iG (jO l x).fst),(db (jO l x).snd)])))∧(((x.k==2)=false)→ZW [cd Tryz.f64 [1,1,1,0,1,0],(.blk 1),cd Tryz.f64 [1,1,1,1]] (aI ZT [1,1]) ZQ))))) ((DV.agg (List.map DV.con [Value.string (ByteArray.mk #[]),Value.int IntKind.i64 0,Value.int IntKind.i64 0,Value.int IntKind.i64 0,Value.int IntKind.i64 0,Value.int IntKind.i64 0,Value.slice none 0 0])).imp (fV l (Value.string x.s)))) (by kernel_rfl) ?_
 simp only[beq_iff_eq,beq_eq_false_iff_ne,ne_eq]
 refine⟨fun k1'=>?_,fun k1'=>⟨fun k2'=>⟨⟨fun h=>EO h,fun h=>EO h⟩,?_⟩,fun k2'=>?_⟩⟩
 ·rw[eb,if_pos k1']
 ·rw[eb,if_neg k1',if_pos k2']
 rw[if_neg k1',if_neg k2'] at eb
 refine aC.pre (.nilRow _ 6 900 4 bdK (AQ l x 0) (by kernel_rfl) (by kernel_rfl)) ?_
 refine aC.loop (c:=dR (aQ Tryz.f64) [1,1,1,0,1,0,0]) (by kernel_rfl) (S46 l ws m x) (fun k=>k≤x.kids.length∧∀i,i<k→(jO l (x.kids.getD i ak)).2=true) (fun k=>x.kids.length-k) 0 ?_ ⟨Nat.zero_le _,fun i hi=>absurd hi (Nat.not_lt_zero _)⟩ ?_
 ·exact AS.dB (by kernel_rfl)
 ·rintro k ⟨hk,hkd⟩
  refine walk (ay:=abA l) (keep:=[]) (cuts:=[]) (n:=1000) follows ?_
  refine JA (jO l (ah (aY m (x.kids.getD (↑k:Int).toNat ak)))) (x.kids.getD (↑k:Int).toNat ak) ((.ptr [(.mp none (fV l) (fH l)),(.mp none (wV ws) (wL ws))]):DV) ((.d (.slc 6 x.kids.length (lay (bJ m) x.kids))):AV) (decide ((↑k:Int)<↑x.kids.length)) (fun Za Zb Zc Zd Ze=>(((Ze=true)→(((0≤(↑k:Int))∧((↑k:Int)<↑x.kids.length))∧aj Tryz.prog G 64 [Zc,(aY m Zb)] (.au [(iG Za.fst),(db Za.snd)])∧(((!Za.snd)=true)→(((.au [(.agg [(di 0),(di 0),(di 0),(di 0)]),(db false)]):DV)=(.au [(iG (jO l x).fst),(db (jO l x).snd)])))∧(((!Za.snd)=false)→(((((k+1)*32≤1099511627776)∧(k+1≤1099511627776))∧(∀(i:Nat),i<1→jW true 4 (aN true 4 [di Za.fst.a,di Za.fst.b,di Za.fst.c,di Za.fst.d] i)=true))∧(I64 (↑k+1))∧Again (S46 l ws m x) (fun k=>k≤x.kids.length∧∀(i:Nat),i<k→(jO l (x.kids.getD i ak)).snd=true) (fun k=>x.kids.length-k) k ⟨regs 162 [(0,(.d Zc)),(3,(.box 3 0)),(4,(.box 4 0)),(6,(.vec 63 4 0 (k+1))),(8,(.box 8 0)),(9,(.box 9 0)),(10,(vb Za.snd)),(45,Zd),(46,(vi (↑x.kids.length))),(47,(vi (↑k+1))),(48,(vb Ze)),(49,(.d (.ptr [(di Zb.k),(ds Zb.s),(di Zb.n),(di Zb.d),(di Zb.pos),(.slc 6 Zb.kids.length (bJ m Zb.kids))]))),(50,(.d (aY m Zb))),(51,(.d (.au [(iG Za.fst),(db Za.snd)]))),(52,(.d Zc)),(53,(.d (aY m Zb))),(54,(.d (.au [(iG Za.fst),(db Za.snd)]))),(55,(.d (iG Za.fst))),(56,(vb Za.snd)),(57,(vb Za.snd)),(58,(vb (!Za.snd))),(60,(.vec 900 4 0 k)),(61,(.d (iG Za.fst))),(62,(.d (.slc 4 1 (aN true 4 [(di Za.fst.a),(di Za.fst.b),(di Za.fst.c),(di Za.fst.d)])))),(63,(.vec 63 4 0 (k+1))),(64,(vi (↑k+1)))],[(63,[(.arr ⟨true,94,false,none⟩ 4 (fun i=>bif i.blt k then AQ l x k i else aN true 4 [di Za.fst.a,di Za.fst.b,di Za.fst.c,di Za.fst.d] (i-k)))]),(9,[(vi Za.fst.a),(vi Za.fst.b),(vi Za.fst.c),(vi Za.fst.d)]),(8,[(vi Zb.k),(vs Zb.s),(vi Zb.n),(vi Zb.d),(vi Zb.pos),(.d (.slc 6 Zb.kids.length (bJ m Zb.kids)))]),(3,[(vi x.k),(vs x.s),(vi x.n),(vi x.d),(vi x.pos),Zd]),(4,[(vi 0),(vi 0),(vi 0),(vi 0)]),(900,[.dead])]⟩))))∧((Ze=false)→aC Tryz.prog G [cd Tryz.f64 [1,1,1,1]] ⟨regs 162 [(0,(.d Zc)),(3,(.box 3 0)),(4,(.box 4 0)),(6,(.vec 900 4 0 k)),(45,Zd),(46,(vi (↑x.kids.length))),(47,(vi (↑k))),(48,(vb Ze))],[(3,[(vi x.k),(vs x.s),(vi x.n),(vi x.d),(vi x.pos),Zd]),(4,[(vi 0),(vi 0),(vi 0),(vi 0)]),(900,[(.arr ⟨true,94,false,none⟩ 4 (AQ l x k))])]⟩ (fF Tryz.prog Tryz.f64 (DV.au [iG (jO l x).fst,db (jO l x).snd]))))) (by kernel_rfl) ?_
  simp only[Int.toNat_natCast]
  refine⟨fun h=>?_,fun h=>?_⟩
  ·have hk2:k<x.kids.length:=by have:=of_decide_eq_true h;omega
   have er:ah (aS m x k)=x.kids.getD k ak:=dL hx hk2
   have hh:=h46 k hk2
   simp only[er]
   refine⟨⟨by omega,by omega⟩,hh,fun h2=>?_,fun h2=>⟨⟨⟨by omega,by omega⟩,fun i hi=>(by obtain rfl:i=0:=(by omega);rfl)⟩,⟨by omega,by omega⟩,Again.Iq [(63,900)] rfl (k+1) ?_ ⟨hk2,fun i hi=>?_⟩ (by omega)⟩⟩
   ·rw[Bool.not_eq_true'] at h2
    have:((EL l x.kids).any fun r=>!r.2)=true:=by
     rw[List.any_eq_true,FH]
     refine⟨jO l (x.kids.getD k ak),List.mem_map.2 ⟨_,?_,rfl⟩,by rw[h2];rfl⟩
     rw[List.getD,bQ hk2]
     exact List.getElem_mem hk2
    rw[eb,if_pos this]
   ·refine lG ((.d (.slc 6 x.kids.length (lay (bJ m) x.kids))):AV) (fun Za=>((((.d (.ptr [(.mp none (fV l) (fH l)),(.mp none (wV ws) (wL ws))])):AV)=(.d (.ptr [(.mp none (fV l) (fH l)),(.mp none (wV ws) (wL ws))]))∧((.box 3 0):AV)=(.box 3 0)∧((.box 4 0):AV)=(.box 4 0)∧((.vec 900 4 0 (k+1)):AV)=(.vec 900 4 0 (k+1))∧(Za:AV)=Za∧((vi (↑x.kids.length)):AV)=(vi (↑x.kids.length))∧((vi (↑k+1)):AV)=(vi (↑(k+1)))∧True)∧((some [(vi x.k),(vs x.s),(vi x.n),(vi x.d),(vi x.pos),Za]):(Option (List AV)))=(some [(vi x.k),(vs x.s),(vi x.n),(vi x.d),(vi x.pos),Za])∧((some [(vi 0),(vi 0),(vi 0),(vi 0)]):(Option (List AV)))=(some [(vi 0),(vi 0),(vi 0),(vi 0)])∧((some [(.arr ⟨true,94,false,none⟩ 4 (fun i=>bif i.blt k then AQ l x k i else aN true 4 [DV.con (Value.int IntKind.i64 (jO l (x.kids.getD k ak)).fst.a),DV.con (Value.int IntKind.i64 (jO l (x.kids.getD k ak)).fst.b),DV.con (Value.int IntKind.i64 (jO l (x.kids.getD k ak)).fst.c),DV.con (Value.int IntKind.i64 (jO l (x.kids.getD k ak)).fst.d)] (i-k)))]):(Option (List AV)))=(some [(.arr ⟨true,94,false,none⟩ 4 (AQ l x (k+1)))])∧True)) (by kernel_rfl) ?_
    refine⟨⟨rfl,rfl,rfl,rfl,rfl,rfl,rfl,trivial⟩,rfl,rfl,?_,trivial⟩
    exact congrArg (fun f=>some [AV.arr bdK 4 f]) (Zq k rfl rfl rfl rfl)
   ·rcases Nat.lt_or_ge i k with h4|h4
    ·exact hkd i h4
    ·obtain rfl:i=k:=by omega
     simpa using h2
  ·simp only[decide_eq_false_iff_not] at h
   obtain rfl:k=x.kids.length:=by omega
   have hany:((EL l x.kids).any fun r=>!r.2)=false:=by
    rw[List.any_eq_false,FH]
    intro r hr
    obtain ⟨y,hy,rfl⟩:=List.mem_map.1 hr
    obtain ⟨i,hi,rfl⟩:=List.getElem_of_mem hy
    have:=hkd i hi
    rw[List.getD,bQ hi] at this
    rw[show (jO l x.kids[i]).2=true from this];decide
   rw[hany,if_neg (by decide)] at eb
   rw[eb]
   have hRl:(EL l x.kids).length=x.kids.length:=by rw[FH,List.length_map]
   refine aC.freeze (agg:=bdK) (sz:=4) (f:=AQ l x x.kids.length) 900 (by kernel_rfl) ?_
   refine aC.pre (.reg _ 6 (.d (.slc 4 x.kids.length (bdF (EL l x.kids)))) fun β h v hv=>DV.dJ (f:=fun i=>AQ l x x.kids.length (0+i)) (fun i hi=>?_) hv) ?_
   ·rw[Nat.zero_add]
    unfold AQ bdF
    rw[nD hi,TY hi];rfl
   have hone:=@kG x hsn
   have BJ:=@kH x hsn
   have Tm:=@rZ x hsn
   have hkn:=IX hnu
   generalize EL l x.kids=R at *
   have hc:5≤x.k∧x.k≤11:=by omega
   have k1:x.k=5→1≤x.kids.length:=fun h=>by have:=hone (.inl h);omega
   have k2:x.k=6∨x.k=7∨x.k=8∨x.k=9→2≤x.kids.length:=fun h=>by have:=(BJ (by omega)).1;omega
   have k10:x.k=10∨x.k=11→1≤x.kids.length:=Tm
   have t0:Int.toNat 0=0:=rfl
   have t1:Int.toNat 1=1:=rfl
   clear eb hany hkd h46 ih hk h hkn k1' k2' hsn hnu hs hone BJ Tm
   generalize hxl:x.kids.length=xl at *
   refine aK (ay:=L6 l) (keep:=[]) (cuts:=[]) (n:=1000) follows ?_
   refine aA (fun ZT ZW ZQ ZK=>(fun Za Zb Zc=>((((x.k==5)=true)→(((((0:Int)≤(0:Int))∧(0<(↑xl:Int)))∧ZK 104 [(.agg [(di 0),(di 1),(di 0),(di 1)]),(iG Za.fst),(.con (.func (.func 77) ⟨[]⟩ ⟨[]⟩))] (.au [(iG (oN bD (Bd.mk 0 1 0 1) (Bd.mk Za.fst.a Za.fst.b Za.fst.c Za.fst.d))),(db (!jm bD (Bd.mk 0 1 0 1) (Bd.mk Za.fst.a Za.fst.b Za.fst.c Za.fst.d)))]))∧((.au [(iG (oN bD (Bd.mk 0 1 0 1) (Bd.mk Za.fst.a Za.fst.b Za.fst.c Za.fst.d))),(db (!jm bD (Bd.mk 0 1 0 1) (Bd.mk Za.fst.a Za.fst.b Za.fst.c Za.fst.d)))]):DV)=Zc))∧(((x.k==5)=false)→((((x.k==6)=true)→(((((0:Int)≤(0:Int))∧(0<(↑xl:Int)))∧(((0:Int)≤(1:Int))∧(1<(↑xl:Int)))∧ZK 105 [(iG Za.fst),(iG Zb.fst),(.con (.func (.func 76) ⟨[]⟩ ⟨[]⟩))] (.au [(.agg [(di (dG Za.fst.a Za.fst.b Zb.fst.a Zb.fst.b).fst),(di (dG Za.fst.a Za.fst.b Zb.fst.a Zb.fst.b).snd.fst),(di (dG Za.fst.c Za.fst.d Zb.fst.c Zb.fst.d).fst),(di (dG Za.fst.c Za.fst.d Zb.fst.c Zb.fst.d).snd.fst)]),(db (yc (dG Za.fst.a Za.fst.b Zb.fst.a Zb.fst.b) (dG Za.fst.c Za.fst.d Zb.fst.c Zb.fst.d)))]))∧((.au [(.agg [(di (dG Za.fst.a Za.fst.b Zb.fst.a Zb.fst.b).fst),(di (dG Za.fst.a Za.fst.b Zb.fst.a Zb.fst.b).snd.fst),(di (dG Za.fst.c Za.fst.d Zb.fst.c Zb.fst.d).fst),(di (dG Za.fst.c Za.fst.d Zb.fst.c Zb.fst.d).snd.fst)]),(db (yc (dG Za.fst.a Za.fst.b Zb.fst.a Zb.fst.b) (dG Za.fst.c Za.fst.d Zb.fst.c Zb.fst.d)))]):DV)=Zc))∧(((x.k==6)=false)→((((x.k==7)=true)→(((((0:Int)≤(0:Int))∧(0<(↑xl:Int)))∧(((0:Int)≤(1:Int))∧(1<(↑xl:Int)))∧(((0:Int)≤(1:Int))∧(1<(↑xl:Int)))∧ZK 105 [(iG Za.fst),(.agg [(di Zb.fst.c),(di Zb.fst.d),(di Zb.fst.a),(di Zb.fst.b)]),(.con (.func (.func 77) ⟨[]⟩ ⟨[]⟩))] (.au [(.agg [(di (bD Za.fst.a Za.fst.b Zb.fst.c Zb.fst.d).fst),(di (bD Za.fst.a Za.fst.b Zb.fst.c Zb.fst.d).snd.fst),(di (bD Za.fst.c Za.fst.d Zb.fst.a Zb.fst.b).fst),(di (bD Za.fst.c Za.fst.d Zb.fst.a Zb.fst.b).snd.fst)]),(db (yc (bD Za.fst.a Za.fst.b Zb.fst.c Zb.fst.d) (bD Za.fst.c Za.fst.d Zb.fst.a Zb.fst.b)))]))∧((.au [(.agg [(di (bD Za.fst.a Za.fst.b Zb.fst.c Zb.fst.d).fst),(di (bD Za.fst.a Za.fst.b Zb.fst.c Zb.fst.d).snd.fst),(di (bD Za.fst.c Za.fst.d Zb.fst.a Zb.fst.b).fst),(di (bD Za.fst.c Za.fst.d Zb.fst.a Zb.fst.b).snd.fst)]),(db (yc (bD Za.fst.a Za.fst.b Zb.fst.c Zb.fst.d) (bD Za.fst.c Za.fst.d Zb.fst.a Zb.fst.b)))]):DV)=Zc))∧(((x.k==7)=false)→((((x.k==8)=true)→(((((0:Int)≤(0:Int))∧(0<(↑xl:Int)))∧(((0:Int)≤(1:Int))∧(1<(↑xl:Int)))∧ZK 104 [(iG Za.fst),(iG Zb.fst),(.con (.func (.func 78) ⟨[]⟩ ⟨[]⟩))] (.au [(iG (oN bY (Bd.mk Za.fst.a Za.fst.b Za.fst.c Za.fst.d) (Bd.mk Zb.fst.a Zb.fst.b Zb.fst.c Zb.fst.d))),(db (!jm bY (Bd.mk Za.fst.a Za.fst.b Za.fst.c Za.fst.d) (Bd.mk Zb.fst.a Zb.fst.b Zb.fst.c Zb.fst.d)))]))∧((.au [(iG (oN bY (Bd.mk Za.fst.a Za.fst.b Za.fst.c Za.fst.d) (Bd.mk Zb.fst.a Zb.fst.b Zb.fst.c Zb.fst.d))),(db (!jm bY (Bd.mk Za.fst.a Za.fst.b Za.fst.c Za.fst.d) (Bd.mk Zb.fst.a Zb.fst.b Zb.fst.c Zb.fst.d)))]):DV)=Zc))∧(((x.k==8)=false)→((((x.k==9)=true)→(((((0:Int)≤(1:Int))∧(1<(↑xl:Int)))∧ZK 106 [(iG Zb.fst)] (di (xW Zb.fst.a Zb.fst.c)))∧(((xW Zb.fst.a Zb.fst.c==0)=true)→(((.au [(.agg [(di 0),(di 0),(di 0),(di 0)]),(db false)]):DV)=Zc))∧(((xW Zb.fst.a Zb.fst.c==0)=false)→(((((0:Int)≤(0:Int))∧(0<(↑xl:Int)))∧(((0:Int)≤(1:Int))∧(1<(↑xl:Int)))∧ZK 104 [(iG Za.fst),(iG Zb.fst),(.con (.func (.func 79) ⟨[]⟩ ⟨[]⟩))] (.au [(iG (oN dD (Bd.mk Za.fst.a Za.fst.b Za.fst.c Za.fst.d) (Bd.mk Zb.fst.a Zb.fst.b Zb.fst.c Zb.fst.d))),(db (!jm dD (Bd.mk Za.fst.a Za.fst.b Za.fst.c Za.fst.d) (Bd.mk Zb.fst.a Zb.fst.b Zb.fst.c Zb.fst.d)))]))∧((.au [(iG (oN dD (Bd.mk Za.fst.a Za.fst.b Za.fst.c Za.fst.d) (Bd.mk Zb.fst.a Zb.fst.b Zb.fst.c Zb.fst.d))),(db (!jm dD (Bd.mk Za.fst.a Za.fst.b Za.fst.c Za.fst.d) (Bd.mk Zb.fst.a Zb.fst.b Zb.fst.c Zb.fst.d)))]):DV)=Zc))))∧(((x.k==9)=false)→((((x.k==11)=true)→((((0:Int)≤(0:Int))∧(0<(↑xl:Int)))∧ZW [cd Tryz.f64 [1,1,1,1,1,1,1,1,1,0,1,0],(.blk 4),cd Tryz.f64 [1,1,1,1,1,1,1,1,1,1]] (aI ZT [1,1,1,1,1,0]) ZQ))∧(((x.k==11)=false)→((((0:Int)≤(0:Int))∧(0<(↑xl:Int)))∧ZW [cd Tryz.f64 [1,1,1,1,1,1,1,1,1,0,1,0],(.blk 4),cd Tryz.f64 [1,1,1,1,1,1,1,1,1,1]] (aI ZT [1,1,1,1,1,1]) ZQ)))))))))))))) (R.getD (Int.toNat 0) (fE,true)) (R.getD (Int.toNat 1) (fE,true)) ((.au [(iG (EK x.k R).fst),(db (EK x.k R).snd)]):DV)) (by kernel_rfl) ?_
   simp only[beq_iff_eq,beq_eq_false_iff_ne,ne_eq,t0,t1]
   repeat' (first|(with_reducible refine And.intro ?_ ?_)|(with_reducible intro _))
   all_goals first
    | contradiction
    | (exfalso;omega)
    | (show (0:Int)≤_;omega)
    | (show (1:Int)<_;omega)
    | (show (0:Int)<_;omega)
    | exact aeF ⟨0,1,0,1⟩ _
    | exact aeN _ _
    | exact aeO _ _
    | exact aeG _ _
    | exact aeJ ⟨_,_,_,_⟩ ⟨_,_,_,_⟩
    | exact f106 _ _ _ _
    | rw[ach (by assumption)]
    | (rw[abn (by assumption)];rfl)
    | (rw[abS (by assumption)];rfl)
    | rw[acf (by assumption)]
    | (rw[YU (by assumption),if_pos (by assumption)])
    | (rw[YU (by assumption),if_neg (by assumption)])
    | skip
   ·refine aC.loop (c:=dR (aQ Tryz.f64) [1,1,1,1,1,1,1,1,1,0,1,0,0]) (by kernel_rfl) (aeh true R xl) (fun k=>k≤xl) (fun k=>xl-k) 0 ?_ (Nat.zero_le _) ?_
    ·refine AS.leZ [1] [0] (b:=((T0∧((.d (.con (.func (.func 108) ⟨[]⟩ ⟨[]⟩))):AV)=(.d (.con (.func (.func (if true=true then 108 else 107)) ⟨[]⟩ ⟨[]⟩)))∧T0∧T0∧T0∧T0∧True)∧((some [(vi (R.getD (Int.toNat 0) (fE,true)).fst.a),(vi (R.getD (Int.toNat 0) (fE,true)).fst.b),(vi (R.getD (Int.toNat 0) (fE,true)).fst.c),(vi (R.getD (Int.toNat 0) (fE,true)).fst.d)]):(Option (List AV)))=(some [(vi (Dp true R 0)),(vi (CS true R 0)),(vi (Dz true R 0)),(vi (CP true R 0))])∧T0∧True)) (by kernel_rfl) (by kernel_rfl) ?_
     exact⟨⟨rfl,rfl,rfl,rfl,rfl,rfl,trivial⟩,rfl,rfl,trivial⟩
    ·intro k hk
     refine aK (ay:=L6 l) (keep:=[]) (cuts:=[]) (n:=1000) follows ?_
     refine bW (fun ZT ZW ZQ ZK ZA _=>(fun Za=>((((decide ((↑k:Int)<↑xl))=true)→(((0≤(↑k:Int))∧((↑k:Int)<↑xl))∧(ZK 108 [(.agg [(di (Dp true R k)),(di (CS true R k))]),(.agg [(di Za.fst.a),(di Za.fst.b)])] (.agg [(di (x9 (Dp true R k) (CS true R k) Za.fst.a Za.fst.b)),(di (xY (Dp true R k) (CS true R k) Za.fst.a Za.fst.b))])∧ZK 108 [(.agg [(di (Dz true R k)),(di (CP true R k))]),(.agg [(di Za.fst.c),(di Za.fst.d)])] (.agg [(di (x9 (Dz true R k) (CP true R k) Za.fst.c Za.fst.d)),(di (xY (Dz true R k) (CP true R k) Za.fst.c Za.fst.d))]))∧(I64 (↑k+1))∧(ZA (aI ZT [0]))))∧(((decide ((↑k:Int)<↑xl))=false)→ZW [cd Tryz.f64 [1,1,1,1,1,1,1,1,1,1]] (aI ZT [1]) ZQ))) (R.getD (↑k:Int).toNat (fE,true))) (by kernel_rfl) ?_
     simp only[Int.toNat_natCast]
     refine⟨fun h=>?_,fun h=>?_⟩
     ·have hk2:k<xl:=by have:=of_decide_eq_true h;omega
      refine⟨⟨by omega,by omega⟩,⟨f108 _ _ _ _,f108 _ _ _ _⟩,⟨by omega,by omega⟩,Again.mk (k+1) ?_ hk2 (by omega)⟩
      refine AS.leZ [] [0] (b:=((T0∧T0∧T0∧T0∧T0∧T0∧True)∧((some [(vi (x9 (Dp true R k) (CS true R k) (R.getD (↑k:Int).toNat (fE,true)).fst.a (R.getD (↑k:Int).toNat (fE,true)).fst.b)),(vi (xY (Dp true R k) (CS true R k) (R.getD (↑k:Int).toNat (fE,true)).fst.a (R.getD (↑k:Int).toNat (fE,true)).fst.b)),(vi (x9 (Dz true R k) (CP true R k) (R.getD (↑k:Int).toNat (fE,true)).fst.c (R.getD (↑k:Int).toNat (fE,true)).fst.d)),(vi (xY (Dz true R k) (CP true R k) (R.getD (↑k:Int).toNat (fE,true)).fst.c (R.getD (↑k:Int).toNat (fE,true)).fst.d))]):(Option (List AV)))=(some [(vi (Dp true R (k+1))),(vi (CS true R (k+1))),(vi (Dz true R (k+1))),(vi (CP true R (k+1)))])∧T0∧True)) (by kernel_rfl) (by kernel_rfl) ?_
      exact⟨⟨rfl,rfl,rfl,rfl,rfl,rfl,trivial⟩,rfl,rfl,trivial⟩
     ·have h:=of_decide_eq_false h
      obtain rfl:k=xl:=by omega
      refine aK (ay:=L6 l) (keep:=[]) (cuts:=[]) (n:=1000) follows ?_
      refine aA (fun _ _ _ _=>(((.au [(.agg [(di (Dp true R k)),(di (CS true R k)),(di (Dz true R k)),(di (CP true R k))]),(db true)]):DV)=(.au [(iG (EK x.k R).fst),(db (EK x.k R).snd)]))) (by kernel_rfl) ?_
      rw[VA (by omega),decide_eq_true (by omega),hRl]
      rfl
   ·refine aC.loop (c:=dR (aQ Tryz.f64) [1,1,1,1,1,1,1,1,1,0,1,0,0]) (by kernel_rfl) (aeh false R xl) (fun k=>k≤xl) (fun k=>xl-k) 0 ?_ (Nat.zero_le _) ?_
    ·refine AS.leZ [1] [0] (b:=((T0∧((.d (.con (.func (.func 107) ⟨[]⟩ ⟨[]⟩))):AV)=(.d (.con (.func (.func (if false=true then 108 else 107)) ⟨[]⟩ ⟨[]⟩)))∧T0∧T0∧T0∧T0∧True)∧((some [(vi (R.getD (Int.toNat 0) (fE,true)).fst.a),(vi (R.getD (Int.toNat 0) (fE,true)).fst.b),(vi (R.getD (Int.toNat 0) (fE,true)).fst.c),(vi (R.getD (Int.toNat 0) (fE,true)).fst.d)]):(Option (List AV)))=(some [(vi (Dp false R 0)),(vi (CS false R 0)),(vi (Dz false R 0)),(vi (CP false R 0))])∧T0∧True)) (by kernel_rfl) (by kernel_rfl) ?_
     exact⟨⟨rfl,rfl,rfl,rfl,rfl,rfl,trivial⟩,rfl,rfl,trivial⟩
    ·intro k hk
     refine aK (ay:=L6 l) (keep:=[]) (cuts:=[]) (n:=1000) follows ?_
     refine bW (fun ZT ZW ZQ ZK ZA _=>(fun Za=>((((decide ((↑k:Int)<↑xl))=true)→(((0≤(↑k:Int))∧((↑k:Int)<↑xl))∧(ZK 107 [(.agg [(di (Dp false R k)),(di (CS false R k))]),(.agg [(di Za.fst.a),(di Za.fst.b)])] (.agg [(di (xX (Dp false R k) (CS false R k) Za.fst.a Za.fst.b)),(di (xZ (Dp false R k) (CS false R k) Za.fst.a Za.fst.b))])∧ZK 107 [(.agg [(di (Dz false R k)),(di (CP false R k))]),(.agg [(di Za.fst.c),(di Za.fst.d)])] (.agg [(di (xX (Dz false R k) (CP false R k) Za.fst.c Za.fst.d)),(di (xZ (Dz false R k) (CP false R k) Za.fst.c Za.fst.d))]))∧(I64 (↑k+1))∧(ZA (aI ZT [0]))))∧(((decide ((↑k:Int)<↑xl))=false)→ZW [cd Tryz.f64 [1,1,1,1,1,1,1,1,1,1]] (aI ZT [1]) ZQ))) (R.getD (↑k:Int).toNat (fE,true))) (by kernel_rfl) ?_
     simp only[Int.toNat_natCast]
     refine⟨fun h=>?_,fun h=>?_⟩
     ·have hk2:k<xl:=by have:=of_decide_eq_true h;omega
      refine⟨⟨by omega,by omega⟩,⟨f107 _ _ _ _,f107 _ _ _ _⟩,⟨by omega,by omega⟩,Again.mk (k+1) ?_ hk2 (by omega)⟩
      refine AS.leZ [] [0] (b:=((T0∧T0∧T0∧T0∧T0∧T0∧True)∧((some [(vi (xX (Dp false R k) (CS false R k) (R.getD (↑k:Int).toNat (fE,true)).fst.a (R.getD (↑k:Int).toNat (fE,true)).fst.b)),(vi (xZ (Dp false R k) (CS false R k) (R.getD (↑k:Int).toNat (fE,true)).fst.a (R.getD (↑k:Int).toNat (fE,true)).fst.b)),(vi (xX (Dz false R k) (CP false R k) (R.getD (↑k:Int).toNat (fE,true)).fst.c (R.getD (↑k:Int).toNat (fE,true)).fst.d)),(vi (xZ (Dz false R k) (CP false R k) (R.getD (↑k:Int).toNat (fE,true)).fst.c (R.getD (↑k:Int).toNat (fE,true)).fst.d))]):(Option (List AV)))=(some [(vi (Dp false R (k+1))),(vi (CS false R (k+1))),(vi (Dz false R (k+1))),(vi (CP false R (k+1)))])∧T0∧True)) (by kernel_rfl) (by kernel_rfl) ?_
      exact⟨⟨rfl,rfl,rfl,rfl,rfl,rfl,trivial⟩,rfl,rfl,trivial⟩
     ·have h:=of_decide_eq_false h
      obtain rfl:k=xl:=by omega
      refine aK (ay:=L6 l) (keep:=[]) (cuts:=[]) (n:=1000) follows ?_
      refine aA (fun _ _ _ _=>(((.au [(.agg [(di (Dp false R k)),(di (CS false R k)),(di (Dz false R k)),(di (CP false R k))]),(db true)]):DV)=(.au [(iG (EK x.k R).fst),(db (EK x.k R).snd)]))) (by kernel_rfl) ?_
      rw[VA (by omega),decide_eq_false (by omega),hRl]
      rfl
end Go.Proofs
