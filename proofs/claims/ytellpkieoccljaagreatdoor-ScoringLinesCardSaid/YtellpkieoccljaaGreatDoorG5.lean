import Derived.Test.YtellpkieoccljaaGreatDoorAcD
import Derived.Test.YtellpkieoccljaaGreatDoorG4
import Derived.Test.YtellpkieoccljaaGreatDoorG0
import Derived.Defers
import Derived.Recover
import Derived.Tactics
import Derived.Tactics2
import Derived.Laws.Pointers
import Derived.Test.YtellpkieoccljaaGreatDoorG3
import Derived.Test.YtellpkieoccljaaGreatDoorG2
set_option autoImplicit false
namespace Go.Proofs
open Go Go.Ab Go.RowKit
set_option maxHeartbeats 4000000
set_option maxRecDepth 100000
variable {G:IH}
/-! The value of a number. -/
theorem num_ok2 {n d:Int} (h:numB n d=true):ok n d=true:=by
 unfold numB at h
 simp only[bAt] at h
 have h:=h.1.1
 unfold decF at h
 cases hk:ok n d with
 | true=>rfl
 | false=>rw[hk] at h;cases h
theorem tM_miss {l:List Ft} {s:ByteArray} (h:tH l (.string s)=false):tM l (.string s)=ft0:=by
 induction l with
 | nil=>rfl
 | cons x l ih=>
  unfold tH at h
  rw[Bool.or_eq_false_iff] at h
  unfold tM
  rw[h.1];exact ih h.2
theorem tz_imp {l:List Ft} {s:ByteArray} (h:tH l (.string s)=false):DV.imp (ftD ft0) (tV l (.string s)):=by
 show DV.imp (ftD ft0) (ftD (tM l (.string s)))
 rw[tM_miss h];exact fun _ _ hv=>hv
theorem bestK_pos {l:List Fr2}:∀{k:Nat},0<k→0≤bestK l k
 | 0,h=>absurd h (Nat.lt_irrefl 0)
 | k+1,_=>by
  rw[bestK_succ]
  split
  ·rename_i h;exact h.1
  ·omega
theorem nu_ok {F:List Ft} {l:List Fc} {ws:List ByteArray} (hN:NumF F l) (m:Nat):∀(x:Ex) (p:Fr2),ht x≤m→sndE x=true→(tyE l ws x).2.2=0→(tyE l ws x).1=0→nuE F x=some p→ok p.1 p.2=true:=by
 induction m using Nat.strongRecOn with
 | _ m ih=>
 intro x p hx hsn h2 h1 hv
 rw[nuE_eq] at hv
 unfold nuK at hv
 have hnu:=num_of m x hx hsn h2 h1
 have hk:=numE_k hnu
 split at hv
 ·rename_i hk1
  simp only[oSi] at hv;subst hv
  exact num_ok2 (snd_num hsn hk1)
 split at hv
 ·rename_i hk2
  simp only[oSi] at hv;subst hv
  obtain ⟨t1,t2⟩:=(ty_node hsn h2).2.2 hk2
  unfold nmK at t1 t2
  split at t2
  ·rename_i hh
   rw[if_pos hh] at t1
   exact hN _ hh (t1.symm.trans h1)
  ·rename_i hh
   rw[if_neg hh] at t1
   split at t2
   ·rename_i hw
    rw[if_pos hw] at t1
    rw[t1] at h1;cases h1
   ·cases t2
 rename_i hk1 hk2
 cases hr:nuL F x.kids with
 | none=>rw[hr] at hv;cases hv
 | some r=>
  rw[hr] at hv
  obtain ⟨rfl,hkv⟩:=nuL_kid hr
  have h5:5≤x.k∧x.k≤11:=by omega
  have hlen:1≤x.kids.length:=by
   by_cases ha:x.k=5
   ·have:=snd_one hsn (.inl ha);omega
   ·by_cases hb:x.k=10∨x.k=11
    ·exact snd_many hsn hb
    ·have:=snd_two hsn (by omega);omega
  refine opV_ok (by rw[List.length_map];exact hlen) (fun i hi=>?_) hv
  rw[List.length_map] at hi
  rw[List.getD,List.getElem?_map,gEe hi]
  have hh:=ht_kid hi
  have hq:=ih (m-1) (by omega) (x.kids.getD i ex0) (nvD F (x.kids.getD i ex0)) (by omega) (snd_kid hsn hi) ((tyE_fine h2).1 i hi) ((ty_kids h2).1 (.inl h5) i hi) (hkv i hi)
  rw[List.getD,gEe hi] at hq
  exact hq
theorem f46 {F:List Ft} {l:List Fc} {ws:List ByteArray} (hN:NumF F l) (m:Nat):∀(x:Ex),ht x≤m→Sm x→sndE x=true→(tyE l ws x).2.2=0→(tyE l ws x).1=0→
  (∀p,nuE F x=some p→FnOK Tryz.prog G 46 [evD F,exD m x] (fr p.1 p.2))∧(nuE F x=none→FnP Tryz.prog G 46 [evD F,exD m x] noV):=by
 induction m using Nat.strongRecOn with
 | _ m ih=>
 intro x hx hs hsn h2 h1
 have hnu:=num_of m x hx hsn h2 h1
 have hk:=numE_k hnu
 have ev:=nuE_eq F x
 unfold nuK at ev
 by_cases k1:x.k=1
 ·rw[if_pos k1] at ev
  refine⟨fun p hp=>?_,fun hn=>by rw[ev] at hn;cases hn⟩
  rw[ev] at hp
  simp only[oSi] at hp;subst hp
  refine FnOK.of_body Tryz.func46 rfl Tryz.call46 ?_
  refine walkK (orc:=orcNu F) (keep:=[]) (cuts:=[4]) (n:=1000) follows ?_
  refine of_tr (fun ZT ZW ZQ _=>((((x.k==1)=true)→(ZS ((fr (x.n,x.d).fst (x.n,x.d).snd):DV)))∧(((x.k==1)=false)→ZW [cd Tryz.f46 [1,0,1,0,1,1],(.blk 0),cd Tryz.f46 [1,1]] (stS ZT [1]) ZQ))) (by kernel_rfl) ?_
  exact⟨fun _=>rfl,fun h=>absurd k1 (by simpa using h)⟩
 rw[if_neg k1] at ev
 by_cases k2:x.k=2
 ·rw[if_pos k2] at ev
  refine⟨fun p hp=>?_,fun hn=>by rw[ev] at hn;cases hn⟩
  rw[ev] at hp
  simp only[oSi] at hp;subst hp
  refine FnOK.of_body Tryz.func46 rfl Tryz.call46 ?_
  refine walkK (orc:=orcNu F) (keep:=[]) (cuts:=[6]) (n:=1000) follows ?_
  refine of_tr (fun ZT ZW ZQ _=>(fun Za=>((((x.k==1)=true)→(((.agg [(di x.n),(di x.d)]):DV)=(fr Za.fst Za.snd)))∧(((x.k==1)=false)→((((x.k==2)=true)→((((tH F (Value.string x.s))=false)→((DV.agg (List.map DV.con [Value.string (ByteArray.mk #[]),Value.int IntKind.i64 0,Value.int IntKind.i64 0,Value.int IntKind.i64 0,Value.bool false,Value.string (ByteArray.mk #[])])).imp (tV F (Value.string x.s))))∧(ZS ((fr Za.fst Za.snd):DV))))∧(((x.k==2)=false)→ZW [cd Tryz.f46 [1,1]] (stS ZT [1,1]) ZQ))))) ((tM F (Value.string x.s)).n,(tM F (Value.string x.s)).d)) (by kernel_rfl) ?_
  exact⟨fun h=>absurd (eq_of_beq h) k1,fun _=>⟨fun _=>⟨fun h=>tz_imp h,rfl⟩,fun h=>absurd k2 (by simpa using h)⟩⟩
 rw[if_neg k2] at ev
 have h5:5≤x.k∧x.k≤11:=by omega
 have hlen:=hs.len.1
 have h46:∀i,i<x.kids.length→(nuE F (x.kids.getD i ex0)≠none→FnOK Tryz.prog G 46 [evD F,kidA m x i] (fr (nvD F (x.kids.getD i ex0)).1 (nvD F (x.kids.getD i ex0)).2))∧(nuE F (x.kids.getD i ex0)=none→FnP Tryz.prog G 46 [evD F,kidA m x i] noV):=fun i hi=>by
  have key:=kidOK (Q:=fun d=>(∀p,nuE F (x.kids.getD i ex0)=some p→FnOK Tryz.prog G 46 [evD F,d] (fr p.1 p.2))∧(nuE F (x.kids.getD i ex0)=none→FnP Tryz.prog G 46 [evD F,d] noV)) hx hi fun m' h3 h4=>ih m' h3 _ h4 (hs.kid hi) (snd_kid hsn hi) ((tyE_fine h2).1 i hi) ((ty_kids h2).1 (.inl h5) i hi)
  refine⟨fun hv=>key.1 _ ?_,key.2⟩
  unfold nvD
  cases hx:nuE F (x.kids.getD i ex0) with
  | none=>exact absurd hx hv
  | some p=>rfl
 have hmin:1≤x.kids.length∧(x.k=5→x.kids.length=1)∧(6≤x.k∧x.k≤9→x.kids.length=2):=by
  by_cases ha:x.k=5
  ·have:=snd_one hsn (.inl ha);omega
  ·by_cases hb:x.k=10∨x.k=11
   ·have:=snd_many hsn hb;omega
   ·have:=snd_two hsn (by omega);omega
 cases hr:nuL F x.kids with
 | none=>
  rw[hr] at ev
  refine⟨fun p hp=>(by rw[ev] at hp;cases hp),fun _=>FnP.of_body Tryz.func46 rfl Tryz.call46 ?_⟩
  exact nu_walk F _ m x hx hs h5 h46 (fun _ _=>rfl) (fun h=>absurd hr h)
 | some r=>
  rw[hr] at ev
  obtain ⟨er,hkv⟩:=nuL_kid hr
  have hrl:r.length=x.kids.length:=by rw[er,List.length_map]
  have hro:∀i,i<r.length→ok (r.getD i (0,0)).1 (r.getD i (0,0)).2=true:=fun i hi=>by
   have hi2:i<x.kids.length:=by omega
   have hh:=ht_kid hi2
   have hq:=nu_ok hN m (x.kids.getD i ex0) (nvD F (x.kids.getD i ex0)) (by omega) (snd_kid hsn hi2) ((tyE_fine h2).1 i hi2) ((ty_kids h2).1 (.inl h5) i hi2) (hkv i hi2)
   rw[er,List.getD,List.getElem?_map,gEe hi2]
   rw[List.getD,gEe hi2] at hq
   exact hq
  have ev:nuE F x=opV x.k r:=ev
  constructor
  ·intro p hp
   rw[ev] at hp
   refine FnOK.of_body Tryz.func46 rfl Tryz.call46 (nu_walk F _ m x hx hs h5 h46 (fun h=>by rw[hr] at h;cases h) fun _=>?_)
   by_cases c5:x.k=5
   ·have e0:r.getD 0 (0,0)=nvD F (x.kids.getD 0 ex0):=by
     have h0:0<x.kids.length:=by omega
     rw[er,List.getD,List.getElem?_map,List.getD,gEe h0];rfl
    have ho:=ok_spec (hro 0 (by omega))
    unfold opV at hp
    rw[if_pos c5,e0] at hp
    simp only[oSi] at hp;subst hp
    rw[e0] at ho
    exact t46_5 F m x (hmin.2.1 c5) c5 ⟨by omega,by omega⟩
   refine nu_froz ?_
   rw[←er]
   by_cases c11:x.k=11
   ·have ha:allO r=true:=by
     unfold allO
     rw[List.all_eq_true]
     intro q hq
     obtain ⟨i,hi,rfl⟩:=List.getElem_of_mem hq
     have:=hro i hi
     rwa [List.getD,gEe hi] at this
    unfold opV at hp
    rw[if_neg c5,if_pos c11] at hp
    simp only[oSi] at hp;subst hp
    refine t46_11 m x r ?_ (by omega) c11
    unfold bestL
    rw[if_pos ha]
    exact bestK_pos (by omega)
   by_cases c10:x.k=10
   ·unfold opV at hp
    rw[if_neg c5,if_neg c11,if_pos c10] at hp
    simp only[oSi] at hp;subst hp
    exact t46_10 m x r (by omega) (by omega) c10
   unfold opV at hp
   rw[if_neg c5,if_neg c11,if_neg c10] at hp
   have h2l:2≤r.length:=by have:=hmin.2.2 (by omega);omega
   split at hp
   ·rename_i hz
    simp only[oSi] at hp;subst hp
    rcases (by omega:x.k=6∨x.k=7∨x.k=8∨x.k=9) with c|c|c|c
    ·rw[c] at hz⊢;exact t46_6 m x r h2l c (fun _=>z46 m x _ _) fun h=>absurd hz h
    ·rw[c] at hz⊢;exact t46_7 m x r h2l c (fun _=>z46 m x _ _) fun h=>absurd hz h
    ·rw[c] at hz⊢;exact t46_8 m x r h2l c (fun _=>z46 m x _ _) fun h=>absurd hz h
    ·rw[c] at hz⊢;exact t46_9 m x r h2l c (fun _=>z46 m x _ _) fun h=>absurd hz h
   ·cases hp
  ·intro hn
   rw[ev] at hn
   refine FnP.of_body Tryz.func46 rfl Tryz.call46 (nu_walk F _ m x hx hs h5 h46 (fun h=>by rw[hr] at h;cases h) fun _=>nu_froz ?_)
   rw[←er]
   unfold opV at hn
   split at hn
   ·cases hn
   rename_i c5
   split at hn
   ·cases hn
   rename_i c11
   split at hn
   ·cases hn
   rename_i c10
   have h2l:2≤r.length:=by have:=hmin.2.2 (by omega);omega
   split at hn
   ·cases hn
   rename_i hz
   rcases (by omega:x.k=6∨x.k=7∨x.k=8∨x.k=9) with c|c|c|c
   ·rw[c] at hz;exact t46_6 m x r h2l c (fun h=>absurd h hz) fun _ _=>rfl
   ·rw[c] at hz;exact t46_7 m x r h2l c (fun h=>absurd h hz) fun _ _=>rfl
   ·rw[c] at hz;exact t46_8 m x r h2l c (fun h=>absurd h hz) fun _ _=>rfl
   ·rw[c] at hz;exact t46_9 m x r h2l c (fun h=>absurd h hz) fun _ _=>rfl
/-! Words,truths,comparisons. -/
def wdB (F:List Ft) (a:Ex):Bool:=a.k==2&&(!tH F (.string a.s)||(tM F (.string a.s)).kind==2)
def trB (F:List Ft) (a:Ex):Bool:=if a.k=2 then tH F (.string a.s)&&(tM F (.string a.s)).kind==1 else decide (a.k=3∨a.k=4∨a.k=18∨a.k=19∨a.k=20)||(decide (a.k≥12)&&decide (a.k≤17))
def wvE (F:List Ft) (a:Ex):ByteArray:=if tH F (.string a.s) then (tM F (.string a.s)).wd else a.s
theorem f139 (F:List Ft) (m:Nat) (a:Ex):FnOK Tryz.prog G 139 [evD F,exD m a] (db (wdB F a)):=by
 refine FnOK.walkK (orc:=noO) (keep:=[]) follows Tryz.func139 rfl Tryz.call139 ?_
 refine of_tr (fun _ _ _ _=>((((tH F (Value.string a.s))=false)→((DV.agg (List.map DV.con [Value.string (ByteArray.mk #[]),Value.int IntKind.i64 0,Value.int IntKind.i64 0,Value.int IntKind.i64 0,Value.bool false,Value.string (ByteArray.mk #[])])).imp (tV F (Value.string a.s))))∧((db (a.k==2&&(!tH F (Value.string a.s)||(tM F (Value.string a.s)).kind==2))):DV)=(db (wdB F a)))) (by kernel_rfl) ?_
 exact⟨fun h=>tz_imp h,rfl⟩
theorem f140 (F:List Ft) (m:Nat) (a:Ex):FnOK Tryz.prog G 140 [evD F,exD m a] (db (trB F a)):=by
 refine FnOK.walkK (orc:=noO) (keep:=[]) follows Tryz.func140 rfl Tryz.call140 ?_
 refine of_tr (fun _ _ _ _=>((((a.k==2)=true)→((((tH F (Value.string a.s))=false)→((DV.agg (List.map DV.con [Value.string (ByteArray.mk #[]),Value.int IntKind.i64 0,Value.int IntKind.i64 0,Value.int IntKind.i64 0,Value.bool false,Value.string (ByteArray.mk #[])])).imp (tV F (Value.string a.s))))∧((db (tH F (Value.string a.s)&&(tM F (Value.string a.s)).kind==1)):DV)=(db (trB F a))))∧(((a.k==2)=false)→((((a.k==3)=true)→(((db true):DV)=(db (trB F a))))∧(((a.k==3)=false)→((((a.k==4)=true)→(((db true):DV)=(db (trB F a))))∧(((a.k==4)=false)→((((a.k==18)=true)→(((db true):DV)=(db (trB F a))))∧(((a.k==18)=false)→((((a.k==19)=true)→(((db true):DV)=(db (trB F a))))∧(((a.k==19)=false)→((((a.k==20)=true)→(((db true):DV)=(db (trB F a))))∧(((a.k==20)=false)→(((db (decide (a.k≥12)&&decide (a.k≤17))):DV)=(db (trB F a)))))))))))))))) (by kernel_rfl) ?_
 unfold trB
 refine⟨fun h=>⟨fun h=>tz_imp h,?_⟩,fun h2=>⟨fun h=>?_,fun h3=>⟨fun h=>?_,fun h4=>⟨fun h=>?_,fun h5=>⟨fun h=>?_,fun h6=>⟨fun h=>?_,fun h7=>?_⟩⟩⟩⟩⟩⟩
 ·rw[if_pos (eq_of_beq h)]
 all_goals simp only[beq_eq_false_iff_ne,ne_eq] at h2
 all_goals rw[if_neg h2]
 ·have h:=eq_of_beq h;rw[decide_eq_true (by omega:a.k=3∨a.k=4∨a.k=18∨a.k=19∨a.k=20)];rfl
 ·have h:=eq_of_beq h;rw[decide_eq_true (by omega:a.k=3∨a.k=4∨a.k=18∨a.k=19∨a.k=20)];rfl
 ·have h:=eq_of_beq h;rw[decide_eq_true (by omega:a.k=3∨a.k=4∨a.k=18∨a.k=19∨a.k=20)];rfl
 ·have h:=eq_of_beq h;rw[decide_eq_true (by omega:a.k=3∨a.k=4∨a.k=18∨a.k=19∨a.k=20)];rfl
 ·have h:=eq_of_beq h;rw[decide_eq_true (by omega:a.k=3∨a.k=4∨a.k=18∨a.k=19∨a.k=20)];rfl
 ·simp only[beq_eq_false_iff_ne,ne_eq] at h3 h4 h5 h6 h7
  rw[decide_eq_false (by omega:¬(a.k=3∨a.k=4∨a.k=18∨a.k=19∨a.k=20)),Bool.false_or]
theorem f48 (F:List Ft) (m:Nat) (a:Ex):FnOK Tryz.prog G 48 [evD F,exD m a] (ds (wvE F a)):=by
 refine FnOK.walkK (orc:=noO) (keep:=[]) follows Tryz.func48 rfl Tryz.call48 ?_
 refine of_tr (fun _ _ _ _=>((((tH F (Value.string a.s))=false)→((DV.agg (List.map DV.con [Value.string (ByteArray.mk #[]),Value.int IntKind.i64 0,Value.int IntKind.i64 0,Value.int IntKind.i64 0,Value.bool false,Value.string (ByteArray.mk #[])])).imp (tV F (Value.string a.s))))∧(((tH F (Value.string a.s))=true)→(((ds (tM F (Value.string a.s)).wd):DV)=(ds (wvE F a))))∧(((tH F (Value.string a.s))=false)→(((ds a.s):DV)=(ds (wvE F a)))))) (by kernel_rfl) ?_
 unfold wvE
 exact⟨fun h=>tz_imp h,fun h=>by rw[h];rfl,fun h=>by rw[h];rfl⟩
def cvE (F:List Ft) (a b:Ex):Option Int:=match nuE F a,nuE F b with
 | some p,some q=>some (cmpO p.1 p.2 q.1 q.2)
 | _,_=>none
def NuOK (G:IH) (F:List Ft) (d:DV) (a:Ex):Prop:=(∀p,nuE F a=some p→FnOK Tryz.prog G 46 [evD F,d] (fr p.1 p.2))∧(nuE F a=none→FnP Tryz.prog G 46 [evD F,d] noV)
theorem NuOK.get {F:List Ft} {d:DV} {a:Ex} (h:NuOK G F d a) (hv:nuE F a≠none):FnOK Tryz.prog G 46 [evD F,d] (fr (nvD F a).1 (nvD F a).2):=by
 refine h.1 _ ?_
 unfold nvD
 cases hx:nuE F a with
 | none=>exact absurd hx hv
 | some p=>rfl
noncomputable def orcCv (F:List Ft):Oracle:=fun f a=>match f,a with
 | 46,[_,e]=>some (fr (nvD F (rdE e)).1 (nvD F (rdE e)).2)
 | 81,[fr a b,fr c d]=>some (.tup [di (cmpO a b c d),db (ok2O a b c d)])
 | _,_=>none
theorem f83 (F:List Ft) (m m':Nat) (a b:Ex) (ha:ht a≤m) (hb:ht b≤m') (na:NuOK G F (exD m a) a) (nb:NuOK G F (exD m' b) b) :
  (∀c,cvE F a b=some c→FnOK Tryz.prog G 83 [evD F,exD m a,exD m' b] (di c))∧(cvE F a b=none→FnP Tryz.prog G 83 [evD F,exD m a,exD m' b] noV):=by
 have e1:rdE (ndX m a)=a:=rdE_eq ha
 have e2:rdE (ndX m' b)=b:=rdE_eq hb
 constructor
 ·intro c hc
  have h1:nuE F a≠none:=fun h=>by unfold cvE at hc;rw[h] at hc;cases hc
  have h2:nuE F b≠none:=fun h=>by
   unfold cvE at hc;rw[h] at hc
   cases hh:nuE F a<;>rw[hh] at hc<;>cases hc
  refine FnOK.walkK (orc:=orcCv F) (keep:=[]) follows Tryz.func83 rfl Tryz.call83 ?_
  refine of_tr (fun _ _ _ ZK=>(fun Za Zb Zc=>(ZK 46 [(.ptr [(.mp none (tV F) (tH F))]),(ndX m a)] Zc∧(ZK 46 [(.ptr [(.mp none (tV F) (tH F))]),(ndX m' b)] Zb∧ZK 81 [Zc,Zb] (.tup [Za,(db (ok2O (nvD F (rdE (ndX m a))).fst (nvD F (rdE (ndX m a))).snd (nvD F (rdE (ndX m' b))).fst (nvD F (rdE (ndX m' b))).snd))]))∧(Za:DV)=(di c))) (di (cmpO (nvD F (rdE (ndX m a))).fst (nvD F (rdE (ndX m a))).snd (nvD F (rdE (ndX m' b))).fst (nvD F (rdE (ndX m' b))).snd)) ((.agg [(di (nvD F (rdE (ndX m' b))).fst),(di (nvD F (rdE (ndX m' b))).snd)]):DV) ((.agg [(di (nvD F (rdE (ndX m a))).fst),(di (nvD F (rdE (ndX m a))).snd)]):DV)) (by kernel_rfl) ?_
  simp only[e1,e2]
  refine⟨na.get h1,⟨nb.get h2,f81 _ _ _ _⟩,?_⟩
  refine congrArg (fun z:Int=>(di z:DV)) ?_
  unfold cvE at hc
  unfold nvD
  cases hg:nuE F a with
  | none=>exact absurd hg h1
  | some p=>
   cases hh:nuE F b with
   | none=>exact absurd hh h2
   | some q=>rw[hg,hh] at hc;exact Option.some.inj hc
 ·intro hn
  by_cases h1:nuE F a=none
  ·refine FnP.of_body Tryz.func83 rfl Tryz.call83 ?_
   refine walkK (orc:=orcCv F) (keep:=[]) (cuts:=[1]) (n:=1000) follows ?_
   refine of_tr (fun ZT ZW ZQ _=>ZW [cd Tryz.f83 [1]] (stS ZT []) ZQ) (by kernel_rfl) ?_
   refine AWP.panic follows (orcCv F) 2 (pv:=noV) ?_ rfl
   refine of_tr (fun _ _ _ _=>(FnP Tryz.prog G 46 [(.ptr [(.mp none (tV F) (tH F))]),(ndX m a)] noV∧True)) (by kernel_rfl) ?_
   exact⟨na.2 h1,trivial⟩
  ·have h2:nuE F b=none:=by
    cases hh:nuE F b with
    | none=>rfl
    | some q=>
     exfalso
     cases hg:nuE F a with
     | none=>exact h1 hg
     | some p=>unfold cvE at hn;rw[hh,hg] at hn;cases hn
   refine FnP.of_body Tryz.func83 rfl Tryz.call83 ?_
   refine walkK (orc:=orcCv F) (keep:=[]) (cuts:=[2]) (n:=1000) follows ?_
   refine of_tr (fun ZT ZW ZQ ZK=>(ZK 46 [(.ptr [(.mp none (tV F) (tH F))]),(ndX m a)] (.agg [(di (nvD F (rdE (ndX m a))).fst),(di (nvD F (rdE (ndX m a))).snd)])∧ZW [cd Tryz.f83 [1,1]] (stS ZT []) ZQ)) (by kernel_rfl) ?_
   simp only[e1,e2]
   refine⟨na.get h1,?_⟩
   refine AWP.panic follows (orcCv F) 3 (pv:=noV) ?_ rfl
   refine of_tr (fun _ _ _ _=>(FnP Tryz.prog G 46 [(.ptr [(.mp none (tV F) (tH F))]),(ndX m' b)] noV∧True)) (by kernel_rfl) ?_
   exact⟨nb.2 h2,trivial⟩
/-! Equality,and truths. -/
def eqE (F:List Ft) (pa pb:Option Bool) (a b:Ex):Option Bool:=
 if wdB F a=true then some (decide (wvE F a=wvE F b))
 else if trB F a=true then (match pa with
  | none=>none
  | some p=>match pb with
   | none=>none
   | some q=>some (p==q))
 else match cvE F a b with
  | none=>none
  | some c=>some (c==0)
def bvK (F:List Ft) (k:Int) (s:ByteArray) (kids:List Ex) (bs:List (Option Bool)):Option Bool:=
 if k=3 then some true else if k=4 then some false else if k=2 then some (tM F (.string s)).tr
 else if k=18 then (match bs.getD 0 none with|none=>none|some p=>some (!p))
 else if k=19 then (match bs.getD 0 none with|none=>none|some p=>if p then bs.getD 1 none else some false)
 else if k=20 then (match bs.getD 0 none with|none=>none|some p=>if p then some true else bs.getD 1 none)
 else if k=12 then eqE F (bs.getD 0 none) (bs.getD 1 none) (kids.getD 0 ex0) (kids.getD 1 ex0)
 else if k=13 then (match eqE F (bs.getD 0 none) (bs.getD 1 none) (kids.getD 0 ex0) (kids.getD 1 ex0) with|none=>none|some p=>some (!p))
 else match cvE F (kids.getD 0 ex0) (kids.getD 1 ex0) with
  | none=>none
  | some c=>some (if k=14 then decide (c<0) else if k=15 then decide (c≤0) else if k=16 then decide (c>0) else decide (c≥0))
mutual
def bvE (F:List Ft):Ex→Option Bool
 | .mk k s _ _ _ kids=>bvK F k s kids (bvL F kids)
def bvL (F:List Ft):List Ex→List (Option Bool)
 | []=>[]
 | x :: l=>bvE F x :: bvL F l
end
theorem bvE_eq (F:List Ft) (x:Ex):bvE F x=bvK F x.k x.s x.kids (bvL F x.kids):=by cases x;simp only[bvE,Ex.k,Ex.s,Ex.kids]
theorem bvL_get (F:List Ft):∀(l:List Ex) (i:Nat),i<l.length→(bvL F l).getD i none=bvE F (l.getD i ex0)
 | [],_,h=>by simp at h
 | x :: l,0,_=>rfl
 | x :: l,i+1,h=>by
  have:=bvL_get F l i (by simpa using h)
  simpa [bvL] using this
def BvOK (G:IH) (F:List Ft) (d:DV) (a:Ex):Prop:=(∀b,bvE F a=some b→FnOK Tryz.prog G 47 [evD F,d] (db b))∧(bvE F a=none→FnP Tryz.prog G 47 [evD F,d] noV)
structure EqH (G:IH) (F:List Ft) (da db':DV) (a b:Ex):Prop where
 tr:wdB F a=false→trB F a=true→BvOK G F da a∧BvOK G F db' b
 nu:wdB F a=false→trB F a=false→NuOK G F da a∧NuOK G F db' b
def bvD (F:List Ft) (a:Ex):Bool:=(bvE F a).getD false
def cvD (F:List Ft) (a b:Ex):Int:=(cvE F a b).getD 0
noncomputable def orcHe (F:List Ft):Oracle:=fun f a=>match f,a with
 | 139,[_,e]=>some (db (wdB F (rdE e)))
 | 140,[_,e]=>some (db (trB F (rdE e)))
 | 48,[_,e]=>some (ds (wvE F (rdE e)))
 | 47,[_,e]=>some (db (bvD F (rdE e)))
 | 83,[_,e,g]=>some (di (cvD F (rdE e) (rdE g)))
 | _,_=>none
theorem BvOK.get {F:List Ft} {d:DV} {a:Ex} (h:BvOK G F d a) (hv:bvE F a≠none):FnOK Tryz.prog G 47 [evD F,d] (db (bvD F a)):=by
 refine h.1 _ ?_
 unfold bvD
 cases hx:bvE F a with
 | none=>exact absurd hx hv
 | some p=>rfl
theorem f82 (F:List Ft) (m m':Nat) (a b:Ex) (ha:ht a≤m) (hb:ht b≤m') (H:EqH G F (exD m a) (exD m' b) a b) :
  (∀c,eqE F (bvE F a) (bvE F b) a b=some c→FnOK Tryz.prog G 82 [evD F,exD m a,exD m' b] (db c))∧(eqE F (bvE F a) (bvE F b) a b=none→FnP Tryz.prog G 82 [evD F,exD m a,exD m' b] noV):=by
 have e1:rdE (ndX m a)=a:=rdE_eq ha
 have e2:rdE (ndX m' b)=b:=rdE_eq hb
 constructor
 ·intro c hc
  refine FnOK.walkK (orc:=orcHe F) (keep:=[]) follows Tryz.func82 rfl Tryz.call82 ?_
  refine of_tr (fun _ _ _ ZK=>(fun Za=>(ZK 139 [Za,(ndX m a)] (db (wdB F (rdE (ndX m a))))∧(((wdB F (rdE (ndX m a)))=true)→((ZK 48 [Za,(ndX m a)] (ds (wvE F (rdE (ndX m a))))∧ZK 48 [Za,(ndX m' b)] (ds (wvE F (rdE (ndX m' b)))))∧((db ((wvE F (rdE (ndX m a))).toList==(wvE F (rdE (ndX m' b))).toList)):DV)=(db c)))∧(((wdB F (rdE (ndX m a)))=false)→(ZK 140 [Za,(ndX m a)] (db (trB F (rdE (ndX m a))))∧(((trB F (rdE (ndX m a)))=true)→(ZK 47 [Za,(ndX m a)] (db (bvD F (rdE (ndX m a))))∧ZK 47 [Za,(ndX m' b)] (db (bvD F (rdE (ndX m' b))))∧((db (bvD F (rdE (ndX m a))==bvD F (rdE (ndX m' b)))):DV)=(db c)))∧(((trB F (rdE (ndX m a)))=false)→(ZK 83 [Za,(ndX m a),(ndX m' b)] (di (cvD F (rdE (ndX m a)) (rdE (ndX m' b))))∧((db (cvD F (rdE (ndX m a)) (rdE (ndX m' b))==0)):DV)=(db c))))))) ((.ptr [(.mp none (tV F) (tH F))]):DV)) (by kernel_rfl) ?_
  simp only[e1,e2,toList_beq]
  unfold eqE at hc
  refine⟨f139 F m a,fun h1=>⟨⟨f48 F m a,f48 F m' b⟩,?_⟩,fun h1=>⟨f140 F m a,fun h2=>?_,fun h2=>?_⟩⟩
  ·rw[if_pos h1] at hc
   exact congrArg db (Option.some.inj hc)
  ·rw[if_neg (by rw[h1];decide),if_pos h2] at hc
   obtain ⟨ta,tb⟩:=H.tr h1 h2
   have n1:bvE F a≠none:=fun h=>by rw[h] at hc;cases hc
   have n2:bvE F b≠none:=fun h=>by
    rw[h] at hc
    cases hh:bvE F a<;>rw[hh] at hc<;>cases hc
   refine⟨ta.get n1,tb.get n2,congrArg db ?_⟩
   unfold bvD
   cases hp:bvE F a with
   | none=>exact absurd hp n1
   | some p=>
    cases hq:bvE F b with
    | none=>exact absurd hq n2
    | some q=>rw[hp,hq] at hc;exact Option.some.inj hc
  ·rw[if_neg (by rw[h1];decide),if_neg (by rw[h2];decide)] at hc
   obtain ⟨na,nb⟩:=H.nu h1 h2
   have h83:=f83 F m m' a b ha hb na nb
   cases hv:cvE F a b with
   | none=>rw[hv] at hc;cases hc
   | some v=>
    rw[hv] at hc
    have:cvD F a b=v:=by unfold cvD;rw[hv];rfl
    rw[this]
    exact⟨h83.1 v hv,congrArg db (Option.some.inj hc)⟩
 ·intro hn
  refine FnP.of_body Tryz.func82 rfl Tryz.call82 ?_
  refine walkK (orc:=orcHe F) (keep:=[]) (cuts:=[2,4,5,6]) (n:=1000) follows ?_
  refine of_tr (fun ZT ZW ZQ ZK=>(ZK 139 [(.ptr [(.mp none (tV F) (tH F))]),(ndX m a)] (db (wdB F (rdE (ndX m a))))∧(((wdB F (rdE (ndX m a)))=true)→ZW [cd Tryz.f82 [1,0,0,1,0],(.blk 0),cd Tryz.f82 [1,1]] (stS ZT [0]) ZQ)∧(((wdB F (rdE (ndX m a)))=false)→(ZK 140 [(.ptr [(.mp none (tV F) (tH F))]),(ndX m a)] (db (trB F (rdE (ndX m a))))∧(((trB F (rdE (ndX m a)))=true)→ZW [cd Tryz.f82 [1,0,0,1,1,1,0],(.blk 0),cd Tryz.f82 [1,1]] (stS ZT [1,0]) ZQ)∧(((trB F (rdE (ndX m a)))=false)→ZW [cd Tryz.f82 [1,1]] (stS ZT [1,1]) ZQ))))) (by kernel_rfl) ?_
  simp only[e1,e2]
  unfold eqE at hn
  refine⟨f139 F m a,fun h1=>?_,fun h1=>⟨f140 F m a,fun h2=>?_,fun h2=>?_⟩⟩
  ·rw[if_pos h1] at hn;cases hn
  ·rw[if_neg (by rw[h1];decide),if_pos h2] at hn
   obtain ⟨ta,tb⟩:=H.tr h1 h2
   by_cases n1:bvE F a=none
   ·refine AWP.panic follows (orcHe F) 2 (pv:=noV) ?_ rfl
    refine of_tr (fun _ _ _ _=>(FnP Tryz.prog G 47 [(.ptr [(.mp none (tV F) (tH F))]),(ndX m a)] noV∧True)) (by kernel_rfl) ?_
    exact⟨ta.2 n1,trivial⟩
   ·have n2:bvE F b=none:=by
     cases hp:bvE F a with
     | none=>exact absurd hp n1
     | some p=>
      cases hq:bvE F b with
      | none=>rfl
      | some q=>rw[hp,hq] at hn;cases hn
    refine walkK (orc:=orcHe F) (keep:=[]) (cuts:=[5]) (n:=1000) follows ?_
    refine of_tr (fun ZT ZW ZQ ZK=>(ZK 47 [(.ptr [(.mp none (tV F) (tH F))]),(ndX m a)] (db (bvD F (rdE (ndX m a))))∧ZW [cd Tryz.f82 [1,0,0,1,1,1,0,1],(.blk 0),cd Tryz.f82 [1,1]] (stS ZT []) ZQ)) (by kernel_rfl) ?_
    simp only[e1]
    refine⟨ta.get n1,?_⟩
    refine AWP.panic follows (orcHe F) 3 (pv:=noV) ?_ rfl
    refine of_tr (fun _ _ _ _=>(FnP Tryz.prog G 47 [(.ptr [(.mp none (tV F) (tH F))]),(ndX m' b)] noV∧True)) (by kernel_rfl) ?_
    exact⟨tb.2 n2,trivial⟩
  ·rw[if_neg (by rw[h1];decide),if_neg (by rw[h2];decide)] at hn
   obtain ⟨na,nb⟩:=H.nu h1 h2
   have h83:=f83 F m m' a b ha hb na nb
   refine AWP.panic follows (orcHe F) 3 (pv:=noV) ?_ rfl
   refine of_tr (fun _ _ _ _=>(FnP Tryz.prog G 83 [(.ptr [(.mp none (tV F) (tH F))]),(ndX m a),(ndX m' b)] noV∧True)) (by kernel_rfl) ?_
   refine⟨h83.2 ?_,trivial⟩
   cases hv:cvE F a b with
   | none=>rfl
   | some v=>rw[hv] at hn;cases hn
/-! Kinds and what the evaluator finds. -/
structure FaM (F:List Ft) (l:List Fc):Prop where
 has:∀s,tH F (.string s)=fH l (.string s)
 kd:∀s,(tM F (.string s)).kind=(fM l (.string s)).kind
 num:NumF F l
theorem cm_same {l:List Fc} {a b:ByteArray} {p q:Int} (h:cmK l a b p q=true):p=q:=by
 unfold cmK at h
 split at h
 ·exact eq_of_beq h
 ·rename_i hh
  simp only[Bool.or_eq_true,not_or,bne_iff_ne,ne_eq,Classical.not_not] at hh
  exact hh.1
theorem ty_eq {l:List Fc} {ws:List ByteArray} {x:Ex} (hs:sndE x=true) (h:(tyE l ws x).2.2=0) (hk:x.k=12∨x.k=13):(tyE l ws (x.kids.getD 0 ex0)).1=(tyE l ws (x.kids.getD 1 ex0)).1:=by
 obtain ⟨h1,h2,h3⟩:=tyE_fine h
 obtain ⟨a1,a2,a3,a4⟩:=@apK_ks l ws x.k x.s ((tyL l ws x.kids).map (·.1)) (x.kids.getD 0 ex0).s (x.kids.getD 1 ex0).s
 rw[a4 hk] at h3
 have h2l:=snd_two hs (by omega)
 simp only at h3
 have hc:cmK l (x.kids.getD 0 ex0).s (x.kids.getD 1 ex0).s (((tyL l ws x.kids).map (·.1)).getD 0 0) (((tyL l ws x.kids).map (·.1)).getD 1 0)=true:=by
  cases hh:cmK l (x.kids.getD 0 ex0).s (x.kids.getD 1 ex0).s (((tyL l ws x.kids).map (·.1)).getD 0 0) (((tyL l ws x.kids).map (·.1)).getD 1 0) with
  | true=>rfl
  | false=>rw[hh] at h3;exact absurd h3 (by decide)
 have:=cm_same hc
 rwa [tyK_get (by omega),tyK_get (by omega)] at this
theorem wd_tr {F:List Ft} {l:List Fc} {ws:List ByteArray} (hF:FaM F l) {a:Ex} (hs:sndE a=true) (h:(tyE l ws a).2.2=0):(wdB F a=true↔(tyE l ws a).1=2)∧(trB F a=true↔(tyE l ws a).1=1):=by
 obtain ⟨t1,t2,t3⟩:=ty_node hs h
 have hk:=rk_all hs
 unfold wdB trB
 by_cases k2:a.k=2
 ·obtain ⟨u1,u2⟩:=t3 k2
  rw[if_pos k2,k2,hF.has,hF.kd,u1]
  unfold nmK at u2⊢
  by_cases hh:fH l (.string a.s)=true
  ·rw[hh,if_pos rfl]
   simp
  ·rw[if_neg hh] at u2⊢
   have hh:fH l (.string a.s)=false:=by simpa using hh
   rw[hh]
   split at u2
   ·rename_i hw
    rw[if_pos hw];simp
   ·cases u2
 ·rw[if_neg k2,show (a.k==2)=false from by simpa using k2,Bool.false_and]
  by_cases k1:a.k=1∨(5≤a.k∧a.k≤11)
  ·rw[t1 k1]
   simp only[Bool.or_eq_true,dEt,bAt]
   constructor
   ·constructor
    ·intro h;cases h
    ·intro h;cases h
   ·constructor
    ·intro h;omega
    ·intro h;cases h
  ·rw[t2 (by omega)]
   simp only[Bool.or_eq_true,dEt,bAt]
   constructor
   ·constructor
    ·intro h;cases h
    ·intro h;cases h
   ·constructor
    ·intro h;trivial
    ·intro h;omega
def KnF (l:List Fc):Prop:=∀s,fH l (.string s)=true→(fM l (.string s)).kind=0∨(fM l (.string s)).kind=1∨(fM l (.string s)).kind=2
theorem ty_kd {l:List Fc} {ws:List ByteArray} (hK:KnF l) {a:Ex} (hs:sndE a=true) (h:(tyE l ws a).2.2=0):(tyE l ws a).1=0∨(tyE l ws a).1=1∨(tyE l ws a).1=2:=by
 obtain ⟨t1,t2,t3⟩:=ty_node hs h
 have hk:=rk_all hs
 by_cases k2:a.k=2
 ·obtain ⟨u1,u2⟩:=t3 k2
  rw[u1]
  unfold nmK at u2⊢
  by_cases hh:fH l (.string a.s)=true
  ·rw[if_pos hh]
   exact hK _ hh
  ·rw[if_neg hh] at u2⊢
   split at u2
   ·rename_i hw
    rw[if_pos hw];simp
   ·cases u2
 ·by_cases k1:a.k=1∨(5≤a.k∧a.k≤11)
  ·exact .inl (t1 k1)
  ·exact .inr (.inl (t2 (by omega)))
/-! The value of a truth. -/
noncomputable def orcKb (p:Bool):Oracle:=fun f a=>match f,a with
 | 82,_=>some (db p)
 | _,_=>none
noncomputable def orcKi (p:Int):Oracle:=fun f a=>match f,a with
 | 83,_=>some (di p)
 | _,_=>none
noncomputable def S47 (F:List Ft) (m:Nat) (x:Ex):AS:=⟨regs Tryz.f47.ntmps [(0,.d (evD F)),(3,.box 3 0),(4,.d (db false))],[(3,exC m x)]⟩
theorem tr_disp (F:List Ft) (Q:Exit→AS→Prop) (m:Nat) (x:Ex) (h3:x.k=3→AWP Tryz.prog G [cd Tryz.f47 [1,0,1,0,1,0],.blk 0,cd Tryz.f47 [1,1]] (S47 F m x) Q) (h4:x.k=4→AWP Tryz.prog G [cd Tryz.f47 [1,0,1,0,1,1,1,0],.blk 0,cd Tryz.f47 [1,1]] (S47 F m x) Q) (h2:x.k=2→AWP Tryz.prog G [cd Tryz.f47 [1,0,1,0,1,1,1,1,1,0],.blk 0,cd Tryz.f47 [1,1]] (S47 F m x) Q) (h18:x.k=18→AWP Tryz.prog G [cd Tryz.f47 [1,0,1,0,1,1,1,1,1,1,1,0],.blk 0,cd Tryz.f47 [1,1]] (S47 F m x) Q) (h19:x.k=19→AWP Tryz.prog G [cd Tryz.f47 [1,0,1,0,1,1,1,1,1,1,1,1,1,0],.blk 0,cd Tryz.f47 [1,1]] (S47 F m x) Q) (h20:x.k=20→AWP Tryz.prog G [cd Tryz.f47 [1,0,1,0,1,1,1,1,1,1,1,1,1,1,1,0],.blk 0,cd Tryz.f47 [1,1]] (S47 F m x) Q) (h12:x.k=12→AWP Tryz.prog G [cd Tryz.f47 [1,0,1,0,1,1,1,1,1,1,1,1,1,1,1,1,1,0],.blk 0,cd Tryz.f47 [1,1]] (S47 F m x) Q) (h13:x.k=13→AWP Tryz.prog G [cd Tryz.f47 [1,0,1,0,1,1,1,1,1,1,1,1,1,1,1,1,1,1,1,0],.blk 0,cd Tryz.f47 [1,1]] (S47 F m x) Q) (hc:x.k≠3→x.k≠4→x.k≠2→x.k≠18→x.k≠19→x.k≠20→x.k≠12→x.k≠13→AWP Tryz.prog G [cd Tryz.f47 [1,1]] (S47 F m x) Q):AWP Tryz.prog G [.code (bodyOf Tryz.f47)] (entry [evD F,exD m x] Tryz.f47.ntmps) Q:=by
 refine walkK (orc:=orcHe F) (keep:=[]) (cuts:=[3,5,7,9,11,13,15,17,18]) (n:=1000) follows ?_
 refine of_tr (fun ZT ZW ZQ _=>((((x.k==3)=true)→ZW [cd Tryz.f47 [1,0,1,0,1,0],(.blk 0),cd Tryz.f47 [1,1]] (stS ZT [0]) ZQ)∧(((x.k==3)=false)→((((x.k==4)=true)→ZW [cd Tryz.f47 [1,0,1,0,1,1,1,0],(.blk 0),cd Tryz.f47 [1,1]] (stS ZT [1,0]) ZQ)∧(((x.k==4)=false)→((((x.k==2)=true)→ZW [cd Tryz.f47 [1,0,1,0,1,1,1,1,1,0],(.blk 0),cd Tryz.f47 [1,1]] (stS ZT [1,1,0]) ZQ)∧(((x.k==2)=false)→((((x.k==18)=true)→ZW [cd Tryz.f47 [1,0,1,0,1,1,1,1,1,1,1,0],(.blk 0),cd Tryz.f47 [1,1]] (stS ZT [1,1,1,0]) ZQ)∧(((x.k==18)=false)→((((x.k==19)=true)→ZW [cd Tryz.f47 [1,0,1,0,1,1,1,1,1,1,1,1,1,0],(.blk 0),cd Tryz.f47 [1,1]] (stS ZT [1,1,1,1,0]) ZQ)∧(((x.k==19)=false)→((((x.k==20)=true)→ZW [cd Tryz.f47 [1,0,1,0,1,1,1,1,1,1,1,1,1,1,1,0],(.blk 0),cd Tryz.f47 [1,1]] (stS ZT [1,1,1,1,1,0]) ZQ)∧(((x.k==20)=false)→((((x.k==12)=true)→ZW [cd Tryz.f47 [1,0,1,0,1,1,1,1,1,1,1,1,1,1,1,1,1,0],(.blk 0),cd Tryz.f47 [1,1]] (stS ZT [1,1,1,1,1,1,0]) ZQ)∧(((x.k==12)=false)→((((x.k==13)=true)→ZW [cd Tryz.f47 [1,0,1,0,1,1,1,1,1,1,1,1,1,1,1,1,1,1,1,0],(.blk 0),cd Tryz.f47 [1,1]] (stS ZT [1,1,1,1,1,1,1,0]) ZQ)∧(((x.k==13)=false)→ZW [cd Tryz.f47 [1,1]] (stS ZT [1,1,1,1,1,1,1,1]) ZQ))))))))))))))))) (by kernel_rfl) ?_
 refine⟨fun h3'=>AWP.weaken ?_ (h3 (eq_of_beq h3')),fun n3=>⟨fun h4'=>AWP.weaken ?_ (h4 (eq_of_beq h4')),fun n4=>⟨fun h2'=>AWP.weaken ?_ (h2 (eq_of_beq h2')),fun n2=>⟨fun h18'=>AWP.weaken ?_ (h18 (eq_of_beq h18')),fun n18=>⟨fun h19'=>AWP.weaken ?_ (h19 (eq_of_beq h19')),fun n19=>⟨fun h20'=>AWP.weaken ?_ (h20 (eq_of_beq h20')),fun n20=>⟨fun h12'=>AWP.weaken ?_ (h12 (eq_of_beq h12')),fun n12=>⟨fun h13'=>AWP.weaken ?_ (h13 (eq_of_beq h13')),fun n13=>AWP.weaken ?_ (hc (beq_eq_false_iff_ne.1 n3) (beq_eq_false_iff_ne.1 n4) (beq_eq_false_iff_ne.1 n2) (beq_eq_false_iff_ne.1 n18) (beq_eq_false_iff_ne.1 n19) (beq_eq_false_iff_ne.1 n20) (beq_eq_false_iff_ne.1 n12) (beq_eq_false_iff_ne.1 n13))⟩⟩⟩⟩⟩⟩⟩⟩
 ·exact AS.leA (by kernel_rfl)
 ·exact AS.leA (by kernel_rfl)
 ·exact AS.leA (by kernel_rfl)
 ·exact AS.leA (by kernel_rfl)
 ·exact AS.leA (by kernel_rfl)
 ·exact AS.leA (by kernel_rfl)
 ·exact AS.leA (by kernel_rfl)
 ·exact AS.leA (by kernel_rfl)
 ·exact AS.leA (by kernel_rfl)
section
variable {F:List Ft} {m:Nat} {x:Ex}
theorem tr_3:AWP Tryz.prog G [cd Tryz.f47 [1,0,1,0,1,0],.blk 0,cd Tryz.f47 [1,1]] (S47 F m x) (Ret Tryz.prog Tryz.f47 (db true)):=by
 refine walkK (orc:=orcHe F) (keep:=[]) (cuts:=[]) (n:=1000) follows ?_
 refine of_tr (fun _ _ _ _=>(ZS ((db true):DV))) (by kernel_rfl) ?_
 rfl
theorem tr_4:AWP Tryz.prog G [cd Tryz.f47 [1,0,1,0,1,1,1,0],.blk 0,cd Tryz.f47 [1,1]] (S47 F m x) (Ret Tryz.prog Tryz.f47 (db false)):=by
 refine walkK (orc:=orcHe F) (keep:=[]) (cuts:=[]) (n:=1000) follows ?_
 refine of_tr (fun _ _ _ _=>(ZS ((db false):DV))) (by kernel_rfl) ?_
 rfl
theorem tr_2:AWP Tryz.prog G [cd Tryz.f47 [1,0,1,0,1,1,1,1,1,0],.blk 0,cd Tryz.f47 [1,1]] (S47 F m x) (Ret Tryz.prog Tryz.f47 (db (tM F (.string x.s)).tr)):=by
 refine walkK (orc:=orcHe F) (keep:=[]) (cuts:=[]) (n:=1000) follows ?_
 refine of_tr (fun _ _ _ _=>((((tH F (Value.string x.s))=false)→((DV.agg (List.map DV.con [Value.string (ByteArray.mk #[]),Value.int IntKind.i64 0,Value.int IntKind.i64 0,Value.int IntKind.i64 0,Value.bool false,Value.string (ByteArray.mk #[])])).imp (tV F (Value.string x.s))))∧(ZS ((db (tM F (Value.string x.s)).tr):DV)))) (by kernel_rfl) ?_
 exact⟨fun h=>tz_imp h,rfl⟩
theorem bvD_of {F:List Ft} {a:Ex} {p:Bool} (h:bvE F a=some p):bvD F a=p:=by unfold bvD;rw[h];rfl
theorem bv_ne {F:List Ft} {a:Ex} {p:Bool} (h:bvE F a=some p):bvE F a≠none:=by rw[h];exact fun h=>by cases h
variable (hx:ht x≤m)
include hx
theorem tr_18 (h1:x.kids.length=1) (b0:BvOK G F (kidA m x 0) (x.kids.getD 0 ex0)) :
  (∀p,bvE F (x.kids.getD 0 ex0)=some p→AWP Tryz.prog G [cd Tryz.f47 [1,0,1,0,1,1,1,1,1,1,1,0],.blk 0,cd Tryz.f47 [1,1]] (S47 F m x) (Ret Tryz.prog Tryz.f47 (db (!p))))∧
  (bvE F (x.kids.getD 0 ex0)=none→AWP Tryz.prog G [cd Tryz.f47 [1,0,1,0,1,1,1,1,1,1,1,0],.blk 0,cd Tryz.f47 [1,1]] (S47 F m x) fun e _=>e=.panic (pch noV)):=by
 have e0:rdE (kidA m x 0)=x.kids.getD 0 ex0:=kid_rd hx (by omega)
 constructor
 ·intro p hp
  refine walkK (orc:=orcHe F) (keep:=[]) (cuts:=[]) (n:=1000) follows ?_
  refine of_tr (fun _ _ _ ZK=>(fun Za=>(((((0:Int)≤(0:Int))∧(0<(↑x.kids.length:Int)))∧ZK 47 [(.ptr [(.mp none (tV F) (tH F))]),Za] (db (bvD F (rdE Za))))∧((db (!bvD F (rdE Za))):DV)=(db !p))) (ndA m (x.kids.getD (Int.toNat 0) ex0))) (by kernel_rfl) ?_
  simp only[Int.toNat_zero,e0]
  exact⟨⟨⟨by omega,by omega⟩,b0.get (bv_ne hp)⟩,by rw[bvD_of hp]⟩
 ·intro hn
  refine AWP.panic follows (orcHe F) 5 (pv:=noV) ?_ rfl
  refine of_tr (fun _ _ _ _=>(((((0:Int)≤(0:Int))∧(0<(↑x.kids.length:Int)))∧FnP Tryz.prog G 47 [(.ptr [(.mp none (tV F) (tH F))]),(ndA m (x.kids.getD (Int.toNat 0) ex0))] noV)∧True)) (by kernel_rfl) ?_
  exact⟨⟨⟨by omega,by omega⟩,b0.2 hn⟩,trivial⟩
theorem tr_19 (h1:x.kids.length=2) (b0:BvOK G F (kidA m x 0) (x.kids.getD 0 ex0)) (b1:BvOK G F (kidA m x 1) (x.kids.getD 1 ex0)) :
  (∀p,bvE F (x.kids.getD 0 ex0)=some p→(p=true→bvE F (x.kids.getD 1 ex0)≠none)→AWP Tryz.prog G [cd Tryz.f47 [1,0,1,0,1,1,1,1,1,1,1,1,1,0],.blk 0,cd Tryz.f47 [1,1]] (S47 F m x) (Ret Tryz.prog Tryz.f47 (db (p&&bvD F (x.kids.getD 1 ex0)))))∧
  (bvE F (x.kids.getD 0 ex0)=none∨(bvE F (x.kids.getD 0 ex0)=some true∧bvE F (x.kids.getD 1 ex0)=none)→AWP Tryz.prog G [cd Tryz.f47 [1,0,1,0,1,1,1,1,1,1,1,1,1,0],.blk 0,cd Tryz.f47 [1,1]] (S47 F m x) fun e _=>e=.panic (pch noV)):=by
 have e0:rdE (kidA m x 0)=x.kids.getD 0 ex0:=kid_rd hx (by omega)
 have e1:rdE (kidA m x 1)=x.kids.getD 1 ex0:=kid_rd hx (by omega)
 have t1:Int.toNat 1=1:=rfl
 constructor
 ·intro p hp hq
  refine walkK (orc:=orcHe F) (keep:=[]) (cuts:=[]) (n:=1000) follows ?_
  refine of_tr (fun _ _ _ ZK=>(fun Za Zb=>(((((0:Int)≤(0:Int))∧(0<(↑x.kids.length:Int)))∧ZK 47 [(.ptr [(.mp none (tV F) (tH F))]),Za] (db (bvD F (rdE Za)))∧(((bvD F (rdE Za))=true)→(((0:Int)≤(1:Int))∧(1<(↑x.kids.length:Int))))∧(((bvD F (rdE Za))=true)→ZK 47 [(.ptr [(.mp none (tV F) (tH F))]),Zb] (db (bvD F (rdE Zb)))))∧((db (bvD F (rdE Za)&&bvD F (rdE Zb))):DV)=(db (p&&bvD F (x.kids.getD 1 ex0))))) (ndA m (x.kids.getD (Int.toNat 0) ex0)) (ndA m (x.kids.getD (Int.toNat 1) ex0))) (by kernel_rfl) ?_
  simp only[Int.toNat_zero,t1,e0,e1,bvD_of hp]
  exact⟨⟨⟨by omega,by omega⟩,bvD_of hp▸b0.get (bv_ne hp),fun _=>⟨by omega,by omega⟩,fun h=>b1.get (hq (by simpa using h))⟩,trivial⟩
 ·rintro (hn|⟨hp,hn⟩)
  ·refine AWP.panic follows (orcHe F) 5 (pv:=noV) ?_ rfl
   refine of_tr (fun _ _ _ _=>(((((0:Int)≤(0:Int))∧(0<(↑x.kids.length:Int)))∧FnP Tryz.prog G 47 [(.ptr [(.mp none (tV F) (tH F))]),(ndA m (x.kids.getD (Int.toNat 0) ex0))] noV)∧True)) (by kernel_rfl) ?_
   exact⟨⟨⟨by omega,by omega⟩,b0.2 hn⟩,trivial⟩
  ·refine AWP.panic follows (orcHe F) 12 (pv:=noV) ?_ rfl
   refine of_tr (fun _ _ _ ZK=>(fun Za=>(((((0:Int)≤(0:Int))∧(0<(↑x.kids.length:Int)))∧ZK 47 [(.ptr [(.mp none (tV F) (tH F))]),Za] (db (bvD F (rdE Za)))∧(((bvD F (rdE Za))=true)→(((0:Int)≤(1:Int))∧(1<(↑x.kids.length:Int))))∧(bvD F (rdE Za))=true∧FnP Tryz.prog G 47 [(.ptr [(.mp none (tV F) (tH F))]),(ndA m (x.kids.getD (Int.toNat 1) ex0))] noV)∧True)) (ndA m (x.kids.getD (Int.toNat 0) ex0))) (by kernel_rfl) ?_
   simp only[Int.toNat_zero,t1,e0,bvD_of hp]
   exact⟨⟨⟨by omega,by omega⟩,bvD_of hp▸b0.get (bv_ne hp),fun _=>⟨by omega,by omega⟩,by first|trivial|rfl,b1.2 hn⟩,trivial⟩
theorem tr_20 (h1:x.kids.length=2) (b0:BvOK G F (kidA m x 0) (x.kids.getD 0 ex0)) (b1:BvOK G F (kidA m x 1) (x.kids.getD 1 ex0)) :
  (∀p,bvE F (x.kids.getD 0 ex0)=some p→(p=false→bvE F (x.kids.getD 1 ex0)≠none)→AWP Tryz.prog G [cd Tryz.f47 [1,0,1,0,1,1,1,1,1,1,1,1,1,1,1,0],.blk 0,cd Tryz.f47 [1,1]] (S47 F m x) (Ret Tryz.prog Tryz.f47 (db (p||bvD F (x.kids.getD 1 ex0)))))∧
  (bvE F (x.kids.getD 0 ex0)=none∨(bvE F (x.kids.getD 0 ex0)=some false∧bvE F (x.kids.getD 1 ex0)=none)→AWP Tryz.prog G [cd Tryz.f47 [1,0,1,0,1,1,1,1,1,1,1,1,1,1,1,0],.blk 0,cd Tryz.f47 [1,1]] (S47 F m x) fun e _=>e=.panic (pch noV)):=by
 have e0:rdE (kidA m x 0)=x.kids.getD 0 ex0:=kid_rd hx (by omega)
 have e1:rdE (kidA m x 1)=x.kids.getD 1 ex0:=kid_rd hx (by omega)
 have t1:Int.toNat 1=1:=rfl
 constructor
 ·intro p hp hq
  refine walkK (orc:=orcHe F) (keep:=[]) (cuts:=[]) (n:=1000) follows ?_
  refine of_tr (fun _ _ _ ZK=>(fun Za Zb=>(((((0:Int)≤(0:Int))∧(0<(↑x.kids.length:Int)))∧ZK 47 [(.ptr [(.mp none (tV F) (tH F))]),Za] (db (bvD F (rdE Za)))∧(((!bvD F (rdE Za))=true)→(((0:Int)≤(1:Int))∧(1<(↑x.kids.length:Int))))∧(((!bvD F (rdE Za))=true)→ZK 47 [(.ptr [(.mp none (tV F) (tH F))]),Zb] (db (bvD F (rdE Zb)))))∧((db (bvD F (rdE Za)||bvD F (rdE Zb))):DV)=(db (p||bvD F (x.kids.getD 1 ex0))))) (ndA m (x.kids.getD (Int.toNat 0) ex0)) (ndA m (x.kids.getD (Int.toNat 1) ex0))) (by kernel_rfl) ?_
  simp only[Int.toNat_zero,t1,e0,e1,bvD_of hp]
  exact⟨⟨⟨by omega,by omega⟩,bvD_of hp▸b0.get (bv_ne hp),fun _=>⟨by omega,by omega⟩,fun h=>b1.get (hq (by simpa using h))⟩,trivial⟩
 ·rintro (hn|⟨hp,hn⟩)
  ·refine AWP.panic follows (orcHe F) 5 (pv:=noV) ?_ rfl
   refine of_tr (fun _ _ _ _=>(((((0:Int)≤(0:Int))∧(0<(↑x.kids.length:Int)))∧FnP Tryz.prog G 47 [(.ptr [(.mp none (tV F) (tH F))]),(ndA m (x.kids.getD (Int.toNat 0) ex0))] noV)∧True)) (by kernel_rfl) ?_
   exact⟨⟨⟨by omega,by omega⟩,b0.2 hn⟩,trivial⟩
  ·refine AWP.panic follows (orcHe F) 12 (pv:=noV) ?_ rfl
   refine of_tr (fun _ _ _ ZK=>(fun Za=>(((((0:Int)≤(0:Int))∧(0<(↑x.kids.length:Int)))∧ZK 47 [(.ptr [(.mp none (tV F) (tH F))]),Za] (db (bvD F (rdE Za)))∧(((!bvD F (rdE Za))=true)→(((0:Int)≤(1:Int))∧(1<(↑x.kids.length:Int))))∧(!bvD F (rdE Za))=true∧FnP Tryz.prog G 47 [(.ptr [(.mp none (tV F) (tH F))]),(ndA m (x.kids.getD (Int.toNat 1) ex0))] noV)∧True)) (ndA m (x.kids.getD (Int.toNat 0) ex0))) (by kernel_rfl) ?_
   simp only[Int.toNat_zero,t1,e0,bvD_of hp]
   exact⟨⟨⟨by omega,by omega⟩,bvD_of hp▸b0.get (bv_ne hp),fun _=>⟨by omega,by omega⟩,by first|trivial|rfl,b1.2 hn⟩,trivial⟩
theorem tr_12 (h1:x.kids.length=2) {ov:Option Bool} (H:(∀c,ov=some c→FnOK Tryz.prog G 82 [evD F,kidA m x 0,kidA m x 1] (db c))∧(ov=none→FnP Tryz.prog G 82 [evD F,kidA m x 0,kidA m x 1] noV)) :
  (∀p,ov=some p→AWP Tryz.prog G [cd Tryz.f47 [1,0,1,0,1,1,1,1,1,1,1,1,1,1,1,1,1,0],.blk 0,cd Tryz.f47 [1,1]] (S47 F m x) (Ret Tryz.prog Tryz.f47 (db (p))))∧
  (ov=none→AWP Tryz.prog G [cd Tryz.f47 [1,0,1,0,1,1,1,1,1,1,1,1,1,1,1,1,1,0],.blk 0,cd Tryz.f47 [1,1]] (S47 F m x) fun e _=>e=.panic (pch noV)):=by
 have _:=hx
 clear hx
 constructor
 ·intro p hp
  refine walkK (orc:=orcKb p) (keep:=[]) (cuts:=[]) (n:=1000) follows ?_
  refine of_tr (fun _ _ _ ZK=>(((((0:Int)≤(0:Int))∧(0<(↑x.kids.length:Int)))∧(((0:Int)≤(1:Int))∧(1<(↑x.kids.length:Int)))∧ZK 82 [(.ptr [(.mp none (tV F) (tH F))]),(ndA m (x.kids.getD (Int.toNat 0) ex0)),(ndA m (x.kids.getD (Int.toNat 1) ex0))] (db p))∧(ZS ((db p):DV)))) (by kernel_rfl) ?_
  exact⟨⟨⟨by omega,by omega⟩,⟨by omega,by omega⟩,H.1 p hp⟩,rfl⟩
 ·intro hn
  refine AWP.panic follows (orcHe F) 9 (pv:=noV) ?_ rfl
  refine of_tr (fun _ _ _ _=>(((((0:Int)≤(0:Int))∧(0<(↑x.kids.length:Int)))∧(((0:Int)≤(1:Int))∧(1<(↑x.kids.length:Int)))∧FnP Tryz.prog G 82 [(.ptr [(.mp none (tV F) (tH F))]),(ndA m (x.kids.getD (Int.toNat 0) ex0)),(ndA m (x.kids.getD (Int.toNat 1) ex0))] noV)∧True)) (by kernel_rfl) ?_
  exact⟨⟨⟨by omega,by omega⟩,⟨by omega,by omega⟩,H.2 hn⟩,trivial⟩
theorem tr_13 (h1:x.kids.length=2) {ov:Option Bool} (H:(∀c,ov=some c→FnOK Tryz.prog G 82 [evD F,kidA m x 0,kidA m x 1] (db c))∧(ov=none→FnP Tryz.prog G 82 [evD F,kidA m x 0,kidA m x 1] noV)) :
  (∀p,ov=some p→AWP Tryz.prog G [cd Tryz.f47 [1,0,1,0,1,1,1,1,1,1,1,1,1,1,1,1,1,1,1,0],.blk 0,cd Tryz.f47 [1,1]] (S47 F m x) (Ret Tryz.prog Tryz.f47 (db (!p))))∧
  (ov=none→AWP Tryz.prog G [cd Tryz.f47 [1,0,1,0,1,1,1,1,1,1,1,1,1,1,1,1,1,1,1,0],.blk 0,cd Tryz.f47 [1,1]] (S47 F m x) fun e _=>e=.panic (pch noV)):=by
 have _:=hx
 clear hx
 constructor
 ·intro p hp
  refine walkK (orc:=orcKb p) (keep:=[]) (cuts:=[]) (n:=1000) follows ?_
  refine of_tr (fun _ _ _ ZK=>(((((0:Int)≤(0:Int))∧(0<(↑x.kids.length:Int)))∧(((0:Int)≤(1:Int))∧(1<(↑x.kids.length:Int)))∧ZK 82 [(.ptr [(.mp none (tV F) (tH F))]),(ndA m (x.kids.getD (Int.toNat 0) ex0)),(ndA m (x.kids.getD (Int.toNat 1) ex0))] (db p))∧(ZS ((db !p):DV)))) (by kernel_rfl) ?_
  exact⟨⟨⟨by omega,by omega⟩,⟨by omega,by omega⟩,H.1 p hp⟩,rfl⟩
 ·intro hn
  refine AWP.panic follows (orcHe F) 9 (pv:=noV) ?_ rfl
  refine of_tr (fun _ _ _ _=>(((((0:Int)≤(0:Int))∧(0<(↑x.kids.length:Int)))∧(((0:Int)≤(1:Int))∧(1<(↑x.kids.length:Int)))∧FnP Tryz.prog G 82 [(.ptr [(.mp none (tV F) (tH F))]),(ndA m (x.kids.getD (Int.toNat 0) ex0)),(ndA m (x.kids.getD (Int.toNat 1) ex0))] noV)∧True)) (by kernel_rfl) ?_
  exact⟨⟨⟨by omega,by omega⟩,⟨by omega,by omega⟩,H.2 hn⟩,trivial⟩
theorem tr_c (h1:x.kids.length=2) {ov:Option Int} (H:(∀c,ov=some c→FnOK Tryz.prog G 83 [evD F,kidA m x 0,kidA m x 1] (di c))∧(ov=none→FnP Tryz.prog G 83 [evD F,kidA m x 0,kidA m x 1] noV)) :
  (∀c,ov=some c→AWP Tryz.prog G [cd Tryz.f47 [1,1]] (S47 F m x) (Ret Tryz.prog Tryz.f47 (db (if x.k=14 then decide (c<0) else if x.k=15 then decide (c≤0) else if x.k=16 then decide (c>0) else decide (c≥0)))))∧
  (ov=none→AWP Tryz.prog G [cd Tryz.f47 [1,1]] (S47 F m x) fun e _=>e=.panic (pch noV)):=by
 have _:=hx
 clear hx
 constructor
 ·intro p hp
  refine walkK (orc:=orcKi p) (keep:=[]) (cuts:=[]) (n:=1000) follows ?_
  refine of_tr (fun _ _ _ ZK=>(((((0:Int)≤(0:Int))∧(0<(↑x.kids.length:Int)))∧(((0:Int)≤(1:Int))∧(1<(↑x.kids.length:Int)))∧ZK 83 [(.ptr [(.mp none (tV F) (tH F))]),(ndA m (x.kids.getD (Int.toNat 0) ex0)),(ndA m (x.kids.getD (Int.toNat 1) ex0))] (di p))∧(((x.k==14)=true)→(((db (decide (p<0))):DV)=(db (if x.k=14 then decide (p<0) else if x.k=15 then decide (p≤0) else if x.k=16 then decide (p>0) else decide (p≥0)))))∧(((x.k==14)=false)→((((x.k==15)=true)→(((db (decide (p≤0))):DV)=(db (if x.k=14 then decide (p<0) else if x.k=15 then decide (p≤0) else if x.k=16 then decide (p>0) else decide (p≥0)))))∧(((x.k==15)=false)→((((x.k==16)=true)→(((db (decide (p>0))):DV)=(db (if x.k=14 then decide (p<0) else if x.k=15 then decide (p≤0) else if x.k=16 then decide (p>0) else decide (p≥0)))))∧(((x.k==16)=false)→(((db (decide (p≥0))):DV)=(db (if x.k=14 then decide (p<0) else if x.k=15 then decide (p≤0) else if x.k=16 then decide (p>0) else decide (p≥0))))))))))) (by kernel_rfl) ?_
  refine⟨⟨⟨by omega,by omega⟩,⟨by omega,by omega⟩,H.1 p hp⟩,fun h=>?_,fun h=>⟨fun h2=>?_,fun h2=>⟨fun h3=>?_,fun h3=>?_⟩⟩⟩
  ·rw[if_pos (eq_of_beq h)]
  ·rw[if_neg (beq_eq_false_iff_ne.1 h),if_pos (eq_of_beq h2)]
  ·rw[if_neg (beq_eq_false_iff_ne.1 h),if_neg (beq_eq_false_iff_ne.1 h2),if_pos (eq_of_beq h3)]
  ·rw[if_neg (beq_eq_false_iff_ne.1 h),if_neg (beq_eq_false_iff_ne.1 h2),if_neg (beq_eq_false_iff_ne.1 h3)]
 ·intro hn
  refine AWP.panic follows (orcHe F) 9 (pv:=noV) ?_ rfl
  refine of_tr (fun _ _ _ _=>(((((0:Int)≤(0:Int))∧(0<(↑x.kids.length:Int)))∧(((0:Int)≤(1:Int))∧(1<(↑x.kids.length:Int)))∧FnP Tryz.prog G 83 [(.ptr [(.mp none (tV F) (tH F))]),(ndA m (x.kids.getD (Int.toNat 0) ex0)),(ndA m (x.kids.getD (Int.toNat 1) ex0))] noV)∧True)) (by kernel_rfl) ?_
  exact⟨⟨⟨by omega,by omega⟩,⟨by omega,by omega⟩,H.2 hn⟩,trivial⟩
end
theorem f47 {F:List Ft} {l:List Fc} {ws:List ByteArray} (hF:FaM F l) (hK:KnF l) (m:Nat):∀(x:Ex),ht x≤m→Sm x→sndE x=true→(tyE l ws x).2.2=0→(tyE l ws x).1=1→BvOK G F (exD m x) x:=by
 induction m using Nat.strongRecOn with
 | _ m ih=>
 intro x hx hs hsn h2 h1
 have hlen:=hs.len.1
 obtain ⟨t1,t2,t3⟩:=ty_node hsn h2
 have hk:=rk_all hsn
 have hkk:x.k=2∨x.k=3∨x.k=4∨12≤x.k:=by
  refine Classical.byContradiction fun hn=>?_
  rw[t1 (by omega)] at h1;cases h1
 have one:=fun h=>snd_one (x:=x) hsn (.inr h)
 have two:=fun h=>(snd_two (x:=x) hsn h).1
 have ev:=bvE_eq F x
 -- the operands
 have kid:∀i,i<x.kids.length→(tyE l ws (x.kids.getD i ex0)).1=1→BvOK G F (kidA m x i) (x.kids.getD i ex0):=fun i hi ht1=>
  kidOK (Q:=fun d=>BvOK G F d (x.kids.getD i ex0)) hx hi fun m' h3 h4=>ih m' h3 _ h4 (hs.kid hi) (snd_kid hsn hi) ((tyE_fine h2).1 i hi) ht1
 have kidN:∀i,i<x.kids.length→(tyE l ws (x.kids.getD i ex0)).1=0→NuOK G F (kidA m x i) (x.kids.getD i ex0):=fun i hi ht1=>
  kidOK (Q:=fun d=>NuOK G F d (x.kids.getD i ex0)) hx hi fun m' h3 h4=>f46 hF.num m' _ h4 (hs.kid hi) (snd_kid hsn hi) ((tyE_fine h2).1 i hi) ht1
 have g0:∀i,i<x.kids.length→(bvL F x.kids).getD i none=bvE F (x.kids.getD i ex0):=fun i hi=>bvL_get F _ i hi
 have E82:x.k=12∨x.k=13→x.kids.length=2∧((∀c,eqE F (bvE F (x.kids.getD 0 ex0)) (bvE F (x.kids.getD 1 ex0)) (x.kids.getD 0 ex0) (x.kids.getD 1 ex0)=some c→FnOK Tryz.prog G 82 [evD F,kidA m x 0,kidA m x 1] (db c))∧(eqE F (bvE F (x.kids.getD 0 ex0)) (bvE F (x.kids.getD 1 ex0)) (x.kids.getD 0 ex0) (x.kids.getD 1 ex0)=none→FnP Tryz.prog G 82 [evD F,kidA m x 0,kidA m x 1] noV)):=fun hc=>by
  have hl:=two (by omega)
  have hh0:=ht_kid (x:=x) (i:=0) (by omega)
  have hh1:=ht_kid (x:=x) (i:=1) (by omega)
  obtain ⟨m',rfl⟩:∃m',m=m'+1:=⟨m-1,by omega⟩
  have hty:=ty_eq hsn h2 hc
  have s0:=snd_kid (x:=x) hsn (i:=0) (by omega)
  have s1:=snd_kid (x:=x) hsn (i:=1) (by omega)
  have f0:=(tyE_fine h2).1 0 (by omega)
  have f1:=(tyE_fine h2).1 1 (by omega)
  obtain ⟨w0,r0⟩:=wd_tr hF s0 f0
  refine⟨hl,f82 F m' m' (x.kids.getD 0 ex0) (x.kids.getD 1 ex0) (by omega) (by omega) ⟨fun hw htr=>?_,fun hw htr=>?_⟩⟩
  ·have:=r0.1 htr
   exact⟨kid 0 (by omega) this,kid 1 (by omega) (by rw[←hty];exact this)⟩
  ·have:(tyE l ws (x.kids.getD 0 ex0)).1=0:=by
    rcases ty_kd hK s0 f0 with h|h|h
    ·exact h
    ·rw[r0.2 h] at htr;cases htr
    ·rw[w0.2 h] at hw;cases hw
   exact⟨kidN 0 (by omega) this,kidN 1 (by omega) (by rw[←hty];exact this)⟩
 have E83:14≤x.k∧x.k≤17→x.kids.length=2∧((∀c,cvE F (x.kids.getD 0 ex0) (x.kids.getD 1 ex0)=some c→FnOK Tryz.prog G 83 [evD F,kidA m x 0,kidA m x 1] (di c))∧(cvE F (x.kids.getD 0 ex0) (x.kids.getD 1 ex0)=none→FnP Tryz.prog G 83 [evD F,kidA m x 0,kidA m x 1] noV)):=fun hc=>by
  have hl:=two (by omega)
  have hh0:=ht_kid (x:=x) (i:=0) (by omega)
  have hh1:=ht_kid (x:=x) (i:=1) (by omega)
  obtain ⟨m',rfl⟩:∃m',m=m'+1:=⟨m-1,by omega⟩
  have ty0:=(ty_kids h2).1 (.inr hc)
  exact⟨hl,f83 F m' m' (x.kids.getD 0 ex0) (x.kids.getD 1 ex0) (by omega) (by omega) (kidN 0 (by omega) (ty0 0 (by omega))) (kidN 1 (by omega) (ty0 1 (by omega)))⟩
 have ty1:18≤x.k→∀i,i<x.kids.length→BvOK G F (kidA m x i) (x.kids.getD i ex0):=fun h i hi=>kid i hi ((ty_kids h2).2 h i hi)
 -- both ends of the walk
 constructor
 ·intro b hb
  rw[ev] at hb
  unfold bvK at hb
  refine FnOK.of_body Tryz.func47 rfl Tryz.call47 (tr_disp F _ m x (fun k3=>?_) (fun k4=>?_) (fun k2=>?_) (fun k18=>?_) (fun k19=>?_) (fun k20=>?_) (fun k12=>?_) (fun k13=>?_) (fun n3 n4 n2 n18 n19 n20 n12 n13=>?_))
  ·rw[if_pos k3] at hb;obtain rfl:=Option.some.inj hb;exact tr_3
  ·rw[if_neg (by omega),if_pos k4] at hb;obtain rfl:=Option.some.inj hb;exact tr_4
  ·rw[if_neg (by omega),if_neg (by omega),if_pos k2] at hb;obtain rfl:=Option.some.inj hb;exact tr_2
  ·have hl:=one k18
   rw[if_neg (by omega),if_neg (by omega),if_neg (by omega),if_pos k18,g0 0 (by omega)] at hb
   cases hv:bvE F (x.kids.getD 0 ex0) with
   | none=>rw[hv] at hb;cases hb
   | some p=>
    rw[hv] at hb
    obtain rfl:=Option.some.inj hb
    exact(tr_18 hx hl (ty1 (by omega) 0 (by omega))).1 p hv
  ·have hl:=two (by omega)
   rw[if_neg (by omega),if_neg (by omega),if_neg (by omega),if_neg (by omega),if_pos k19,g0 0 (by omega),g0 1 (by omega)] at hb
   cases hv:bvE F (x.kids.getD 0 ex0) with
   | none=>rw[hv] at hb;cases hb
   | some p=>
    rw[hv] at hb
    cases p with
    | false=>
     obtain rfl:=Option.some.inj hb
     exact(tr_19 hx hl (ty1 (by omega) 0 (by omega)) (ty1 (by omega) 1 (by omega))).1 false hv fun h=>by cases h
    | true=>
     have hb:bvE F (x.kids.getD 1 ex0)=some b:=hb
     have:=(tr_19 (G:=G) hx hl (ty1 (by omega) 0 (by omega)) (ty1 (by omega) 1 (by omega))).1 true hv fun _=>bv_ne hb
     rw[bvD_of hb,Bool.true_and] at this
     exact this
  ·have hl:=two (by omega)
   rw[if_neg (by omega),if_neg (by omega),if_neg (by omega),if_neg (by omega),if_neg (by omega),if_pos k20,g0 0 (by omega),g0 1 (by omega)] at hb
   cases hv:bvE F (x.kids.getD 0 ex0) with
   | none=>rw[hv] at hb;cases hb
   | some p=>
    rw[hv] at hb
    cases p with
    | true=>
     obtain rfl:=Option.some.inj hb
     exact(tr_20 hx hl (ty1 (by omega) 0 (by omega)) (ty1 (by omega) 1 (by omega))).1 true hv fun h=>by cases h
    | false=>
     have hb:bvE F (x.kids.getD 1 ex0)=some b:=hb
     have:=(tr_20 (G:=G) hx hl (ty1 (by omega) 0 (by omega)) (ty1 (by omega) 1 (by omega))).1 false hv fun _=>bv_ne hb
     rw[bvD_of hb,Bool.false_or] at this
     exact this
  ·obtain ⟨hl,H⟩:=E82 (.inl k12)
   rw[if_neg (by omega),if_neg (by omega),if_neg (by omega),if_neg (by omega),if_neg (by omega),if_neg (by omega),if_pos k12,g0 0 (by omega),g0 1 (by omega)] at hb
   exact(tr_12 hx hl H).1 b hb
  ·obtain ⟨hl,H⟩:=E82 (.inr k13)
   rw[if_neg (by omega),if_neg (by omega),if_neg (by omega),if_neg (by omega),if_neg (by omega),if_neg (by omega),if_neg (by omega),if_pos k13,g0 0 (by omega),g0 1 (by omega)] at hb
   split at hb
   ·cases hb
   ·rename_i p hp
    obtain rfl:=Option.some.inj hb
    exact(tr_13 hx hl H).1 p hp
  ·obtain ⟨hl,H⟩:=E83 (by omega)
   rw[if_neg (by omega),if_neg (by omega),if_neg (by omega),if_neg (by omega),if_neg (by omega),if_neg (by omega),if_neg (by omega),if_neg (by omega)] at hb
   split at hb
   ·cases hb
   ·rename_i c hc
    obtain rfl:=Option.some.inj hb
    exact(tr_c hx hl H).1 c hc
 ·intro hb
  rw[ev] at hb
  unfold bvK at hb
  refine FnP.of_body Tryz.func47 rfl Tryz.call47 (tr_disp F _ m x (fun k3=>?_) (fun k4=>?_) (fun k2=>?_) (fun k18=>?_) (fun k19=>?_) (fun k20=>?_) (fun k12=>?_) (fun k13=>?_) (fun n3 n4 n2 n18 n19 n20 n12 n13=>?_))
  ·rw[if_pos k3] at hb;cases hb
  ·rw[if_neg (by omega),if_pos k4] at hb;cases hb
  ·rw[if_neg (by omega),if_neg (by omega),if_pos k2] at hb;cases hb
  ·have hl:=one k18
   rw[if_neg (by omega),if_neg (by omega),if_neg (by omega),if_pos k18,g0 0 (by omega)] at hb
   cases hv:bvE F (x.kids.getD 0 ex0) with
   | none=>exact(tr_18 hx hl (ty1 (by omega) 0 (by omega))).2 hv
   | some p=>rw[hv] at hb;cases hb
  ·have hl:=two (by omega)
   rw[if_neg (by omega),if_neg (by omega),if_neg (by omega),if_neg (by omega),if_pos k19,g0 0 (by omega),g0 1 (by omega)] at hb
   refine(tr_19 hx hl (ty1 (by omega) 0 (by omega)) (ty1 (by omega) 1 (by omega))).2 ?_
   cases hv:bvE F (x.kids.getD 0 ex0) with
   | none=>exact .inl rfl
   | some p=>
    rw[hv] at hb
    cases p with
    | false=>cases hb
    | true=>exact .inr ⟨rfl,hb⟩
  ·have hl:=two (by omega)
   rw[if_neg (by omega),if_neg (by omega),if_neg (by omega),if_neg (by omega),if_neg (by omega),if_pos k20,g0 0 (by omega),g0 1 (by omega)] at hb
   refine(tr_20 hx hl (ty1 (by omega) 0 (by omega)) (ty1 (by omega) 1 (by omega))).2 ?_
   cases hv:bvE F (x.kids.getD 0 ex0) with
   | none=>exact .inl rfl
   | some p=>
    rw[hv] at hb
    cases p with
    | true=>cases hb
    | false=>exact .inr ⟨rfl,hb⟩
  ·obtain ⟨hl,H⟩:=E82 (.inl k12)
   rw[if_neg (by omega),if_neg (by omega),if_neg (by omega),if_neg (by omega),if_neg (by omega),if_neg (by omega),if_pos k12,g0 0 (by omega),g0 1 (by omega)] at hb
   exact(tr_12 hx hl H).2 hb
  ·obtain ⟨hl,H⟩:=E82 (.inr k13)
   rw[if_neg (by omega),if_neg (by omega),if_neg (by omega),if_neg (by omega),if_neg (by omega),if_neg (by omega),if_neg (by omega),if_pos k13,g0 0 (by omega),g0 1 (by omega)] at hb
   refine(tr_13 hx hl H).2 ?_
   split at hb
   ·rename_i hp;exact hp
   ·cases hb
  ·obtain ⟨hl,H⟩:=E83 (by omega)
   rw[if_neg (by omega),if_neg (by omega),if_neg (by omega),if_neg (by omega),if_neg (by omega),if_neg (by omega),if_neg (by omega),if_neg (by omega)] at hb
   refine(tr_c hx hl H).2 ?_
   split at hb
   ·rename_i hp;exact hp
   ·cases hb
theorem nt75:Tryz.f75.ntmps=15:=rfl
theorem rs75:Tryz.f75.results=#[]:=rfl
theorem try_idle (p:Addr) (w:World) :
  CallsD Tryz.prog 75 #[.pointer (some p)] .returning w fun e u' w'=>e=.returned (.tuple #[])∧u'=.returning∧w'=w:=by
 refine callsD_of_wpS Tryz.func75 rfl fun c₀ cs hu=>?_
 apply wpS_seq
 apply wpS_region
 simp[wpOpsS,go_sem,recoverD,hu,nt75,Exit.thenS]
 apply wpS_seq
 apply wpS_region
 simp[wpOpsS,go_sem,recoverD,hu,Exit.thenS]
 refine wpS_cond (t:=false) (by simp[Act.eval,Array.replicate]) ?_
 simp only[Bool.false_eq_true,if_false]
 refine wpS_of_wp (wp_skip ?_)
 cases c₀
 simp_all [bodyPostS,results,rs75]
theorem run_ta119 (w:World):(Instr.typeAssert noV 20 119 true).run Tryz.prog w=.ok (.tuple #[.agg #[],.bool true]) w:=by kernel_rfl
theorem try_caught (p:Addr) (w:World) (x:Value) (hc:(w.alloc (.cells #[] 119)).cell? p=some x) (hz:(w.alloc (.cells #[] 119)).frozen? p=false) (older:List PanicEntry) :
  CallsD Tryz.prog 75 #[.pointer (some p)] (.panicking ({ v:=noV,recovered:=false } :: older)) w fun e u' w'=>
   e=.returned (.tuple #[])∧u'=.panicking ({ v:=noV,recovered:=true } :: older)∧w'=(w.alloc (.cells #[] 119)).setCell p (.int .i64 2):=by
 refine callsD_of_wpS Tryz.func75 rfl fun c₀ cs hu=>?_
 apply wpS_seq
 apply wpS_region
 simp[wpOpsS,go_sem,recoverD,hu,nt75,Exit.thenS]
 apply wpS_seq
 apply wpS_region
 simp[wpOpsS,go_sem,recoverD,hu,Exit.thenS]
 refine wpS_cond (t:=true) (by simp[Act.eval,Array.replicate]) ?_
 simp only[if_true]
 apply wpS_seq
 apply wpS_seq
 apply wpS_region
 simp[wpOpsS,go_sem,recoverD,hu,Exit.thenS,run_ta119]
 apply wpS_seq
 apply wpS_region
 simp[wpOpsS,go_sem,Exit.thenS]
 refine wpS_cond (t:=false) (by simp[Act.eval,Array.replicate]) ?_
 simp only[Bool.false_eq_true,if_false]
 refine wpS_of_wp (wp_skip ?_)
 simp only[Exit.thenS]
 apply wpS_region
 simp[wpOpsS,go_sem,hc,hz]
 trace_state
 simp[bodyPostS,results,rs75]
theorem rs44:Tryz.f44.results=#[.cell 2 33]:=rfl
theorem t44_ok {c:FuncId} {vs:Array Value} {w:World} {R:Ending→World→Prop} {RR:World→Prop} (hcf:∀(us:Array Value) (w:World),(callFunc c us).run Tryz.prog w=.ok (.enter c us) w)
  (hc:Calls Tryz.prog c vs (w.alloc (.cells #[.int .i64 0] 33)) fun e w'=>(∃v,e=.returned v)∧RR w')
  (hk:∀w',RR w'→w'.cell? ⟨w.heap.size,0,none⟩=some (.int .i64 0)∧w'.frozen? ⟨w.heap.size,0,none⟩=false)
  (hR:∀w',RR w'→R (.returned (.int .i64 0)) (w'.setCell ⟨w.heap.size,0,none⟩ (.int .i64 0))) :
  Calls Tryz.prog 44 #[.func (.func c) #[] vs] w R:=by
 have hmf:∀(fn:Fn) (first cap:Array Value) (w:World),(Instr.makeFunc fn first cap).run Tryz.prog w=.ok (.func fn first cap) w:=fun _ _ _ _=>rfl
 go_enter_defers Tryz.func44,(show Tryz.f44.ntmps=6 from rfl)
 go_wp2
 rename_i K1 hK1 K hK
 refine hc.mono ?_
 rintro e w' ⟨⟨v,rfl⟩,hw⟩
 obtain ⟨k1,k2⟩:=hk w' hw
 refine hK _ _ ?_
 simp only[wpList,Exit.then]
 refine hK1 _ _ ?_
 clear hK hK1
 go_wp2
 refine leaves_cons (f:=75) (args:=#[.pointer (some ⟨w.heap.size,0,none⟩)]) (by simp) (by simp[go_sem]) ?_
 refine(try_idle ⟨w.heap.size,0,none⟩ _).mono ?_
 rintro e u' w'' ⟨rfl,rfl,rfl⟩
 have h:=hR w' hw
 simp[Leaves,settle,results,rs44,go_sem,k1,k2,h]
theorem t44_pan {c:FuncId} {vs:Array Value} {w:World} {R:Ending→World→Prop} {RR:World→Prop} (hcf:∀(us:Array Value) (w:World),(callFunc c us).run Tryz.prog w=.ok (.enter c us) w)
  (hc:Calls Tryz.prog c vs (w.alloc (.cells #[.int .i64 0] 33)) fun e w'=>e=.panicked (pch noV)∧RR w')
  (hk:∀w',RR w'→(w'.alloc (.cells #[] 119)).cell? ⟨w.heap.size,0,none⟩=some (.int .i64 0)∧(w'.alloc (.cells #[] 119)).frozen? ⟨w.heap.size,0,none⟩=false)
  (hR:∀w',RR w'→R (.returned (.int .i64 2)) ((w'.alloc (.cells #[] 119)).setCell ⟨w.heap.size,0,none⟩ (.int .i64 2))) :
  Calls Tryz.prog 44 #[.func (.func c) #[] vs] w R:=by
 have hmf:∀(fn:Fn) (first cap:Array Value) (w:World),(Instr.makeFunc fn first cap).run Tryz.prog w=.ok (.func fn first cap) w:=fun _ _ _ _=>rfl
 go_enter_defers Tryz.func44,(show Tryz.f44.ntmps=6 from rfl)
 go_wp2
 rename_i K1 hK1 K hK
 refine hc.mono ?_
 rintro e w' ⟨rfl,hw⟩
 obtain ⟨k1,k2⟩:=hk w' hw
 clear hK hK1
 simp only[bodyPostD]
 refine leaves_cons (f:=75) (args:=#[.pointer (some ⟨w.heap.size,0,none⟩)]) (by simp) (by simp[go_sem]) ?_
 refine(try_caught ⟨w.heap.size,0,none⟩ w' _ k1 k2 []).mono ?_
 rintro e u' w'' ⟨rfl,rfl,rfl⟩
 have h:=hR w' hw
 simp[Leaves,settle,results,rs44,go_sem,k1,k2,h]
theorem holds_other {h:IH} {n:Nat} {w w':World} (hw:h.holds w) (hb:∀b,b<w.heap.size→b≠n→w'.heap[b]?=w.heap[b]?) (hn:(∀o,h.cell n o=none)∧h.obj n=none):h.holds w':=by
 refine⟨fun b o v e=>?_,fun b o e=>?_⟩
 ·have h1:=hw.1 b o v e
  have hne:b≠n:=fun hh=>by subst hh;rw[hn.1] at e;cases e
  have hlt:b<w.heap.size:=by
   simp only[World.cell?] at h1
   split at h1
   ·rename_i hh;exact lt_of_heap hh
   ·simp at h1
  have h2:=hb b hlt hne
  simp only[World.cell?] at h1⊢
  rw[h2];exact h1
 ·have h1:=hw.2 b o e
  have hne:b≠n:=fun hh=>by subst hh;rw[hn.2] at e;cases e
  rw[hb b (lt_of_heap h1) hne];exact h1
def tryF (pre:List (Nat×List AV)) (β:Nat→Nat):Fr:=⟨fun k=>∃s l,Go.Ab.look pre s=some l∧Live β s l∧blk β s=k,β⟩
theorem gam_in {F:Fr} {w:World} {h:IH} {a:List AV} {pre:List (Nat×List AV)} {β:Nat→Nat} {us:Array Value} {c:FuncId} (g:Gam G F w h ⟨[.clo (.func c) [] a],pre⟩ β h us w) (o:Obj) :
  ∃vc:List Value,us=#[.func (.func c) #[] vc.toArray]∧Gam G (tryF pre β) (w.alloc o) h ⟨a,pre⟩ β h vc.toArray (w.alloc o):=by
 obtain ⟨v,hv,va,vc,rfl,hva,hvc⟩:=g.regs 0 _ rfl
 have hva':va=[]:=hva
 subst hva'
 have hus:us=#[.func (.func c) #[] vc.toArray]:=by
  have hs:us.size=1:=g.size
  apply Array.ext
  ·simpa using hs
  ·intro i h1 h2
   obtain rfl:i=0:=by simp at h2;omega
   have:=(Array.getElem?_eq_some_iff.1 hv).2
   simpa using this
 refine⟨vc,hus,g.glob,holds_alloc g.holds _,IH.le.refl _,fun _ _ _=>⟨fun _=>rfl,rfl⟩,Kept.refl _ _,fun _ _=>⟨rfl,rfl,rfl⟩,by simpa using hvc.length,fun t y hy=>?_,fun s l hb=>?_,g.inj⟩
 ·obtain ⟨v,h1,h2⟩:=hvc.get hy
  exact⟨v,by simpa using h1,h2⟩
 ·obtain ⟨h1,h2⟩:=g.box s l hb
  refine⟨fun hl=>⟨.inl ⟨s,l,hb,hl,rfl⟩,(h1 hl).2⟩,Own.move (fun hl=>?_) (IH.le.refl _) h2⟩
  have:=Own.lt hl h2
  show (w.heap.push o)[_]?=_
  rw[Array.getElem?_push,if_neg (by omega)]
theorem gam_out {F:Fr} {w:World} {h:IH} {x:AV} {y:List AV} {pre post:List (Nat×List AV)} {β β':Nat→Nat} {h':IH} {us tm:Array Value} {w' w'':World} {o:Obj} {kd:Int}
  (g:Gam G F w h ⟨[x],pre⟩ β h us w) (g1:Gam G (tryF pre β) (w.alloc o) h ⟨y,post⟩ β' h' tm w')
  (hw:w''.os=w'.os∧w''.tape=w'.tape∧w''.output=w'.output∧w'.heap.size≤w''.heap.size) (hb:∀b,b<w'.heap.size→b≠w.heap.size→w''.heap[b]?=w'.heap[b]?) :
  Gam G F w h ⟨[.d (di kd)],post⟩ β' h' #[.int .i64 kd] w'':=by
 have hsz:(w.alloc o).heap.size=w.heap.size+1:=by simp
 have hF:∀k,(tryF pre β).on k→k<w.heap.size∧(F.on k∨w.heap.size≤k):=by
  rintro k ⟨s,l,h1,h2,rfl⟩
  obtain ⟨h3,h4⟩:=g.box s l h1
  exact⟨Own.lt h2 h4,(h3 h2).1⟩
 have hn:(∀o,h'.cell w.heap.size o=none)∧h'.obj w.heap.size=none:=by
  have h1:=g1.old w.heap.size (by omega) fun hh=>by have:=(hF _ hh).1;omega
  have h2:=holds_none g.holds (Nat.le_refl w.heap.size)
  exact⟨fun o=>(h1.1 o).trans (h2.1 o),h1.2.trans h2.2⟩
 have hk:=g1.kept
 have hsz2:w.heap.size+1≤w'.heap.size:=by have:=hk.size;omega
 refine⟨g1.glob,holds_other g1.holds hb hn,g1.ext,fun b hb' hnF=>?_,?_,fun s hs=>?_,rfl,fun t z hz=>?_,fun s l hl=>?_,g1.inj⟩
 ·refine g1.old b (by omega) fun hh=>?_
  have:=hF _ hh
  rcases this.2 with h1|h1
  ·exact hnF h1
  ·omega
 ·refine⟨?_,?_,?_,by omega,fun k hk' hnF=>?_⟩
  ·rw[hw.1,hk.os];rfl
  ·rw[hw.2.1,hk.tape];rfl
  ·rw[hw.2.2.1,hk.output];rfl
  ·rw[hb k (by omega) (by omega),hk.block k (by omega) fun hh=>?_]
   ·exact Below.heap_alloc _ _ _ hk'
   ·rcases (hF _ hh).2 with h1|h1
    ·exact hnF h1
    ·omega
 ·have h1:=g1.fix s hs
  have h2:=g.fix s hs
  exact⟨h1.1.trans h2.1,h1.2.1.trans h2.2.1,h1.2.2.trans h2.2.2⟩
 ·cases t with
  | zero=>
   simp only[List.getElem?_cons_zero,oSi] at hz
   subst hz
   exact⟨_,rfl,rfl⟩
  | succ t=>simp at hz
 ·obtain ⟨h1,h2⟩:=g1.box s l hl
  have hne:Live β' s l→blk β' s≠w.heap.size:=by
   intro hL hh
   rcases (h1 hL).1 with h3|h3
   ·have:=(hF _ h3).1;omega
   ·omega
  refine⟨fun hL=>⟨?_,(h1 hL).2⟩,Own.move (fun hL=>hb _ (Own.lt hL h2) (hne hL)) (IH.le.refl _) h2⟩
  rcases (h1 hL).1 with h3|h3
  ·rcases (hF _ h3).2 with h4|h4
   ·exact .inl h4
   ·exact .inr h4
  ·exact .inr (by omega)
theorem gam_cell {F:Fr} {w:World} {h:IH} {x:AV} {y:List AV} {pre post:List (Nat×List AV)} {β β':Nat→Nat} {h':IH} {us tm:Array Value} {w':World} {o:Obj}
  (g:Gam G F w h ⟨[x],pre⟩ β h us w) (g1:Gam G (tryF pre β) (w.alloc o) h ⟨y,post⟩ β' h' tm w'):w'.heap[w.heap.size]?=some o:=by
 rw[g1.kept.block w.heap.size (by simp) ?_]
 ·show (w.heap.push _)[w.heap.size]?=_;simp
 ·rintro ⟨s,l,h1,h2,h3⟩
  obtain ⟨_,h4⟩:=g.box s l h1
  have:=Own.lt h2 h4
  omega
theorem f44_ok {c:FuncId} {xs:List AV} {pre post:List (Nat×List AV)} {r:AV} (hx:FnM Tryz.prog G c xs pre r post):FnM Tryz.prog G 44 [.clo (.func c) [] xs] pre (.d (di 0)) post:=by
 refine⟨Tryz.call44,fun F w h β us g=>?_⟩
 obtain ⟨vc,rfl,gi⟩:=gam_in g (.cells #[.int .i64 0] 33)
 refine t44_ok (RR:=fun w'=>∃v β' h',Gam G (tryF pre β) (w.alloc (.cells #[.int .i64 0] 33)) h ⟨[r],post⟩ β' h' #[v] w') hx.1 ((hx.2 _ _ _ _ _ gi).mono ?_) ?_ ?_
 ·rintro e w' ⟨v,β',h',rfl,g1⟩
  exact⟨⟨v,rfl⟩,v,β',h',g1⟩
 ·rintro w' ⟨v,β',h',g1⟩
  have:=gam_cell g g1
  simp[World.cell?,World.frozen?,this]
 ·rintro w' ⟨v,β',h',g1⟩
  refine⟨_,β',h',rfl,gam_out g g1 ⟨rfl,rfl,rfl,by simp[World.setCell]⟩ fun b hb hne=>?_⟩
  simp only[World.setCell,Array.getElem?_modify]
  rw[if_neg (fun e=>hne e.symm)]
theorem f44_pan {c:FuncId} {xs:List AV} {pre:List (Nat×List AV)} (hx:FnMP Tryz.prog G c xs pre noV):FnM Tryz.prog G 44 [.clo (.func c) [] xs] pre (.d (di 2)) pre:=by
 refine⟨Tryz.call44,fun F w h β us g=>?_⟩
 obtain ⟨vc,rfl,gi⟩:=gam_in g (.cells #[.int .i64 0] 33)
 refine t44_pan (RR:=fun w'=>∃β' h',Gam G (tryF pre β) (w.alloc (.cells #[.int .i64 0] 33)) h ⟨[],pre⟩ β' h' #[] w') hx.1 ((hx.2 _ _ _ _ _ gi).mono ?_) ?_ ?_
 ·rintro e w' ⟨rfl,β',h',g1⟩
  exact⟨rfl,β',h',g1⟩
 ·rintro w' ⟨β',h',g1⟩
  have h1:=gam_cell g g1
  have h2:=lt_of_heap h1
  have h3:(w'.alloc (.cells #[] 119)).heap[w.heap.size]?=some (.cells #[.int .i64 0] 33):=by
   show (w'.heap.push _)[_]?=_
   rw[Array.getElem?_push,if_neg (by omega)];exact h1
  simp[World.cell?,World.frozen?,h3]
 ·rintro w' ⟨β',h',g1⟩
  refine⟨_,β',h',rfl,gam_out g g1 ⟨rfl,rfl,rfl,by simp[World.setCell]⟩ fun b hb hne=>?_⟩
  simp only[World.setCell,Array.getElem?_modify]
  rw[if_neg (fun e=>hne e.symm)]
  show (w'.heap.push _)[_]?=_
  rw[Array.getElem?_push,if_neg (by omega)]
abbrev bx45 (k:Int) (F:List Ft) (m:Nat) (x:Ex) (o:Ft):List (Nat×List AV):=[(1000000,[.d (di k)]),(1000001,[.d (evD F)]),(1000002,exC m x),(1000003,[.d (ds o.nm),.d (di o.kind),.d (di o.n),.d (di o.d),.d (db o.tr),.d (ds o.wd)])]
abbrev cp45:List AV:=[.box 1000000 0,.box 1000001 0,.box 1000002 0,.box 1000003 0]
def orc45 (n d:Int) (t:Bool) (s:ByteArray):Oracle:=fun f _=>match f with
 | 46=>some (fr n d)
 | 47=>some (db t)
 | 48=>some (ds s)
 | _=>none
theorem f45_num {F:List Ft} {m:Nat} {x:Ex} {n d:Int} (hx:FnOK Tryz.prog G 46 [evD F,exD m x] (fr n d)) (o:Ft):FnM Tryz.prog G 45 cp45 (bx45 0 F m x o) (.d (.tup [])) (bx45 0 F m x { o with n:=n,d:=d }):=by
 refine FnM.walk (orc:=(orc45 n d false .empty:Orc)) (keep:=[]) [] follows (by kernel_rfl) Tryz.func45 rfl Tryz.call45 ?_
 refine of_tr (fun _ _ _ ZK=>(fun Za Zb Zc Zd=>(((true=true)→(ZK 46 [Zb,(ndX m x)] (.agg [(di n),(di d)])∧(ZS ((.d (.tup [])):AV))∧Zd=(some [(vi 0)])∧((some [(.d Zb)]):(Option (List AV)))=(some [(.d Zb)])∧(Za:(Option (List AV)))=Za∧(Zc:(Option (List AV)))=Zc∧True))∧((true=false)→(((false=true)→(ZK 47 [Zb,(ndX m x)] (db false)∧(ZS ((.d (.tup [])):AV))∧Zd=(some [(vi 0)])∧((some [(.d Zb)]):(Option (List AV)))=(some [(.d Zb)])∧(Za:(Option (List AV)))=Za∧((some [(vs o.nm),(vi o.kind),(vi o.n),(vi o.d),(vb false),(vs o.wd)]):(Option (List AV)))=Zc∧True))∧((false=false)→(ZK 48 [Zb,(ndX m x)] (ds ByteArray.empty)∧(ZS ((.d (.tup [])):AV))∧Zd=(some [(vi 0)])∧((some [(.d Zb)]):(Option (List AV)))=(some [(.d Zb)])∧(Za:(Option (List AV)))=Za∧((some [(vs o.nm),(vi o.kind),(vi o.n),(vi o.d),(vb o.tr),(vs ByteArray.empty)]):(Option (List AV)))=Zc∧True)))))) (some [(vi x.k),(vs x.s),(vi x.n),(vi x.d),(vi x.pos),(.d (.slc 6 x.kids.length (lay (exG m) x.kids)))]) ((.ptr [(.mp none (tV F) (tH F))]):DV) (some [(vs o.nm),(vi o.kind),(vi n),(vi d),(vb o.tr),(vs o.wd)]) ((some [(vi 0)]):(Option (List AV)))) (by kernel_rfl) ?_
 exact⟨fun _=>⟨hx,rfl,rfl,rfl,rfl,rfl,trivial⟩,fun h=>Bool.noConfusion h⟩
theorem f45_truth {F:List Ft} {m:Nat} {x:Ex} {t:Bool} (hx:FnOK Tryz.prog G 47 [evD F,exD m x] (db t)) (o:Ft):FnM Tryz.prog G 45 cp45 (bx45 1 F m x o) (.d (.tup [])) (bx45 1 F m x { o with tr:=t }):=by
 refine FnM.walk (orc:=(orc45 0 0 t .empty:Orc)) (keep:=[]) [] follows (by kernel_rfl) Tryz.func45 rfl Tryz.call45 ?_
 refine of_tr (fun _ _ _ ZK=>(fun Za Zb Zc Zd=>(((false=true)→(ZK 46 [Zb,(ndX m x)] (.agg [(di 0),(di 0)])∧(ZS ((.d (.tup [])):AV))∧Zd=(some [(vi 1)])∧((some [(.d Zb)]):(Option (List AV)))=(some [(.d Zb)])∧(Za:(Option (List AV)))=Za∧((some [(vs o.nm),(vi o.kind),(vi 0),(vi 0),(vb o.tr),(vs o.wd)]):(Option (List AV)))=Zc∧True))∧((false=false)→(((true=true)→(ZK 47 [Zb,(ndX m x)] (db t)∧(ZS ((.d (.tup [])):AV))∧Zd=(some [(vi 1)])∧((some [(.d Zb)]):(Option (List AV)))=(some [(.d Zb)])∧(Za:(Option (List AV)))=Za∧(Zc:(Option (List AV)))=Zc∧True))∧((true=false)→(ZK 48 [Zb,(ndX m x)] (ds ByteArray.empty)∧(ZS ((.d (.tup [])):AV))∧Zd=(some [(vi 1)])∧((some [(.d Zb)]):(Option (List AV)))=(some [(.d Zb)])∧(Za:(Option (List AV)))=Za∧((some [(vs o.nm),(vi o.kind),(vi o.n),(vi o.d),(vb o.tr),(vs ByteArray.empty)]):(Option (List AV)))=Zc∧True)))))) (some [(vi x.k),(vs x.s),(vi x.n),(vi x.d),(vi x.pos),(.d (.slc 6 x.kids.length (lay (exG m) x.kids)))]) ((.ptr [(.mp none (tV F) (tH F))]):DV) (some [(vs o.nm),(vi o.kind),(vi o.n),(vi o.d),(vb t),(vs o.wd)]) ((some [(vi 1)]):(Option (List AV)))) (by kernel_rfl) ?_
 exact⟨fun h=>Bool.noConfusion h,fun _=>⟨fun _=>⟨hx,rfl,rfl,rfl,rfl,rfl,trivial⟩,fun h=>Bool.noConfusion h⟩⟩
theorem f45_word {F:List Ft} {m:Nat} {x:Ex} {s:ByteArray} {k:Int} (h0:k≠0) (h1:k≠1) (hx:FnOK Tryz.prog G 48 [evD F,exD m x] (ds s)) (o:Ft):FnM Tryz.prog G 45 cp45 (bx45 k F m x o) (.d (.tup [])) (bx45 k F m x { o with wd:=s }):=by
 refine FnM.walk (orc:=(orc45 0 0 false s:Orc)) (keep:=[]) [] follows (by kernel_rfl) Tryz.func45 rfl Tryz.call45 ?_
 refine of_tr (fun _ _ _ ZK=>(fun Za Zb Zc Zd=>((((k==0)=true)→(ZK 46 [Zb,(ndX m x)] (.agg [(di 0),(di 0)])∧(ZS ((.d (.tup [])):AV))∧Zd=(some [(vi k)])∧((some [(.d Zb)]):(Option (List AV)))=(some [(.d Zb)])∧(Za:(Option (List AV)))=Za∧((some [(vs o.nm),(vi o.kind),(vi 0),(vi 0),(vb o.tr),(vs o.wd)]):(Option (List AV)))=Zc∧True))∧(((k==0)=false)→((((k==1)=true)→(ZK 47 [Zb,(ndX m x)] (db false)∧(ZS ((.d (.tup [])):AV))∧Zd=(some [(vi k)])∧((some [(.d Zb)]):(Option (List AV)))=(some [(.d Zb)])∧(Za:(Option (List AV)))=Za∧((some [(vs o.nm),(vi o.kind),(vi o.n),(vi o.d),(vb false),(vs o.wd)]):(Option (List AV)))=Zc∧True))∧(((k==1)=false)→(ZK 48 [Zb,(ndX m x)] (ds s)∧(ZS ((.d (.tup [])):AV))∧Zd=(some [(vi k)])∧((some [(.d Zb)]):(Option (List AV)))=(some [(.d Zb)])∧(Za:(Option (List AV)))=Za∧(Zc:(Option (List AV)))=Zc∧True)))))) (some [(vi x.k),(vs x.s),(vi x.n),(vi x.d),(vi x.pos),(.d (.slc 6 x.kids.length (lay (exG m) x.kids)))]) ((.ptr [(.mp none (tV F) (tH F))]):DV) (some [(vs o.nm),(vi o.kind),(vi o.n),(vi o.d),(vb o.tr),(vs s)]) ((some [(vi k)]):(Option (List AV)))) (by kernel_rfl) ?_
 exact⟨fun h=>absurd (eq_of_beq h) h0,fun _=>⟨fun h=>absurd (eq_of_beq h) h1,fun _=>⟨hx,rfl,rfl,rfl,rfl,rfl,trivial⟩⟩⟩
theorem f45_numP {F:List Ft} {m:Nat} {x:Ex} (hx:FnP Tryz.prog G 46 [evD F,exD m x] noV) (o:Ft):FnMP Tryz.prog G 45 cp45 (bx45 0 F m x o) noV:=by
 refine FnMP.of_body Tryz.func45 rfl Tryz.call45 ?_
 refine walkK (orc:=(orc45 0 0 false .empty:Orc)) (keep:=[]) (cuts:=[3,5,1]) (n:=1000) follows ?_
 refine of_tr (fun ZT ZW ZQ _=>(((true=true)→ZW [cd Tryz.f45 [1,0,1,0],(.blk 0)] (stS ZT [0]) ZQ)∧((true=false)→(((false=true)→ZW [cd Tryz.f45 [1,0,1,1,1,0],(.blk 0)] (stS ZT [1,0]) ZQ)∧((false=false)→ZW [cd Tryz.f45 [1,0,1,1,1,1],(.blk 0)] (stS ZT [1,1]) ZQ))))) (by kernel_rfl) ?_
 refine⟨fun _=>?_,fun h=>Bool.noConfusion h⟩
 refine AWP.panic follows (orc45 0 0 false .empty:Orc) 2 (pv:=noV) ?_ ⟨rfl,?_⟩
 ·refine of_tr (fun _ _ _ _=>(FnP Tryz.prog G 46 [(.ptr [(.mp none (tV F) (tH F))]),(ndX m x)] noV∧True)) (by kernel_rfl) ?_
  exact⟨hx,trivial⟩
 ·refine of_eq1 (some [(vi x.k),(vs x.s),(vi x.n),(vi x.d),(vi x.pos),(.d (.slc 6 x.kids.length (lay (exG m) x.kids)))]) (fun Za=>(((some [(vi 0)]):(Option (List AV)))=(some [(vi 0)])∧((some [(.d (.ptr [(.mp none (tV F) (tH F))]))]):(Option (List AV)))=(some [(.d (.ptr [(.mp none (tV F) (tH F))]))])∧(Za:(Option (List AV)))=Za∧((some [(vs o.nm),(vi o.kind),(vi o.n),(vi o.d),(vb o.tr),(vs o.wd)]):(Option (List AV)))=(some [(vs o.nm),(vi o.kind),(vi o.n),(vi o.d),(vb o.tr),(vs o.wd)])∧True)) (by kernel_rfl) ?_
  exact⟨rfl,rfl,rfl,rfl,trivial⟩
theorem f45_truthP {F:List Ft} {m:Nat} {x:Ex} (hx:FnP Tryz.prog G 47 [evD F,exD m x] noV) (o:Ft):FnMP Tryz.prog G 45 cp45 (bx45 1 F m x o) noV:=by
 refine FnMP.of_body Tryz.func45 rfl Tryz.call45 ?_
 refine walkK (orc:=(orc45 0 0 false .empty:Orc)) (keep:=[]) (cuts:=[3,5,1]) (n:=1000) follows ?_
 refine of_tr (fun ZT ZW ZQ _=>(((false=true)→ZW [cd Tryz.f45 [1,0,1,0],(.blk 0)] (stS ZT [0]) ZQ)∧((false=false)→(((true=true)→ZW [cd Tryz.f45 [1,0,1,1,1,0],(.blk 0)] (stS ZT [1,0]) ZQ)∧((true=false)→ZW [cd Tryz.f45 [1,0,1,1,1,1],(.blk 0)] (stS ZT [1,1]) ZQ))))) (by kernel_rfl) ?_
 refine⟨fun h=>Bool.noConfusion h,fun _=>⟨fun _=>?_,fun h=>Bool.noConfusion h⟩⟩
 refine AWP.panic follows (orc45 0 0 false .empty:Orc) 2 (pv:=noV) ?_ ⟨rfl,?_⟩
 ·refine of_tr (fun _ _ _ _=>(FnP Tryz.prog G 47 [(.ptr [(.mp none (tV F) (tH F))]),(ndX m x)] noV∧True)) (by kernel_rfl) ?_
  exact⟨hx,trivial⟩
 ·refine of_eq1 (some [(vi x.k),(vs x.s),(vi x.n),(vi x.d),(vi x.pos),(.d (.slc 6 x.kids.length (lay (exG m) x.kids)))]) (fun Za=>(((some [(vi 1)]):(Option (List AV)))=(some [(vi 1)])∧((some [(.d (.ptr [(.mp none (tV F) (tH F))]))]):(Option (List AV)))=(some [(.d (.ptr [(.mp none (tV F) (tH F))]))])∧(Za:(Option (List AV)))=Za∧((some [(vs o.nm),(vi o.kind),(vi o.n),(vi o.d),(vb o.tr),(vs o.wd)]):(Option (List AV)))=(some [(vs o.nm),(vi o.kind),(vi o.n),(vi o.d),(vb o.tr),(vs o.wd)])∧True)) (by kernel_rfl) ?_
  exact⟨rfl,rfl,rfl,rfl,trivial⟩
/-! Which facts fit. -/
def numOk (f:Ft) (x:Fc):Bool:=ok2O x.ln x.ld f.n f.d&&ok2O f.n f.d x.hn x.hd&&decide (cmpO x.ln x.ld f.n f.d≤0)&&decide (cmpO f.n f.d x.hn x.hd≤0)
def fitB (f:Ft) (x:Fc):Bool:=decide (f.nm=x.name)&&decide (f.kind=x.kind)&&(x.kind==0||(decide (f.n=0)&&decide (f.d=0)))&&(x.kind==1||!f.tr)&&(x.kind==2||decide (f.wd=.empty))&&(x.kind != 0||numOk f x)&&(x.kind != 2||anyB x.words f.wd)
noncomputable def orcFi:Oracle:=fun f a=>match f,a with
 | 81,[fr a b,fr c d]=>some (.tup [di (cmpO a b c d),db (ok2O a b c d)])
 | 99,[w,.con (.string s)]=>some (db (anyB (rdW w) s))
 | _,_=>none
theorem f53 (f:Ft) (x:Fc) (h:x.words.length≤1000000):FnOK Tryz.prog G 53 [ftD f,fcD x] (db (fitB f x)):=by
 refine FnOK.walkK (orc:=orcFi) (keep:=[]) follows Tryz.func53 rfl Tryz.call53 ?_
 refine of_tr (fun _ _ _ ZK=>(fun Za Zb Zc=>((((x.kind==0)=true)→(ZK 81 [(.agg [(di x.ln),(di x.ld)]),(.agg [(di f.n),(di f.d)])] (.tup [(di (cmpO x.ln x.ld f.n f.d)),(db (ok2O x.ln x.ld f.n f.d))])∧ZK 81 [(.agg [(di f.n),(di f.d)]),(.agg [(di x.hn),(di x.hd)])] (.tup [(di (cmpO f.n f.d x.hn x.hd)),(db (ok2O f.n f.d x.hn x.hd))])∧((Za=true)→(((db false):DV)=(db (fitB f x))))∧((Za=false)→(((db (Bool.rec false (f.kind==x.kind&&(f.n==f.n&&f.d==f.d&&(f.tr==false&&f.wd.toList==(ByteArray.mk #[]).toList))) Zc)):DV)=(db (fitB f x))))))∧(((x.kind==0)=false)→((((x.kind==1)=true)→(((db (Bool.rec false (f.kind==x.kind&&(f.n==0&&f.d==0&&(f.tr==f.tr&&f.wd.toList==(ByteArray.mk #[]).toList))) Zc)):DV)=(db (fitB f x))))∧(((x.kind==1)=false)→((((x.kind==2)=true)→(ZK 99 [(.slc 1 x.words.length (stF x.words)),(ds f.wd)] (db (anyB Zb f.wd))∧(((!anyB Zb f.wd)=true)→(((db false):DV)=(db (fitB f x))))∧(((!anyB Zb f.wd)=false)→(((db (Bool.rec false (f.kind==x.kind&&(f.n==0&&f.d==0&&(f.tr==false&&f.wd.toList==f.wd.toList))) Zc)):DV)=(db (fitB f x))))))∧(((x.kind==2)=false)→(((db (Bool.rec false (f.kind==x.kind&&(f.n==0&&f.d==0&&(f.tr==false&&f.wd.toList==(ByteArray.mk #[]).toList))) Zc)):DV)=(db (fitB f x)))))))))) (!ok2O x.ln x.ld f.n f.d||!ok2O f.n f.d x.hn x.hd||decide (cmpO x.ln x.ld f.n f.d>0)||decide (cmpO f.n f.d x.hn x.hd>0)) (rdW (DV.slc 1 x.words.length (stF x.words))) (f.nm.toList==x.name.toList)) (by kernel_rfl) ?_
 have bn:(ByteArray.mk #[])=ByteArray.empty:=rfl
 simp only[rdW_eq,brec,toList_beq,bn]
 refine⟨fun k0=>⟨f81 _ _ _ _,f81 _ _ _ _,fun h1=>?_,fun h1=>?_⟩,fun k0=>⟨fun k1=>?_,fun k1=>⟨fun k2=>⟨f99 _ _ h,fun h1=>?_,fun h1=>?_⟩,fun k2=>?_⟩⟩⟩
 all_goals refine congrArg db ?_
 ·have hn:numOk f x=false:=by
   unfold numOk
   rw[Bool.eq_false_iff]
   intro hh
   simp only[bAt,dEt] at hh
   obtain ⟨⟨⟨a1,a2⟩,a3⟩,a4⟩:=hh
   rw[a1,a2,decide_eq_false (by omega:¬cmpO x.ln x.ld f.n f.d>0),decide_eq_false (by omega:¬cmpO f.n f.d x.hn x.hd>0)] at h1
   cases h1
  unfold fitB
  rw[hn,show (x.kind != 0)=false from by rw[bne,k0];rfl]
  simp
 ·have hn:numOk f x=true:=by
   unfold numOk
   simp only[Bool.or_eq_false_iff,Bool.not_eq_false',decide_eq_false_iff_not] at h1
   simp only[bAt,dEt]
   exact⟨⟨⟨h1.1.1.1,h1.1.1.2⟩,by omega⟩,by omega⟩
  have e0:x.kind=0:=by simpa using k0
  unfold fitB
  rw[hn,e0]
  simp
  grind
 ·have e1:x.kind=1:=by simpa using k1
  unfold fitB
  rw[e1]
  simp
  grind
 ·have h1:anyB x.words f.wd=false:=by simpa using h1
  have e2:x.kind=2:=by simpa using k2
  unfold fitB
  rw[h1,e2]
  simp
 ·have h1:anyB x.words f.wd=true:=by simpa using h1
  have e2:x.kind=2:=by simpa using k2
  unfold fitB
  rw[h1,e2]
  simp
  grind
 ·have e0:¬x.kind=0:=by simpa using k0
  have e1:¬x.kind=1:=by simpa using k1
  have e2:¬x.kind=2:=by simpa using k2
  unfold fitB
  simp[e0,e1,e2]
  grind
def fitsB (F:List Ft) (L:List Fc):Bool:=decide (F.length=L.length)&&(List.range L.length).all fun i=>fitB (F.getD i ft0) (L.getD i fc0)
theorem fits_no {F:List Ft} {L:List Fc} {k:Nat} (hk:k<L.length) (h:fitB (F.getD k ft0) (L.getD k fc0)=false):fitsB F L=false:=by
 have:((List.range L.length).all fun i=>fitB (F.getD i ft0) (L.getD i fc0))=false:=by
  rw[List.all_eq_false]
  exact⟨k,List.mem_range.2 hk,by rw[h];decide⟩
 unfold fitsB
 rw[this,Bool.and_false]
theorem fits_yes {F:List Ft} {L:List Fc} (hl:F.length=L.length) (h:∀i,i<L.length→fitB (F.getD i ft0) (L.getD i fc0)=true):fitsB F L=true:=by
 unfold fitsB
 rw[decide_eq_true hl,Bool.true_and,List.all_eq_true]
 exact fun i hi=>h i (List.mem_range.1 hi)
def rdFt (d:DV):Ft:=match d with
 | .agg [.con (.string a),.con (.int _ k),.con (.int _ n),.con (.int _ m),.con (.bool t),.con (.string w)]=>⟨a,k,n,m,t,w⟩
 | _=>ft0
def rdFc (d:DV):Fc:=match d with
 | .agg [.con (.string a),.con (.int _ k),.con (.int _ ln),.con (.int _ ld),.con (.int _ hn),.con (.int _ hd),w]=>⟨a,k,ln,ld,hn,hd,rdW w⟩
 | _=>fc0
theorem rdFc_eq (x:Fc):rdFc (fcD x)=x:=by
 show Fc.mk x.name x.kind x.ln x.ld x.hn x.hd (rdW (wdD x.words))=x
 rw[rdW_eq]
noncomputable def orcEf:Oracle:=fun f a=>match f,a with
 | 53,[a,b]=>some (db (fitB (rdFt a) (rdFc b)))
 | _,_=>none
noncomputable def S52 (F:List Ft) (L:List Fc) (k:Nat):AS:=⟨regs Tryz.f52.ntmps [(1,.d (fcsD L)),(2,.d (.con (.func (.func 53) #[] #[]))),(15,.d (ftsD F)),(16,vi F.length),(17,vi k)],[]⟩
theorem f52 (F:List Ft) (L:List Fc) (hF:F.length≤9223372036854775807) (hL:L.length≤100000) (hw:∀i,i<L.length→(L.getD i fc0).words.length≤1000000):FnOK Tryz.prog G 52 [ftsD F,fcsD L,.con (.func (.func 53) #[] #[])] (db (fitsB F L)):=by
 refine FnOK.walkK (orc:=orcEf) (keep:=[]) follows Tryz.func52 rfl Tryz.call52 ?_
 refine of_tr (fun ZT ZW ZQ _=>(((((↑F.length:Int) != ↑L.length)=true)→(((db false):DV)=(db (fitsB F L))))∧((((↑F.length:Int) != ↑L.length)=false)→ZW [cd Tryz.f52 [1,1,0,1,0],(.blk 0),cd Tryz.f52 [1,1,1]] (stS ZT [1]) ZQ))) (by kernel_rfl) ?_
 refine⟨fun h=>?_,fun h=>?_⟩
 ·have h:¬F.length=L.length:=by simp at h;omega
  unfold fitsB
  rw[decide_eq_false h];rfl
 have hlen:F.length=L.length:=by simp at h;omega
 refine AWP.loop (c:=cAt (bodyOf Tryz.f52) [1,1,0,1,0,0]) (by kernel_rfl) (S52 F L) (fun k=>k≤L.length∧∀i,i<k→fitB (F.getD i ft0) (L.getD i fc0)=true) (fun k=>L.length-k) 0 ?_ ⟨Nat.zero_le _,fun i hi=>by omega⟩ ?_
 ·exact AS.leA (by kernel_rfl)
 ·rintro k ⟨hk,hkd⟩
  refine walkK (orc:=orcEf) (keep:=[]) (cuts:=[]) (n:=1000) follows ?_
  refine of_rd (fun ZT ZW ZQ ZK ZA _=>(fun Za Zb=>((((decide ((↑k:Int)<↑F.length))=true)→(((0≤(↑k:Int))∧((↑k:Int)<↑F.length))∧((0≤(↑k:Int))∧((↑k:Int)<↑L.length))∧ZK 53 [(.agg [(ds (F.getD (↑k:Int).toNat ft0).nm),(di (F.getD (↑k:Int).toNat ft0).kind),(di (F.getD (↑k:Int).toNat ft0).n),(di (F.getD (↑k:Int).toNat ft0).d),(db (F.getD (↑k:Int).toNat ft0).tr),(ds (F.getD (↑k:Int).toNat ft0).wd)]),Zb] (db (fitB Za (rdFc Zb)))∧(((!fitB Za (rdFc Zb))=true)→(((db false):DV)=(db (fitsB F L))))∧(((!fitB Za (rdFc Zb))=false)→((I64 (↑k+1))∧(ZA (stS ZT [0,1]))))))∧(((decide ((↑k:Int)<↑F.length))=false)→ZW [cd Tryz.f52 [1,1,1]] (stS ZT [1]) ZQ))) (rdFt (DV.agg [DV.con (Value.string (F.getD (↑k:Int).toNat ft0).nm),DV.con (Value.int IntKind.i64 (F.getD (↑k:Int).toNat ft0).kind),DV.con (Value.int IntKind.i64 (F.getD (↑k:Int).toNat ft0).n),DV.con (Value.int IntKind.i64 (F.getD (↑k:Int).toNat ft0).d),DV.con (Value.bool (F.getD (↑k:Int).toNat ft0).tr),DV.con (Value.string (F.getD (↑k:Int).toNat ft0).wd)])) (fcD (L.getD (↑k:Int).toNat fc0))) (by kernel_rfl) ?_
  refine⟨fun h2=>?_,fun h2=>?_⟩
  ·have hk2:k<L.length:=by have:=oDt h2;omega
   have e1:rdFc (fcD (L.getD k fc0))=L.getD k fc0:=rdFc_eq _
   have e2:rdFt (ftD (F.getD k ft0))=F.getD k ft0:=rfl
   simp only[iTn,e1,e2]
   refine⟨⟨by omega,by omega⟩,⟨by omega,by omega⟩,f53 _ _ (hw k hk2),fun h3=>?_,fun h3=>⟨⟨by omega,by omega⟩,Again.mk (k+1) ?_ ⟨hk2,fun i hi=>?_⟩ (by omega)⟩⟩
   ·rw[fits_no hk2 (by simpa using h3)]
   ·exact AS.leA (by kernel_rfl)
   ·rcases Nat.lt_or_ge i k with h4|h4
    ·exact hkd i h4
    ·obtain rfl:i=k:=by omega
     simpa using h3
  ·have h2:=of_decide_eq_false h2
   refine walkK (orc:=orcEf) (keep:=[]) (cuts:=[]) (n:=1000) follows ?_
   refine of_tr (fun _ _ _ _=>(((db true):DV)=(db (fitsB F L)))) (by kernel_rfl) ?_
   rw[fits_yes hlen fun i hi=>hkd i (by omega)]
def vaF (F:List Ft) (L:List Fc):Bool:=vfB L&&fitsB F L
noncomputable def orcVf2 (F:List Ft) (L:List Fc):Oracle:=fun f a=>match f,a with
 | 51,[_]=>some (db (vfB L))
 | 54,[_]=>some (db (vfB L))
 | 52,[_,_,_]=>some (db (fitsB F L))
 | 81,[fr a b,fr c d]=>some (.tup [di (cmpO a b c d),db (ok2O a b c d)])
 | 25,[fr a b,fr c d]=>some (.tup [di (cmpO a b c d),db (ok2O a b c d)])
 | 55,[w,.con (.string s)]=>some (db (anyB (rdW w) s))
 | _,_=>none
theorem f14 (hT:Tab G) (F:List Ft) (L:List Fc) (h:∀i,i<L.length→FcS (L.getD i fc0)) (hl:L.length≤1000) (hF:F.length≤9223372036854775807):FnOK Tryz.prog G 14 [ftsD F,fcsD L] (db (vaF F L)):=by
 refine FnOK.walkK (orc:=orcVf2 F L) (keep:=[]) follows Tryz.func14 rfl Tryz.call14 ?_
 refine of_tr (fun _ _ _ ZK=>((ZK 51 [(.slc 7 L.length (fcF L))] (db (vfB L))∧(((vfB L)=true)→ZK 52 [(.slc 6 F.length (ftF F)),(.slc 7 L.length (fcF L)),(.con (.func (.func 53) ⟨[]⟩ ⟨[]⟩))] (db (fitsB F L))))∧((db (vfB L&&fitsB F L)):DV)=(db (vaF F L)))) (by kernel_rfl) ?_
 exact⟨⟨f51 hT L h hl,fun _=>f52 F L hF (by omega) fun i hi=>by have:=(h i hi).ln;omega⟩,rfl⟩
abbrev ftK (k:Int):Ft:=⟨.empty,k,0,0,false,.empty⟩
noncomputable def dEv (F:List Ft) (L:List Fc):Oracle:=fun f a=>match f,a with
 | 14,[_,_]=>some (db (vaF F L))
 | 42,[x,_]=>some (.tup [di (typR L (rdE x)).1,di (typR L (rdE x)).2.1,di (typR L (rdE x)).2.2])
 | 43,[_]=>some (evD (revT F F.length))
 | _,_=>none
def mEv (e:Int) (o:Ft):FuncId→List AV→List (Nat×List AV)→Option (AV×List (Nat×List AV)):=fun f _ pre=>match f,pre with
 | 44,[a,b,c,(u,_)]=>some (.d (di e),[a,b,c,(u,[.d (ds o.nm),.d (di o.kind),.d (di o.n),.d (di o.d),.d (db o.tr),.d (ds o.wd)])])
 | _,_=>none
noncomputable def orcEv (F:List Ft) (L:List Fc) (e:Int) (o:Ft):Orc:={ d:=dEv F L,m:=mEv e o }
theorem f12_at (hT:Tab G) (F:List Ft) (L:List Fc) (h:∀i,i<L.length→FcS (L.getD i fc0)) (hl:L.length≤1000) (hF:F.length≤100000) (m:Nat) (x:Ex) (hx:ht x≤m) (hs:Sm x) (e:Int) (o:Ft)
  (h44:vaF F L=true→(typR L x).2.2=0→FnM Tryz.prog G 44 [.clo (.func 45) [] cp45] (bx45 (typR L x).1 (revT F F.length) m x (ftK (typR L x).1)) (.d (di e)) (bx45 (typR L x).1 (revT F F.length) m x o)) :
  FnOK Tryz.prog G 12 [exD m x,ftsD F,fcsD L] (.tup [ftD (if vaF F L=true∧(typR L x).2.2=0∧e=0 then o else ft0),di (if vaF F L=true then if (typR L x).2.2=0 then e else (typR L x).2.2 else 1)]):=by
 have er:rdE (exV x.k x.s x.n x.d x.pos x.kids.length (lay (exG m) x.kids))=x:=rdE_eq hx
 refine FnOK.walkK (orc:=orcEv F L e o) (keep:=[]) follows Tryz.func12 rfl Tryz.call12 ?_
 refine of_tr (fun _ _ _ ZK=>(fun Za Zb=>(ZK 14 [(.slc 6 F.length (ftF F)),(.slc 7 L.length (fcF L))] (db (vaF F L))∧(((!vaF F L)=true)→(((.tup [Za,(di 1)]):DV)=(.tup [(ftD (if vaF F L=true∧(typR L x).snd.snd=0∧e=0 then o else ft0)),(di (if vaF F L=true then if (typR L x).snd.snd=0 then e else (typR L x).snd.snd else 1))])))∧(((!vaF F L)=false)→(ZK 42 [(ndX m x),(.slc 7 L.length (fcF L))] (.tup [(di (typR L (rdE (ndX m x))).fst),(di (typR L (rdE (ndX m x))).snd.fst),(di (typR L (rdE (ndX m x))).snd.snd)])∧((((typR L (rdE (ndX m x))).snd.snd != 0)=true)→(((.tup [Za,(di (typR L (rdE (ndX m x))).snd.snd)]):DV)=(.tup [(ftD (if vaF F L=true∧(typR L x).snd.snd=0∧e=0 then o else ft0)),(di (if vaF F L=true then if (typR L x).snd.snd=0 then e else (typR L x).snd.snd else 1))])))∧((((typR L (rdE (ndX m x))).snd.snd != 0)=false)→(ZK 43 [(.slc 6 F.length (ftF F))] Zb∧FnM Tryz.prog G 44 [(.clo (.func 45) [] [(.box 1000000 0),(.box 1000001 0),(.box 1000002 0),(.box 1000003 0)])] [(1000000,[(vi (typR L (rdE (ndX m x))).fst)]),(1000001,[(.d Zb)]),(1000002,[(vi x.k),(vs x.s),(vi x.n),(vi x.d),(vi x.pos),(.d (.slc 6 x.kids.length (lay (exG m) x.kids)))]),(1000003,[(vs (ByteArray.mk #[])),(vi (typR L (rdE (ndX m x))).fst),(vi 0),(vi 0),(vb false),(vs (ByteArray.mk #[]))])] (vi e) [(1000000,[(vi (typR L (rdE (ndX m x))).fst)]),(1000001,[(.d Zb)]),(1000002,[(vi x.k),(vs x.s),(vi x.n),(vi x.d),(vi x.pos),(.d (.slc 6 x.kids.length (lay (exG m) x.kids)))]),(1000003,[(vs o.nm),(vi o.kind),(vi o.n),(vi o.d),(vb o.tr),(vs o.wd)])]∧(((e != 0)=true)→(((.tup [Za,(di e)]):DV)=(.tup [(ftD (if vaF F L=true∧(typR L x).snd.snd=0∧e=0 then o else ft0)),(di (if vaF F L=true then if (typR L x).snd.snd=0 then e else (typR L x).snd.snd else 1))])))∧(((e != 0)=false)→(((.tup [(.agg [(ds o.nm),(di o.kind),(di o.n),(di o.d),(db o.tr),(ds o.wd)]),(di 0)]):DV)=(.tup [(ftD (if vaF F L=true∧(typR L x).snd.snd=0∧e=0 then o else ft0)),(di (if vaF F L=true then if (typR L x).snd.snd=0 then e else (typR L x).snd.snd else 1))]))))))))) ((.agg [(ds (ByteArray.mk #[])),(di 0),(di 0),(di 0),(db false),(ds (ByteArray.mk #[]))]):DV) ((.ptr [(.mp none (tV (revT F F.length)) (tH (revT F F.length)))]):DV)) (by kernel_rfl) ?_
 simp only[er]
 refine⟨f14 hT F L h hl (by omega),fun h1=>?_,fun h1=>?_⟩
 ·have h1:vaF F L=false:=by simpa using h1
  simp only[h1,Bool.false_eq_true,false_and,if_false];rfl
 have h1:vaF F L=true:=by simpa using h1
 refine⟨f42 hT m x L hx hs h hl,fun h2=>?_,fun h2=>?_⟩
 ·have h2:(typR L x).2.2≠0:=by simpa using h2
  rw[if_neg (fun hh=>h2 hh.2.1),if_pos h1,if_neg h2];rfl
 have h2:(typR L x).2.2=0:=by simpa using h2
 refine⟨f43 F hF,h44 h1 h2,fun h3=>?_,fun h3=>?_⟩
 ·have h3:e≠0:=by simpa using h3
  rw[if_neg (fun hh=>h3 hh.2.2),if_pos h1,if_pos h2];rfl
 ·have h3:e=0:=by simpa using h3
  subst h3
  rw[if_pos ⟨h1,h2,rfl⟩,if_pos h1,if_pos h2]
/-! The bounds of an expression. -/
abbrev BR:=Bd×Bool
section
variable {k:Int} {R:List BR}
end
end Go.Proofs
