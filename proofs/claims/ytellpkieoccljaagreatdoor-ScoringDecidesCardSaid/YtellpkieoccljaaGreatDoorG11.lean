import Derived.Test.YtellpkieoccljaaGreatDoorAcD
import Derived.Test.YtellpkieoccljaaGreatDoorG9
import Derived.Test.YtellpkieoccljaaGreatDoorG6
import Derived.Test.YtellpkieoccljaaGreatDoorG10
set_option autoImplicit false
namespace Go.Proofs
open Go Go.Ab Go.RowKit
set_option maxHeartbeats 4000000
set_option maxRecDepth 100000
variable {G:IH}
/-! afA: Rw. -/
theorem cZ.res {f:FuncId} {args:List AV} {pre post post':List (Nat×List AV)} {r r':AV} (hle:AS.jq ⟨[r],post⟩ ⟨[r'],post'⟩) (h:cZ Tryz.prog G f args pre r post):cZ Tryz.prog G f args pre r' post':=
 ⟨h.1,fun F w h0 β us g=>(h.2 F w h0 β us g).mono fun e w' ⟨v,β',h',e1,g1⟩=>
  let ⟨β2,g2⟩:=hle G F w h0 β' h' #[v] w' g1
  ⟨v,β2,h',e1,g2⟩⟩
theorem cZ.aho {f:FuncId} {x:DV} {rest:List AV} {pre post:List (Nat×List AV)} {r:AV} (hcall:∀(us:Array Value) (w:World),(callFunc f us).run Tryz.prog w=.ok (.enter f us) w) (h:∀k v,DV.rel k x v→cZ Tryz.prog G f (.d (.con v) :: rest) pre r post):cZ Tryz.prog G f (.d x :: rest) pre r post:=
 ⟨hcall,fun F w h0 β us g=>by
  obtain ⟨v,hv,hr⟩:=g.regs 0 (.d x) rfl
  exact(h h0 v hr).2 F w h0 β us ⟨g.glob,g.holds,g.ext,g.old,g.kept,g.fix,by simpa using g.size,fun j z hz=>by
   cases j with
   | zero=>
    simp only[List.getElem?_cons_zero,aH] at hz
    subst hz
    exact⟨v,hv,rfl⟩
   | succ j=>exact g.regs (j+1) z (by simpa using hz),g.box,g.inj⟩⟩
def NP (B:List Bool) (i:Nat):DV:=db (B.getD i false)
abbrev blD (B:List Bool):DV:=.slc 1 B.length (NP B)
abbrev blK:RK:=⟨false,4,false,none⟩
theorem f22 (B:List Bool) (hL:B.length≤100000):cZ Tryz.prog G 22 [.d (blD B)] [] (.vec 900 1 0 B.length) [(900,[.arr blK 1 (NP B)])]:=by
 by_cases h0:0<B.length
 ·refine cZ.walk (ay:=jo) (keep:=[]) [(5,900),(7,900)] follows (by kernel_rfl) Tryz.func22 rfl Tryz.call22 ?_
  refine aA (fun _ _ _ _=>((0<B.length)∧((false=true)→(((.d (.con (.slice none 0 0))):AV)=(.vec 900 1 0 B.length)∧(none:(Option (List AV)))=(some [(.arr ⟨false,4,false,none⟩ 1 (NP B))])∧True))∧((false=false)→(((((0+B.length)*1≤1099511627776)∧(0+B.length≤1099511627776))∧(∀(i:Nat),i<B.length→jW false 1 (NP B i)=true))∧((.vec 900 1 0 (0+B.length)):AV)=(.vec 900 1 0 B.length)∧((some [(.arr ⟨false,4,false,none⟩ 1 (fun i=>bif i.blt 0 then DV.con undef else NP B (i-0)))]):(Option (List AV)))=(some [(.arr ⟨false,4,false,none⟩ 1 (NP B))])∧True)))) (by kernel_rfl) ?_
  exact⟨h0,fun h=>(by cases h),fun _=>⟨⟨⟨by omega,by omega⟩,fun i _=>rfl⟩,by rw[Nat.zero_add],rfl,trivial⟩⟩
 ·obtain rfl:B=[]:=List.eq_nil_of_length_eq_zero (by omega)
  refine cZ.aho Tryz.call22 fun k v hv=>?_
  obtain ⟨p,cap,rfl,hc,_⟩:=hv
  cases p with
  | none=>
   refine cZ.res (.nilRow _ 0 900 1 blK _ (by kernel_rfl) (by kernel_rfl)) (r:=.d (.con (.slice none 0 0))) (post:=[]) ?_
   refine cZ.walk (ay:=jo) (keep:=[]) [] follows (by kernel_rfl) Tryz.func22 rfl Tryz.call22 ?_
   refine aA (fun _ _ _ _=>(((true=true)→((ZS ((.d (.con (.slice none 0 0))):AV))∧True))∧((true=false)→((((0+0)*1≤1099511627776)∧(0+0≤1099511627776))∧((.vec 7 1 0 0):AV)=(.d (.con (.slice none 0 0)))∧True)))) (by kernel_rfl) ?_
   exact⟨fun _=>⟨rfl,trivial⟩,fun h=>by cases h⟩
  | some a=>
   refine cZ.res (r:=.vec 900 1 0 0) (post:=[(900,[.arr blK 1 fun i=>bif Nat.blt i 0 then DV.con undef else DV.con undef])]) (AS.jq.BK _ 0 900 0 (NP []) rfl rfl rfl (by kernel_rfl) fun i hi=>absurd hi (Nat.not_lt_zero i)) ?_
   refine cZ.walk (ay:=jo) (keep:=[]) [(7,900)] follows (by kernel_rfl) Tryz.func22 rfl Tryz.call22 ?_
   refine aA (fun _ _ _ _=>(fun Za=>(((false=true)→(((.d (.con (.slice none 0 0))):AV)=(.vec 900 1 0 0)∧(none:(Option (List AV)))=Za∧True))∧((false=false)→((((0+0)*1≤1099511627776)∧(0+0≤1099511627776))∧(ZS ((.vec 900 1 0 0):AV))∧(Za:(Option (List AV)))=Za∧True)))) (some [(.arr ⟨false,4,false,none⟩ 1 (fun i=>bif i.blt 0 then DV.con undef else DV.con undef))])) (by kernel_rfl) ?_
   exact⟨fun h=>(by cases h),fun _=>⟨⟨by omega,by omega⟩,rfl,rfl,trivial⟩⟩
end Go.Proofs
namespace Go.Ab
open Go Go.RowKit
/-! A row under one cell of a box: what it says beyond its length is nobody's aa6. -/
def AS.rowB (st:AS) (b i s sz n:Nat) (agg:RK) (f:Nat→DV):AS:=⟨(st.forget s).regs,(s,[.arr agg sz f]) :: setCells b i (.vec s sz 0 n) (st.forget s).boxes⟩
theorem AS.jq.rowB (st:AS) (b i s n:Nat) {agg:RK} {sz:Nat} {f:Nat→DV} (f':Nat→DV) {l:List AV} (hl:st.box b=some l) (hx:l[i]?=some (.vec s sz 0 n)) (hpl:cO (l.map (iQ s))=true) (hps:cO ((l.map (iQ s)).set i (.vec s sz 0 n))=true) (hbs:Nat.beq b s=false) (hb:st.box s=some [.arr agg sz f]) (hmn:agg.mn=none) (hf:(st.forget s).free s=true) (YA:∀i,i<n→f i=f' i):st.jq (st.rowB b i s sz n agg f'):=by
 have hne:s≠b:=by
  rintro rfl
  simp at hbs
 intro G F w0 h0 β h tm w g
 have gf:=g.forget s
 obtain ⟨_,c2⟩:=g.box b l hl
 have hpl0:cO l=true:=by
  cases hp:cO l with
  | true=>rfl
  | false=>rw[rH hp,hp] at hpl;cases hpl
 rw[Own.plain hpl0] at c2
 obtain ⟨T0,vs0,e0,r0⟩:=c2
 obtain ⟨v,hv,hr⟩:=r0.get hx
 obtain ⟨k1,k2,p,rfl,hp⟩:=hr
 obtain ⟨b1,b2⟩:=g.box s _ hb
 obtain ⟨⟨r1,r2⟩,r3⟩:=b2
 rw[Nat.zero_add] at k1
 have g1:=gf.adopt (d:=s) (b:=blk β s) (c:=room β s) (m:=n) (l:=[.arr agg sz f']) hf
  (by
   simp only[Own,dP,fZ]
   refine⟨⟨by omega,by rw[hmn];exact Nat.zero_le _⟩,r3.imp id ?_⟩
   rintro ⟨fr,us,e,hz,hl,ho,hel⟩
   exact⟨fr,us,e,hz,hl,ho,fun i hi=>YA i hi▸hel i (by omega)⟩)
  (fun hl=>by
   simp only[Live,dP] at hl
   have hl':Live β s [.arr agg sz f]:=hl
   obtain ⟨a1,a2,a3⟩:=b1 hl'
   refine⟨a1,a2,a3,fun t' k hk kl he=>?_⟩
   obtain ⟨hne,l0,hl0,rfl⟩:=vK hk
   exact hne (g.inj t' s l0 _ hl0 hb (uh kl) hl' he))
 have hlf:(st.forget s).box b=some (l.map (iQ s)):=by
  simp only[AS.forget,AS.box,uf]
  rw[if_neg (Ne.symm hne)]
  have:look st.boxes b=some l:=hl
  rw[this];rfl
 have hb1:look ((s,[AV.arr agg sz f']) :: (st.forget s).boxes) b=some (l.map (iQ s)):=by
  simp only[look]
  rw[dH hne,cond_false];exact hlf
 obtain ⟨p1,p2⟩:=g1.box b _ hb1
 rw[Own.plain hpl] at p2
 obtain ⟨T,vs,e1,e2⟩:=p2
 have hblk:blk (upd β s (blk β s) (room β s) n) b=blk β b:=gQ (Ne.symm hne)
 have hvs:vs=vs0:=by
  rw[hblk,e0] at e1
  have:=Option.some.inj e1
  injection this with h1 h2
  have h3:=congrArg Array.toList h1
  simp at h3
  exact h3.symm
 subst hvs
 have hset:AV.aF (upd β s (blk β s) (room β s) n) h ((l.map (iQ s)).set i (.vec s sz 0 n)) vs:=by
  have h1:=KA (i:=i) e2 (x:=.vec s sz 0 n) (v:=vs[i]'(List.getElem?_eq_some_iff.1 hv).1) (by
   rw[(List.getElem?_eq_some_iff.1 hv).2]
   simp only[AV.rel,dP,fZ,iZ]
   exact⟨by omega,by omega,p,rfl,hp⟩)
  rwa [List.set_getElem_self] at h1
 have key:∀t m,look ((s,[AV.arr agg sz f']) :: setCells b i (.vec s sz 0 n) (st.forget s).boxes) t=some m→(t=b∧m=(l.map (iQ s)).set i (.vec s sz 0 n))∨(t≠b∧look ((s,[AV.arr agg sz f']) :: (st.forget s).boxes) t=some m):=by
  intro t m hm
  by_cases hts:s=t
  ·subst hts
   simp only[look,jd,cond_true] at hm⊢
   exact .inr ⟨hne,hm⟩
  ·simp only[look] at hm⊢
   rw[dH hts,cond_false] at hm⊢
   exact eU hlf t m hm
 refine⟨_,g1.glob,g1.holds,g1.ext,g1.old,g1.kept,g1.fix,g1.size,g1.regs,fun t m hm=>?_,fun t t' m m' hm hm' hl hl' he=>?_⟩
 ·rcases key t m hm with ⟨rfl,rfl⟩|⟨_,hm⟩
  ·exact⟨fun _=>p1 (Live.plain hpl),Own.of T.2 e1 hset⟩
  ·exact g1.box t m hm
 ·have conv:∀t m,look ((s,[AV.arr agg sz f']) :: setCells b i (.vec s sz 0 n) (st.forget s).boxes) t=some m→Live (upd β s (blk β s) (room β s) n) t m→∃m2,look ((s,[AV.arr agg sz f']) :: (st.forget s).boxes) t=some m2∧Live (upd β s (blk β s) (room β s) n) t m2:=by
   intro t m hm hl
   rcases key t m hm with ⟨rfl,rfl⟩|⟨_,hm⟩
   ·exact⟨_,hb1,Live.plain hpl⟩
   ·exact⟨m,hm,hl⟩
  obtain ⟨m1,a1,a2⟩:=conv t m hm hl
  obtain ⟨m2,b1,b2⟩:=conv t' m' hm' hl'
  exact g1.inj t t' m1 m2 a1 b1 a2 b2 he
end Go.Ab
namespace Go.Proofs
open Go Go.Ab Go.RowKit
set_option maxHeartbeats 4000000
set_option maxRecDepth 100000
variable {G:IH}
abbrev Ht (B:List Bool) (i:Nat):Bool:=B.getD i false
noncomputable def d23 (M:Nat) (B:List Bool) (a:Nat):aZ:=fun f x=>match f,x with
 | 23,[e,_,_]=>some (.au [bG M (yx (Ht B) (ah e) a),di ((a:Int)+(bM (ah e)).length)])
 | _,_=>none
noncomputable def abf (M:Nat) (B:List Bool) (a:Nat):iq:={ d:=d23 M B a,rows:=fun n=>Nat.beq n 62 }
noncomputable def S23 (M m:Nat) (B:List Bool) (x:Ex) (a k:Nat):AS:=⟨regs Tryz.f23.ntmps [(1,.d (di ((a:Int)+(iP (x.kids.take k)).length))),(2,.d (blD B)),(6,.box 6 0),(8,.box 8 0),(46,.d (.slc 6 x.kids.length (lay (bJ m) x.kids))),(47,vi x.kids.length),(48,vi k)],[(8,[.d (di x.k),.d (ds .empty),.d (di 0),.d (di 0),.d (di 0),.vec 900 6 0 k]),(6,[.d (di 0),.d (ds .empty),.d (di 0),.d (di 0),.d (di 0),.d (.con (.slice none 0 0))]),(900,[.arr Tv 6 (nG M (DZ (Ht B) x.kids a))])]⟩
theorem f23 (M m:Nat) (B:List Bool) (hB:B.length≤100000):∀(x:Ex) (a:Nat),ht x≤m→ht x≤M→Sm x→a+jV x≤1000000→aj Tryz.prog G 23 [bG m x,di a,blD B] (.au [bG M (yx (Ht B) x a),di ((a:Int)+(bM x).length)]):=by
 induction m using Nat.strongRecOn with
 | _ m ih=>
 intro x a hx hM hs ha
 have hlen:=hs.len.1
 have er:ah (aB m x)=x:=fU hx
 have hnd:=hs.nd
 cases hsp:jU x with
 | false=>
  refine aj.res (r:=.au [.agg [di (if B.getD a false then 3 else 4),ds .empty,di 0,di 0,di 0,.con (.slice none 0 0)],di ((a:Int)+1)]) ?_ fun k v hv=>?_
  ·have hk:(x.k != 18&&x.k != 19&&x.k != 20)=true:=by
    unfold jU at hsp
    simp only[Bool.or_eq_false_iff,beq_eq_false_iff_ne] at hsp
    simp[hsp]
   refine aj.aK (ay:=abf M B a) (keep:=[]) follows Tryz.func23 rfl Tryz.call23 ?_
   refine aA (fun ZT ZW ZQ _=>((((x.k != 18&&x.k != 19&&x.k != 20)=true)→((((decide ((↑a:Int)<↑B.length))=true)→((0≤(↑a:Int))∧((↑a:Int)<↑B.length)))∧(((decide ((↑a:Int)<↑B.length)&&B.getD (↑a:Int).toNat false)=true)→((I64 (↑a+1))∧((.au [(.agg [(di 3),(ds (ByteArray.mk #[])),(di 0),(di 0),(di 0),(.con (.slice none 0 0))]),(di (↑a+1))]):DV)=(.au [(.agg [(di (if B.getD a false=true then 3 else 4)),(ds ByteArray.empty),(di 0),(di 0),(di 0),(.con (.slice none 0 0))]),(di (↑a+1))])))∧(((decide ((↑a:Int)<↑B.length)&&B.getD (↑a:Int).toNat false)=false)→((I64 (↑a+1))∧((.au [(.agg [(di 4),(ds (ByteArray.mk #[])),(di 0),(di 0),(di 0),(.con (.slice none 0 0))]),(di (↑a+1))]):DV)=(.au [(.agg [(di (if B.getD a false=true then 3 else 4)),(ds ByteArray.empty),(di 0),(di 0),(di 0),(.con (.slice none 0 0))]),(di (↑a+1))])))))∧(((x.k != 18&&x.k != 19&&x.k != 20)=false)→ZW [cd Tryz.f23 [1,1,1,0,1,0],(.blk 0),cd Tryz.f23 [1,1,1,1]] (aI ZT [1]) ZQ))) (by kernel_rfl) ?_
   refine⟨fun _=>⟨fun h=>⟨by omega,of_decide_eq_true h⟩,fun h=>⟨⟨by omega,by omega⟩,?_⟩,fun h=>⟨⟨by omega,by omega⟩,?_⟩⟩,fun h=>(by rw[hk] at h;cases h)⟩
   ·simp only[Int.toNat_natCast,aT] at h
    rw[h.2];rfl
   ·simp only[Int.toNat_natCast,Bool.and_eq_false_iff,decide_eq_false_iff_not] at h
    have h2:B.getD a false=false:=by
     rcases h with h|h
     ·rw[List.getD,List.getElem?_eq_none (by omega)];rfl
     ·exact h
    rw[h2];rfl
  ·rw[aaS _ hsp,P8 hsp]
   obtain ⟨us,rfl,a1,u1,rfl,h1,a2,u2,rfl,h2,h0⟩:=hv
   obtain ⟨vs,rfl,v1,w1,rfl,g1,v2,w2,rfl,g2,v3,w3,rfl,g3,v4,w4,rfl,g4,v5,w5,rfl,g5,v6,w6,rfl,g6,g7⟩:=h1
   exact⟨_,rfl,_,_,rfl,⟨_,rfl,v1,_,rfl,g1,v2,_,rfl,g2,v3,_,rfl,g3,v4,_,rfl,g4,v5,_,rfl,g5,v6,_,rfl,su g6,g7⟩,a2,_,rfl,h2,h0⟩
 | true=>
  have hk:(x.k != 18&&x.k != 19&&x.k != 20)=false:=by
   unfold jU at hsp
   cases h1:(x.k==18)<;>cases h2:(x.k==19)<;>cases h3:(x.k==20)<;>simp_all [bne]
  rw[afe _ hsp,YF hsp]
  refine aj.res (r:=.au [.agg [di x.k,ds .empty,di 0,di 0,di 0,.slc 6 x.kids.length (fun i=>nG M (DZ (Ht B) x.kids a) (0+i))],di ((a:Int)+(iP x.kids).length)]) ?_ fun k v hv=>?_
  rotate_left
  ·obtain ⟨us,rfl,a1,u1,rfl,h1,a2,u2,rfl,h2,h0⟩:=hv
   obtain ⟨vs,rfl,v1,w1,rfl,g1,v2,w2,rfl,g2,v3,w3,rfl,g3,v4,w4,rfl,g4,v5,w5,rfl,g5,v6,w6,rfl,g6,g7⟩:=h1
   refine⟨_,rfl,_,_,rfl,⟨_,rfl,v1,_,rfl,g1,v2,_,rfl,g2,v3,_,rfl,g3,v4,_,rfl,g4,v5,_,rfl,g5,v6,_,rfl,?_,g7⟩,a2,_,rfl,h2,h0⟩
   show DV.rel k (.slc 6 (DZ (Ht B) x.kids a).length (lay (bJ M) (DZ (Ht B) x.kids a))) v6
   rw[TQ]
   refine jI (fun i hi v hv=>?_) g6
   rw[Nat.zero_add] at hv
   have h3:=iC hi
   have h4:ht ((DZ (Ht B) x.kids a).getD i ak)≤ht (x.kids.getD i ak):=by
    rw[TV _ _ _ _ hi];exact(abH _ _ _).1
   cases M with
   | zero=>omega
   | succ M'=>exact VI (M'+1) M' _ (by omega) (by omega) k v hv
  have hat:=Em x.kids
  have hnq:=zh x
  refine aj.aK (ay:=abf M B a) (keep:=[]) follows Tryz.func23 rfl Tryz.call23 ?_
  refine aA (fun ZT ZW ZQ _=>(fun Za=>((((x.k != 18&&x.k != 19&&x.k != 20)=true)→((((decide ((↑a:Int)<↑B.length))=true)→((0≤(↑a:Int))∧((↑a:Int)<↑B.length)))∧(((decide ((↑a:Int)<↑B.length)&&B.getD (↑a:Int).toNat false)=true)→((I64 (↑a+1))∧((.au [(.agg [(di 3),(ds (ByteArray.mk #[])),(di 0),(di 0),(di 0),(.con (.slice none 0 0))]),(di (↑a+1))]):DV)=Za))∧(((decide ((↑a:Int)<↑B.length)&&B.getD (↑a:Int).toNat false)=false)→((I64 (↑a+1))∧((.au [(.agg [(di 4),(ds (ByteArray.mk #[])),(di 0),(di 0),(di 0),(.con (.slice none 0 0))]),(di (↑a+1))]):DV)=Za))))∧(((x.k != 18&&x.k != 19&&x.k != 20)=false)→ZW [cd Tryz.f23 [1,1,1,0,1,0],(.blk 0),cd Tryz.f23 [1,1,1,1]] (aI ZT [1]) ZQ))) ((.au [(.agg [(di x.k),(ds ByteArray.empty),(di 0),(di 0),(di 0),(.slc 6 x.kids.length (fun i=>nG M (DZ (Ht B) x.kids a) (0+i)))]),(di (↑a + ↑(iP x.kids).length))]):DV)) (by kernel_rfl) ?_
  refine⟨fun h=>(by rw[hk] at h;cases h),fun _=>?_⟩
  refine aC.pre (.GI _ 8 5 900 6 Tv (nG M (DZ (Ht B) x.kids a)) (by kernel_rfl) (by kernel_rfl)) ?_
  refine aC.loop (c:=dR (aQ Tryz.f23) [1,1,1,0,1,0,0]) (by kernel_rfl) (S23 M m B x a) (fun k=>k≤x.kids.length) (fun k=>x.kids.length-k) 0 ?_ (Nat.zero_le _) ?_
  ·refine AS.leZ [] [0,1] (b:=((T0∧T0∧T0∧T0∧T0∧T0∧T0∧True)∧((some [(vi x.k),(vs (ByteArray.mk #[])),(vi 0),(vi 0),(vi 0),(.vec 900 6 0 0)]):(Option (List AV)))=(some [(vi x.k),(vs ByteArray.empty),(vi 0),(vi 0),(vi 0),(.vec 900 6 0 0)])∧((some [(vi 0),(vs (ByteArray.mk #[])),(vi 0),(vi 0),(vi 0),(.d (.con (.slice none 0 0)))]):(Option (List AV)))=(some [(vi 0),(vs ByteArray.empty),(vi 0),(vi 0),(vi 0),(.d (.con (.slice none 0 0)))])∧T0∧True)) (by kernel_rfl) (by kernel_rfl) ?_
   exact⟨⟨rfl,rfl,rfl,rfl,rfl,rfl,rfl,trivial⟩,rfl,rfl,rfl,trivial⟩
  ·intro k hk
   by_cases hk2:k<x.kids.length
   ·have WL:ah (aS m x k)=x.kids.getD k ak:=dL hx hk2
    have htk:=iC hk2
    have htn:=aed x.kids k hk2
    have hta:=Em (x.kids.take k)
    have h1:=Em (x.kids.take (k+1))
    have h2:=OG x.kids (k+1)
    have Xw:iP (x.kids.take (k+1))=iP (x.kids.take k)++bM (x.kids.getD k ak):=by
     rw[List.take_add_one,bQ hk2,Option.toList_some,Uc,List.getD,bQ hk2];rfl
    rw[Xw,List.length_append] at h1
    have aa7:aj Tryz.prog G 23 [aS m x k,di ((a+(iP (x.kids.take k)).length:Nat):Int),blD B] (.au [bG M (yx (Ht B) (x.kids.getD k ak) (a+(iP (x.kids.take k)).length)),di (((a+(iP (x.kids.take k)).length:Nat):Int)+(bM (x.kids.getD k ak)).length)]):=jD (Q:=fun d=>aj Tryz.prog G 23 [d,di ((a+(iP (x.kids.take k)).length:Nat):Int),blD B] (.au [bG M (yx (Ht B) (x.kids.getD k ak) (a+(iP (x.kids.take k)).length)),di (((a+(iP (x.kids.take k)).length:Nat):Int)+(bM (x.kids.getD k ak)).length)])) hx hk2 fun m' h3 h4=>ih m' h3 _ _ h4 (by omega) (hs.kid hk2) (by omega)
    refine aK (ay:=abf M B (a+(iP (x.kids.take k)).length)) (keep:=[]) (cuts:=[]) (n:=1000) follows ?_
    refine bW (fun ZT ZW ZQ ZK ZA _=>(fun Za=>((((decide ((↑k:Int)<↑x.kids.length))=true)→(((0≤(↑k:Int))∧((↑k:Int)<↑x.kids.length))∧ZK 23 [Za,(di (↑a + ↑(iP (List.take k x.kids)).length)),(.slc 1 B.length (NP B))] (.au [(aB M (yx (Ht B) (ah Za) (a+(iP (List.take k x.kids)).length))),(di (↑(a+(iP (List.take k x.kids)).length) + ↑(bM (ah Za)).length))])∧(((k+1)*72≤1099511627776)∧(k+1≤1099511627776))∧(I64 (↑k+1))∧(ZA (aI ZT [0]))))∧(((decide ((↑k:Int)<↑x.kids.length))=false)→ZW [cd Tryz.f23 [1,1,1,1]] (aI ZT [1]) ZQ))) (aY m (x.kids.getD (↑k:Int).toNat ak))) (by kernel_rfl) ?_
    simp only[Int.toNat_natCast,WL]
    refine⟨fun _=>⟨⟨by omega,by omega⟩,aa7,⟨by omega,by omega⟩,⟨by omega,by omega⟩,?_⟩,fun h=>absurd (of_decide_eq_false h) (by omega)⟩
    refine⟨k+1,(AS.jq.moves [(63,900)] _ rfl).trans ((AS.jq.rowB _ 8 5 900 (k+1) (l:=[.d (di x.k),.d (ds .empty),.d (di 0),.d (di 0),.d (di 0),.vec 900 6 0 (k+1)]) (agg:=Tv) (sz:=6) (f:=fun i=>bif Nat.blt i k then nG M (DZ (Ht B) x.kids a) i else aN true 6 [di (yx (Ht B) (ah (aS m x k)) (a+(iP (x.kids.take k)).length)).k,ds (yx (Ht B) (ah (aS m x k)) (a+(iP (x.kids.take k)).length)).s,di (yx (Ht B) (ah (aS m x k)) (a+(iP (x.kids.take k)).length)).n,di (yx (Ht B) (ah (aS m x k)) (a+(iP (x.kids.take k)).length)).d,di (yx (Ht B) (ah (aS m x k)) (a+(iP (x.kids.take k)).length)).pos,.slc 6 (yx (Ht B) (ah (aS m x k)) (a+(iP (x.kids.take k)).length)).kids.length (lay (bJ M) (yx (Ht B) (ah (aS m x k)) (a+(iP (x.kids.take k)).length)).kids)] (0+(i-k))) (nG M (DZ (Ht B) x.kids a)) (by kernel_rfl) (by kernel_rfl) (by kernel_rfl) (by kernel_rfl) (by kernel_rfl) (by kernel_rfl) rfl (by kernel_rfl) (fun i hi=>?_)).trans (.of_le ?_)),hk2,(show x.kids.length-(k+1)<x.kids.length-k from by omega)⟩
    ·unfold nG
     rcases Nat.lt_or_ge i k with h4|h4
     ·rw[show Nat.blt i k=true from by rw[Nat.blt_eq];exact h4];rfl
     ·obtain rfl:i=k:=by omega
      rw[show Nat.blt i i=false from by rw[Bool.eq_false_iff,ne_eq,Nat.blt_eq];omega,Nat.sub_self,TV _ _ _ _ hk2,WL];rfl
    ·refine AS.leZ [0] [] (b:=((((vi (↑(a+(iP (List.take k x.kids)).length) + ↑(bM (ah (aY m (x.kids.getD (↑k:Int).toNat ak)))).length)):AV)=(vi (↑a + ↑(iP (List.take (k+1) x.kids)).length))∧T0∧T0∧T0∧T0∧T0∧T0∧True)∧T0∧T0∧T0∧True)) (by kernel_rfl) (by kernel_rfl) ?_
     exact⟨⟨congrArg (fun n:Int=>(AV.d (di n))) (by rw[Int.toNat_natCast,WL,Xw,List.length_append];omega),rfl,rfl,rfl,rfl,rfl,rfl,trivial⟩,rfl,rfl,rfl,trivial⟩
   ·have hkn:k=x.kids.length:=by omega
    subst hkn
    refine aK (ay:=abf M B a) (keep:=[]) (cuts:=[]) (n:=1000) follows ?_
    refine bW (fun ZT ZW ZQ ZK ZA _=>(fun Za=>((((decide ((↑x.kids.length:Int)<↑x.kids.length))=true)→(((0≤(↑x.kids.length:Int))∧((↑x.kids.length:Int)<↑x.kids.length))∧ZK 23 [Za,(di (↑a + ↑(iP (List.take x.kids.length x.kids)).length)),(.slc 1 B.length (NP B))] (.au [(aB M (yx (Ht B) (ah Za) a)),(di (↑a + ↑(bM (ah Za)).length))])∧(((x.kids.length+1)*72≤1099511627776)∧(x.kids.length+1≤1099511627776))∧(I64 (↑x.kids.length+1))∧(ZA (aI ZT [0]))))∧(((decide ((↑x.kids.length:Int)<↑x.kids.length))=false)→ZW [cd Tryz.f23 [1,1,1,1]] (aI ZT [1]) ZQ))) (aY m (x.kids.getD (↑x.kids.length:Int).toNat ak))) (by kernel_rfl) ?_
    refine⟨fun h=>absurd (of_decide_eq_true h) (by omega),fun _=>?_⟩
    refine aK (ay:=abf M B a) (keep:=[]) (cuts:=[]) (n:=1000) follows ?_
    refine aA (fun _ _ _ _=>(fun Za=>(((.au [Za,(di (↑a + ↑(iP (List.take x.kids.length x.kids)).length))]):DV)=(.au [Za,(di (↑a + ↑(iP x.kids).length))]))) ((.agg [(di x.k),(ds ByteArray.empty),(di 0),(di 0),(di 0),(.slc 6 x.kids.length (fun i=>nG M (DZ (Ht B) x.kids a) (0+i)))]):DV)) (by kernel_rfl) ?_
    rw[List.take_length]
/-! The law of ScoringDecides. -/
noncomputable def d5 (x:Ex) (F:List Ft) (L:List Fc) (m:Nat) (e:Bool) (B:List Bool) (w:Ft×Int):aZ:=fun f a=>match f,a with
 | 10,[]=>some (db true)
 | 11,[_,_,_]=>some (db (qE x F L))
 | 16,[_,_]=>some (qG m (match e with|true=>atR L x|false=>bM x))
 | 12,[_,_,_]=>some (.au [eX w.1,di w.2])
 | 19,[_,_,_]=>match e with|true=>some (.au [.con (.slice none 0 0),di (Gz F L x).2])|false=>none
 | 23,[_,_,_]=>some (.au [bG m (yx (Ht B) x 0),di (bM x).length])
 | _,_=>none
def m5 (l:List Int) (B:List Bool):FuncId→List AV→List (Nat×List AV)→Option (AV×List (Nat×List AV)):=fun f _ _=>match f with
 | 19=>some (.au [.vec 900 1 0 l.length,vi 0],[y8 l])
 | 22=>some (.vec 900 1 0 B.length,[(900,[.arr blK 1 (NP B)])])
 | _=>none
noncomputable def af2 (x:Ex) (F:List Ft) (L:List Fc) (m:Nat):iq:={ d:=d5 x F L m true [] (aJ,0),m:=fun _ _ _=>none }
noncomputable def ac7 (x:Ex) (F:List Ft) (L:List Fc) (m:Nat) (l:List Int) (B B':List Bool) (w:Ft×Int):iq:={ d:=d5 x F L m false B' w,m:=m5 l B }
mutual
theorem aeZ (B:Nat→Bool):∀(x:Ex) (a:Nat),xU (yx B x a)
 | .mk k s n d p kids,a=>by
  rw[yx]
  split
  ·exact⟨by decide,ae7 B kids a⟩
  ·exact⟨by decide,trivial⟩
theorem ae7 (B:Nat→Bool):∀(l:List Ex) (a:Nat),zC (DZ B l a)
 | [],_=>trivial
 | x :: l,a=>by rw[DZ];exact⟨aeZ B x a,ae7 B l _⟩
end
theorem agi {α:Type} {l:List α} {n:Nat} {a d:α} (h:n<l.length):(l.set n a).getD n d=a:=by rw[List.getD,List.getElem?_set_self h];rfl
theorem ag7 {α:Type} {l:List α} {n i:Nat} {a d:α} (h:n≠i):(l.set n a).getD i d=l.getD i d:=by rw[List.getD,List.getElem?_set_ne h];rfl
abbrev tfF (v:Bool):Ft:={ eY 1 with tr:=v }
noncomputable def S5 (x:Ex) (F:List Ft) (L:List Fc) (m:Nat) (l:List Int) (V:Nat→Bool) (v:Bool) (B:List Bool) (k:Nat):AS:=⟨regs Tryz.f5.ntmps [(1,.d (iJ F)),(2,.d (fC L)),(4,.box 4 0),(9,.vec 39900 1 0 l.length),(11,.d (qG m (bM x))),(12,.box 12 0),(14,.vec 58 1 0 (B.length+30)),(71,.vec 39900 1 0 l.length),(72,vi l.length),(73,vi k)],[(4,l7 m x),(12,[vs .empty,vi 1,vi 0,vi 0,.d (db v),vs .empty]),(39900,[.arr uI 1 (gG l)]),(58,[.arr blK 1 (NP (stB V (B++List.replicate 30 false) (l.take k)))])]⟩
theorem f5 (hT:Tab G) (m:Nat) (x:Ex) (F:List Ft) (L:List Fc) (B:List Bool) (hx:ht x≤m) (hw:rP x) (hl:L.length≤9223372036854775807) (Sl:F.length≤9223372036854775807) (hlB:B.length≤9223372036854775807) (hw2:∀i,i<L.length→PX (L.getD i aG)) :
  aj Tryz.prog G 5 [bG m x,iJ F,fC L,blD B] (db true):=by
 have er:ah (aB m x)=x:=fU hx
 by_cases hg:qE x F L=true∧B.length≤30
 case neg=>
  refine aj.iE Tryz.func5 rfl Tryz.call5 ?_
  refine aK (ay:=af2 x F L m) (keep:=[]) (cuts:=[5]) (n:=1000) follows ?_
  refine aA (fun ZT ZW ZQ ZK=>(ZK 10 [] (db true)∧((false=true)→(((db false):DV)=(db true)))∧((false=false)→(ZK 11 [(aB m x),(.slc 6 F.length (kT F)),(.slc 7 L.length (gV L))] (db (qE x F L))∧(((!qE x F L||decide ((↑B.length:Int)>30))=true)→(ZS ((db true):DV)))∧(((!qE x F L||decide ((↑B.length:Int)>30))=false)→ZW [cd Tryz.f5 [1,1,1]] (aI ZT [1,1]) ZQ))))) (by kernel_rfl) ?_
  refine⟨f10 hT,fun h=>Bool.noConfusion h,fun _=>⟨f11 m x F L hx hw hl Sl hw2,fun _=>rfl,fun h=>?_⟩⟩
  refine absurd ?_ hg
  simp only[Bool.or_eq_false_iff,Bool.not_eq_false',decide_eq_false_iff_not] at h
  exact⟨h.1,by omega⟩
 obtain ⟨hf,hB⟩:=hg
 have h:=P6 hw hf
 have hll:L.length≤1000:=by have:=h.ll;omega
 have hlf:F.length≤100000:=by have:=h.lf;omega
 by_cases he:(Gz F L x).2=0
 case neg=>
  refine aj.iE Tryz.func5 rfl Tryz.call5 ?_
  refine aK (ay:=af2 x F L m) (keep:=[]) (cuts:=[9]) (n:=1000) follows ?_
  refine aA (fun ZT ZW ZQ ZK=>(ZK 10 [] (db true)∧((false=true)→(((db false):DV)=(db true)))∧((false=false)→(ZK 11 [(aB m x),(.slc 6 F.length (kT F)),(.slc 7 L.length (gV L))] (db (qE x F L))∧(((!qE x F L||decide ((↑B.length:Int)>30))=true)→(ZS ((db true):DV)))∧(((!qE x F L||decide ((↑B.length:Int)>30))=false)→(ZK 19 [(aB m x),(.slc 6 F.length (kT F)),(.slc 7 L.length (gV L))] (.au [(.con (.slice none 0 0)),(di (Gz F L x).snd)])∧ZK 16 [(aB m x),(.slc 7 L.length (gV L))] (.slc 6 (atR L x).length (nG m (atR L x)))∧((((Gz F L x).snd != 0)=true)→(ZS ((db true):DV)))∧((((Gz F L x).snd != 0)=false)→ZW [cd Tryz.f5 [1,1,1,1,1,1]] (aI ZT [1,1,1]) ZQ))))))) (by kernel_rfl) ?_
  refine⟨f10 hT,fun h=>Bool.noConfusion h,fun _=>⟨f11 m x F L hx hw hl Sl hw2,fun _=>rfl,fun _=>⟨(f19 hT F L h.fc hll hlf m x hx h.sm).2 he,f16 hT L h.fc hll m x hx h.sm,fun _=>rfl,fun c=>absurd (by simpa using c) he⟩⟩⟩
 have hnd:jV x≤30:=by
  unfold qE at hf
  simp only[aT] at hf
  have:=OH (by omega) _ hw hf.1.1
  omega
 obtain ⟨l,v,D⟩:=agX hnd he
 have h19:=(f19 (G:=G) hT F L h.fc hll hlf m x hx h.sm).1 he
 rw[D.rn] at h19
 have eat:=D.at_
 have ahL:l.length≤100000:=by
  have:=agG (F:=F) (L:=L) (x:=x) (by omega)
  rwa [D.rn] at this
 have hat:(bM x).length≤30:=by have:=Ez x;omega
 have hln:0<l.length:=List.length_pos_iff.2 D.ne
 have h16:=f16 (G:=G) hT L h.fc hll m x hx h.sm
 rw[eat] at h16
 have h12:=f12 (G:=G) hT F L h.fc hll (by omega) m x hx h.sm
 rw[D.ev] at h12
 refine aj.aK (ay:=ac7 x F L m l B [] (tfF v,0)) (keep:=[]) follows Tryz.func5 rfl Tryz.call5 ?_
 refine aA (fun ZT ZW ZQ ZK=>(fun Za=>(ZK 10 [] (db true)∧((false=true)→(((db false):DV)=(db true)))∧((false=false)→(ZK 11 [(aB m x),(.slc 6 F.length (kT F)),(.slc 7 L.length (gV L))] (db (qE x F L))∧(((!qE x F L||decide ((↑B.length:Int)>30))=true)→(ZS ((db true):DV)))∧(((!qE x F L||decide ((↑B.length:Int)>30))=false)→(cZ Tryz.prog G 19 [(.d (aB m x)),(.d (.slc 6 F.length (kT F))),(.d (.slc 7 L.length (gV L)))] [] (.au [(.vec 900 1 0 l.length),(vi 0)]) [(900,[(.arr ⟨false,3,false,none⟩ 1 (gG l))])]∧ZK 16 [(aB m x),(.slc 7 L.length (gV L))] (.slc 6 (bM x).length (nG m (bM x)))∧((false=true)→(((db ((↑l.length:Int)==0)):DV)=(db true)))∧((false=false)→(ZK 12 [(aB m x),(.slc 6 F.length (kT F)),(.slc 7 L.length (gV L))] (.au [(.agg [(ds ByteArray.empty),(di 1),(di 0),(di 0),(db v),(ds ByteArray.empty)]),(di 0)])∧(cZ Tryz.prog G 22 [(.d (.slc 1 B.length (NP B)))] [] (.vec 900 1 0 B.length) [(900,[(.arr ⟨false,4,false,none⟩ 1 (NP B))])]∧(((B.length+Int.toNat 30)*1≤1099511627776)∧(B.length+Int.toNat 30≤1099511627776))∧((0:Int)<(30:Int)))∧((Za=true)→(((db false):DV)=(db true)))∧((Za=false)→ZW [cd Tryz.f5 [1,1,1,1,1,1,1,1,1,0,1,0],(.blk 0),cd Tryz.f5 [1,1,1,1,1,1,1,1,1,1]] (aI ZT [1,1,1,1]) ZQ))))))))) ((0:Int) != (0:Int)||(↑(List.length l):Int)==(0:Int)||decide ((↑(List.length (bM x)):Int)>(30:Int)))) (by kernel_rfl) ?_
 refine⟨f10 hT,fun h=>Bool.noConfusion h,fun _=>⟨f11 m x F L hx hw hl Sl hw2,fun _=>rfl,fun _=>⟨h19,h16,fun c=>Bool.noConfusion c,fun _=>⟨h12,⟨f22 B (by omega),⟨by omega,by omega⟩,by decide⟩,fun c=>?_,fun _=>?_⟩⟩⟩⟩
 ·have a1:((l.length:Int)==0)=false:=beq_eq_false_iff_ne.2 (by omega)
  have a2:decide (((bM x).length:Int)>30)=false:=decide_eq_false (by omega)
  rw[a1,a2] at c
  exact absurd c (by decide)
 refine aC.loop (c:=dR (aQ Tryz.f5) [1,1,1,1,1,1,1,1,1,0,1,0,0]) (by kernel_rfl) (S5 x F L m l (TJ (bC F F.length) x) v B) (fun k=>k≤l.length) (fun k=>l.length-k) 0 ?_ (Nat.zero_le _) ?_
 ·refine AS.leZ [6] [3] (b:=((T0∧T0∧T0∧T0∧T0∧T0∧((.vec 58 1 0 (B.length+Int.toNat 30)):AV)=(.vec 58 1 0 (B.length+30))∧T0∧T0∧T0∧True)∧T0∧T0∧T0∧((some [(.arr ⟨false,4,false,none⟩ 1 (fun i=>bif i.blt B.length then NP B i else DV.con ([Value.bool false].getD 0 undef)))]):(Option (List AV)))=(some [(.arr ⟨false,4,false,none⟩ 1 (NP (stB (TJ (bC F F.length) x) (B++List.replicate 30 false) (List.take 0 l))))])∧True)) (by kernel_rfl) (by kernel_rfl) ?_
  refine⟨⟨rfl,rfl,rfl,rfl,rfl,rfl,rfl,rfl,rfl,rfl,trivial⟩,rfl,rfl,rfl,?_,trivial⟩
  refine congrArg (fun f=>some [AV.arr blK 1 f]) (funext fun i=>?_)
  show _=NP (B++List.replicate 30 false) i
  unfold NP
  rcases Nat.lt_or_ge i B.length with hi|hi
  ·rw[show Nat.blt i B.length=true from by rw[Nat.blt_eq];exact hi,J8 hi];rfl
  ·rw[show Nat.blt i B.length=false from by rw[Bool.eq_false_iff,ne_eq,Nat.blt_eq];omega,JQ hi]
   have:(List.replicate 30 false).getD (i-B.length) false=false:=by
    rw[List.getD,List.getElem?_replicate]
    split<;>rfl
   rw[this];rfl
 ·intro k hk
  by_cases hk2:k<l.length
  ·refine aK (ay:=ac7 x F L m l B [] (tfF (TJ (bC F F.length) x (l.getD k 0).toNat),0)) (keep:=[]) (cuts:=[]) (n:=1000) follows ?_
   refine bW (fun ZT ZW ZQ ZK ZA _=>(fun Za Zb=>((((decide ((↑k:Int)<↑l.length))=true)→(((0≤(↑k:Int))∧((↑k:Int)<↑l.length))∧(((Zb=true)→(I64 (↑k-1)))∧((Zb=true)→((0≤(↑k:Int)-1)∧((↑k:Int)-1<↑l.length))))∧((Za=true)→(((db false):DV)=(db true)))∧((Za=false)→((((0≤l.getD (0+(↑k:Int).toNat) 0)∧(l.getD (0+(↑k:Int).toNat) 0<↑(bM x).length))∧ZK 12 [(aB m ((bM x).getD (l.getD (0+(↑k:Int).toNat) 0).toNat ak)),(.slc 6 F.length (kT F)),(.slc 7 L.length (gV L))] (.au [(.agg [(ds ByteArray.empty),(di 1),(di 0),(di 0),(db (TJ (bC F F.length) x (l.getD k 0).toNat)),(ds ByteArray.empty)]),(di 0)]))∧((false=true)→(((db false):DV)=(db true)))∧((false=false)→(((0≤l.getD (0+(↑k:Int).toNat) 0)∧(l.getD (0+(↑k:Int).toNat) 0<↑(B.length+30)))∧(I64 (↑k+1))∧(ZA (aI ZT [0,1,1]))))))))∧(((decide ((↑k:Int)<↑l.length))=false)→ZW [cd Tryz.f5 [1,1,1,1,1,1,1,1,1,1]] (aI ZT [1]) ZQ))) (decide (l.getD (0+((↑k:Int):Int).toNat) 0<0)||decide (l.getD (0+((↑k:Int):Int).toNat) 0≥(↑(bM x).length:Int))||decide ((↑k:Int)>0)&&decide (l.getD (0+((↑k:Int)-1).toNat) 0≥l.getD (0+(↑k:Int).toNat) 0)) (!(decide (l.getD (0+((↑k:Int):Int).toNat) 0<0)||decide (l.getD (0+((↑k:Int):Int).toNat) 0≥(↑(bM x).length:Int)))&&decide ((↑k:Int)>0))) (by kernel_rfl) ?_
   have hm:l.getD k 0∈l:=getD_mem (x0:=0) hk2
   obtain ⟨r1,r2,r3⟩:=D.rng _ hm
   have hy:(bM x).getD (l.getD k 0).toNat ak∈bM x:=getD_mem (x0:=ak) (by omega)
   have ags:=f12 (G:=G) hT F L h.fc hll (by omega) m _ (by have:=(abY x _ hy).1;omega) (agt h.sm hy)
   rw[r3] at ags
   have e1:((k:Int)-1).toNat=k-1:=by omega
   simp only[Int.toNat_natCast,Nat.zero_add,e1]
   refine⟨fun _=>⟨⟨by omega,by omega⟩,⟨fun c=>⟨by omega,by omega⟩,fun c=>?_⟩,fun c=>?_,fun _=>⟨⟨⟨r1,r2⟩,ags⟩,fun c=>Bool.noConfusion c,fun _=>⟨⟨r1,by omega⟩,⟨by omega,by omega⟩,Again.mk (k+1) ?_ hk2 (by omega)⟩⟩⟩,fun c=>absurd (of_decide_eq_false c) (by omega)⟩
   ·simp only[aT,decide_eq_true_eq] at c
    omega
   ·exfalso
    simp only[Bool.or_eq_true,aT,decide_eq_true_eq] at c
    rcases c with (c|c)|c
    ·omega
    ·omega
    ·have hp:=List.pairwise_iff_getElem.1 D.up (k-1) k (by omega) hk2 (by omega)
     rw[List.getD,bQ (by omega:k-1<l.length),List.getD,bQ hk2] at c
     have c2:l[k-1]'(by omega)≥l[k]:=c.2
     omega
   ·refine AS.leZ [] [3] (b:=((T0∧T0∧T0∧T0∧T0∧T0∧T0∧T0∧T0∧T0∧True)∧T0∧T0∧T0∧((some [(.arr ⟨false,4,false,none⟩ 1 (fun j=>bif j.beq (0+(l.getD (0+(↑k:Int).toNat) 0).toNat) then DV.con (Value.bool (TJ (bC F F.length) x (l.getD k 0).toNat)) else NP (stB (TJ (bC F F.length) x) (B++List.replicate 30 false) (List.take k l)) j))]):(Option (List AV)))=(some [(.arr ⟨false,4,false,none⟩ 1 (NP (stB (TJ (bC F F.length) x) (B++List.replicate 30 false) (List.take (k+1) l))))])∧True)) (by kernel_rfl) (by kernel_rfl) ?_
    refine⟨⟨rfl,rfl,rfl,rfl,rfl,rfl,rfl,rfl,rfl,rfl,trivial⟩,rfl,rfl,rfl,?_,trivial⟩
    refine congrArg (fun f=>some [AV.arr blK 1 f]) (funext fun i=>?_)
    rw[List.take_add_one,bQ hk2,Option.toList_some,afT]
    have e2:l[k]=l.getD k 0:=by rw[List.getD,bQ hk2];rfl
    rw[e2]
    unfold NP
    simp only[Nat.zero_add,Int.toNat_natCast]
    by_cases hi:i=(l.getD k 0).toNat
    ·subst hi
     rw[Nat.beq_refl,agi (by rw[acA,List.length_append,List.length_replicate];omega)];rfl
    ·rw[show Nat.beq i (l.getD k 0).toNat=false from by rw[Bool.eq_false_iff,ne_eq,Nat.beq_eq];exact hi,ag7 (fun hh=>hi hh.symm)];rfl
  ·obtain rfl:k=l.length:=by omega
   refine aK (ay:=ac7 x F L m l B [] (tfF v,0)) (keep:=[]) (cuts:=[15]) (n:=1000) follows ?_
   refine bW (fun ZT ZW ZQ _ _ ZR=>((((decide ((↑l.length:Int)<↑l.length))=true)→ZW [cd Tryz.f5 [1,1,1,1,1,1,1,1,1,0,1,0,0,1,1,0,0],(.blk 1),cd Tryz.f5 [1,1,1,1,1,1,1,1,1,0,1,0,0,1,1,1]] (aI ZT [0]) ZR)∧(((decide ((↑l.length:Int)<↑l.length))=false)→ZW [cd Tryz.f5 [1,1,1,1,1,1,1,1,1,1]] (aI ZT [1]) ZQ))) (by kernel_rfl) ?_
   refine⟨fun h=>absurd (of_decide_eq_true h) (by omega),fun _=>?_⟩
   refine aC.weaken (st':=S5 x F L m l (TJ (bC F F.length) x) v B l.length) ?_ ?_
   ·exact AS.dB (by kernel_rfl)
   have hB':(stB (TJ (bC F F.length) x) (B++List.replicate 30 false) (l.take l.length)).length=B.length+30:=by rw[acA,List.length_append,List.length_replicate]
   have hst:∀n∈l,Ht (stB (TJ (bC F F.length) x) (B++List.replicate 30 false) (l.take l.length)) n.toNat=TJ (bC F F.length) x n.toNat:=fun n hn=>by
    rw[List.take_length]
    obtain ⟨r1,r2,_⟩:=D.rng n hn
    exact aer _ _ _ hn (by rw[List.length_append,List.length_replicate];omega)
   obtain ⟨B',eB⟩:∃B',B'=stB (TJ (bC F F.length) x) (B++List.replicate 30 false) (l.take l.length):=⟨_,rfl⟩
   refine aC.freeze (agg:=blK) (sz:=1) (f:=NP (stB (TJ (bC F F.length) x) (B++List.replicate 30 false) (l.take l.length))) 58 (by kernel_rfl) ?_
   refine aC.pre (.reg _ 14 (.d (blD B')) fun β h v hv=>?_) ?_
   ·have hv:DV.rel h (.slc 1 (B.length+30) fun i=>NP (stB (TJ (bC F F.length) x) (B++List.replicate 30 false) (l.take l.length)) (0+i)) v:=hv
    rw[←eB] at hv hB'
    show DV.rel h (.slc 1 B'.length _) v
    rw[hB']
    exact DV.dJ (fun i hi=>by rw[Nat.zero_add]) hv
   rw[←eB] at hst hB'
   have h23:=f23 (G:=G) m m B' (by omega) x 0 hx hx h.sm (by omega)
   rw[show (((0:Nat):Int)+((bM x).length:Int))=((bM x).length:Int) from by omega] at h23
   have hrp:=abH (Ht B') x 0
   have aax:=f12 (G:=G) hT F L h.fc hll (by omega) m (yx (Ht B') x 0) (by omega) ⟨by omega,aeZ _ _ _⟩
   rw[D.dec _ hst] at aax
   refine aK (ay:=ac7 x F L m l B B' (tfF v,0)) (keep:=[]) (cuts:=[]) (n:=1000) follows ?_
   refine aA (fun _ _ _ ZK=>(ZK 23 [(aB m x),(di 0),(.slc 1 B'.length (NP B'))] (.au [(aB m (yx (Ht B') x 0)),(di (↑(bM x).length))])∧ZK 12 [(aB m (yx (Ht B') x 0)),(.slc 6 F.length (kT F)),(.slc 7 L.length (gV L))] (.au [(.agg [(ds ByteArray.empty),(di 1),(di 0),(di 0),(db v),(ds ByteArray.empty)]),(di 0)])∧((db ((↑(List.length (bM x)):Int)==(↑(List.length (bM x)):Int)&&(0:Int)==(0:Int)&&Bool.rec false (ByteArray.toList ByteArray.empty==ByteArray.toList ByteArray.empty) (v==v))):DV)=(db true))) (by kernel_rfl) ?_
   refine⟨h23,aax,?_⟩
   refine congrArg (fun b:Bool=>(db b:DV)) ?_
   rw[beq_self_eq_true,beq_self_eq_true,beq_self_eq_true,beq_self_eq_true];rfl
/-! ahz that are read. -/
theorem agp {n:Nat} {f:Nat→DV} (hf:∀i,i<n→∃d es,[f i]=d :: es∧(∃b:Bool,d=.con (.bool b))∧es=[]) :
  ∃B:List Bool,B.length=n∧∀k v,DV.rel k (.slc 1 n f) v→DV.rel k (blD B) v:=by
 obtain ⟨l,hl,hL⟩:=GH (p:=fun i (x:Bool)=>f i=db x) false (fun i hi=>by
  obtain ⟨d,es,he,⟨b,rfl⟩,rfl⟩:=hf i hi
  simp only[List.cons.injEq,and_true] at he
  exact⟨b,he⟩)
 subst hl
 refine⟨l,rfl,fun k v h=>?_⟩
 refine DV.dJ (fun i hi=>?_) h
 rw[hL i hi];rfl
end Go.Proofs
