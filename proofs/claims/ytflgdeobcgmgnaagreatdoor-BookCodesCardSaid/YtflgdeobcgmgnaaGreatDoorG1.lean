import Derived.Test.YtflgdeobcgmgnaaGreatDoorAcD
import Derived.Test.YtflgdeobcgmgnaaGreatDoorG0
set_option autoImplicit false
set_option maxHeartbeats 1000000
set_option maxRecDepth 100000
namespace Go.Proofs
open Go Go.Ab Go.RowKit
variable {G:IH}
def nU:iw:=fun f a=>match f,a with
 | 15,[a,b]=>some (db (decide (xL GH a=xL GH b)))
 | 66,[a,b]=>some (db (decide (xL L9 a=xL L9 b)))
 | 62,[a,b]=>some (db (decide (xL jH a=xL jH b)))
 | 65,[a,b]=>some (db (decide (qZ a=qZ b)))
 | 64,[a,b,_]=>some (db (decide (xL qZ a=xL qZ b)))
 | 37,[a,b]=>some (db (decide (Gy a=Gy b)))
 | 17,[a,b]=>some (db (decide (Gy a=Gy b)))
 | 34,[a,b]=>some (db (decide (xL jH a=xL jH b)))
 | 22,[b,k]=>some (di (dP (Gy b).es (FB k)))
 | 23,[b,k]=>some (di (dP (Gy b).es (FB k)))
 | _,_=>none
def Ye (x:En):Prop:=x.gs.length≤1000000∧x.ah.length≤1000000
def iY (es:List En):Prop:=es.length≤1000000∧∀i,i<es.length→Ye (es.getD i en0)
theorem f65 (a b:En) (ha:Ye a):au Tryz.prog G 65 [AY a,AY b] (db (decide (a=b))):=by
 refine au.walk (aj:=nU) (keep:=[]) follows Tryz.func65 rfl Tryz.call65 ?_
 refine aJ (fun _ _ _ ZK=>(fun Za=>(((((Bool.rec false Za (a.k.st.toList==b.k.st.toList)&&a.t==b.t&&a.s.toList==b.s.toList)=true)→ZK 15 [(.slc 4 a.gs.length (dX a.gs)),(.slc 4 b.gs.length (dX b.gs))] (db (decide (xL GH (DV.slc 4 a.gs.length (dX a.gs))=xL GH (DV.slc 4 b.gs.length (dX b.gs))))))∧(((Bool.rec false Za (a.k.st.toList==b.k.st.toList)&&a.t==b.t&&a.s.toList==b.s.toList&&decide (xL GH (DV.slc 4 a.gs.length (dX a.gs))=xL GH (DV.slc 4 b.gs.length (dX b.gs))))=true)→ZK 66 [(.slc 6 a.ah.length (dN a.ah)),(.slc 6 b.ah.length (dN b.ah))] (db (decide (xL L9 (DV.slc 6 a.ah.length (dN a.ah))=xL L9 (DV.slc 6 b.ah.length (dN b.ah)))))))∧((db (Bool.rec false Za (a.k.st.toList==b.k.st.toList)&&a.t==b.t&&a.s.toList==b.s.toList&&decide (xL GH (DV.slc 4 a.gs.length (dX a.gs))=xL GH (DV.slc 4 b.gs.length (dX b.gs)))&&decide (xL L9 (DV.slc 6 a.ah.length (dN a.ah))=xL L9 (DV.slc 6 b.ah.length (dN b.ah))))):DV)=(db (decide (a=b))))) (a.k.ex.toList==b.k.ex.toList&&a.k.n==b.k.n)) (by kernel_rfl) ?_
 try dsimp only
 simp only[RF,QJ,nY,Jr]
 refine⟨⟨fun _=>f15 _ _ ha.1,fun _=>f66 _ _ ha.2⟩,congrArg db ?_⟩
 obtain ⟨a1,a2,a3,a4,a5⟩:=a
 obtain ⟨b1,b2,b3,b4,b5⟩:=b
 rw[dO,Bool.eq_iff_iff]
 simp only[IZ,aV,beq_iff_eq,eF,En.mk.injEq,and_assoc]
noncomputable def S64 (a b:List En) (k:Nat):AS:=⟨regs Tryz.f64.ntmps [(0,.d (nN a)),(1,.d (nN b)),(2,.d (.con (.func (.func 65) #[] #[]))),(15,.d (nN a)),(16,vi a.length),(17,vi k)],[]⟩
theorem f64 (a b:List En) (ha:iY a):au Tryz.prog G 64 [nN a,nN b,.con (.func (.func 65) #[] #[])] (db (decide (a=b))):=by
 refine au.walk (aj:=nU) (keep:=[]) follows Tryz.func64 rfl Tryz.call64 ?_
 refine aJ (fun ZT ZW ZQ _=>(((((↑a.length:Int) != ↑b.length)=true)→(((db false):DV)=(db (decide (a=b)))))∧((((↑a.length:Int) != ↑b.length)=false)→ZW [cd Tryz.f64 [1,1,0,1,0],(.blk 0),cd Tryz.f64 [1,1,1]] (aI ZT [1]) ZQ))) (by kernel_rfl) ?_
 refine⟨fun hne=>?_,fun heq=>?_⟩
 ·rw[decide_eq_false]
  rintro rfl
  simp at hne
 have heq:a.length=b.length:=by
  have h0:(a.length:Int)=b.length:=by simpa using heq
  omega
 obtain ⟨hl,he⟩:=ha
 refine bK.loop (c:=aU (ak Tryz.f64) [1,1,0,1,0,0]) (by kernel_rfl) (S64 a b) (fun k=>k≤a.length∧∀i,i<k→a.getD i en0=b.getD i en0) (fun k=>a.length-k) 0 ?_ ⟨Nat.zero_le _,fun i hi=>absurd hi (Nat.not_lt_zero _)⟩ ?_
 ·exact AS.bJ (by kernel_rfl)
 ·rintro k ⟨hk,hkd⟩
  refine dI (aj:=nU) ?_
  refine bD (fun ZT ZW ZQ ZK ZA _=>(fun Za Zb=>((((decide ((↑k:Int)<↑a.length))=true)→(((0≤(↑k:Int))∧((↑k:Int)<↑a.length))∧((0≤(↑k:Int))∧((↑k:Int)<↑b.length))∧ZK 65 [(.agg [(ds (a.getD (↑k:Int).toNat en0).k.st),(ds (a.getD (↑k:Int).toNat en0).k.ex),(di (a.getD (↑k:Int).toNat en0).k.n),(di (a.getD (↑k:Int).toNat en0).t),(ds (a.getD (↑k:Int).toNat en0).s),(.slc 4 (a.getD (↑k:Int).toNat en0).gs.length (dX (a.getD (↑k:Int).toNat en0).gs)),(.slc 6 (a.getD (↑k:Int).toNat en0).ah.length (dN (a.getD (↑k:Int).toNat en0).ah))]),(.agg [(ds (b.getD (↑k:Int).toNat en0).k.st),(ds (b.getD (↑k:Int).toNat en0).k.ex),(di (b.getD (↑k:Int).toNat en0).k.n),(di (b.getD (↑k:Int).toNat en0).t),(ds (b.getD (↑k:Int).toNat en0).s),(.slc 4 (b.getD (↑k:Int).toNat en0).gs.length (dX (b.getD (↑k:Int).toNat en0).gs)),(.slc 6 (b.getD (↑k:Int).toNat en0).ah.length (dN (b.getD (↑k:Int).toNat en0).ah))])] (db (decide (qZ Za=qZ Zb)))∧(((!decide (qZ Za=qZ Zb))=true)→(((db false):DV)=(db (decide (a=b)))))∧(((!decide (qZ Za=qZ Zb))=false)→((I64 (↑k+1))∧(ZA (aI ZT [0,1]))))))∧(((decide ((↑k:Int)<↑a.length))=false)→ZW [cd Tryz.f64 [1,1,1]] (aI ZT [1]) ZQ))) (DV.agg [DV.con (Value.string (a.getD (↑k:Int).toNat en0).k.st),DV.con (Value.string (a.getD (↑k:Int).toNat en0).k.ex),DV.con (Value.int IntKind.i64 (a.getD (↑k:Int).toNat en0).k.n),DV.con (Value.int IntKind.i64 (a.getD (↑k:Int).toNat en0).t),DV.con (Value.string (a.getD (↑k:Int).toNat en0).s),DV.slc 4 (a.getD (↑k:Int).toNat en0).gs.length (dX (a.getD (↑k:Int).toNat en0).gs),DV.slc 6 (a.getD (↑k:Int).toNat en0).ah.length (dN (a.getD (↑k:Int).toNat en0).ah)]) (DV.agg [DV.con (Value.string (b.getD (↑k:Int).toNat en0).k.st),DV.con (Value.string (b.getD (↑k:Int).toNat en0).k.ex),DV.con (Value.int IntKind.i64 (b.getD (↑k:Int).toNat en0).k.n),DV.con (Value.int IntKind.i64 (b.getD (↑k:Int).toNat en0).t),DV.con (Value.string (b.getD (↑k:Int).toNat en0).s),DV.slc 4 (b.getD (↑k:Int).toNat en0).gs.length (dX (b.getD (↑k:Int).toNat en0).gs),DV.slc 6 (b.getD (↑k:Int).toNat en0).ah.length (dN (b.getD (↑k:Int).toNat en0).ah)])) (by kernel_rfl) ?_
  try dsimp only
  simp only[gZ,U7]
  refine⟨fun h=>?_,fun h=>?_⟩
  ·have hk2:k<a.length:=by have:=dW h;omega
   refine⟨⟨by omega,by omega⟩,⟨by omega,by omega⟩,f65 (a.getD k en0) (b.getD k en0) (he k hk2),fun h2=>?_,fun h2=>⟨⟨by omega,by omega⟩,Again.mk (k+1) ?_ ⟨hk2,fun i hi=>?_⟩ (by omega)⟩⟩
   ·rw[decide_eq_false]
    rintro rfl
    simp at h2
   ·exact AS.bJ (by kernel_rfl)
   ·rcases Nat.lt_or_ge i k with h4|h4
    ·exact hkd i h4
    ·obtain rfl:i=k:=by omega
     simpa using h2
  ·simp only[decide_eq_false_iff_not] at h
   refine dI (aj:=nU) ?_
   refine aJ (fun _ _ _ _=>(((db true):DV)=(db (decide (a=b))))) (by kernel_rfl) ?_
   rw[decide_eq_true (vg heq fun i hi=>hkd i (by omega))]
theorem f37 (a b:Bk) (ha:iY a.es):au Tryz.prog G 37 [eY a,eY b] (db (decide (a=b))):=by
 refine au.walk (aj:=nU) (keep:=[]) follows Tryz.func37 rfl Tryz.call37 ?_
 refine aJ (fun _ _ _ ZK=>((((a.t==b.t)=true)→ZK 64 [(.slc 7 a.es.length (dM a.es)),(.slc 7 b.es.length (dM b.es)),(.con (.func (.func 65) ⟨[]⟩ ⟨[]⟩))] (db (decide (xL qZ (DV.slc 7 a.es.length (dM a.es))=xL qZ (DV.slc 7 b.es.length (dM b.es))))))∧((db (a.t==b.t&&decide (xL qZ (DV.slc 7 a.es.length (dM a.es))=xL qZ (DV.slc 7 b.es.length (dM b.es))))):DV)=(db (decide (a=b))))) (by kernel_rfl) ?_
 simp only[RS]
 refine⟨fun _=>f64 _ _ ha,congrArg db ?_⟩
 obtain ⟨a1,a2⟩:=a
 obtain ⟨b1,b2⟩:=b
 rw[Bool.eq_iff_iff]
 simp only[aV,beq_iff_eq,eF,Bk.mk.injEq]
noncomputable def S23 (b:Bk) (k:Ky) (j:Nat):AS:=⟨regs Tryz.f23.ntmps [(2,.box 2 0),(3,.box 3 0),(5,vi j)],[(2,(iD b).map .d),(3,(O9 k).map .d)]⟩
theorem f23 (b:Bk) (k:Ky) (hl:b.es.length≤1000000):au Tryz.prog G 23 [eY b,XV k] (di (dP b.es k)):=by
 refine au.walk (aj:=nU) (keep:=[]) follows Tryz.func23 rfl Tryz.call23 ?_
 refine aJ (fun ZT ZW ZQ _=>ZW [cd Tryz.f23 [1,0,1,0],(.blk 0),cd Tryz.f23 [1,1]] (aI ZT []) ZQ) (by kernel_rfl) ?_
 refine bK.loop (c:=aU (ak Tryz.f23) [1,0,1,0,0]) (by kernel_rfl) (S23 b k) (fun j=>j≤b.es.length∧∀i,i<j→(b.es.getD i en0).k≠k) (fun j=>b.es.length-j) 0 ?_ ⟨Nat.zero_le _,fun i hi=>absurd hi (Nat.not_lt_zero _)⟩ ?_
 ·exact AS.bJ (by kernel_rfl)
 ·rintro j ⟨hj,hn⟩
  refine dI (aj:=nU) ?_
  refine bD (fun ZT ZW ZQ _ ZA _=>(fun Za=>((((decide ((↑j:Int)<↑b.es.length))=true)→(((0≤(↑j:Int))∧((↑j:Int)<↑b.es.length))∧((Za=true)→(((di (↑j)):DV)=(di (dP b.es k))))∧((Za=false)→((I64 (↑j+1))∧(ZA (aI ZT [0,1]))))))∧(((decide ((↑j:Int)<↑b.es.length))=false)→ZW [cd Tryz.f23 [1,1]] (aI ZT [1]) ZQ))) (Bool.rec false ((b.es.getD (↑j:Int).toNat en0).k.ex.toList==k.ex.toList&&(b.es.getD (↑j:Int).toNat en0).k.n==k.n) ((b.es.getD (↑j:Int).toNat en0).k.st.toList==k.st.toList))) (by kernel_rfl) ?_
  try dsimp only
  simp only[gZ,nY,Jr]
  refine⟨fun h=>?_,fun h=>?_⟩
  ·have hj2:j<b.es.length:=by have:=dW h;omega
   refine⟨⟨by omega,by omega⟩,fun h2=>?_,fun h2=>⟨⟨by omega,by omega⟩,Again.mk (j+1) ?_ ⟨hj2,fun i hi=>?_⟩ (by omega)⟩⟩
   ·rw[OM hj2 hn (dW h2)]
   ·exact AS.bJ (by kernel_rfl)
   ·rcases Nat.lt_or_ge i j with h4|h4
    ·exact hn i h4
    ·obtain rfl:i=j:=by omega
     exact of_decide_eq_false h2
  ·refine dI (aj:=nU) ?_
   refine aJ (fun _ _ _ _=>(((di (-1)):DV)=(di (dP b.es k)))) (by kernel_rfl) ?_
   have hj2:j=b.es.length:=by have:=of_decide_eq_false h;omega
   subst hj2
   rw[JX hn]
noncomputable def S17 (a b:Bk) (i:Nat):AS:=⟨regs Tryz.f17.ntmps [(2,.box 2 0),(3,.box 3 0),(5,vi i)],[(2,(iD a).map .d),(3,(iD b).map .d)]⟩
noncomputable def adO (a b:Bk) (x y:En) (i k:Nat):AS:=⟨regs Tryz.f17.ntmps [(2,.box 2 0),(3,.box 3 0),(5,vi i),(6,.box 6 0),(7,.box 7 0),(8,vi k)],[(2,(iD a).map .d),(3,(iD b).map .d),(6,(Bv x).map .d),(7,(Bv y).map .d)]⟩
noncomputable def ada (a b:Bk) (x y:En) (i k:Nat):AS:=⟨regs Tryz.f17.ntmps [(2,.box 2 0),(3,.box 3 0),(5,vi i),(6,.box 6 0),(7,.box 7 0),(9,vi k)],[(2,(iD a).map .d),(3,(iD b).map .d),(6,(Bv x).map .d),(7,(Bv y).map .d)]⟩
noncomputable def aeb (a b:Bk) (x y:En) (i:Nat):AS:=⟨regs Tryz.f17.ntmps [(2,.box 2 0),(3,.box 3 0),(5,vi i),(6,.box 6 0),(7,.box 7 0)],[(2,(iD a).map .d),(3,(iD b).map .d),(6,(Bv x).map .d),(7,(Bv y).map .d)]⟩
theorem f17 (a b:Bk) (ha:iY a.es):au Tryz.prog G 17 [eY a,eY b] (db (decide (a=b))):=by
 refine au.walk (aj:=nU) (keep:=[]) follows Tryz.func17 rfl Tryz.call17 ?_
 refine aJ (fun ZT ZW ZQ _=>((((a.t != b.t||(↑a.es.length:Int) != ↑b.es.length)=true)→(((db false):DV)=(db (decide (a=b)))))∧(((a.t != b.t||(↑a.es.length:Int) != ↑b.es.length)=false)→ZW [cd Tryz.f17 [1,1,0,1,0],(.blk 0),cd Tryz.f17 [1,1,1]] (aI ZT [1]) ZQ))) (by kernel_rfl) ?_
 refine⟨fun hne=>?_,fun Oq=>?_⟩
 ·rw[decide_eq_false]
  rintro rfl
  simp at hne
 have ht:a.t=b.t:=by
  simp only[Bool.or_eq_false_iff] at Oq
  simpa using Oq.1
 have heq:a.es.length=b.es.length:=by
  simp only[Bool.or_eq_false_iff] at Oq
  have h0:(a.es.length:Int)=b.es.length:=by simpa using Oq.2
  omega
 clear Oq
 obtain ⟨hl,he⟩:=ha
 have hno:∀i,i<a.es.length→a.es.getD i en0≠b.es.getD i en0→db false=db (decide (a=b)):=by
  intro i hi hn
  rw[decide_eq_false]
  rintro rfl
  exact hn rfl
 refine bK.loop (c:=aU (ak Tryz.f17) [1,1,0,1,0,0]) (by kernel_rfl) (S17 a b) (fun k=>k≤a.es.length∧∀i,i<k→a.es.getD i en0=b.es.getD i en0) (fun k=>a.es.length-k) 0 ?_ ⟨Nat.zero_le _,fun i hi=>absurd hi (Nat.not_lt_zero _)⟩ ?_
 ·exact AS.bJ (by kernel_rfl)
 ·rintro i ⟨hi,hkd⟩
  refine walk (aj:=nU) (keep:=[]) (cuts:=[7]) (n:=1000) follows ?_
  refine bD (fun ZT ZW ZQ _ _ ZR=>((((decide ((↑i:Int)<↑a.es.length))=true)→((((0≤(↑i:Int))∧((↑i:Int)<↑a.es.length))∧(0≤(↑i:Int))∧((↑i:Int)<↑b.es.length))∧ZW [cd Tryz.f17 [1,1,0,1,0,0,1,0,0,1,0],cd Tryz.f17 [1,1,0,1,0,0,1,0,0,1,1],(.blk 1),cd Tryz.f17 [1,1,0,1,0,0,1,1]] (aI ZT [0]) ZR))∧(((decide ((↑i:Int)<↑a.es.length))=false)→ZW [cd Tryz.f17 [1,1,1]] (aI ZT [1]) ZQ))) (by kernel_rfl) ?_
  refine⟨fun h=>?_,fun h=>?_⟩
  ·have hi2:i<a.es.length:=by have:=dW h;omega
   refine⟨⟨⟨by omega,by omega⟩,by omega,by omega⟩,?_⟩
   refine bK.weaken (st':=aeb a b (a.es.getD i en0) (b.es.getD i en0) i) ?_ ?_
   ·refine AS.leZ [] [2,3] (b:=((T0∧T0∧T0∧T0∧T0∧True)∧T0∧T0∧((some [(vs (a.es.getD (↑i:Int).toNat en0).k.st),(vs (a.es.getD (↑i:Int).toNat en0).k.ex),(vi (a.es.getD (↑i:Int).toNat en0).k.n),(vi (a.es.getD (↑i:Int).toNat en0).t),(vs (a.es.getD (↑i:Int).toNat en0).s),(.d (.slc 4 (a.es.getD (↑i:Int).toNat en0).gs.length (dX (a.es.getD (↑i:Int).toNat en0).gs))),(.d (.slc 6 (a.es.getD (↑i:Int).toNat en0).ah.length (dN (a.es.getD (↑i:Int).toNat en0).ah)))]):fO)=(some [(vs (a.es.getD i en0).k.st),(vs (a.es.getD i en0).k.ex),(vi (a.es.getD i en0).k.n),(vi (a.es.getD i en0).t),(vs (a.es.getD i en0).s),(.d (.slc 4 (a.es.getD i en0).gs.length (dX (a.es.getD i en0).gs))),(.d (.slc 6 (a.es.getD i en0).ah.length (dN (a.es.getD i en0).ah)))])∧((some [(vs (b.es.getD (↑i:Int).toNat en0).k.st),(vs (b.es.getD (↑i:Int).toNat en0).k.ex),(vi (b.es.getD (↑i:Int).toNat en0).k.n),(vi (b.es.getD (↑i:Int).toNat en0).t),(vs (b.es.getD (↑i:Int).toNat en0).s),(.d (.slc 4 (b.es.getD (↑i:Int).toNat en0).gs.length (dX (b.es.getD (↑i:Int).toNat en0).gs))),(.d (.slc 6 (b.es.getD (↑i:Int).toNat en0).ah.length (dN (b.es.getD (↑i:Int).toNat en0).ah)))]):fO)=(some [(vs (b.es.getD i en0).k.st),(vs (b.es.getD i en0).k.ex),(vi (b.es.getD i en0).k.n),(vi (b.es.getD i en0).t),(vs (b.es.getD i en0).s),(.d (.slc 4 (b.es.getD i en0).gs.length (dX (b.es.getD i en0).gs))),(.d (.slc 6 (b.es.getD i en0).ah.length (dN (b.es.getD i en0).ah)))])∧True)) (by kernel_rfl) (by kernel_rfl) ?_
    exact⟨⟨rfl,rfl,rfl,rfl,rfl,trivial⟩,rfl,rfl,rfl,rfl,trivial⟩
   have hn:=hno i hi2
   obtain ⟨hg,has⟩:=he i hi2
   have NV:a.es.getD i en0=b.es.getD i en0→∀i',i' < i+1→a.es.getD i' en0=b.es.getD i' en0:=fun e i' h'=>by
    rcases Nat.lt_or_ge i' i with h4|h4
    ·exact hkd i' h4
    ·obtain rfl:i'=i:=by omega
     exact e
   generalize a.es.getD i en0=x at hn hg has NV
   generalize b.es.getD i en0=y at hn NV
   refine dI (aj:=nU) ?_
   refine bD (fun ZT ZW _ _ _ ZR=>(fun Za=>(((Za=true)→(((db false):DV)=(db (decide (a=b)))))∧((Za=false)→ZW [cd Tryz.f17 [1,1,0,1,0,0,1,0,0,1,1,0,1,0],(.blk 2),cd Tryz.f17 [1,1,0,1,0,0,1,0,0,1,1,1],(.blk 1),cd Tryz.f17 [1,1,0,1,0,0,1,1]] (aI ZT [1]) ZR))) (!Bool.rec false (x.k.ex.toList==y.k.ex.toList&&x.k.n==y.k.n) (x.k.st.toList==y.k.st.toList)||x.t != y.t||!x.s.toList==y.s.toList||(↑x.gs.length:Int) != (↑y.gs.length:Int)||(↑x.ah.length:Int) != ↑y.ah.length)) (by kernel_rfl) ?_
   try dsimp only
   simp only[nY,Jr]
   refine⟨fun h=>?_,fun h=>?_⟩
   ·refine hn ?_
    rintro rfl
    simp[IZ] at h
   simp only[Bool.or_eq_false_iff,Bool.not_eq_false',bne_eq_false_iff_eq,Int.natCast_inj,dO,eF,IZ] at h
   obtain ⟨⟨⟨⟨q1,q2⟩,q3⟩,q4⟩,q5⟩:=h
   refine bK.loop (c:=aU (ak Tryz.f17) [1,1,0,1,0,0,1,0,0,1,1,0,1,0,0]) (by kernel_rfl) (adO a b x y i) (fun k=>k≤x.gs.length∧∀i,i<k→x.gs.getD i fC=y.gs.getD i fC) (fun k=>x.gs.length-k) 0 ?_ ⟨Nat.zero_le _,fun i hi=>absurd hi (Nat.not_lt_zero _)⟩ ?_
   ·exact AS.bJ (by kernel_rfl)
   rintro k ⟨hk,hkg⟩
   refine dI (aj:=nU) ?_
   refine bD (fun ZT ZW ZQ _ ZA _=>(fun Za=>((((decide ((↑k:Int)<↑x.gs.length))=true)→((((0≤(↑k:Int))∧((↑k:Int)<↑x.gs.length))∧(0≤(↑k:Int))∧((↑k:Int)<↑y.gs.length))∧((Za=true)→(((db false):DV)=(db (decide (a=b)))))∧((Za=false)→((I64 (↑k+1))∧(ZA (aI ZT [0,1]))))))∧(((decide ((↑k:Int)<↑x.gs.length))=false)→ZW [cd Tryz.f17 [1,1,0,1,0,0,1,0,0,1,1,1],(.blk 1),cd Tryz.f17 [1,1,0,1,0,0,1,1]] (aI ZT [1]) ZQ))) (!Bool.rec false ((x.gs.getD (↑k:Int).toNat fC).h==(y.gs.getD (↑k:Int).toNat fC).h&&((x.gs.getD (↑k:Int).toNat fC).t==(y.gs.getD (↑k:Int).toNat fC).t&&(x.gs.getD (↑k:Int).toNat fC).s.toList==(y.gs.getD (↑k:Int).toNat fC).s.toList)) ((x.gs.getD (↑k:Int).toNat fC).v==(y.gs.getD (↑k:Int).toNat fC).v))) (by kernel_rfl) ?_
   try dsimp only
   simp only[gZ,nY,Vo]
   refine⟨fun h=>?_,fun h=>?_⟩
   ·have hk2:k<x.gs.length:=by have:=dW h;omega
    refine⟨⟨⟨by omega,by omega⟩,by omega,by omega⟩,fun h2=>?_,fun h2=>⟨⟨by omega,by omega⟩,Again.mk (k+1) ?_ ⟨hk2,fun i hi=>?_⟩ (by omega)⟩⟩
    ·refine hn ?_
     rintro rfl
     simp at h2
    ·exact AS.bJ (by kernel_rfl)
    ·rcases Nat.lt_or_ge i k with h4|h4
     ·exact hkg i h4
     ·obtain rfl:i=k:=by omega
      simpa using h2
   have hge:x.gs=y.gs:=vg q4 fun i hi=>hkg i (by have:=of_decide_eq_false h;omega)
   clear hk hkg h
   refine dI (aj:=nU) ?_
   refine bD (fun ZT ZW _ _ _ ZR=>ZW [cd Tryz.f17 [1,1,0,1,0,0,1,0,0,1,1,1,1,0],(.blk 4),(.blk 1),cd Tryz.f17 [1,1,0,1,0,0,1,1]] (aI ZT []) ZR) (by kernel_rfl) ?_
   refine bK.loop (c:=aU (ak Tryz.f17) [1,1,0,1,0,0,1,0,0,1,1,1,1,0,0]) (by kernel_rfl) (ada a b x y i) (fun k=>k≤x.ah.length∧∀i,i<k→x.ah.getD i cu=y.ah.getD i cu) (fun k=>x.ah.length-k) 0 ?_ ⟨Nat.zero_le _,fun i hi=>absurd hi (Nat.not_lt_zero _)⟩ ?_
   ·exact AS.bJ (by kernel_rfl)
   rintro k ⟨hk,hka⟩
   refine dI (aj:=nU) ?_
   refine bD (fun ZT ZW ZQ _ ZA _=>(fun Za=>((((decide ((↑k:Int)<↑x.ah.length))=true)→((((0≤(↑k:Int))∧((↑k:Int)<↑x.ah.length))∧(0≤(↑k:Int))∧((↑k:Int)<↑y.ah.length))∧((Za=true)→(((db false):DV)=(db (decide (a=b)))))∧((Za=false)→((I64 (↑k+1))∧(ZA (aI ZT [0,1]))))))∧(((decide ((↑k:Int)<↑x.ah.length))=false)→ZW [(.blk 1),cd Tryz.f17 [1,1,0,1,0,0,1,1]] (aI ZT [1]) ZQ))) (!Bool.rec false ((x.ah.getD (↑k:Int).toNat cu).s.toList==(y.ah.getD (↑k:Int).toNat cu).s.toList&&((x.ah.getD (↑k:Int).toNat cu).dec==(y.ah.getD (↑k:Int).toNat cu).dec&&((x.ah.getD (↑k:Int).toNat cu).acc==(y.ah.getD (↑k:Int).toNat cu).acc&&((x.ah.getD (↑k:Int).toNat cu).at_==(y.ah.getD (↑k:Int).toNat cu).at_&&(x.ah.getD (↑k:Int).toNat cu).ans.toList==(y.ah.getD (↑k:Int).toNat cu).ans.toList)))) ((x.ah.getD (↑k:Int).toNat cu).t==(y.ah.getD (↑k:Int).toNat cu).t))) (by kernel_rfl) ?_
   try dsimp only
   simp only[gZ,nY,VY]
   refine⟨fun h=>?_,fun h=>?_⟩
   ·have hk2:k<x.ah.length:=by have:=dW h;omega
    refine⟨⟨⟨by omega,by omega⟩,by omega,by omega⟩,fun h2=>?_,fun h2=>⟨⟨by omega,by omega⟩,Again.mk (k+1) ?_ ⟨hk2,fun i hi=>?_⟩ (by omega)⟩⟩
    ·refine hn ?_
     rintro rfl
     simp at h2
    ·exact AS.bJ (by kernel_rfl)
    ·rcases Nat.lt_or_ge i k with h4|h4
     ·exact hka i h4
     ·obtain rfl:i=k:=by omega
      simpa using h2
   have hae:x.ah=y.ah:=vg q5 fun i hi=>hka i (by have:=of_decide_eq_false h;omega)
   clear hk hka h
   have hxy:x=y:=by
    obtain ⟨x1,x2,x3,x4,x5⟩:=x
    obtain ⟨y1,y2,y3,y4,y5⟩:=y
    simp only at q1 q2 q3 hge hae
    rw[q1,q2,q3,hge,hae]
   refine dI (aj:=nU) ?_
   refine bD (fun ZT _ _ _ ZA _=>((I64 (↑i+1))∧(ZA (aI ZT [])))) (by kernel_rfl) ?_
   refine⟨⟨by omega,by omega⟩,Again.mk (i+1) ?_ ⟨hi2,NV hxy⟩ (by omega)⟩
   exact AS.bJ (by kernel_rfl)
  ·refine dI (aj:=nU) ?_
   refine aJ (fun _ _ _ _=>(((db true):DV)=(db (decide (a=b))))) (by kernel_rfl) ?_
   obtain ⟨at1,ae⟩:=a
   obtain ⟨bt,be⟩:=b
   simp only at ht heq hkd h
   subst ht
   have:=of_decide_eq_false h
   rw[decide_eq_true (by rw[vg heq fun i hi=>hkd i (by omega)])]
end Go.Proofs
namespace Go.Proofs
def swp (σ:Nat→Nat) (i j:Nat):Nat→Nat:=fun k=>if k=i then σ j else if k=j then σ i else σ k
def iU (σ:Nat→Nat) (a b n:Nat):Nat→Nat:=fun k=>if a≤k∧k<a+n then σ (k-a+b) else if b≤k∧k<b+n then σ (k-b+a) else σ k
theorem WZ (σ:Nat→Nat) (a b:Nat):iU σ a b 0=σ:=by
 funext k
 unfold iU
 rw[if_neg (by omega),if_neg (by omega)]
theorem Xw (σ:Nat→Nat) (a b n:Nat) (h:a+n<b):swp (iU σ a b n) (a+n) (b+n)=iU σ a b (n+1):=by
 funext k
 unfold swp iU
 repeat' split
 all_goals first
  | rfl
  | (exfalso;omega)
  | (congr 1;omega)
def dF (σ:Nat→Nat) (s i j:Nat):Nat→Nat:=fun k=>if s≤k∧k<s+j then σ (k+i) else if s+j≤k∧k<s+j+i then σ (k-j) else σ k
def H6 (m:Nat):Nat→Nat→Nat→(Nat→Nat)→(Nat→Nat)
 | 0,_,_,σ=>σ
 | n+1,i,j,σ=>if i=j then iU σ (m-i) m i else if j<i then H6 m n (i-j) j (iU σ (m-i) m j) else H6 m n i (j-i) (iU σ (m-i) (m+j-i) i)
theorem vJ (m:Nat):∀(n i j:Nat) (σ:Nat→Nat),i+j≤n→0<i→0<j→i≤m→H6 m n i j σ=dF σ (m-i) i j
 | 0,i,j,σ,h,h1,_,_=>by omega
 | n+1,i,j,σ,h,h1,h2,h3=>by
  unfold H6
  by_cases e:i=j
  ·subst e
   rw[if_pos rfl]
   funext k
   unfold iU dF
   repeat' split
   all_goals first
    | rfl
    | (exfalso;omega)
    | (congr 1;omega)
  ·rw[if_neg e]
   by_cases c:j<i
   ·rw[if_pos c,vJ m n (i-j) j _ (by omega) (by omega) h2 (by omega)]
    funext k
    unfold dF
    dsimp only[iU]
    repeat' split
    all_goals first
     | rfl
     | (exfalso;omega)
     | (congr 1;omega)
   ·rw[if_neg c,vJ m n i (j-i) _ (by omega) h1 (by omega) h3]
    funext k
    unfold dF
    dsimp only[iU]
    repeat' split
    all_goals first
     | rfl
     | (exfalso;omega)
     | (congr 1;omega)
def jM (p:Nat→Bool):Nat→Nat→Nat→Nat
 | 0,i,_=>i
 | n+1,i,j=>if i<j then (if p ((i+j) / 2)=true then jM p n ((i+j) / 2+1) j else jM p n i ((i+j) / 2)) else i
theorem xZ {p:Nat→Bool}:∀{n i j:Nat},i≤j→j-i≤n→(∀k l,i≤k→k≤l→l<j→p l=true→p k=true)→i≤jM p n i j∧jM p n i j≤j∧(∀k,i≤k→k<jM p n i j→p k=true)∧∀k,jM p n i j≤k→k<j→p k=false
 | 0,i,j,h,hn,_=>by
  unfold jM
  exact⟨Nat.le_refl _,h,fun k a b=>by omega,fun k a b=>by omega⟩
 | n+1,i,j,h,hn,hm=>by
  unfold jM
  by_cases c:i<j
  ·rw[if_pos c]
   by_cases d:p ((i+j) / 2)=true
   ·rw[if_pos d]
    obtain ⟨q1,q2,q3,q4⟩:=xZ (p:=p) (n:=n) (i:=(i+j) / 2+1) (j:=j) (by omega) (by omega) fun k l a b c d=>hm k l (by omega) b c d
    refine⟨by omega,q2,fun k a b=>?_,q4⟩
    by_cases e:k≤(i+j) / 2
    ·exact hm k _ a e (by omega) d
    ·exact q3 k (by omega) b
   ·rw[if_neg d]
    obtain ⟨q1,q2,q3,q4⟩:=xZ (p:=p) (n:=n) (i:=i) (j:=(i+j) / 2) (by omega) (by omega) fun k l a b c d=>hm k l a b (by omega) d
    refine⟨q1,by omega,q3,fun k a b=>?_⟩
    by_cases e:k<(i+j) / 2
    ·exact q4 k a e
    ·cases hk:p k with
     | false=>rfl
     | true=>exact absurd (hm _ k (by omega) (by omega) b hk) d
  ·rw[if_neg c]
   exact⟨Nat.le_refl _,h,fun k a b=>by omega,fun k a b=>by omega⟩
section
variable (κ:Nat→Int)
def ltK (x y:Nat):Prop:=κ x<κ y∨(κ x=κ y∧x<y)
def yR (σ:Nat→Nat) (a b:Nat):Prop:=∀i j,a≤i→i<j→j<b→ltK κ (σ i) (σ j)
variable {κ}
theorem L8 {x y z:Nat} (h:ltK κ x y) (k:ltK κ y z):ltK κ x z:=by
 unfold ltK at *;omega
theorem I5 {x:Nat}:¬ltK κ x x:=by unfold ltK;omega
structure jF (σ τ:Nat→Nat) (a b:Nat):Prop where
 out:∀k,¬(a≤k∧k<b)→τ k=σ k
 to:∀i,a≤i→i<b→∃j,a≤j∧j<b∧τ i=σ j
 from_:∀j,a≤j→j<b→∃i,a≤i∧i<b∧τ i=σ j
theorem jF.refl (σ:Nat→Nat) (a b:Nat):jF σ σ a b:=⟨fun _ _=>rfl,fun i h k=>⟨i,h,k,rfl⟩,fun i h k=>⟨i,h,k,rfl⟩⟩
theorem jF.trans {σ τ ρ:Nat→Nat} {a b:Nat} (h:jF σ τ a b) (k:jF τ ρ a b):jF σ ρ a b:=by
 refine⟨fun i hi=>(k.out i hi).trans (h.out i hi),fun i h1 h2=>?_,fun j h1 h2=>?_⟩
 ·obtain ⟨j,a1,a2,a3⟩:=k.to i h1 h2
  obtain ⟨l,b1,b2,b3⟩:=h.to j a1 a2
  exact⟨l,b1,b2,a3.trans b3⟩
 ·obtain ⟨i,a1,a2,a3⟩:=h.from_ j h1 h2
  obtain ⟨l,b1,b2,b3⟩:=k.from_ i a1 a2
  exact⟨l,b1,b2,b3.trans a3⟩
theorem jF.mono {σ τ:Nat→Nat} {a b a' b':Nat} (h:jF σ τ a b) (h1:a'≤a) (h2:b≤b'):jF σ τ a' b':=by
 refine⟨fun k hk=>h.out k (by omega),fun i q1 q2=>?_,fun j q1 q2=>?_⟩
 ·by_cases c:a≤i∧i<b
  ·obtain ⟨j,a1,a2,a3⟩:=h.to i c.1 c.2
   exact⟨j,by omega,by omega,a3⟩
  ·exact⟨i,q1,q2,h.out i c⟩
 ·by_cases c:a≤j∧j<b
  ·obtain ⟨i,a1,a2,a3⟩:=h.from_ j c.1 c.2
   exact⟨i,by omega,by omega,a3⟩
  ·exact⟨j,q1,q2,h.out j c⟩
theorem Il (σ:Nat→Nat) (s i j:Nat):jF σ (dF σ s i j) s (s+i+j):=by
 refine⟨fun k hk=>?_,fun k h1 h2=>?_,fun k h1 h2=>?_⟩
 ·unfold dF
  rw[if_neg (by omega),if_neg (by omega)]
 ·unfold dF
  by_cases c:s≤k∧k<s+j
  ·exact⟨k+i,by omega,by omega,by rw[if_pos c]⟩
  ·exact⟨k-j,by omega,by omega,by rw[if_neg c,if_pos (by omega)]⟩
 ·by_cases c:k<s+i
  ·refine⟨k+j,by omega,by omega,?_⟩
   unfold dF
   rw[if_neg (by omega),if_pos (by omega)]
   congr 1;omega
  ·refine⟨k-i,by omega,by omega,?_⟩
   unfold dF
   rw[if_pos (by omega)]
   congr 1;omega
end
end Go.Proofs
namespace Go.Proofs
variable (κ:Nat→Int)
def gY:Nat→Nat→Nat→Nat→(Nat→Nat)→(Nat→Nat)
 | 0,_,_,_,σ=>σ
 | n+1,a,m,b,σ=>
  if m-a=1 then dF σ a 1 (jM (fun h=>decide (κ (σ h)<κ (σ a))) (b-m) m b-m)
  else if b-m=1 then dF σ (jM (fun h=>!decide (κ (σ m)<κ (σ h))) (m-a) a m) (m-jM (fun h=>!decide (κ (σ m)<κ (σ h))) (m-a) a m) 1
  else
   let mid:=(a+b) / 2
   let s0:=if mid<m then mid+m-b else a
   let r0:=if mid<m then mid else m
   let st:=jM (fun c=>!decide (κ (σ (mid+m-1-c))<κ (σ c))) (r0-s0) s0 r0
   let en:=mid+m-st
   let σ1:=dF σ st (m-st) (en-m)
   let σ2:=if a<st∧st<mid then gY n a st mid σ1 else σ1
   if mid<en∧en<b then gY n mid en b σ2 else σ2
variable {κ}
theorem JK (σ:Nat→Nat) (s i j:Nat) (h:i=0∨j=0):dF σ s i j=σ:=by
 funext k
 unfold dF
 repeat' split
 all_goals first
  | rfl
  | (exfalso;omega)
  | (congr 1;omega)
theorem ZL {x y:Nat} (h:ltK κ x y):κ x≤κ y:=by unfold ltK at h;omega
theorem uj {σ:Nat→Nat} {a b i j:Nat} (h:yR κ σ a b) (h1:a≤i) (h2:i≤j) (h3:j<b):κ (σ i)≤κ (σ j):=by
 by_cases c:i=j
 ·subst c;exact Int.le_refl _
 ·exact ZL (h i j h1 (by omega) h3)
theorem wE {x y:Nat} (h:κ x≤κ y) (k:x<y):ltK κ x y:=by unfold ltK;omega
theorem AB {x y:Nat} (h:κ x<κ y):ltK κ x y:=.inl h
theorem J7:∀(n a m b:Nat) (σ:Nat→Nat),b-a≤n→a<m→m<b→yR κ σ a m→yR κ σ m b→(∀i j,a≤i→i<m→m≤j→j<b→σ i<σ j)→yR κ (gY κ n a m b σ) a b∧jF σ (gY κ n a m b σ) a b
 | 0,a,m,b,σ,h,h1,h2,_,_,_=>by omega
 | n+1,a,m,b,σ,h,h1,h2,hl,hr,hx=>by
  unfold gY
  by_cases c1:m-a=1
  ·rw[if_pos c1]
   obtain ⟨q1,q2,q3,q4⟩:=xZ (p:=fun h=>decide (κ (σ h)<κ (σ a))) (n:=b-m) (i:=m) (j:=b) (by omega) (Nat.le_refl _) (fun k l e1 e2 e3 e4=>by
    have:=uj hr e1 e2 e3
    simp only[decide_eq_true_eq] at e4⊢
    omega)
   generalize jM (fun h=>decide (κ (σ h)<κ (σ a))) (b-m) m b=i at q1 q2 q3 q4
   have hm:m=a+1:=by omega
   refine⟨fun u v e1 e2 e3=>?_,(Il σ a 1 (i-m)).mono (Nat.le_refl _) (by omega)⟩
   unfold dF
   by_cases u1:u<a+(i-m)
   ·rw[if_pos (by omega)]
    by_cases v1:v<a+(i-m)
    ·rw[if_pos (by omega)]
     exact hr _ _ (by omega) (by omega) (by omega)
    ·rw[if_neg (by omega)]
     by_cases v2:v<a+(i-m)+1
     ·rw[if_pos (by omega)]
      have:=q3 (u+1) (by omega) (by omega)
      have e:v-(i-m)=a:=by omega
      rw[e]
      exact AB (by simpa using this)
     ·rw[if_neg (by omega)]
      exact hr _ _ (by omega) (by omega) e3
   ·rw[if_neg (by omega),if_neg (by omega:¬(a≤v∧v<a+(i-m))),if_neg (by omega:¬(a+(i-m)≤v∧v<a+(i-m)+1))]
    by_cases u2:u<a+(i-m)+1
    ·rw[if_pos (by omega)]
     have e:u-(i-m)=a:=by omega
     rw[e]
     have:=q4 v (by omega) e3
     exact wE (by simp at this;exact this) (hx a v (Nat.le_refl _) h1 (by omega) e3)
    ·rw[if_neg (by omega)]
     exact hr _ _ (by omega) e2 e3
  ·rw[if_neg c1]
   by_cases c2:b-m=1
   ·rw[if_pos c2]
    obtain ⟨q1,q2,q3,q4⟩:=xZ (p:=fun h=>!decide (κ (σ m)<κ (σ h))) (n:=m-a) (i:=a) (j:=m) (by omega) (Nat.le_refl _) (fun k l e1 e2 e3 e4=>by
     have:=uj hl e1 e2 e3
     simp only[Bool.not_eq_true',decide_eq_false_iff_not] at e4⊢
     omega)
    generalize jM (fun h=>!decide (κ (σ m)<κ (σ h))) (m-a) a m=i at q1 q2 q3 q4
    have hb:b=m+1:=by omega
    refine⟨fun u v e1 e2 e3=>?_,(Il σ i (m-i) 1).mono q1 (by omega)⟩
    unfold dF
    by_cases u1:u<i
    ·rw[if_neg (by omega),if_neg (by omega)]
     by_cases v1:v<i
     ·rw[if_neg (by omega),if_neg (by omega)]
      exact hl _ _ e1 e2 (by omega)
     ·by_cases v2:v<i+1
      ·rw[if_pos (by omega)]
       have e:v+(m-i)=m:=by omega
       rw[e]
       have:=q3 u e1 u1
       exact wE (by simp at this;exact this) (hx u m e1 (by omega) (Nat.le_refl _) h2)
      ·rw[if_neg (by omega),if_pos (by omega)]
       exact hl _ _ e1 (by omega) (by omega)
    ·by_cases u2:u<i+1
     ·rw[if_pos (by omega),if_neg (by omega),if_pos (by omega)]
      have e:u+(m-i)=m:=by omega
      rw[e]
      have:=q4 (v-1) (by omega) (by omega)
      exact AB (by simpa using this)
     ·rw[if_neg (by omega),if_pos (by omega),if_neg (by omega),if_pos (by omega)]
      exact hl _ _ (by omega) (by omega) (by omega)
   ·rw[if_neg c2]
    have hmid:a<(a+b) / 2∧(a+b) / 2<b∧a+b≤2*((a+b) / 2)+1∧2*((a+b) / 2)≤a+b:=by omega
    generalize (a+b) / 2=mid at hmid
    obtain ⟨d1,d2,d3,d4⟩:=hmid
    try dsimp only
    have hs:a≤(if mid<m then mid+m-b else a)∧(if mid<m then mid+m-b else a)≤(if mid<m then mid else m)∧(if mid<m then mid else m)≤m∧(if mid<m then mid else m)≤mid∧mid+m-(if mid<m then mid+m-b else a)≤b∧
      ((if mid<m then mid+m-b else a)=a∨mid+m-(if mid<m then mid+m-b else a)=b)∧((if mid<m then mid else m)=m∨(if mid<m then mid else m)=mid):=by
     split<;>omega
    generalize (if mid<m then mid+m-b else a)=s0 at hs
    generalize (if mid<m then mid else m)=r0 at hs
    obtain ⟨g1,g2,g3,g4,g5,g6,g7⟩:=hs
    obtain ⟨q1,q2,q3,q4⟩:=xZ (p:=fun c=>!decide (κ (σ (mid+m-1-c))<κ (σ c))) (n:=r0-s0) (i:=s0) (j:=r0) g2 (Nat.le_refl _) (fun k l e1 e2 e3 e4=>by
     have t1:=uj hl (by omega:a≤k) e2 (by omega)
     have t2:=uj hr (by omega:m≤mid+m-1-l) (by omega:mid+m-1-l≤mid+m-1-k) (by omega)
     simp only[Bool.not_eq_true',decide_eq_false_iff_not] at e4⊢
     omega)
    generalize jM (fun c=>!decide (κ (σ (mid+m-1-c))<κ (σ c))) (r0-s0) s0 r0=st at q1 q2 q3 q4
    have hen:∃en,mid+m-st=en∧en+st=mid+m∧m≤en∧mid≤en∧en≤b:=⟨_,rfl,by omega,by omega,by omega,by omega⟩
    obtain ⟨en,e0,e1,e2,e3,e4⟩:=hen
    rw[e0]
    -- the claim: what goes to the left is ahead of what goes to the right
    have cl1:∀i j,a≤i→i<st→en≤j→j<b→ltK κ (σ i) (σ j):=fun i j f1 f2 f3 f4=>by
     refine wE ?_ (hx i j f1 (by omega) (by omega) f4)
     have f5:s0<st:=by omega
     have:=q3 (st-1) (by omega) (by omega)
     have e:mid+m-1-(st-1)=en:=by omega
     rw[e] at this
     have this:¬κ (σ en)<κ (σ (st-1)):=by simpa using this
     have t1:=uj hl f1 (by omega:i≤st-1) (by omega)
     have t2:=uj hr e2 f3 f4
     omega
    have cl2:∀i j,m≤i→i<en→st≤j→j<m→ltK κ (σ i) (σ j):=fun i j f1 f2 f3 f4=>by
     refine AB ?_
     have f5:st<r0:=by omega
     have:=q4 st (Nat.le_refl _) f5
     have e:mid+m-1-st=en-1:=by omega
     rw[e] at this
     have this:κ (σ (en-1))<κ (σ st):=by simpa using this
     have t1:=uj hr f1 (by omega:i≤en-1) (by omega)
     have t2:=uj hl (by omega:a≤st) f3 f4
     omega
    have r1:∀k,k<st→dF σ st (m-st) (en-m) k=σ k:=fun k f=>by unfold dF;rw[if_neg (by omega),if_neg (by omega)]
    have r2:∀k,st≤k→k<mid→dF σ st (m-st) (en-m) k=σ (k+(m-st)):=fun k f1 f2=>by unfold dF;rw[if_pos (by omega)]
    have r3:∀k,mid≤k→k<en→dF σ st (m-st) (en-m) k=σ (k-(en-m)):=fun k f1 f2=>by unfold dF;rw[if_neg (by omega),if_pos (by omega)]
    have r4:∀k,en≤k→dF σ st (m-st) (en-m) k=σ k:=fun k f=>by unfold dF;rw[if_neg (by omega),if_neg (by omega)]
    have pr:jF σ (dF σ st (m-st) (en-m)) a b:=(Il σ st (m-st) (en-m)).mono (by omega) (by omega)
    generalize dF σ st (m-st) (en-m)=τ at r1 r2 r3 r4 pr
    have s1:yR κ τ a st:=fun i j f1 f2 f3=>by rw[r1 i (by omega),r1 j f3];exact hl i j f1 f2 (by omega)
    have s2:yR κ τ st mid:=fun i j f1 f2 f3=>by rw[r2 i f1 (by omega),r2 j (by omega) f3];exact hr _ _ (by omega) (by omega) (by omega)
    have s3:yR κ τ mid en:=fun i j f1 f2 f3=>by rw[r3 i f1 (by omega),r3 j (by omega) f3];exact hl _ _ (by omega) (by omega) (by omega)
    have s4:yR κ τ en b:=fun i j f1 f2 f3=>by rw[r4 i f1,r4 j (by omega)];exact hr _ _ (by omega) f2 f3
    have lr:∀i j,a≤i→i<mid→mid≤j→j<b→ltK κ (τ i) (τ j):=fun i j f1 f2 f3 f4=>by
     by_cases u:i<st
     ·rw[r1 i u]
      by_cases v:j<en
      ·rw[r3 j f3 v];exact hl _ _ f1 (by omega) (by omega)
      ·rw[r4 j (by omega)];exact cl1 i j f1 u (by omega) f4
     ·rw[r2 i (by omega) f2]
      by_cases v:j<en
      ·rw[r3 j f3 v];exact cl2 _ _ (by omega) (by omega) (by omega) (by omega)
      ·rw[r4 j (by omega)];exact hr _ _ (by omega) (by omega) f4
    -- the left half
    have L:yR κ (if a<st∧st<mid then gY κ n a st mid τ else τ) a mid∧jF τ (if a<st∧st<mid then gY κ n a st mid τ else τ) a mid:=by
     by_cases c:a<st∧st<mid
     ·rw[if_pos c]
      exact J7 n a st mid τ (by omega) c.1 c.2 s1 s2 fun i j f1 f2 f3 f4=>by
       rw[r1 i f2,r2 j f3 f4]
       exact hx _ _ f1 (by omega) (by omega) (by omega)
     ·rw[if_neg c]
      refine⟨?_,jF.refl _ _ _⟩
      by_cases c3:st≤a
      ·have:st=a:=by omega
       rw[this] at s2;exact s2
      ·have:st=mid:=by omega
       rw[this] at s1;exact s1
    generalize (if a<st∧st<mid then gY κ n a st mid τ else τ)=ρ at L
    obtain ⟨L1,L2⟩:=L
    have ro:∀k,mid≤k→ρ k=τ k:=fun k f=>L2.out k (by omega)
    have Rr:yR κ (if mid<en∧en<b then gY κ n mid en b ρ else ρ) mid b∧jF ρ (if mid<en∧en<b then gY κ n mid en b ρ else ρ) mid b:=by
     have t3:yR κ ρ mid en:=fun i j f1 f2 f3=>by rw[ro i f1,ro j (by omega)];exact s3 i j f1 f2 f3
     have t4:yR κ ρ en b:=fun i j f1 f2 f3=>by rw[ro i (by omega),ro j (by omega)];exact s4 i j f1 f2 f3
     by_cases c:mid<en∧en<b
     ·rw[if_pos c]
      exact J7 n mid en b ρ (by omega) c.1 c.2 t3 t4 fun i j f1 f2 f3 f4=>by
       rw[ro i f1,ro j (by omega),r3 i f1 f2,r4 j f3]
       exact hx _ _ (by omega) (by omega) (by omega) f4
     ·rw[if_neg c]
      refine⟨?_,jF.refl _ _ _⟩
      by_cases c3:en≤mid
      ·have:en=mid:=by omega
       rw[this] at t4;exact t4
      ·have:en=b:=by omega
       rw[this] at t3;exact t3
    generalize (if mid<en∧en<b then gY κ n mid en b ρ else ρ)=π at Rr
    obtain ⟨R1,R2⟩:=Rr
    have po:∀k,k<mid→π k=ρ k:=fun k f=>R2.out k (by omega)
    refine⟨fun i j f1 f2 f3=>?_,pr.trans ((L2.mono (Nat.le_refl _) (by omega)).trans (R2.mono (by omega) (Nat.le_refl _)))⟩
    by_cases u:mid≤i
    ·exact R1 i j u f2 f3
    ·by_cases v:j<mid
     ·rw[po i (by omega),po j v];exact L1 i j f1 f2 v
     ·obtain ⟨i',a1,a2,a3⟩:=L2.to i f1 (by omega)
      obtain ⟨j',b1,b2,b3⟩:=R2.to j (by omega) f3
      rw[po i (by omega),a3,b3,ro j' b1]
      exact lr i' j' a1 a2 b1 b2
end Go.Proofs
namespace Go.Proofs
variable (κ:Nat→Int)
def nT (a:Nat):Nat→(Nat→Nat)→(Nat→Nat)
 | 0,σ=>σ
 | j+1,σ=>if a<j+1∧κ (σ (j+1))<κ (σ j) then nT a j (swp σ (j+1) j) else σ
def Cb (a:Nat):Nat→Nat→(Nat→Nat)→(Nat→Nat)
 | 0,_,σ=>σ
 | k+1,i,σ=>Cb a k (i+1) (nT κ a i σ)
def oN (a b:Nat) (σ:Nat→Nat):Nat→Nat:=Cb κ a (b-(a+1)) (a+1) σ
def rJ (n:Nat):Nat→Nat→(Nat→Nat)→(Nat→Nat)
 | 0,a,σ=>oN κ a n σ
 | k+1,a,σ=>if a+20≤n then rJ n k (a+20) (oN κ a (a+20) σ) else oN κ a n σ
def uX (n s:Nat):Nat→Nat→(Nat→Nat)→(Nat→Nat)
 | 0,_,σ=>σ
 | k+1,a,σ=>if a+2*s≤n then uX n s k (a+2*s) (gY κ (2*s) a (a+s) (a+2*s) σ) else if a+s<n then gY κ (n-a) a (a+s) n σ else σ
def pR (n:Nat):Nat→Nat→(Nat→Nat)→(Nat→Nat)
 | 0,_,σ=>σ
 | k+1,s,σ=>if s<n then pR n k (2*s) (uX κ n s (n+1) 0 σ) else σ
def pW (n:Nat):Nat→Nat:=pR κ n n 20 (rJ κ n n 0 id)
variable {κ}
theorem D9 (a:Nat):∀(j:Nat) (σ:Nat→Nat),a≤j→jF σ (nT κ a j σ) a (j+1)
 | 0,σ,h=>by unfold nT;exact jF.refl _ _ _
 | j+1,σ,h=>by
  unfold nT
  by_cases c:a<j+1∧κ (σ (j+1))<κ (σ j)
  ·rw[if_pos c]
   refine jF.trans ?_ ((D9 a j (swp σ (j+1) j) (by omega)).mono (Nat.le_refl _) (by omega))
   refine⟨fun k hk=>?_,fun i h1 h2=>?_,fun i h1 h2=>?_⟩
   ·unfold swp
    rw[if_neg (by omega),if_neg (by omega)]
   ·unfold swp
    split
    ·exact⟨j,by omega,by omega,rfl⟩
    ·split
     ·exact⟨j+1,by omega,by omega,rfl⟩
     ·exact⟨i,h1,h2,rfl⟩
   ·by_cases e1:i=j
    ·subst e1
     exact⟨i+1,by omega,by omega,by unfold swp;rw[if_pos rfl]⟩
    ·by_cases e2:i=j+1
     ·subst e2
      exact⟨j,by omega,by omega,by unfold swp;rw[if_neg (by omega),if_pos rfl]⟩
     ·exact⟨i,h1,h2,by unfold swp;rw[if_neg e2,if_neg e1]⟩
  ·rw[if_neg c]
   exact jF.refl _ _ _
theorem LM (a:Nat):∀(j:Nat) (σ:Nat→Nat),a≤j→yR κ σ a j→(∀k,a≤k→k<j→σ k<σ j)→yR κ (nT κ a j σ) a (j+1)
 | 0,σ,h,hs,hx=>by
  unfold nT
  intro u v h1 h2 h3
  omega
 | j+1,σ,h,hs,hx=>by
  unfold nT
  by_cases c:a<j+1∧κ (σ (j+1))<κ (σ j)
  ·rw[if_pos c]
   have s1:swp σ (j+1) j j=σ (j+1):=by unfold swp;rw[if_neg (by omega),if_pos rfl]
   have s2:swp σ (j+1) j (j+1)=σ j:=by unfold swp;rw[if_pos rfl]
   have s3:∀k,k<j→swp σ (j+1) j k=σ k:=fun k hk=>by unfold swp;rw[if_neg (by omega),if_neg (by omega)]
   have ih:=LM a j (swp σ (j+1) j) (by omega) (fun u v h1 h2 h3=>by rw[s3 u (by omega),s3 v h3];exact hs u v h1 h2 (by omega)) fun k h1 h2=>by
    rw[s3 k h2,s1];exact hx k h1 (by omega)
   have po:=D9 (κ:=κ) a j (swp σ (j+1) j) (by omega)
   intro u v h1 h2 h3
   by_cases e:v=j+1
   ·subst e
    rw[po.out (j+1) (by omega),s2]
    obtain ⟨l,l1,l2,l3⟩:=po.to u h1 h2
    rw[l3]
    by_cases e2:l=j
    ·subst e2
     rw[s1]
     exact AB c.2
    ·rw[s3 l (by omega)]
     exact hs l j l1 (by omega) (by omega)
   ·exact ih u v h1 h2 (by omega)
  ·rw[if_neg c]
   intro u v h1 h2 h3
   by_cases e:v=j+1
   ·subst e
    refine wE ?_ (hx u h1 h2)
    have:=uj hs h1 (by omega:u≤j) (by omega)
    have:¬κ (σ (j+1))<κ (σ j):=fun q=>c ⟨by omega,q⟩
    omega
   ·exact hs u v h1 h2 (by omega)
structure uS (κ:Nat→Int) (σ:Nat→Nat) (a b:Nat):Prop where
 iK:yR κ σ a b
 ins:∀i,a≤i→i<b→a≤σ i∧σ i<b
 all:∀j,a≤j→j<b→∃i,a≤i∧i<b∧σ i=j
theorem uS.congr {σ τ:Nat→Nat} {a b:Nat} (h:uS κ σ a b) (e:∀k,a≤k→k<b→τ k=σ k):uS κ τ a b:=by
 refine⟨fun i j h1 h2 h3=>by rw[e i h1 (by omega),e j (by omega) h3];exact h.iK i j h1 h2 h3,fun i h1 h2=>by rw[e i h1 h2];exact h.ins i h1 h2,fun j h1 h2=>?_⟩
 obtain ⟨i,a1,a2,a3⟩:=h.all j h1 h2
 exact⟨i,a1,a2,by rw[e i a1 a2];exact a3⟩
theorem RN (a:Nat):∀(k i:Nat) (σ:Nat→Nat),a≤i→uS κ σ a i→(∀j,i≤j→j<i+k→σ j=j)→uS κ (Cb κ a k i σ) a (i+k)∧∀j,¬(a≤j∧j<i+k)→Cb κ a k i σ j=σ j
 | 0,i,σ,h,hb,_=>⟨hb,fun _ _=>rfl⟩
 | k+1,i,σ,h,hb,hi=>by
  unfold Cb
  have po:=D9 (κ:=κ) a i σ h
  have e0:=hi i (Nat.le_refl _) (by omega)
  have sr:=LM (κ:=κ) a i σ h hb.iK fun k h1 h2=>by rw[e0];exact(hb.ins k h1 h2).2
  obtain ⟨q1,q2⟩:=RN a k (i+1) (nT κ a i σ) (by omega) ⟨sr,fun u h1 h2=>by
    obtain ⟨l,l1,l2,l3⟩:=po.to u h1 h2
    rw[l3]
    by_cases c:l=i
    ·subst c;rw[e0];omega
    ·have:=hb.ins l l1 (by omega);omega,fun j h1 h2=>by
    by_cases c:j=i
    ·subst c
     obtain ⟨l,l1,l2,l3⟩:=po.from_ j h1 h2
     exact⟨l,l1,l2,by rw[l3,e0]⟩
    ·obtain ⟨u,u1,u2,u3⟩:=hb.all j h1 (by omega)
     obtain ⟨l,l1,l2,l3⟩:=po.from_ u u1 (by omega)
     exact⟨l,l1,l2,by rw[l3,u3]⟩⟩ fun j h1 h2=>by rw[po.out j (by omega)];exact hi j (by omega) (by omega)
  have e:i+1+k=i+(k+1):=by omega
  rw[e] at q1 q2
  exact⟨q1,fun j hj=>by rw[q2 j hj,po.out j (by omega)]⟩
theorem QH {a b:Nat} {σ:Nat→Nat} (h:a<b) (hi:∀j,a≤j→j<b→σ j=j):uS κ (oN κ a b σ) a b∧∀j,¬(a≤j∧j<b)→oN κ a b σ j=σ j:=by
 have e:a+1+(b-(a+1))=b:=by omega
 have:=RN (κ:=κ) a (b-(a+1)) (a+1) σ (by omega) ⟨fun i j h1 h2 h3=>by omega,fun i h1 h2=>by
   have:i=a:=by omega
   subst this;rw[hi i h1 h];omega,fun j h1 h2=>⟨j,h1,h2,hi j h1 (by omega)⟩⟩ (fun j h1 h2=>hi j (by omega) (by omega))
 rw[e] at this
 exact this
def Bl (κ:Nat→Int) (n s:Nat) (σ:Nat→Nat):Prop:=(∀q,q*s<n→uS κ σ (q*s) (min (q*s+s) n))∧∀k,n≤k→σ k=k
theorem YZ (n:Nat):∀(k q:Nat) (σ:Nat→Nat),n≤q*20+k→q*20≤n→(∀p,p<q→uS κ σ (p*20) (p*20+20))→(∀j,q*20≤j→σ j=j)→Bl κ n 20 (rJ κ n k (q*20) σ):=by
 have last:∀(q:Nat) (σ:Nat→Nat),q*20≤n→n<q*20+20→(∀p,p<q→uS κ σ (p*20) (p*20+20))→(∀j,q*20≤j→σ j=j)→Bl κ n 20 (oN κ (q*20) n σ):=by
  intro q σ h1 h2 h3 h4
  by_cases c:q*20<n
  ·obtain ⟨i1,i2⟩:=QH (κ:=κ) c (fun j a _=>h4 j a)
   refine⟨fun p hp=>?_,fun k hk=>by rw[i2 k (by omega)];exact h4 k (by omega)⟩
   by_cases e:p<q
   ·have:min (p*20+20) n=p*20+20:=by omega
    rw[this]
    exact(h3 p e).congr fun k _ f=>i2 k (by omega)
   ·have e2:p=q:=by omega
    subst e2
    have:min (p*20+20) n=n:=by omega
    rw[this];exact i1
  ·have e0:oN κ (q*20) n σ=σ:=by
    unfold oN
    have:n-(q*20+1)=0:=by omega
    rw[this];rfl
   rw[e0]
   refine⟨fun p hp=>?_,fun k hk=>h4 k (by omega)⟩
   have:min (p*20+20) n=p*20+20:=by omega
   rw[this]
   exact h3 p (by omega)
 intro k
 induction k with
 | zero=>intro q σ h1 h2 h3 h4;exact last q σ h2 (by omega) h3 h4
 | succ k ih=>
  intro q σ h1 h2 h3 h4
  unfold rJ
  by_cases c:q*20+20≤n
  ·rw[if_pos c]
   obtain ⟨i1,i2⟩:=QH (κ:=κ) (a:=q*20) (b:=q*20+20) (by omega) (fun j a _=>h4 j a)
   have e:q*20+20=(q+1)*20:=by omega
   have:=ih (q+1) (oN κ (q*20) (q*20+20) σ) (by omega) (by omega) (fun p hp=>?_) fun j hj=>by rw[i2 j (by omega)];exact h4 j (by omega)
   ·rw[←e] at this;exact this
   ·by_cases e2:p<q
    ·exact(h3 p e2).congr fun k _ f=>i2 k (by omega)
    ·have e3:p=q:=by omega
     subst e3;exact i1
  ·rw[if_neg c]
   exact last q σ h2 (by omega) h3 h4
theorem RH {a m b n:Nat} {σ:Nat→Nat} (hn:b-a≤n) (h1:a<m) (h2:m<b) (hl:uS κ σ a m) (hr:uS κ σ m b):uS κ (gY κ n a m b σ) a b∧∀j,¬(a≤j∧j<b)→gY κ n a m b σ j=σ j:=by
 obtain ⟨s1,s2⟩:=J7 n a m b σ hn h1 h2 hl.iK hr.iK fun i j f1 f2 f3 f4=>by
  have:=hl.ins i f1 f2
  have:=hr.ins j f3 f4
  omega
 refine⟨⟨s1,fun i f1 f2=>?_,fun j f1 f2=>?_⟩,s2.out⟩
 ·obtain ⟨l,l1,l2,l3⟩:=s2.to i f1 f2
  rw[l3]
  by_cases c:l<m
  ·have:=hl.ins l l1 c;omega
  ·have:=hr.ins l (by omega) l2;omega
 ·have:∃u,a≤u∧u<b∧σ u=j:=by
   by_cases c:j<m
   ·obtain ⟨u,u1,u2,u3⟩:=hl.all j f1 c
    exact⟨u,u1,by omega,u3⟩
   ·obtain ⟨u,u1,u2,u3⟩:=hr.all j (by omega) f2
    exact⟨u,by omega,u2,u3⟩
  obtain ⟨u,u1,u2,u3⟩:=this
  obtain ⟨l,l1,l2,l3⟩:=s2.from_ u u1 u2
  exact⟨l,l1,l2,by rw[l3,u3]⟩
theorem Q5 (n s:Nat) (hs:0<s):∀(k q:Nat) (σ:Nat→Nat),n<q*(2*s)+k→(∀p,p<q→uS κ σ (p*(2*s)) (p*(2*s)+2*s))→(q*(2*s)≤n)→(∀p,q*(2*s)≤p*s→p*s<n→uS κ σ (p*s) (min (p*s+s) n))→(∀j,n≤j→σ j=j)→Bl κ n (2*s) (uX κ n s k (q*(2*s)) σ)
 | 0,q,σ,h1,_,h3,_,_=>by omega
 | k+1,q,σ,h1,h2,h3,h4,h5=>by
  have e2:2*q*s=q*(2*s):=by rw[Nat.mul_comm 2 q,Nat.mul_assoc]
  have e3:(2*q+1)*s=q*(2*s)+s:=by rw[Nat.add_mul,e2,Nat.one_mul]
  have e4:(q+1)*(2*s)=q*(2*s)+2*s:=by rw[Nat.add_mul,Nat.one_mul]
  have lt:∀p,p<q→p*(2*s)+2*s≤q*(2*s):=fun p hp=>by
   have:=Nat.mul_le_mul_right (2*s) (show p+1≤q from hp)
   rw[Nat.add_mul,Nat.one_mul] at this;exact this
  have gt:∀p,q*(2*s)+2*s≤p*s→q*(2*s)+2*s≤p*s:=fun _ h=>h
  unfold uX
  by_cases c:q*(2*s)+2*s≤n
  ·rw[if_pos c]
   have b1:=h4 (2*q) (by omega) (by omega)
   have b2:=h4 (2*q+1) (by omega) (by omega)
   rw[e2] at b1
   rw[e3] at b2
   have m1:min (q*(2*s)+s) n=q*(2*s)+s:=by omega
   have m2:min (q*(2*s)+s+s) n=q*(2*s)+2*s:=by omega
   rw[m1] at b1
   rw[m2] at b2
   obtain ⟨i1,i2⟩:=RH (n:=2*s) (by omega) (by omega) (by omega) b1 b2
   have:=Q5 n s hs k (q+1) (gY κ (2*s) (q*(2*s)) (q*(2*s)+s) (q*(2*s)+2*s) σ) (by omega) (fun p hp=>?_) (by omega) (fun p f1 f2=>(h4 p (by omega) f2).congr fun k g1 _=>i2 k (by omega)) fun j hj=>by rw[i2 j (by omega)];exact h5 j hj
   ·rw[e4] at this;exact this
   ·by_cases e:p<q
    ·exact(h2 p e).congr fun k _ g=>i2 k (by have:=lt p e;omega)
    ·have e5:p=q:=by omega
     subst e5;exact i1
  ·rw[if_neg c]
   have fin:∀τ:Nat→Nat,(∀j,¬(q*(2*s)≤j∧j<n)→τ j=σ j)→(q*(2*s)<n→uS κ τ (q*(2*s)) n)→Bl κ n (2*s) τ:=fun τ t1 t2=>by
    refine⟨fun p hp=>?_,fun j hj=>by rw[t1 j (by omega)];exact h5 j hj⟩
    by_cases e:p<q
    ·have:=lt p e
     have m:min (p*(2*s)+2*s) n=p*(2*s)+2*s:=by omega
     rw[m]
     exact(h2 p e).congr fun k _ g=>t1 k (by omega)
    ·by_cases e5:p=q
     ·subst e5
      have m:min (p*(2*s)+2*s) n=n:=by omega
      rw[m];exact t2 hp
     ·exfalso
      have:=Nat.mul_le_mul_right (2*s) (show q+1≤p by omega)
      omega
   by_cases c2:q*(2*s)+s<n
   ·rw[if_pos c2]
    have b1:=h4 (2*q) (by omega) (by omega)
    have b2:=h4 (2*q+1) (by omega) (by omega)
    rw[e2] at b1
    rw[e3] at b2
    have m1:min (q*(2*s)+s) n=q*(2*s)+s:=by omega
    have m2:min (q*(2*s)+s+s) n=n:=by omega
    rw[m1] at b1
    rw[m2] at b2
    obtain ⟨i1,i2⟩:=RH (n:=n-q*(2*s)) (Nat.le_refl _) (by omega) c2 b1 b2
    exact fin _ i2 fun _=>i1
   ·rw[if_neg c2]
    refine fin σ (fun _ _=>rfl) fun hq=>?_
    have b1:=h4 (2*q) (by omega) (by omega)
    rw[e2] at b1
    have m1:min (q*(2*s)+s) n=n:=by omega
    rw[m1] at b1;exact b1
theorem YK (n:Nat):∀(k s:Nat) (σ:Nat→Nat),n≤s+k→0<s→Bl κ n s σ→uS κ (pR κ n k s σ) 0 n∧∀j,n≤j→pR κ n k s σ j=j:=by
 have base:∀(s:Nat) (σ:Nat→Nat),n≤s→Bl κ n s σ→uS κ σ 0 n∧∀j,n≤j→σ j=j:=by
  intro s σ h hb
  refine⟨?_,hb.2⟩
  by_cases c:0<n
  ·have:=hb.1 0 (by omega)
   have m:min (0*s+s) n=n:=by omega
   rw[m,Nat.zero_mul] at this
   exact this
  ·exact⟨fun i j _ _ _=>by omega,fun i _ _=>by omega,fun j _ _=>by omega⟩
 intro k
 induction k with
 | zero=>intro s σ h hs hb;exact base s σ h hb
 | succ k ih=>
  intro s σ h hs hb
  unfold pR
  by_cases c:s<n
  ·rw[if_pos c]
   have:=Q5 (κ:=κ) n s hs (n+1) 0 σ (by omega) (fun p hp=>absurd hp (Nat.not_lt_zero p)) (by omega) (fun p _ f=>hb.1 p f) hb.2
   rw[Nat.zero_mul] at this
   exact ih (2*s) _ (by omega) (by omega) this
  ·rw[if_neg c]
   exact base s σ (by omega) hb
theorem YA (n:Nat):uS κ (pW κ n) 0 n∧∀j,n≤j→pW κ n j=j:=by
 refine YK n n 20 _ (by omega) (by omega) ?_
 have:=YZ (κ:=κ) n n 0 id (by omega) (by omega) (fun p hp=>absurd hp (Nat.not_lt_zero p)) fun j _=>rfl
 rw[Nat.zero_mul] at this
 exact this
end Go.Proofs
namespace Go.Proofs
variable {κ:Nat→Int}
def Ae (κ:Nat→Int) (x:Nat):List Nat→List Nat
 | []=>[x]
 | a :: l=>if κ x<κ a then x :: a :: l else a :: Ae κ x l
def Ir (κ:Nat→Int) (l:List Nat):List Nat:=l.foldl (fun m x=>Ae κ x m) []
theorem D8 (x:Nat):∀l:List Nat,(Ae κ x l).Perm (x :: l)
 | []=>List.Perm.refl _
 | a :: l=>by
  unfold Ae
  split
  ·exact List.Perm.refl _
  ·exact((D8 x l).cons a).trans (List.Perm.swap x a l)
theorem PY (x:Nat):∀l:List Nat,(∀y∈l,y<x)→l.Pairwise (ltK κ)→(Ae κ x l).Pairwise (ltK κ)
 | [],_,_=>by unfold Ae;exact List.pairwise_singleton _ _
 | a :: l,hx,h=>by
  unfold Ae
  obtain ⟨h1,h2⟩:=List.pairwise_cons.1 h
  split
  ·rename_i c
   refine List.pairwise_cons.2 ⟨fun y hy=>?_,h⟩
   rcases List.mem_cons.1 hy with rfl|hy
   ·exact AB c
   ·exact L8 (AB c) (h1 y hy)
  ·rename_i c
   refine List.pairwise_cons.2 ⟨fun y hy=>?_,PY x l (fun y hy=>hx y (List.mem_cons_of_mem _ hy)) h2⟩
   rcases List.mem_cons.1 ((D8 x l).mem_iff.1 hy) with rfl|hy
   ·exact wE (by omega) (hx a (by simp))
   ·exact h1 y hy
theorem MC (l:List Nat) (x:Nat):Ir κ (l++[x])=Ae κ x (Ir κ l):=by
 unfold Ir
 rw[List.foldl_append];rfl
theorem Jo:∀n,(Ir κ (List.range n)).Perm (List.range n)∧(Ir κ (List.range n)).Pairwise (ltK κ)
 | 0=>⟨List.Perm.refl _,List.Pairwise.nil⟩
 | n+1=>by
  obtain ⟨h1,h2⟩:=Jo n
  rw[List.range_succ,MC]
  refine⟨(D8 _ _).trans ((h1.cons n).trans ?_),PY n _ (fun y hy=>?_) h2⟩
  ·exact(List.perm_append_singleton n (List.range n)).symm
  ·exact List.mem_range.1 (h1.mem_iff.1 hy)
theorem RG {g:Nat→Ev} (hg:∀i,κ i=(g i).t) (x:Nat):∀l:List Nat,ins (g x) (l.map g)=(Ae κ x l).map g
 | []=>rfl
 | a :: l=>by
  rw[List.map_cons]
  unfold ins Ae
  rw[hg x,hg a]
  split
  ·rfl
  ·rw[List.map_cons,RG hg x l]
theorem QI {g:Nat→Ev} (hg:∀i,κ i=(g i).t):∀n,iK ((List.range n).map g)=(Ir κ (List.range n)).map g
 | 0=>rfl
 | n+1=>by
  rw[List.range_succ,List.map_append,MC]
  show iK (_++[g n])=_
  rw[sG,QI hg n,RG hg]
theorem Vd (n:Nat):(List.range n).map (pW κ n)=Ir κ (List.range n):=by
 obtain ⟨⟨s1,s2,s3⟩,_⟩:=YA (κ:=κ) n
 obtain ⟨p1,p2⟩:=Jo (κ:=κ) n
 have q2:((List.range n).map (pW κ n)).Pairwise (ltK κ):=by
  rw[List.pairwise_map]
  refine List.Pairwise.imp_of_mem (R:=(· < ·)) ?_ List.pairwise_lt_range
  intro a b ha hb hab
  exact s1 a b (Nat.zero_le _) hab (List.mem_range.1 hb)
 have nd:∀{l:List Nat},l.Pairwise (ltK κ)→l.Nodup:=fun h=>h.imp fun {a b} h e=>by subst e;exact I5 h
 have q1:((List.range n).map (pW κ n)).Perm (List.range n):=by
  refine(List.perm_ext_iff_of_nodup (nd q2) List.nodup_range).2 fun x=>?_
  rw[List.mem_map,List.mem_range]
  constructor
  ·rintro ⟨i,hi,rfl⟩
   exact(s2 i (Nat.zero_le _) (List.mem_range.1 hi)).2
  ·intro hx
   obtain ⟨i,_,i2,i3⟩:=s3 x (Nat.zero_le _) hx
   exact⟨i,List.mem_range.2 i2,i3⟩
 refine List.Perm.eq_of_pairwise (le:=ltK κ) (fun a b _ _ h1 h2=>absurd (L8 h1 h2) I5) q2 p2 (q1.trans p1.symm)
theorem Qg (l:List Ev) {κ:Nat→Int} (hκ:∀i,κ i=(l.getD i ev0).t):(List.range l.length).map (fun i=>l.getD (pW κ l.length i) ev0)=iK l:=by
 have e:(List.range l.length).map (fun i=>l.getD i ev0)=l:=by
  refine List.ext_getElem (by simp) fun i h1 h2=>?_
  rw[List.getElem_map,List.getElem_range,List.getD,List.getElem?_eq_getElem h2];rfl
 have:=QI (g:=fun i=>l.getD i ev0) hκ l.length
 rw[e] at this
 rw[this,←Vd,List.map_map]
 rfl
end Go.Proofs
namespace Go.Proofs
open Go Go.Ab Go.RowKit
variable {G:IH}
theorem oL {x y:Int} (h:x=y):AV.d (.con (.int .i64 x))=.d (.con (.int .i64 y)):=by rw[h]
abbrev lH:DV:=.aC []
def uJ (x y:Int):Int:=if x<y then -1 else if y<x then 1 else 0
theorem ZO (x y:Int):uJ x y<0↔x<y:=by
 unfold uJ
 split
 ·rename_i h;simp[h]
 ·rename_i h
  split<;>simp[h]
def XD:iw:=fun f a=>match f,a with
 | 106,_=>some (db false)
 | 86,[.con (.int _ x),.con (.int _ y)]=>some (di (uJ x y))
 | _,_=>none
theorem f106 (x:Int):au Tryz.prog G 106 [di x] (db false):=by
 refine au.walk (aj:=XD) (keep:=[]) follows Tryz.func106 rfl Tryz.call106 ?_
 refine aJ (fun _ _ _ _=>(((db (x != x)):DV)=(db false))) (by kernel_rfl) ?_
 simp
theorem f86 (x y:Int):au Tryz.prog G 86 [di x,di y] (di (uJ x y)):=by
 refine au.walk (aj:=XD) (keep:=[]) follows Tryz.func86 rfl Tryz.call86 ?_
 refine aJ (fun _ _ _ ZK=>(ZK 106 [(di x)] (db false)∧ZK 106 [(di y)] (db false)∧((false=true)→(((false=true)→(((di 0):DV)=(di (uJ x y))))∧((false=false)→(((di (-1)):DV)=(di (uJ x y))))))∧((false=false)→(((false=true)→(((di 1):DV)=(di (uJ x y))))∧((false=false)→((((decide (x<y))=true)→(((di (-1)):DV)=(di (uJ x y))))∧(((decide (x<y))=false)→((((decide (x>y))=true)→(((di 1):DV)=(di (uJ x y))))∧(((decide (x>y))=false)→(((di 0):DV)=(di (uJ x y)))))))))))) (by kernel_rfl) ?_
 unfold uJ
 refine⟨f106 x,f106 y,fun c=>(by cases c),fun _=>⟨fun c=>(by cases c),fun _=>⟨fun h=>?_,fun h=>⟨fun h2=>?_,fun h2=>?_⟩⟩⟩⟩
 ·rw[if_pos (dW h)]
 ·rw[if_neg (of_decide_eq_false h),if_pos (dW h2)]
 ·rw[if_neg (of_decide_eq_false h),if_neg (of_decide_eq_false h2)]
def sK (x y:Ev):Int:=uJ x.t y.t
theorem qF (x y:Ev):sK x y<0↔x.t<y.t:=ZO _ _
theorem f85 (x y:Ev):au Tryz.prog G 85 [fQ x,fQ y] (di (sK x y)):=by
 refine au.walk (aj:=XD) (keep:=[]) follows Tryz.func85 rfl Tryz.call85 ?_
 refine aJ (fun _ _ _ ZK=>(ZK 86 [(di x.t),(di y.t)] (di (uJ x.t y.t))∧((di (uJ x.t y.t)):DV)=(di (sK x y)))) (by kernel_rfl) ?_
 exact⟨f86 _ _,rfl⟩
theorem U2 {m i j:Nat} (τ:Nat→Nat) (h:j<i) (hj:0<j) (hi:i≤m):dF τ (m-i) i j=dF (iU τ (m-i) m j) (m-(i-j)) (i-j) j:=by
 obtain ⟨n,hn⟩:∃n,i+j=n+1:=⟨i+j-1,by omega⟩
 rw[←vJ m (n+1) i j τ (by omega) (by omega) hj hi,H6,if_neg (by omega),if_pos h,vJ m n (i-j) j _ (by omega) (by omega) hj (by omega)]
theorem UE {m i j:Nat} (τ:Nat→Nat) (h:i<j) (h0:0<i) (hi:i≤m):dF τ (m-i) i j=dF (iU τ (m-i) (m+j-i) i) (m-i) i (j-i):=by
 obtain ⟨n,hn⟩:∃n,i+j=n+1:=⟨i+j-1,by omega⟩
 rw[←vJ m (n+1) i j τ (by omega) h0 (by omega) hi,H6,if_neg (by omega),if_neg (by omega),vJ m n i (j-i) _ (by omega) h0 (by omega) hi]
theorem Xv {m i:Nat} (τ:Nat→Nat) (h0:0<i) (hi:i≤m):dF τ (m-i) i i=iU τ (m-i) m i:=by
 obtain ⟨n,hn⟩:∃n,i+i=n+1:=⟨i+i-1,by omega⟩
 rw[←vJ m (n+1) i i τ (by omega) h0 h0 hi,H6,if_pos rfl]
theorem aav (σ:Nat→Nat) (a t:Nat):swp (dF σ a 1 t) (a+t) (a+t+1)=dF σ a 1 (t+1):=by
 funext k
 unfold swp dF
 repeat' split
 all_goals first
  | rfl
  | (exfalso;omega)
  | (congr 1;omega)
theorem XI (σ:Nat→Nat) (m t:Nat) (h:t+1≤m):swp (dF σ (m-t) t 1) (m-t) (m-t-1)=dF σ (m-(t+1)) (t+1) 1:=by
 funext k
 unfold swp dF
 repeat' split
 all_goals first
  | rfl
  | (exfalso;omega)
  | (congr 1;omega)
theorem BI {p:Nat→Bool}:∀{n n' i j:Nat},j-i≤n→j-i≤n'→jM p n i j=jM p n' i j
 | 0,0,_,_,_,_=>rfl
 | 0,n'+1,i,j,h,_=>by rw[jM,jM,if_neg (by omega)]
 | n+1,0,i,j,_,h=>by rw[jM,jM,if_neg (by omega)]
 | n+1,n'+1,i,j,h,h'=>by
  rw[jM,jM]
  by_cases c:i<j
  ·rw[if_pos c,if_pos c,BI (n:=n) (n':=n') (by omega) (by omega),BI (n:=n) (n':=n') (i:=i) (by omega) (by omega)]
  ·rw[if_neg c,if_neg c]
theorem PU {p:Nat→Bool} {i j:Nat} (h:i<j):jM p (j-i) i j=if p ((i+j) / 2)=true then jM p (j-((i+j) / 2+1)) ((i+j) / 2+1) j else jM p ((i+j) / 2-i) i ((i+j) / 2):=by
 obtain ⟨n,hn⟩:∃n,j-i=n+1:=⟨j-i-1,by omega⟩
 rw[hn,jM,if_pos h]
 rw[BI (n:=n) (n':=j-((i+j) / 2+1)) (by omega) (by omega),BI (n:=n) (n':=(i+j) / 2-i) (i:=i) (by omega) (by omega)]
theorem fdiv_pow (g k:Nat) (hk:k≤64):Int.fdiv (g:Int) (2 ^ (min k 64))=((g / 2 ^ k:Nat):Int):=by
 rw[Nat.min_eq_left hk,Int.fdiv_eq_ediv_of_nonneg _ (Int.le_of_lt (Int.pow_pos (by decide)))]
 push_cast
 rfl
theorem Zm (n:Nat) (h:n<9223372036854775808):IntKind.wrap .i64 (n:Int)=n:=IntWalk.i64_in n ⟨by omega,by omega⟩
theorem Y1 (n:Nat) (h:n<18446744073709551616):IntKind.wrap .u64 (n:Int)=n:=IntWalk.u64_in n ⟨by omega,by omega⟩
theorem WM (g k:Nat) (hk:k≤64):Int.fdiv (g:Int) (2 ^ (min k (IntKind.bits .u64)))=((g / 2 ^ k:Nat):Int):=fdiv_pow g k hk
theorem half {i j:Nat} (h:i+j≤400000000):IntKind.i64.wrap ((IntKind.u64.wrap ((i:Int)+(j:Int))).fdiv (2 ^ min (Int.toNat 1) IntKind.u64.bits))=(((i+j) / 2:Nat):Int):=by
 have e:(i:Int)+(j:Int)=((i+j:Nat):Int):=by omega
 rw[e,Y1 _ (by omega),WM _ _ (by decide)]
 exact Zm _ (by simp only[Int.toNat_one,Nat.pow_one];omega)
theorem MB {κ:Nat→Int} {n:Nat}:∀{k k' a:Nat} {σ:Nat→Nat},n-a≤k→n-a≤k'→rJ κ n k a σ=rJ κ n k' a σ
 | 0,0,_,_,_,_=>rfl
 | 0,k'+1,a,σ,h,_=>by rw[rJ,rJ,if_neg (by omega)]
 | k+1,0,a,σ,_,h=>by rw[rJ,rJ,if_neg (by omega)]
 | k+1,k'+1,a,σ,h,h'=>by
  rw[rJ,rJ]
  by_cases c:a+20≤n
  ·rw[if_pos c,if_pos c,MB (k:=k) (k':=k') (by omega) (by omega)]
  ·rw[if_neg c,if_neg c]
theorem ED {κ:Nat→Int} {n:Nat}:∀{k k' s:Nat} {σ:Nat→Nat},0<s→n-s≤k→n-s≤k'→pR κ n k s σ=pR κ n k' s σ
 | 0,0,_,_,_,_,_=>rfl
 | 0,k'+1,s,σ,_,h,_=>by rw[pR,pR,if_neg (by omega)]
 | k+1,0,s,σ,_,_,h=>by rw[pR,pR,if_neg (by omega)]
 | k+1,k'+1,s,σ,hs,h,h'=>by
  rw[pR,pR]
  by_cases c:s<n
  ·rw[if_pos c,if_pos c,ED (k:=k) (k':=k') (by omega) (by omega) (by omega)]
  ·rw[if_neg c,if_neg c]
theorem L6 {κ:Nat→Int} {n s:Nat} (hs:0<s):∀{k k' a:Nat} {σ:Nat→Nat},n<a+k→n<a+k'→a≤n→uX κ n s k a σ=uX κ n s k' a σ
 | 0,_,_,_,h,_,h2=>by omega
 | _+1,0,_,_,_,h,h2=>by omega
 | k+1,k'+1,a,σ,h,h',h2=>by
  rw[uX,uX]
  by_cases c:a+2*s≤n
  ·rw[if_pos c,if_pos c,L6 hs (k:=k) (k':=k') (by omega) (by omega) c]
  ·rw[if_neg c,if_neg c]
abbrev mD:RK:=⟨true,26,false,none⟩
def dL (L:Nat→Ev) (σ:Nat→Nat) (i:Nat):DV:=fQ (L (σ i))
abbrev rO:AV:=.d (.con (.func (.func 85) #[] #[]))
abbrev lC (L:Nat→Ev) (σ:Nat→Nat):List (Nat×List AV):=[(1000000,[.arr mD 9 (dL L σ)])]
theorem NJ (L:Nat→Ev) (σ:Nat→Nat) (i:Nat):jH (dL L σ i)=L (σ i):=rfl
theorem FI {L:Nat→Ev} {σ:Nat→Nat} {p q i1 i2:Nat} (h1:i1=p) (h2:i2=q):(fun j=>bif Nat.beq j i2 then fQ (L (σ i1)) else bif Nat.beq j i1 then fQ (L (σ i2)) else dL L σ j)=dL L (swp σ p q):=by
 subst h1 h2
 funext j
 unfold dL swp
 by_cases e2:j=i2
 ·subst e2
  rw[show Nat.beq j j=true from Nat.beq_refl j,cond_true]
  by_cases e1:j=i1
  ·rw[if_pos e1,e1]
  ·rw[if_neg e1,if_pos rfl]
 ·rw[show Nat.beq j i2=false from aP e2,cond_false]
  by_cases e1:j=i1
  ·rw[if_pos e1,show Nat.beq j i1=true from by rw[e1];exact Nat.beq_refl _,cond_true]
  ·rw[if_neg e1,if_neg e2,show Nat.beq j i1=false from aP e1,cond_false]
noncomputable def ac2 (L:Nat→Ev) (σ:Nat→Nat) (n a b c k:Nat):AS:=⟨regs Tryz.f181.ntmps [(0,.vec 1000000 9 0 n),(1,vi a),(2,vi b),(3,vi c),(10,vi k)],lC L (iU σ a b k)⟩
theorem f181 (L:Nat→Ev) (σ:Nat→Nat) (n a b c:Nat) (h1:a+c≤b) (h2:b+c≤n) (hn:n≤100000000):dV Tryz.prog G 181 [.vec 1000000 9 0 n,vi a,vi b,vi c,rO] (lC L σ) (.d lH) (lC L (iU σ a b c)):=by
 refine dV.eG (mv:=[]) (by kernel_rfl) Tryz.func181 rfl Tryz.call181 ?_
 refine dI (aj:=bU) ?_
 refine aJ (fun ZT ZW ZQ _=>ZW [cd Tryz.f181 [1,0],(.blk 0)] (aI ZT []) ZQ) (by kernel_rfl) ?_
 refine bK.loop (c:=aU (ak Tryz.f181) [1,0,0]) (by kernel_rfl) (ac2 L σ n a b c) (fun k=>k≤c) (fun k=>c-k) 0 ?_ (Nat.zero_le _) ?_
 ·refine AS.leZ [] [0] (b:=((T0∧T0∧T0∧T0∧T0∧True)∧((some [(.arr bV 9 (dL L σ))]):fO)=(some [(.arr bV 9 (dL L (iU σ a b 0)))])∧True)) (by kernel_rfl) (by kernel_rfl) ?_
  exact⟨⟨rfl,rfl,rfl,rfl,rfl,trivial⟩,by rw[WZ],trivial⟩
 ·rintro k hk
  refine dI (aj:=bU) ?_
  refine bD (fun ZT ZW ZQ _ ZA _=>((((decide ((↑k:Int)<↑c))=true)→(((I64 (↑a + ↑k))∧(I64 (↑b + ↑k))∧(I64 (↑b + ↑k))∧((0≤(↑b:Int) + ↑k)∧((↑b:Int) + ↑k<↑n))∧(I64 (↑a + ↑k))∧((0≤(↑a:Int) + ↑k)∧((↑a:Int) + ↑k<↑n))∧((0≤(↑a:Int) + ↑k)∧((↑a:Int) + ↑k<↑n))∧(0≤(↑b:Int) + ↑k)∧((↑b:Int) + ↑k<↑n))∧(I64 (↑k+1))∧(ZA (aI ZT [0]))))∧(((decide ((↑k:Int)<↑c))=false)→ZW [] (aI ZT [1]) ZQ))) (by kernel_rfl) ?_
  refine⟨fun h=>?_,fun h=>?_⟩
  ·have hk2:k<c:=by have:=dW h;omega
   refine⟨?_,⟨by omega,by omega⟩,Again.mk (k+1) ?_ hk2 (by omega)⟩
   ·refine⟨⟨by omega,by omega⟩,⟨by omega,by omega⟩,⟨by omega,by omega⟩,⟨by omega,by omega⟩,⟨by omega,by omega⟩,⟨by omega,by omega⟩,⟨by omega,by omega⟩,by omega,by omega⟩
   refine AS.leZ [] [0] (b:=((T0∧T0∧T0∧T0∧T0∧True)∧((some [(.arr bV 9 (fun j=>bif Nat.beq j (0+Int.toNat ((↑b:Int)+(↑k:Int))) then DV.agg [di (Ev.kind (L (iU σ a b k (0+Int.toNat ((↑a:Int)+(↑k:Int)))))),ds (Ky.st (Ev.k (L (iU σ a b k (0+Int.toNat ((↑a:Int)+(↑k:Int))))))),ds (Ky.ex (Ev.k (L (iU σ a b k (0+Int.toNat ((↑a:Int)+(↑k:Int))))))),di (Ky.n (Ev.k (L (iU σ a b k (0+Int.toNat ((↑a:Int)+(↑k:Int))))))),di (Ev.t (L (iU σ a b k (0+Int.toNat ((↑a:Int)+(↑k:Int)))))),di (Ev.v (L (iU σ a b k (0+Int.toNat ((↑a:Int)+(↑k:Int)))))),di (Ev.h (L (iU σ a b k (0+Int.toNat ((↑a:Int)+(↑k:Int)))))),ds (Ev.s (L (iU σ a b k (0+Int.toNat ((↑a:Int)+(↑k:Int)))))),db (Ev.acc (L (iU σ a b k (0+Int.toNat ((↑a:Int)+(↑k:Int))))))] else bif Nat.beq j (0+Int.toNat ((↑a:Int)+(↑k:Int))) then DV.agg [di (Ev.kind (L (iU σ a b k (0+Int.toNat ((↑b:Int)+(↑k:Int)))))),ds (Ky.st (Ev.k (L (iU σ a b k (0+Int.toNat ((↑b:Int)+(↑k:Int))))))),ds (Ky.ex (Ev.k (L (iU σ a b k (0+Int.toNat ((↑b:Int)+(↑k:Int))))))),di (Ky.n (Ev.k (L (iU σ a b k (0+Int.toNat ((↑b:Int)+(↑k:Int))))))),di (Ev.t (L (iU σ a b k (0+Int.toNat ((↑b:Int)+(↑k:Int)))))),di (Ev.v (L (iU σ a b k (0+Int.toNat ((↑b:Int)+(↑k:Int)))))),di (Ev.h (L (iU σ a b k (0+Int.toNat ((↑b:Int)+(↑k:Int)))))),ds (Ev.s (L (iU σ a b k (0+Int.toNat ((↑b:Int)+(↑k:Int)))))),db (Ev.acc (L (iU σ a b k (0+Int.toNat ((↑b:Int)+(↑k:Int))))))] else dL L (iU σ a b k) j))]):fO)=(some [(.arr bV 9 (dL L (iU σ a b (k+1))))])∧True)) (by kernel_rfl) (by kernel_rfl) ?_
   refine⟨⟨rfl,rfl,rfl,rfl,rfl,trivial⟩,?_,trivial⟩
   rw[←Xw σ a b k (by omega)]
   exact congrArg (fun f=>some [AV.arr mD 9 f]) (FI (by omega) (by omega))
  ·obtain rfl:k=c:=by have:=of_decide_eq_false h;omega
   refine dI (aj:=bU) ?_
   refine aJ (fun _ _ _ _=>((ZS ((.d (.aC [])):AV))∧((some [(.arr bV 9 (dL L (iU σ a b k)))]):fO)=(some [(.arr bV 9 (dL L (iU σ a b k)))])∧True)) (by kernel_rfl) ?_
   exact⟨rfl,rfl,trivial⟩
def Qh (L:Nat→Ev) (τ τ2:Nat→Nat):eU:={ d:=bU,m:=fun f args _=>match f,args with
 | 181,[_,.d (.con (.int _ a)),.d (.con (.int _ b)),.d (.con (.int _ c)),_]=>some (.d lH,[(1000000,[.arr mD 9 (dL L (iU τ a.toNat b.toNat c.toNat))])])
 | _,_=>none }
noncomputable def adq (L:Nat→Ev) (n m:Nat) (x:Nat×Nat×(Nat→Nat)):AS:=⟨regs Tryz.f154.ntmps [(0,.vec 1000000 9 0 n),(2,vi m),(4,rO),(10,vi x.1),(11,vi x.2.1)],lC L x.2.2⟩
theorem f154 (L:Nat→Ev) (σ:Nat→Nat) (n a m b:Nat) (h1:a<m) (h2:m<b) (h3:b≤n) (hn:n≤100000000):dV Tryz.prog G 154 [.vec 1000000 9 0 n,vi a,vi m,vi b,rO] (lC L σ) (.d lH) (lC L (dF σ a (m-a) (b-m))):=by
 refine dV.eG (mv:=[]) (by kernel_rfl) Tryz.func154 rfl Tryz.call154 ?_
 refine dI (aj:=bU) ?_
 refine aJ (fun ZT ZW ZQ _=>((I64 (↑m - ↑a))∧(I64 (↑b - ↑m))∧ZW [cd Tryz.f154 [1,1,0,0],(.blk 0),cd Tryz.f154 [1,1,1]] (aI ZT []) ZQ)) (by kernel_rfl) ?_
 refine⟨⟨by omega,by omega⟩,⟨by omega,by omega⟩,?_⟩
 refine bK.loop (c:=aU (ak Tryz.f154) [1,1,0,0,0]) (by kernel_rfl) (adq L n m) (fun x=>0<x.1∧0<x.2.1∧x.1≤m∧m+x.2.1≤n∧dF x.2.2 (m-x.1) x.1 x.2.1=dF σ a (m-a) (b-m)) (fun x=>x.1+x.2.1) (m-a,b-m,σ) ?_ (by refine⟨?_,?_,?_,?_,?_⟩<;>simp only<;>first|omega|(congr 1;omega)) ?_
 ·refine AS.leZ [3,4] [] (b:=((T0∧T0∧T0∧((vi (↑m - ↑a)):AV)=(vi (↑(m-a)))∧((vi (↑b - ↑m)):AV)=(vi (↑(b-m)))∧True)∧T0∧True)) (by kernel_rfl) (by kernel_rfl) ?_
  exact⟨⟨rfl,rfl,rfl,oL (by omega),oL (by omega),trivial⟩,rfl,trivial⟩
 ·rintro ⟨i,j,τ⟩ ⟨q1,q2,q3,q4,q5⟩
  simp only at q1 q2 q3 q4 q5
  refine dI (aj:=Qh L τ τ) ?_
  refine bD (fun ZT ZW ZQ _ ZA _=>(((((↑i:Int) != ↑j)=true)→((((decide ((↑i:Int)>↑j))=true)→(((I64 (↑m - ↑i))∧dV Tryz.prog G 181 [(.vec 1000000 9 0 n),(vi (↑m - ↑i)),(vi (↑m)),(vi (↑j)),(.d (.con (.func (.func 85) ⟨[]⟩ ⟨[]⟩)))] [(1000000,[(.arr bV 9 (dL L τ))])] (.d (.aC [])) [(1000000,[(.arr bV 9 (dL L (iU τ ((↑m:Int) - ↑i).toNat (↑m:Int).toNat (↑j:Int).toNat)))])])∧(I64 (↑i - ↑j))∧(ZA (aI ZT [0,0]))))∧(((decide ((↑i:Int)>↑j))=false)→(((I64 (↑m - ↑i))∧(I64 (↑m + ↑j))∧(I64 (↑m + ↑j - ↑i))∧dV Tryz.prog G 181 [(.vec 1000000 9 0 n),(vi (↑m - ↑i)),(vi (↑m + ↑j - ↑i)),(vi (↑i)),(.d (.con (.func (.func 85) ⟨[]⟩ ⟨[]⟩)))] [(1000000,[(.arr bV 9 (dL L τ))])] (.d (.aC [])) [(1000000,[(.arr bV 9 (dL L (iU τ ((↑m:Int)-(↑i:Int)).toNat ((↑m:Int) + ↑j - ↑i).toNat (↑i:Int).toNat)))])])∧(I64 (↑j - ↑i))∧(ZA (aI ZT [0,1]))))))∧((((↑i:Int) != ↑j)=false)→ZW [cd Tryz.f154 [1,1,1]] (aI ZT [1]) ZQ))) (by kernel_rfl) ?_
  simp only[gZ]
  refine⟨fun h=>⟨fun h2=>?_,fun h2=>?_⟩,fun h=>?_⟩
  ·have hij:j<i:=by have:=dW h2;omega
   rw[show ((m:Int)-(i:Int)).toNat=m-i by omega]
   have hc:=f181 (G:=G) L τ n (m-i) m j (by omega) (by omega) hn
   rw[show (((m-i:Nat)):Int)=(m:Int)-(i:Int) by omega] at hc
   refine⟨⟨⟨by omega,by omega⟩,hc⟩,⟨by omega,by omega⟩,Again.mk (i-j,j,iU τ (m-i) m j) ?_ ⟨by simp only;omega,q2,by simp only;omega,q4,(U2 τ hij q2 q3).symm.trans q5⟩ (by simp only;omega)⟩
   refine AS.leZ [3] [0] (b:=((T0∧T0∧T0∧((vi (↑i - ↑j)):AV)=(vi (↑(i-j)))∧T0∧True)∧((some [(.arr bV 9 (dL L (iU τ ((↑m:Int) - ↑i).toNat (↑m:Int).toNat (↑j:Int).toNat)))]):fO)=(some [(.arr bV 9 (dL L (iU τ (m-i) m j)))])∧True)) (by kernel_rfl) (by kernel_rfl) ?_
   refine⟨⟨rfl,rfl,rfl,oL (by omega),rfl,trivial⟩,?_,trivial⟩
   rw[show ((m:Int)-(i:Int)).toNat=m-i by omega];rfl
  ·have h3:(i:Int)≠(j:Int):=by simpa using h
   have hij:i<j:=by have:=of_decide_eq_false h2;omega
   rw[show ((m:Int)-(i:Int)).toNat=m-i by omega,show ((m:Int)+(j:Int)-(i:Int)).toNat=m+j-i by omega]
   have hc:=f181 (G:=G) L τ n (m-i) (m+j-i) i (by omega) (by omega) hn
   rw[show (((m-i:Nat)):Int)=(m:Int)-(i:Int) by omega,show (((m+j-i:Nat)):Int)=(m:Int)+(j:Int)-(i:Int) by omega] at hc
   refine⟨⟨⟨by omega,by omega⟩,⟨by omega,by omega⟩,⟨by omega,by omega⟩,hc⟩,⟨by omega,by omega⟩,Again.mk (i,j-i,iU τ (m-i) (m+j-i) i) ?_ ⟨q1,by simp only;omega,q3,by simp only;omega,(UE τ hij q1 q3).symm.trans q5⟩ (by simp only;omega)⟩
   refine AS.leZ [4] [0] (b:=((T0∧T0∧T0∧T0∧((vi (↑j - ↑i)):AV)=(vi (↑(j-i)))∧True)∧((some [(.arr bV 9 (dL L (iU τ ((↑m:Int)-(↑i:Int)).toNat ((↑m:Int) + ↑j - ↑i).toNat (↑i:Int).toNat)))]):fO)=(some [(.arr bV 9 (dL L (iU τ (m-i) (m+j-i) i)))])∧True)) (by kernel_rfl) (by kernel_rfl) ?_
   refine⟨⟨rfl,rfl,rfl,rfl,oL (by omega),trivial⟩,?_,trivial⟩
   rw[show ((m:Int)-(i:Int)).toNat=m-i by omega,show ((m:Int)+(j:Int)-(i:Int)).toNat=m+j-i by omega];rfl
  ·have h3:(i:Int)=(j:Int):=by simpa using h
   obtain rfl:i=j:=by omega
   refine dI (aj:=Qh L τ τ) ?_
   refine aJ (fun _ _ _ _=>(fun Za=>(((I64 (↑m - ↑i))∧dV Tryz.prog G 181 [(.vec 1000000 9 0 n),(vi (↑m - ↑i)),(vi (↑m)),(vi (↑i)),(.d (.con (.func (.func 85) ⟨[]⟩ ⟨[]⟩)))] [(1000000,[(.arr bV 9 (dL L τ))])] (.d (.aC [])) [(1000000,[Za])])∧(ZS ((.d (.aC [])):AV))∧((some [Za]):fO)=(some [(.arr bV 9 (dL L (dF σ a (m-a) (b-m))))])∧True)) ((.arr bV 9 (dL L (iU τ ((↑m:Int) - ↑i).toNat (↑m:Int).toNat (↑i:Int).toNat))):AV)) (by kernel_rfl) ?_
   try dsimp only
   simp only[gZ]
   rw[show ((m:Int)-(i:Int)).toNat=m-i by omega]
   have hc:=f181 (G:=G) L τ n (m-i) m i (by omega) (by omega) hn
   rw[show (((m-i:Nat)):Int)=(m:Int)-(i:Int) by omega] at hc
   rw[Xv τ q1 q3] at q5
   exact⟨⟨⟨by omega,by omega⟩,hc⟩,trivial,by rw[q5],trivial⟩
noncomputable def oM:eU:={ d:=fun f args=>match f,args with
 | 85,[x,y]=>some (di (sK (jH x) (jH y)))
 | _,_=>none }
noncomputable def aci (L:Nat→Ev) (n a b:Nat) (x:Nat×(Nat→Nat)):AS:=⟨regs Tryz.f126.ntmps [(0,.vec 1000000 9 0 n),(1,vi a),(2,vi b),(3,rO),(8,vi x.1)],lC L x.2⟩
noncomputable def abr (L:Nat→Ev) (n a b i:Nat) (x:Nat×(Nat→Nat)):AS:=⟨regs Tryz.f126.ntmps [(0,.vec 1000000 9 0 n),(1,vi a),(2,vi b),(3,rO),(8,vi i),(9,vi x.1)],lC L x.2⟩
theorem f126 (L:Nat→Ev) (σ:Nat→Nat) (n a b:Nat) (h1:a≤n) (h2:b≤n) (hn:n≤100000000):dV Tryz.prog G 126 [.vec 1000000 9 0 n,vi a,vi b,rO] (lC L σ) (.d lH) (lC L (oN (fun i=>Ev.t (L i)) a b σ)):=by
 refine dV.eG (mv:=[]) (by kernel_rfl) Tryz.func126 rfl Tryz.call126 ?_
 refine dI (aj:=bU) ?_
 refine aJ (fun ZT ZW ZQ _=>((I64 (↑a+1))∧ZW [cd Tryz.f126 [1,0],(.blk 0)] (aI ZT []) ZQ)) (by kernel_rfl) ?_
 refine⟨⟨by omega,by omega⟩,?_⟩
 refine bK.loop (c:=aU (ak Tryz.f126) [1,0,0]) (by kernel_rfl) (aci L n a b) (fun x=>a<x.1∧x.1≤n+1∧Cb (fun i=>Ev.t (L i)) a (b-x.1) x.1 x.2=oN (fun i=>Ev.t (L i)) a b σ) (fun x=>b-x.1) (a+1,σ) ?_ ⟨by simp only;omega,by simp only;omega,rfl⟩ ?_
 ·exact AS.bJ (by kernel_rfl)
 ·rintro ⟨i,τ⟩ ⟨q1,q2,q3⟩
  simp only at q1 q2 q3
  refine dI (aj:=oM) ?_
  refine bD (fun ZT ZW ZQ _ _ ZR=>((((decide ((↑i:Int)<↑b))=true)→ZW [cd Tryz.f126 [1,0,0,1,0,0,1,0],(.blk 2),(.blk 1),cd Tryz.f126 [1,0,0,1,1]] (aI ZT [0]) ZR)∧(((decide ((↑i:Int)<↑b))=false)→ZW [] (aI ZT [1]) ZQ))) (by kernel_rfl) ?_
  refine⟨fun h=>?_,fun h=>?_⟩
  ·have hib:i<b:=by have:=dW h;omega
   refine bK.loop (c:=aU (ak Tryz.f126) [1,0,0,1,0,0,1,0,0]) (by kernel_rfl) (abr L n a b i) (fun x=>a≤x.1∧x.1≤i∧nT (fun i=>Ev.t (L i)) a x.1 x.2=nT (fun i=>Ev.t (L i)) a i τ) (fun x=>x.1) (i,τ) ?_ ⟨by simp only;omega,by simp only;omega,rfl⟩ ?_
   ·exact AS.bJ (by kernel_rfl)
   ·rintro ⟨j,ρ⟩ ⟨r1,r2,r3⟩
    simp only at r1 r2 r3
    refine dI (aj:=oM) ?_
    refine bD (fun ZT ZW ZQ ZK ZA _=>(fun Za Zb Zc=>(((((decide ((↑j:Int)>↑a))=true)→((0≤(↑j:Int))∧((↑j:Int)<↑n)))∧(((decide ((↑j:Int)>↑a))=true)→(I64 (↑j-1)))∧(((decide ((↑j:Int)>↑a))=true)→((0≤(↑j:Int)-1)∧((↑j:Int)-1<↑n)))∧(((decide ((↑j:Int)>↑a))=true)→ZK 85 [(.agg [(di Zb.kind),(ds Zb.k.st),(ds Zb.k.ex),(di Zb.k.n),(di Zb.t),(di Zb.v),(di Zb.h),(ds Zb.s),(db Zb.acc)]),(.agg [(di Za.kind),(ds Za.k.st),(ds Za.k.ex),(di Za.k.n),(di Za.t),(di Za.v),(di Za.h),(ds Za.s),(db Za.acc)])] (di (sK (jH (dL L ρ (0+((↑j:Int):Int).toNat))) (jH (dL L ρ (0+((↑j:Int)-1).toNat)))))))∧((Zc=true)→(((I64 (↑j-1))∧(I64 (↑j-1))∧((0≤(↑j:Int)-1)∧((↑j:Int)-1<↑n))∧((0≤(↑j:Int))∧((↑j:Int)<↑n))∧((0≤(↑j:Int))∧((↑j:Int)<↑n))∧(0≤(↑j:Int)-1)∧((↑j:Int)-1<↑n))∧(I64 (↑j-1))∧(ZA (aI ZT [0]))))∧((Zc=false)→ZW [(.blk 1),cd Tryz.f126 [1,0,0,1,1]] (aI ZT [1]) ZQ))) (L (ρ (0+((↑j:Int)-1).toNat))) (L (ρ (0+(↑j:Int).toNat))) (decide ((↑j:Int)>(↑a:Int))&&decide (sK (jH (dL L ρ (0+((↑j:Int):Int).toNat))) (jH (dL L ρ (0+((↑j:Int)-1).toNat)))<0))) (by kernel_rfl) ?_
    try dsimp only
    simp only[NJ]
    refine⟨⟨fun h=>?_,fun h=>?_,fun h=>?_,fun h=>f85 (L (ρ (0+((j:Int)).toNat))) (L (ρ (0+((j:Int)-1).toNat)))⟩,fun h=>?_,fun h=>?_⟩
    ·have:=dW h;exact⟨by omega,by omega⟩
    ·have:=dW h;exact⟨by omega,by omega⟩
    ·have:=dW h;exact⟨by omega,by omega⟩
    ·simp only[aV,eF,Nat.zero_add,gZ] at h
     obtain ⟨h3,h4⟩:=h
     obtain ⟨k,rfl⟩:∃k,j=k+1:=⟨j-1,by omega⟩
     rw[show (((k+1:Nat):Int)-1).toNat=k by omega] at h4
     have e1:nT (fun i=>Ev.t (L i)) a (k+1) ρ=nT (fun i=>Ev.t (L i)) a k (swp ρ (k+1) k):=by
      rw[nT,if_pos ⟨by omega,(qF _ _).1 h4⟩]
     refine⟨⟨⟨by omega,by omega⟩,⟨by omega,by omega⟩,⟨by omega,by omega⟩,⟨by omega,by omega⟩,⟨by omega,by omega⟩,by omega,by omega⟩,⟨by omega,by omega⟩,Again.mk (k,swp ρ (k+1) k) ?_ ⟨by simp only;omega,by simp only;omega,e1.symm.trans r3⟩ (by simp only;omega)⟩
     refine AS.leZ [5] [0] (b:=((T0∧T0∧T0∧T0∧T0∧((vi (↑(k+1)-1)):AV)=(vi (↑k))∧True)∧((some [(.arr bV 9 (fun j=>bif Nat.beq j (0+Int.toNat ((↑(k+1):Int)-1)) then DV.agg [di (Ev.kind (L (ρ (0+Int.toNat (↑(k+1):Int))))),ds (Ky.st (Ev.k (L (ρ (0+Int.toNat (↑(k+1):Int)))))),ds (Ky.ex (Ev.k (L (ρ (0+Int.toNat (↑(k+1):Int)))))),di (Ky.n (Ev.k (L (ρ (0+Int.toNat (↑(k+1):Int)))))),di (Ev.t (L (ρ (0+Int.toNat (↑(k+1):Int))))),di (Ev.v (L (ρ (0+Int.toNat (↑(k+1):Int))))),di (Ev.h (L (ρ (0+Int.toNat (↑(k+1):Int))))),ds (Ev.s (L (ρ (0+Int.toNat (↑(k+1):Int))))),db (Ev.acc (L (ρ (0+Int.toNat (↑(k+1):Int)))))] else bif Nat.beq j (0+Int.toNat (↑(k+1):Int)) then DV.agg [di (Ev.kind (L (ρ (0+Int.toNat ((↑(k+1):Int)-1))))),ds (Ky.st (Ev.k (L (ρ (0+Int.toNat ((↑(k+1):Int)-1)))))),ds (Ky.ex (Ev.k (L (ρ (0+Int.toNat ((↑(k+1):Int)-1)))))),di (Ky.n (Ev.k (L (ρ (0+Int.toNat ((↑(k+1):Int)-1)))))),di (Ev.t (L (ρ (0+Int.toNat ((↑(k+1):Int)-1))))),di (Ev.v (L (ρ (0+Int.toNat ((↑(k+1):Int)-1))))),di (Ev.h (L (ρ (0+Int.toNat ((↑(k+1):Int)-1))))),ds (Ev.s (L (ρ (0+Int.toNat ((↑(k+1):Int)-1))))),db (Ev.acc (L (ρ (0+Int.toNat ((↑(k+1):Int)-1)))))] else dL L ρ j))]):fO)=(some [(.arr bV 9 (dL L (swp ρ (k+1) k)))])∧True)) (by kernel_rfl) (by kernel_rfl) ?_
     refine⟨⟨rfl,rfl,rfl,rfl,rfl,oL (by omega),trivial⟩,?_,trivial⟩
     exact congrArg (fun f=>some [AV.arr mD 9 f]) (FI (by omega) (by omega))
    ·have e1:nT (fun i=>Ev.t (L i)) a j ρ=ρ:=by
      rcases j with _|k
      ·rfl
      ·rw[nT,if_neg]
       rintro ⟨h3,h4⟩
       rw[Bool.and_eq_false_iff] at h
       rcases h with h|h
       ·have:=of_decide_eq_false h;omega
       ·have:=of_decide_eq_false h
        simp only[Nat.zero_add,gZ] at this
        rw[show (((k+1:Nat):Int)-1).toNat=k by omega] at this
        exact this ((qF _ _).2 h4)
     obtain ⟨k,hk⟩:∃k,b-i=k+1:=⟨b-i-1,by omega⟩
     have e2:Cb (fun i=>Ev.t (L i)) a (b-(i+1)) (i+1) ρ=oN (fun i=>Ev.t (L i)) a b σ:=by
      rw[←q3,hk,Cb,show b-(i+1)=k by omega,←r3,e1]
     refine dI (aj:=oM) ?_
     refine bD (fun ZT _ _ _ ZA _=>((I64 (↑i+1))∧(ZA (aI ZT [])))) (by kernel_rfl) ?_
     refine⟨⟨by omega,by omega⟩,Again.mk (i+1,ρ) ?_ ⟨by simp only;omega,by simp only;omega,e2⟩ (by simp only;omega)⟩
     exact AS.bJ (by kernel_rfl)
  ·have hib:b-i=0:=by have:=of_decide_eq_false h;omega
   rw[hib,Cb] at q3
   refine dI (aj:=oM) ?_
   refine aJ (fun _ _ _ _=>((ZS ((.d (.aC [])):AV))∧((some [(.arr bV 9 (dL L τ))]):fO)=(some [(.arr bV 9 (dL L (oN (fun i=>(L i).t) a b σ)))])∧True)) (by kernel_rfl) ?_
   exact⟨rfl,by rw[q3],trivial⟩
noncomputable def acE (L:Nat→Ev) (σ:Nat→Nat) (n a m b:Nat) (x:Nat×Nat):AS:=⟨regs Tryz.f127.ntmps [(0,.vec 1000000 9 0 n),(1,vi a),(2,vi m),(3,vi b),(4,rO),(10,vi x.1),(11,vi x.2)],lC L σ⟩
noncomputable def acd (L:Nat→Ev) (σ:Nat→Nat) (n a m b i t:Nat):AS:=⟨regs Tryz.f127.ntmps [(0,.vec 1000000 9 0 n),(1,vi a),(2,vi m),(3,vi b),(4,rO),(10,vi i),(13,vi (a+t))],lC L (dF σ a 1 t)⟩
theorem aal (L:Nat→Ev) (σ:Nat→Nat) (n a m b:Nat) (h0:m=a+1) (h1:m<b) (h2:b≤n) (hn:n≤100000000):dV Tryz.prog G 127 [.vec 1000000 9 0 n,vi a,vi m,vi b,rO] (lC L σ) (.d lH) (lC L (dF σ a 1 (jM (fun h=>decide (Ev.t (L (σ h))<Ev.t (L (σ a)))) (b-m) m b-m))):=by
 refine dV.eG (mv:=[]) (by kernel_rfl) Tryz.func127 rfl Tryz.call127 ?_
 refine walk (aj:=bU) (keep:=[]) (cuts:=[1,12]) (n:=1000) follows ?_
 refine aJ (fun ZT ZW ZQ _=>((I64 (↑m - ↑a))∧((((↑m:Int) - ↑a==1)=true)→ZW [cd Tryz.f127 [0,1,0],cd Tryz.f127 [1]] (aI ZT [0]) ZQ)∧((((↑m:Int) - ↑a==1)=false)→ZW [cd Tryz.f127 [1,0],cd Tryz.f127 [1,1]] (aI ZT [1]) ZQ))) (by kernel_rfl) ?_
 refine⟨⟨by omega,by omega⟩,fun _=>?_,fun h=>?_⟩
 ·refine dI (aj:=bU) ?_
  refine aJ (fun ZT ZW ZQ _=>ZW [cd Tryz.f127 [0,1,0,1,1,0,0],(.blk 0),cd Tryz.f127 [0,1,0,1,1,1],cd Tryz.f127 [1]] (aI ZT []) ZQ) (by kernel_rfl) ?_
  refine bK.loop (c:=aU (ak Tryz.f127) [0,1,0,1,1,0,0,0]) (by kernel_rfl) (acE L σ n a m b) (fun x=>m≤x.1∧x.1≤x.2∧x.2≤b∧jM (fun h=>decide (Ev.t (L (σ h))<Ev.t (L (σ a)))) (x.2-x.1) x.1 x.2=jM (fun h=>decide (Ev.t (L (σ h))<Ev.t (L (σ a)))) (b-m) m b) (fun x=>x.2-x.1) (m,b) ?_ ⟨by simp only;omega,by simp only;omega,by simp only;omega,rfl⟩ ?_
  ·exact AS.bJ (by kernel_rfl)
  ·rintro ⟨i,j⟩ ⟨q1,q2,q3,q4⟩
   simp only at q1 q2 q3 q4
   refine dI (aj:=oM) ?_
   refine bD (fun ZT ZW ZQ ZK ZA _=>(fun Za Zb Zc Zd=>((((decide ((↑i:Int)<↑j))=true)→(((I64 (↑i + ↑j))∧((0:Int)≤(1:Int)))∧(((0≤IntKind.i64.wrap Zc)∧(IntKind.i64.wrap Zc<↑n))∧((0≤(↑a:Int))∧((↑a:Int)<↑n))∧ZK 85 [(.agg [(di (L (σ Za)).kind),(ds (L (σ Za)).k.st),(ds (L (σ Za)).k.ex),(di (L (σ Za)).k.n),(di (L (σ Za)).t),(di (L (σ Za)).v),(di (L (σ Za)).h),(ds (L (σ Za)).s),(db (L (σ Za)).acc)]),(.agg [(di Zb.kind),(ds Zb.k.st),(ds Zb.k.ex),(di Zb.k.n),(di Zb.t),(di Zb.v),(di Zb.h),(ds Zb.s),(db Zb.acc)])] (di (sK (jH (dL L σ Za)) Zd)))∧(((decide (sK (jH (dL L σ Za)) Zd<0))=true)→((I64 (IntKind.i64.wrap Zc+1))∧(ZA (aI ZT [0,0]))))∧(((decide (sK (jH (dL L σ Za)) Zd<0))=false)→(ZA (aI ZT [0,1])))))∧(((decide ((↑i:Int)<↑j))=false)→ZW [cd Tryz.f127 [0,1,0,1,1,1],cd Tryz.f127 [1]] (aI ZT [1]) ZQ))) (0+(IntKind.i64.wrap ((IntKind.u64.wrap (↑i + ↑j)).fdiv (2 ^ min (Int.toNat 1) IntKind.u64.bits))).toNat) (L (σ (0+(↑a:Int).toNat))) ((IntKind.u64.wrap (↑i + ↑j)).fdiv (2 ^ min (Int.toNat 1) IntKind.u64.bits)) (jH (dL L σ (0+(↑a:Int).toNat)))) (by kernel_rfl) ?_
   try dsimp only
   have hh:=half (i:=i) (j:=j) (by omega)
   simp only[NJ,hh,Nat.zero_add,gZ]
   refine⟨fun h=>?_,fun h=>?_⟩
   ·have hij:i<j:=by have:=dW h;omega
    have e1:=PU (p:=fun h=>decide (Ev.t (L (σ h))<Ev.t (L (σ a)))) hij
    refine⟨⟨⟨by omega,by omega⟩,by decide⟩,⟨⟨by omega,by omega⟩,⟨by omega,by omega⟩,f85 (L (σ ((i+j) / 2))) (L (σ a))⟩,fun h=>⟨⟨by omega,by omega⟩,Again.mk ((i+j) / 2+1,j) ?_ ⟨by simp only;omega,by simp only;omega,q3,?_⟩ (by simp only;omega)⟩,fun h=>Again.mk (i,(i+j) / 2) ?_ ⟨by simp only;omega,by simp only;omega,by simp only;omega,?_⟩ (by simp only;omega)⟩
    ·refine AS.leZ [5] [] (b:=((T0∧T0∧T0∧T0∧T0∧((vi (IntKind.i64.wrap ((IntKind.u64.wrap (↑i + ↑j)).fdiv (2 ^ min (Int.toNat 1) IntKind.u64.bits))+1)):AV)=(vi (↑((i+j) / 2+1)))∧T0∧True)∧T0∧True)) (by kernel_rfl) (by kernel_rfl) ?_
     exact⟨⟨rfl,rfl,rfl,rfl,rfl,oL (by rw[hh];rfl),rfl,trivial⟩,rfl,trivial⟩
    ·have h:=(qF _ _).1 (dW h)
     rw[if_pos (decide_eq_true h)] at e1
     exact e1.symm.trans q4
    ·refine AS.leZ [6] [] (b:=((T0∧T0∧T0∧T0∧T0∧T0∧((vi (IntKind.i64.wrap ((IntKind.u64.wrap (↑i + ↑j)).fdiv (2 ^ min (Int.toNat 1) IntKind.u64.bits)))):AV)=(vi (↑((i+j) / 2)))∧True)∧T0∧True)) (by kernel_rfl) (by kernel_rfl) ?_
     exact⟨⟨rfl,rfl,rfl,rfl,rfl,rfl,oL hh,trivial⟩,rfl,trivial⟩
    ·have h:=fun c=>of_decide_eq_false h ((qF _ _).2 c)
     rw[if_neg (fun c=>h (dW c))] at e1
     exact e1.symm.trans q4
   ·have hij:i=j:=by have:=of_decide_eq_false h;omega
    subst hij
    rw[Nat.sub_self,jM] at q4
    rw[←q4]
    refine dI (aj:=bU) ?_
    refine aJ (fun ZT ZW ZQ _=>ZW [cd Tryz.f127 [0,1,0,1,1,1,0,1,0],(.blk 2),cd Tryz.f127 [0,1,0,1,1,1,1],cd Tryz.f127 [1]] (aI ZT []) ZQ) (by kernel_rfl) ?_
    refine bK.loop (c:=aU (ak Tryz.f127) [0,1,0,1,1,1,0,1,0,0]) (by kernel_rfl) (acd L σ n a m b i) (fun t=>t≤i-m) (fun t=>i-m-t) 0 ?_ (Nat.zero_le _) ?_
    ·refine AS.leZ [] [0] (b:=((T0∧T0∧T0∧T0∧T0∧T0∧T0∧True)∧((some [(.arr bV 9 (dL L σ))]):fO)=(some [(.arr bV 9 (dL L (dF σ a 1 0)))])∧True)) (by kernel_rfl) (by kernel_rfl) ?_
     refine⟨⟨rfl,rfl,rfl,rfl,rfl,rfl,rfl,trivial⟩,?_,trivial⟩
     rw[JK _ _ _ _ (.inr rfl)]
    ·rintro t ht
     refine dI (aj:=bU) ?_
     refine bD (fun ZT ZW ZQ _ ZA _=>((I64 (↑i-1))∧(((decide ((↑a:Int) + ↑t<↑i-1))=true)→(((I64 (↑a + ↑t+1))∧(I64 (↑a + ↑t+1))∧((0≤(↑a:Int) + ↑t+1)∧((↑a:Int) + ↑t+1<↑n))∧((0≤(↑a:Int) + ↑t)∧((↑a:Int) + ↑t<↑n))∧((0≤(↑a:Int) + ↑t)∧((↑a:Int) + ↑t<↑n))∧(0≤(↑a:Int) + ↑t+1)∧((↑a:Int) + ↑t+1<↑n))∧(I64 (↑a + ↑t+1))∧(ZA (aI ZT [0]))))∧(((decide ((↑a:Int) + ↑t<↑i-1))=false)→ZW [cd Tryz.f127 [0,1,0,1,1,1,1],cd Tryz.f127 [1]] (aI ZT [1]) ZQ))) (by kernel_rfl) ?_
     refine⟨⟨by omega,by omega⟩,fun h=>?_,fun h=>?_⟩
     ·have h5:=dW h
      refine⟨⟨⟨by omega,by omega⟩,⟨by omega,by omega⟩,⟨by omega,by omega⟩,⟨by omega,by omega⟩,⟨by omega,by omega⟩,by omega,by omega⟩,⟨by omega,by omega⟩,Again.mk (t+1) ?_ (by omega) (by omega)⟩
      refine AS.leZ [6] [0] (b:=((T0∧T0∧T0∧T0∧T0∧T0∧((vi (↑a + ↑t+1)):AV)=(vi (↑a + ↑(t+1)))∧True)∧((some [(.arr bV 9 (fun j=>bif Nat.beq j (0+Int.toNat ((↑a:Int)+(↑t:Int)+1)) then DV.agg [di (Ev.kind (L (dF σ a 1 t (0+Int.toNat ((↑a:Int)+(↑t:Int)))))),ds (Ky.st (Ev.k (L (dF σ a 1 t (0+Int.toNat ((↑a:Int)+(↑t:Int))))))),ds (Ky.ex (Ev.k (L (dF σ a 1 t (0+Int.toNat ((↑a:Int)+(↑t:Int))))))),di (Ky.n (Ev.k (L (dF σ a 1 t (0+Int.toNat ((↑a:Int)+(↑t:Int))))))),di (Ev.t (L (dF σ a 1 t (0+Int.toNat ((↑a:Int)+(↑t:Int)))))),di (Ev.v (L (dF σ a 1 t (0+Int.toNat ((↑a:Int)+(↑t:Int)))))),di (Ev.h (L (dF σ a 1 t (0+Int.toNat ((↑a:Int)+(↑t:Int)))))),ds (Ev.s (L (dF σ a 1 t (0+Int.toNat ((↑a:Int)+(↑t:Int)))))),db (Ev.acc (L (dF σ a 1 t (0+Int.toNat ((↑a:Int)+(↑t:Int))))))] else bif Nat.beq j (0+Int.toNat ((↑a:Int)+(↑t:Int))) then DV.agg [di (Ev.kind (L (dF σ a 1 t (0+Int.toNat ((↑a:Int)+(↑t:Int)+1))))),ds (Ky.st (Ev.k (L (dF σ a 1 t (0+Int.toNat ((↑a:Int)+(↑t:Int)+1)))))),ds (Ky.ex (Ev.k (L (dF σ a 1 t (0+Int.toNat ((↑a:Int)+(↑t:Int)+1)))))),di (Ky.n (Ev.k (L (dF σ a 1 t (0+Int.toNat ((↑a:Int)+(↑t:Int)+1)))))),di (Ev.t (L (dF σ a 1 t (0+Int.toNat ((↑a:Int)+(↑t:Int)+1))))),di (Ev.v (L (dF σ a 1 t (0+Int.toNat ((↑a:Int)+(↑t:Int)+1))))),di (Ev.h (L (dF σ a 1 t (0+Int.toNat ((↑a:Int)+(↑t:Int)+1))))),ds (Ev.s (L (dF σ a 1 t (0+Int.toNat ((↑a:Int)+(↑t:Int)+1))))),db (Ev.acc (L (dF σ a 1 t (0+Int.toNat ((↑a:Int)+(↑t:Int)+1)))))] else dL L (dF σ a 1 t) j))]):fO)=(some [(.arr bV 9 (dL L (dF σ a 1 (t+1))))])∧True)) (by kernel_rfl) (by kernel_rfl) ?_
      refine⟨⟨rfl,rfl,rfl,rfl,rfl,rfl,oL (by omega),trivial⟩,?_,trivial⟩
      rw[←aav σ a t]
      exact congrArg (fun f=>some [AV.arr mD 9 f]) (FI (by omega) (by omega))
     ·obtain rfl:t=i-m:=by have:=of_decide_eq_false h;omega
      refine dI (aj:=bU) ?_
      refine aJ (fun _ _ _ _=>(fun Za=>((ZS ((.d (.aC [])):AV))∧(Za:fO)=Za∧True)) (some [(.arr bV 9 (dL L (dF σ a 1 (i-m))))])) (by kernel_rfl) ?_
      exact⟨rfl,rfl,trivial⟩
 ·exfalso
  have:¬((m:Int)-(a:Int)=1):=by simpa using h
  omega
noncomputable def abz (L:Nat→Ev) (σ:Nat→Nat) (n a m b:Nat) (x:Nat×Nat):AS:=⟨regs Tryz.f127.ntmps [(0,.vec 1000000 9 0 n),(1,vi a),(2,vi m),(3,vi b),(4,rO),(14,vi x.1),(15,vi x.2)],lC L σ⟩
noncomputable def abT (L:Nat→Ev) (σ:Nat→Nat) (n a m b i t:Nat):AS:=⟨regs Tryz.f127.ntmps [(0,.vec 1000000 9 0 n),(1,vi a),(2,vi m),(3,vi b),(4,rO),(14,vi i),(17,vi (m-t:Nat))],lC L (dF σ (m-t) t 1)⟩
theorem Zt (L:Nat→Ev) (σ:Nat→Nat) (n a m b:Nat) (ha:a<m) (h0:m≠a+1) (h1:b=m+1) (h2:b≤n) (hn:n≤100000000):dV Tryz.prog G 127 [.vec 1000000 9 0 n,vi a,vi m,vi b,rO] (lC L σ) (.d lH) (lC L (dF σ (jM (fun h=>!decide (Ev.t (L (σ m))<Ev.t (L (σ h)))) (m-a) a m) (m-jM (fun h=>!decide (Ev.t (L (σ m))<Ev.t (L (σ h)))) (m-a) a m) 1)):=by
 refine dV.eG (mv:=[]) (by kernel_rfl) Tryz.func127 rfl Tryz.call127 ?_
 refine walk (aj:=bU) (keep:=[]) (cuts:=[1,12]) (n:=1000) follows ?_
 refine aJ (fun ZT ZW ZQ _=>((I64 (↑m - ↑a))∧((((↑m:Int) - ↑a==1)=true)→ZW [cd Tryz.f127 [0,1,0],cd Tryz.f127 [1]] (aI ZT [0]) ZQ)∧((((↑m:Int) - ↑a==1)=false)→ZW [cd Tryz.f127 [1,0],cd Tryz.f127 [1,1]] (aI ZT [1]) ZQ))) (by kernel_rfl) ?_
 refine⟨⟨by omega,by omega⟩,fun h=>?_,fun _=>?_⟩
 ·exfalso
  have:(m:Int)-(a:Int)=1:=by simpa using h
  omega
 ·refine walk (aj:=bU) (keep:=[]) (cuts:=[24]) (n:=1000) follows ?_
  refine aJ (fun ZT ZW ZQ _=>((I64 (↑b - ↑m))∧((((↑b:Int) - ↑m==1)=true)→ZW [cd Tryz.f127 [1,0,1,0,1,1,0,0],(.blk 4),cd Tryz.f127 [1,0,1,0,1,1,1],cd Tryz.f127 [1,1]] (aI ZT [0]) ZQ)∧((((↑b:Int) - ↑m==1)=false)→ZW [cd Tryz.f127 [1,1]] (aI ZT [1]) ZQ))) (by kernel_rfl) ?_
  refine⟨⟨by omega,by omega⟩,fun _=>?_,fun h=>?_⟩
  ·refine bK.loop (c:=aU (ak Tryz.f127) [1,0,1,0,1,1,0,0,0]) (by kernel_rfl) (abz L σ n a m b) (fun x=>a≤x.1∧x.1≤x.2∧x.2≤m∧jM (fun h=>!decide (Ev.t (L (σ m))<Ev.t (L (σ h)))) (x.2-x.1) x.1 x.2=jM (fun h=>!decide (Ev.t (L (σ m))<Ev.t (L (σ h)))) (m-a) a m) (fun x=>x.2-x.1) (a,m) ?_ ⟨by simp only;omega,by simp only;omega,by simp only;omega,rfl⟩ ?_
   ·exact AS.bJ (by kernel_rfl)
   ·rintro ⟨i,j⟩ ⟨q1,q2,q3,q4⟩
    simp only at q1 q2 q3 q4
    refine dI (aj:=oM) ?_
    refine bD (fun ZT ZW ZQ ZK ZA _=>(fun Za Zb Zc Zd=>((((decide ((↑i:Int)<↑j))=true)→(((I64 (↑i + ↑j))∧((0:Int)≤(1:Int)))∧(((0≤(↑m:Int))∧((↑m:Int)<↑n))∧((0≤IntKind.i64.wrap Zc)∧(IntKind.i64.wrap Zc<↑n))∧ZK 85 [(.agg [(di Zb.kind),(ds Zb.k.st),(ds Zb.k.ex),(di Zb.k.n),(di Zb.t),(di Zb.v),(di Zb.h),(ds Zb.s),(db Zb.acc)]),(.agg [(di (L (σ Za)).kind),(ds (L (σ Za)).k.st),(ds (L (σ Za)).k.ex),(di (L (σ Za)).k.n),(di (L (σ Za)).t),(di (L (σ Za)).v),(di (L (σ Za)).h),(ds (L (σ Za)).s),(db (L (σ Za)).acc)])] (di (sK Zd (jH (dL L σ Za)))))∧(((!decide (sK Zd (jH (dL L σ Za))<0))=true)→((I64 (IntKind.i64.wrap Zc+1))∧(ZA (aI ZT [0,0]))))∧(((!decide (sK Zd (jH (dL L σ Za))<0))=false)→(ZA (aI ZT [0,1])))))∧(((decide ((↑i:Int)<↑j))=false)→ZW [cd Tryz.f127 [1,0,1,0,1,1,1],cd Tryz.f127 [1,1]] (aI ZT [1]) ZQ))) (0+(IntKind.i64.wrap ((IntKind.u64.wrap (↑i + ↑j)).fdiv (2 ^ min (Int.toNat 1) IntKind.u64.bits))).toNat) (L (σ (0+(↑m:Int).toNat))) ((IntKind.u64.wrap (↑i + ↑j)).fdiv (2 ^ min (Int.toNat 1) IntKind.u64.bits)) (jH (dL L σ (0+(↑m:Int).toNat)))) (by kernel_rfl) ?_
    try dsimp only
    have hh:=half (i:=i) (j:=j) (by omega)
    simp only[NJ,hh,Nat.zero_add,gZ]
    refine⟨fun h=>?_,fun h=>?_⟩
    ·have hij:i<j:=by have:=dW h;omega
     have e1:=PU (p:=fun h=>!decide (Ev.t (L (σ m))<Ev.t (L (σ h)))) hij
     refine⟨⟨⟨by omega,by omega⟩,by decide⟩,⟨⟨by omega,by omega⟩,⟨by omega,by omega⟩,f85 (L (σ m)) (L (σ ((i+j) / 2)))⟩,fun h=>⟨⟨by omega,by omega⟩,Again.mk ((i+j) / 2+1,j) ?_ ⟨by simp only;omega,by simp only;omega,q3,?_⟩ (by simp only;omega)⟩,fun h=>Again.mk (i,(i+j) / 2) ?_ ⟨by simp only;omega,by simp only;omega,by simp only;omega,?_⟩ (by simp only;omega)⟩
     ·refine AS.leZ [5] [] (b:=((T0∧T0∧T0∧T0∧T0∧((vi (IntKind.i64.wrap ((IntKind.u64.wrap (↑i + ↑j)).fdiv (2 ^ min (Int.toNat 1) IntKind.u64.bits))+1)):AV)=(vi (↑((i+j) / 2+1)))∧T0∧True)∧T0∧True)) (by kernel_rfl) (by kernel_rfl) ?_
      exact⟨⟨rfl,rfl,rfl,rfl,rfl,oL (by rw[hh];rfl),rfl,trivial⟩,rfl,trivial⟩
     ·have h:=fun c=>of_decide_eq_false (Bool.not_eq_true' _ |>.mp h) ((qF _ _).2 c)
      rw[if_pos (by rw[decide_eq_false h];rfl)] at e1
      exact e1.symm.trans q4
     ·refine AS.leZ [6] [] (b:=((T0∧T0∧T0∧T0∧T0∧T0∧((vi (IntKind.i64.wrap ((IntKind.u64.wrap (↑i + ↑j)).fdiv (2 ^ min (Int.toNat 1) IntKind.u64.bits)))):AV)=(vi (↑((i+j) / 2)))∧True)∧T0∧True)) (by kernel_rfl) (by kernel_rfl) ?_
      exact⟨⟨rfl,rfl,rfl,rfl,rfl,rfl,oL hh,trivial⟩,rfl,trivial⟩
     ·have h:=(qF _ _).1 (dW (Bool.not_eq_false' _ |>.mp h))
      rw[if_neg (by rw[decide_eq_true h];decide)] at e1
      exact e1.symm.trans q4
    ·have hij:i=j:=by have:=of_decide_eq_false h;omega
     subst hij
     rw[Nat.sub_self,jM] at q4
     rw[←q4]
     refine dI (aj:=bU) ?_
     refine aJ (fun ZT ZW ZQ _=>ZW [cd Tryz.f127 [1,0,1,0,1,1,1,0,1,0],(.blk 6),cd Tryz.f127 [0,1,0,1,1,1,1],cd Tryz.f127 [1,1]] (aI ZT []) ZQ) (by kernel_rfl) ?_
     refine bK.loop (c:=aU (ak Tryz.f127) [1,0,1,0,1,1,1,0,1,0,0]) (by kernel_rfl) (abT L σ n a m b i) (fun t=>t≤m-i) (fun t=>m-i-t) 0 ?_ (Nat.zero_le _) ?_
     ·refine AS.leZ [] [0] (b:=((T0∧T0∧T0∧T0∧T0∧T0∧T0∧True)∧((some [(.arr bV 9 (dL L σ))]):fO)=(some [(.arr bV 9 (dL L (dF σ (m-0) 0 1)))])∧True)) (by kernel_rfl) (by kernel_rfl) ?_
      refine⟨⟨rfl,rfl,rfl,rfl,rfl,rfl,rfl,trivial⟩,?_,trivial⟩
      rw[JK _ _ _ _ (.inl rfl)]
     ·rintro t ht
      refine dI (aj:=bU) ?_
      refine bD (fun ZT ZW ZQ _ ZA _=>((((decide ((↑(m-t):Int)>↑i))=true)→(((I64 (↑(m-t)-1))∧(I64 (↑(m-t)-1))∧((0≤(↑(m-t):Int)-1)∧((↑(m-t):Int)-1<↑n))∧((0≤(↑(m-t):Int))∧((↑(m-t):Int)<↑n))∧((0≤(↑(m-t):Int))∧((↑(m-t):Int)<↑n))∧(0≤(↑(m-t):Int)-1)∧((↑(m-t):Int)-1<↑n))∧(I64 (↑(m-t)-1))∧(ZA (aI ZT [0]))))∧(((decide ((↑(m-t):Int)>↑i))=false)→ZW [cd Tryz.f127 [0,1,0,1,1,1,1],cd Tryz.f127 [1,1]] (aI ZT [1]) ZQ))) (by kernel_rfl) ?_
      refine⟨fun h=>?_,fun h=>?_⟩
      ·have h5:=dW h
       refine⟨⟨⟨by omega,by omega⟩,⟨by omega,by omega⟩,⟨by omega,by omega⟩,⟨by omega,by omega⟩,⟨by omega,by omega⟩,by omega,by omega⟩,⟨by omega,by omega⟩,Again.mk (t+1) ?_ (by omega) (by omega)⟩
       refine AS.leZ [6] [0] (b:=((T0∧T0∧T0∧T0∧T0∧T0∧((vi (↑(m-t)-1)):AV)=(vi (↑(m-(t+1))))∧True)∧((some [(.arr bV 9 (fun j=>bif Nat.beq j (0+Int.toNat ((↑(m-t):Int)-1)) then DV.agg [di (Ev.kind (L (dF σ (m-t) t 1 (0+Int.toNat (↑(m-t):Int))))),ds (Ky.st (Ev.k (L (dF σ (m-t) t 1 (0+Int.toNat (↑(m-t):Int)))))),ds (Ky.ex (Ev.k (L (dF σ (m-t) t 1 (0+Int.toNat (↑(m-t):Int)))))),di (Ky.n (Ev.k (L (dF σ (m-t) t 1 (0+Int.toNat (↑(m-t):Int)))))),di (Ev.t (L (dF σ (m-t) t 1 (0+Int.toNat (↑(m-t):Int))))),di (Ev.v (L (dF σ (m-t) t 1 (0+Int.toNat (↑(m-t):Int))))),di (Ev.h (L (dF σ (m-t) t 1 (0+Int.toNat (↑(m-t):Int))))),ds (Ev.s (L (dF σ (m-t) t 1 (0+Int.toNat (↑(m-t):Int))))),db (Ev.acc (L (dF σ (m-t) t 1 (0+Int.toNat (↑(m-t):Int)))))] else bif Nat.beq j (0+Int.toNat (↑(m-t):Int)) then DV.agg [di (Ev.kind (L (dF σ (m-t) t 1 (0+Int.toNat ((↑(m-t):Int)-1))))),ds (Ky.st (Ev.k (L (dF σ (m-t) t 1 (0+Int.toNat ((↑(m-t):Int)-1)))))),ds (Ky.ex (Ev.k (L (dF σ (m-t) t 1 (0+Int.toNat ((↑(m-t):Int)-1)))))),di (Ky.n (Ev.k (L (dF σ (m-t) t 1 (0+Int.toNat ((↑(m-t):Int)-1)))))),di (Ev.t (L (dF σ (m-t) t 1 (0+Int.toNat ((↑(m-t):Int)-1))))),di (Ev.v (L (dF σ (m-t) t 1 (0+Int.toNat ((↑(m-t):Int)-1))))),di (Ev.h (L (dF σ (m-t) t 1 (0+Int.toNat ((↑(m-t):Int)-1))))),ds (Ev.s (L (dF σ (m-t) t 1 (0+Int.toNat ((↑(m-t):Int)-1))))),db (Ev.acc (L (dF σ (m-t) t 1 (0+Int.toNat ((↑(m-t):Int)-1)))))] else dL L (dF σ (m-t) t 1) j))]):fO)=(some [(.arr bV 9 (dL L (dF σ (m-(t+1)) (t+1) 1)))])∧True)) (by kernel_rfl) (by kernel_rfl) ?_
       refine⟨⟨rfl,rfl,rfl,rfl,rfl,rfl,oL (by omega),trivial⟩,?_,trivial⟩
       rw[←XI σ m t (by omega)]
       exact congrArg (fun f=>some [AV.arr mD 9 f]) (FI (by omega) (by omega))
      ·obtain rfl:t=m-i:=by have:=of_decide_eq_false h;omega
       refine dI (aj:=bU) ?_
       refine aJ (fun _ _ _ _=>((ZS ((.d (.aC [])):AV))∧((some [(.arr bV 9 (dL L (dF σ (m-(m-i)) (m-i) 1)))]):fO)=(some [(.arr bV 9 (dL L (dF σ i (m-i) 1)))])∧True)) (by kernel_rfl) ?_
       exact⟨rfl,by rw[show m-(m-i)=i by omega],trivial⟩
  ·exfalso
   have:¬((b:Int)-(m:Int)=1):=by simpa using h
   omega
noncomputable def abj (L:Nat→Ev) (fuel:Nat) (τ:Nat→Nat):FuncId→List AV→List (Nat×List AV)→Option (AV×List (Nat×List AV)):=fun f args _=>match f,args with
 | 154,[_,.d (.con (.int _ a)),.d (.con (.int _ b)),.d (.con (.int _ c)),_]=>some (.d lH,[(1000000,[.arr mD 9 (dL L (dF τ a.toNat (b.toNat-a.toNat) (c.toNat-b.toNat)))])])
 | 127,[_,.d (.con (.int _ a)),.d (.con (.int _ b)),.d (.con (.int _ c)),_]=>some (.d lH,[(1000000,[.arr mD 9 (dL L (gY (fun i=>Ev.t (L i)) fuel a.toNat b.toNat c.toNat τ))])])
 | _,_=>none
noncomputable def H7 (L:Nat→Ev) (fuel:Nat) (τ:Nat→Nat):eU:={ d:=(oM).d,m:=abj L fuel τ }
noncomputable def Yf (L:Nat→Ev) (σ:Nat→Nat) (n a m b mid:Nat) (x:Nat×Nat):AS:=⟨regs Tryz.f127.ntmps [(0,.vec 1000000 9 0 n),(1,vi a),(2,vi m),(3,vi b),(4,rO),(18,vi mid),(19,vi (mid+m:Nat)),(20,vi x.1),(21,vi x.2),(22,vi (mid+m-1:Nat))],lC L σ⟩
noncomputable def TB (L:Nat→Ev) (τ:Nat→Nat) (n a m b mid st en:Nat):AS:=⟨regs Tryz.f127.ntmps [(0,.vec 1000000 9 0 n),(1,vi a),(2,vi m),(3,vi b),(4,rO),(18,vi mid),(20,vi st),(24,vi en)],lC L τ⟩
def pM (κ:Nat→Int) (σ:Nat→Nat) (q:Nat) (c:Nat):Bool:=!decide (κ (σ (q-1-c))<κ (σ c))
def AL (G:IH) (L:Nat→Ev) (fuel n:Nat):Prop:=∀(τ:Nat→Nat) (a m b:Nat),b-a≤fuel→a<m→m<b→b≤n→dV Tryz.prog G 127 [.vec 1000000 9 0 n,vi a,vi m,vi b,rO] (lC L τ) (.d lH) (lC L (gY (fun i=>Ev.t (L i)) fuel a m b τ))
theorem Sm (L:Nat→Ev) (fuel n:Nat) (ih:AL G L fuel n) (σ:Nat→Nat) (a m b mid st en:Nat) (hm:a<mid) (hf:b-a≤fuel+1) (h2:b≤n) :
  bK Tryz.prog G [cd Tryz.f127 [1,1,1,1,1,1,1,1,1,1,1]] (TB L σ n a m b mid st en) (Eo Tryz.prog Tryz.f127 [] (.d lH) (lC L (if mid<en∧en<b then gY (fun i=>Ev.t (L i)) fuel mid en b σ else σ))):=by
 refine dI (aj:=H7 L fuel σ) ?_
 refine aJ (fun _ _ _ _=>(fun Za Zb=>(((Zb=true)→(dV Tryz.prog G 127 [(.vec 1000000 9 0 n),(vi (↑mid)),(vi (↑en)),(vi (↑b)),(.d (.con (.func (.func 85) ⟨[]⟩ ⟨[]⟩)))] [(1000000,[(.arr bV 9 (dL L σ))])] (.d (.aC [])) [(1000000,[Za])]∧(ZS ((.d (.aC [])):AV))∧((some [Za]):fO)=(some [(.arr bV 9 (dL L (if mid<en∧en<b then gY (fun i=>(L i).t) fuel mid en b σ else σ)))])∧True))∧((Zb=false)→((ZS ((.d (.aC [])):AV))∧((some [(.arr bV 9 (dL L σ))]):fO)=(some [(.arr bV 9 (dL L (if mid<en∧en<b then gY (fun i=>(L i).t) fuel mid en b σ else σ)))])∧True)))) ((.arr bV 9 (dL L (gY (fun i=>(L i).t) fuel (↑mid:Int).toNat (↑en:Int).toNat (↑b:Int).toNat σ))):AV) (decide ((↑mid:Int)<(↑en:Int))&&decide ((↑en:Int)<↑b))) (by kernel_rfl) ?_
 try dsimp only
 simp only[gZ]
 refine⟨fun h=>?_,fun h=>?_⟩
 ·simp only[aV,eF] at h
  obtain ⟨h3,h4⟩:=h
  have h3:mid<en:=by omega
  have h4:en<b:=by omega
  exact⟨ih σ mid en b (by omega) h3 h4 h2,trivial,by rw[if_pos ⟨h3,h4⟩],trivial⟩
 ·refine⟨trivial,?_,trivial⟩
  rw[if_neg]
  rintro ⟨h3,h4⟩
  rw[decide_eq_true (by omega),decide_eq_true (by omega)] at h
  cases h
theorem RP (L:Nat→Ev) (fuel n:Nat) (ih:AL G L fuel n) (σ σ2:Nat→Nat) (a m b mid st en:Nat) (hs:σ2=if a<st∧st<mid then gY (fun i=>Ev.t (L i)) fuel a st mid σ else σ) (hm:a<mid) (hmb:mid<b) (hf:b-a≤fuel+1) (h2:b≤n) :
  bK Tryz.prog G [cd Tryz.f127 [1,1,1,1,1,1,1,1,1,1,0],cd Tryz.f127 [1,1,1,1,1,1,1,1,1,1,1]] (TB L σ n a m b mid st en) (Eo Tryz.prog Tryz.f127 [] (.d lH) (lC L (if mid<en∧en<b then gY (fun i=>Ev.t (L i)) fuel mid en b σ2 else σ2))):=by
 refine walk (aj:=H7 L fuel σ) (keep:=[]) (cuts:=[43]) (n:=1000) follows ?_
 refine aJ (fun ZT ZW ZQ _=>(fun Za=>(((Za=true)→(dV Tryz.prog G 127 [(.vec 1000000 9 0 n),(vi (↑a)),(vi (↑st)),(vi (↑mid)),(.d (.con (.func (.func 85) ⟨[]⟩ ⟨[]⟩)))] [(1000000,[(.arr bV 9 (dL L σ))])] (.d (.aC [])) [(1000000,[(.arr bV 9 (dL L (gY (fun i=>(L i).t) fuel (↑a:Int).toNat (↑st:Int).toNat (↑mid:Int).toNat σ)))])]∧ZW [cd Tryz.f127 [1,1,1,1,1,1,1,1,1,1,1]] (aI ZT [0]) ZQ))∧((Za=false)→ZW [cd Tryz.f127 [1,1,1,1,1,1,1,1,1,1,1]] (aI ZT [1]) ZQ))) (decide ((↑a:Int)<(↑st:Int))&&decide ((↑st:Int)<↑mid))) (by kernel_rfl) ?_
 try dsimp only
 simp only[gZ]
 refine⟨fun h=>?_,fun h=>?_⟩
 ·simp only[aV,eF] at h
  obtain ⟨h3,h4⟩:=h
  have h3:a<st:=by omega
  have h4:st<mid:=by omega
  refine⟨ih σ a st mid (by omega) h3 h4 (by omega),?_⟩
  rw[if_pos ⟨h3,h4⟩] at hs
  subst hs
  refine bK.weaken ?_ (Sm L fuel n ih _ a m b mid st en hm hf h2)
  exact AS.bJ (by kernel_rfl)
 ·rw[if_neg (fun hc=>by
   rw[decide_eq_true (by omega),decide_eq_true (by omega)] at h
   cases h)] at hs
  subst hs
  refine bK.weaken ?_ (Sm L fuel n ih _ a m b mid st en hm hf h2)
  exact AS.bJ (by kernel_rfl)
theorem Zj (L:Nat→Ev) (fuel n:Nat) (ih:AL G L fuel n) (σ σ1 σ2:Nat→Nat) (a m b mid st en:Nat) (hs1:σ1=dF σ st (m-st) (en-m)) (hs:σ2=if a<st∧st<mid then gY (fun i=>Ev.t (L i)) fuel a st mid σ1 else σ1) (hm:a<mid) (hmb:mid<b) (hf:b-a≤fuel+1) (h2:b≤n) (hn:n≤100000000) (heb:en≤b) :
  bK Tryz.prog G [cd Tryz.f127 [1,1,1,1,1,1,1,1,1,0],cd Tryz.f127 [1,1,1,1,1,1,1,1,1,1]] (TB L σ n a m b mid st en) (Eo Tryz.prog Tryz.f127 [] (.d lH) (lC L (if mid<en∧en<b then gY (fun i=>Ev.t (L i)) fuel mid en b σ2 else σ2))):=by
 refine walk (aj:=H7 L fuel σ) (keep:=[]) (cuts:=[41]) (n:=1000) follows ?_
 refine aJ (fun ZT ZW ZQ _=>((((decide ((↑st:Int)<(↑m:Int))&&decide ((↑m:Int)<↑en))=true)→(dV Tryz.prog G 154 [(.vec 1000000 9 0 n),(vi (↑st)),(vi (↑m)),(vi (↑en)),(.d (.con (.func (.func 85) ⟨[]⟩ ⟨[]⟩)))] [(1000000,[(.arr bV 9 (dL L σ))])] (.d (.aC [])) [(1000000,[(.arr bV 9 (dL L (dF σ (↑st:Int).toNat ((↑m:Int).toNat-(↑st:Int).toNat) ((↑en:Int).toNat-(↑m:Int).toNat))))])]∧ZW [cd Tryz.f127 [1,1,1,1,1,1,1,1,1,1,0],cd Tryz.f127 [1,1,1,1,1,1,1,1,1,1,1]] (aI ZT [0]) ZQ))∧(((decide ((↑st:Int)<(↑m:Int))&&decide ((↑m:Int)<↑en))=false)→ZW [cd Tryz.f127 [1,1,1,1,1,1,1,1,1,1,0],cd Tryz.f127 [1,1,1,1,1,1,1,1,1,1,1]] (aI ZT [1]) ZQ))) (by kernel_rfl) ?_
 simp only[gZ]
 refine⟨fun h=>?_,fun h=>?_⟩
 ·simp only[aV,eF] at h
  obtain ⟨h3,h4⟩:=h
  have h3:st<m:=by omega
  have h4:m<en:=by omega
  refine⟨f154 L σ n st m en h3 h4 (by omega) hn,?_⟩
  subst hs1
  refine bK.weaken ?_ (RP L fuel n ih _ σ2 a m b mid st en hs hm hmb hf h2)
  refine AS.leZ [] [0] (b:=((T0∧T0∧T0∧T0∧T0∧T0∧T0∧T0∧True)∧((some [(.arr bV 9 (dL L (dF σ (↑st:Int).toNat ((↑m:Int).toNat-(↑st:Int).toNat) ((↑en:Int).toNat-(↑m:Int).toNat))))]):fO)=(some [(.arr bV 9 (dL L (dF σ st (m-st) (en-m))))])∧True)) (by kernel_rfl) (by kernel_rfl) ?_
  exact⟨⟨rfl,rfl,rfl,rfl,rfl,rfl,rfl,rfl,trivial⟩,rfl,trivial⟩
 ·have e:dF σ st (m-st) (en-m)=σ:=by
   rw[Bool.and_eq_false_iff] at h
   rcases h with h|h
   ·have:=of_decide_eq_false h
    exact JK _ _ _ _ (.inl (by omega))
   ·have:=of_decide_eq_false h
    exact JK _ _ _ _ (.inr (by omega))
  rw[e] at hs1
  subst hs1
  refine bK.weaken ?_ (RP L fuel n ih _ σ2 a m b mid st en hs hm hmb hf h2)
  exact AS.bJ (by kernel_rfl)
def aai (κ:Nat→Int) (fuel a m b mid st:Nat) (σ:Nat→Nat):Nat→Nat:=
 let σ1:=dF σ st (m-st) (mid+m-st-m);let σ2:=if a<st∧st<mid then gY κ fuel a st mid σ1 else σ1;if mid<mid+m-st∧mid+m-st<b then gY κ fuel mid (mid+m-st) b σ2 else σ2
theorem U6 (L:Nat→Ev) (fuel n:Nat) (ih:AL G L fuel n) (σ:Nat→Nat) (a m b mid s0 r0:Nat) (hm:a<mid) (hmb:mid<b) (ham:a<m) (hb:m<b) (hmid:mid=(a+b) / 2) (hf:b-a≤fuel+1) (h2:b≤n) (hn:n≤100000000) (hs0:s0=if mid<m then mid+m-b else a) (hr0:r0=if mid<m then mid else m) :
  bK Tryz.prog G [cd Tryz.f127 [1,1,1,1,1,1,1,0,0],.blk 8,cd Tryz.f127 [1,1,1,1,1,1,1,1]] (Yf L σ n a m b mid (s0,r0)) (Eo Tryz.prog Tryz.f127 [] (.d lH) (lC L (aai (fun i=>Ev.t (L i)) fuel a m b mid (jM (pM (fun i=>Ev.t (L i)) σ (mid+m)) (r0-s0) s0 r0) σ))):=by
 have hs:s0≤r0:=by rw[hs0,hr0];split<;>omega
 refine bK.loop (c:=aU (ak Tryz.f127) [1,1,1,1,1,1,1,0,0,0]) (by kernel_rfl) (Yf L σ n a m b mid) (fun x=>s0≤x.1∧x.1≤x.2∧x.2≤r0∧jM (pM (fun i=>Ev.t (L i)) σ (mid+m)) (x.2-x.1) x.1 x.2=jM (pM (fun i=>Ev.t (L i)) σ (mid+m)) (r0-s0) s0 r0) (fun x=>x.2-x.1) (s0,r0) ?_ ⟨Nat.le_refl _,hs,Nat.le_refl _,rfl⟩ ?_
 ·exact AS.bJ (by kernel_rfl)
 ·rintro ⟨i,j⟩ ⟨q1,q2,q3,q4⟩
  simp only at q1 q2 q3 q4
  have hrm:r0≤m:=by rw[hr0];split<;>omega
  have hsb:mid+m-b≤s0:=by rw[hs0];split<;>omega
  have hsa:a≤s0:=by rw[hs0];split<;>omega
  refine walk (aj:=oM) (keep:=[]) (cuts:=[39]) (n:=1000) follows ?_
  refine bD (fun ZT ZW ZQ ZK ZA _=>(fun Za=>((((decide ((↑i:Int)<↑j))=true)→(((I64 (↑i + ↑j))∧((0:Int)≤(1:Int)))∧((I64 (↑(mid+m-1)-IntKind.i64.wrap Za))∧((0≤↑(mid+m-1)-IntKind.i64.wrap Za)∧(↑(mid+m-1)-IntKind.i64.wrap Za<↑n))∧((0≤IntKind.i64.wrap Za)∧(IntKind.i64.wrap Za<↑n))∧ZK 85 [(.agg [(di (L (σ (0+(↑(mid+m-1)-IntKind.i64.wrap Za).toNat))).kind),(ds (L (σ (0+(↑(mid+m-1)-IntKind.i64.wrap Za).toNat))).k.st),(ds (L (σ (0+(↑(mid+m-1)-IntKind.i64.wrap Za).toNat))).k.ex),(di (L (σ (0+(↑(mid+m-1)-IntKind.i64.wrap Za).toNat))).k.n),(di (L (σ (0+(↑(mid+m-1)-IntKind.i64.wrap Za).toNat))).t),(di (L (σ (0+(↑(mid+m-1)-IntKind.i64.wrap Za).toNat))).v),(di (L (σ (0+(↑(mid+m-1)-IntKind.i64.wrap Za).toNat))).h),(ds (L (σ (0+(↑(mid+m-1)-IntKind.i64.wrap Za).toNat))).s),(db (L (σ (0+(↑(mid+m-1)-IntKind.i64.wrap Za).toNat))).acc)]),(.agg [(di (L (σ (0+(IntKind.i64.wrap Za).toNat))).kind),(ds (L (σ (0+(IntKind.i64.wrap Za).toNat))).k.st),(ds (L (σ (0+(IntKind.i64.wrap Za).toNat))).k.ex),(di (L (σ (0+(IntKind.i64.wrap Za).toNat))).k.n),(di (L (σ (0+(IntKind.i64.wrap Za).toNat))).t),(di (L (σ (0+(IntKind.i64.wrap Za).toNat))).v),(di (L (σ (0+(IntKind.i64.wrap Za).toNat))).h),(ds (L (σ (0+(IntKind.i64.wrap Za).toNat))).s),(db (L (σ (0+(IntKind.i64.wrap Za).toNat))).acc)])] (di (sK (jH (dL L σ (0+(↑(mid+m-1)-IntKind.i64.wrap Za).toNat))) (jH (dL L σ (0+(IntKind.i64.wrap Za).toNat))))))∧(((!decide (sK (jH (dL L σ (0+(↑(mid+m-1)-IntKind.i64.wrap Za).toNat))) (jH (dL L σ (0+(IntKind.i64.wrap Za).toNat)))<0))=true)→((I64 (IntKind.i64.wrap Za+1))∧(ZA (aI ZT [0,0]))))∧(((!decide (sK (jH (dL L σ (0+(↑(mid+m-1)-IntKind.i64.wrap Za).toNat))) (jH (dL L σ (0+(IntKind.i64.wrap Za).toNat)))<0))=false)→(ZA (aI ZT [0,1])))))∧(((decide ((↑i:Int)<↑j))=false)→ZW [cd Tryz.f127 [1,1,1,1,1,1,1,1]] (aI ZT [1]) ZQ))) ((IntKind.u64.wrap (↑i + ↑j)).fdiv (2 ^ min (Int.toNat 1) IntKind.u64.bits))) (by kernel_rfl) ?_
  try dsimp only
  have hh:=half (i:=i) (j:=j) (by omega)
  simp only[NJ,hh,Nat.zero_add,gZ]
  refine⟨fun h=>?_,fun h=>?_⟩
  ·have hij:i<j:=by have:=dW h;omega
   have e1:=PU (p:=pM (fun i=>Ev.t (L i)) σ (mid+m)) hij
   have e2:(((mid+m-1:Nat):Int)-(((i+j) / 2:Nat):Int)).toNat=mid+m-1-(i+j) / 2:=by omega
   simp only[e2]
   refine⟨⟨⟨by omega,by omega⟩,by decide⟩,⟨⟨by omega,by omega⟩,⟨by omega,by omega⟩,⟨by omega,by omega⟩,f85 (L (σ (mid+m-1-(i+j) / 2))) (L (σ ((i+j) / 2)))⟩,fun h=>⟨⟨by omega,by omega⟩,Again.mk ((i+j) / 2+1,j) ?_ ⟨by simp only;omega,by simp only;omega,q3,?_⟩ (by simp only;omega)⟩,fun h=>Again.mk (i,(i+j) / 2) ?_ ⟨q1,by simp only;omega,by simp only;omega,?_⟩ (by simp only;omega)⟩
   ·refine AS.leZ [7] [] (b:=((T0∧T0∧T0∧T0∧T0∧T0∧T0∧((vi (IntKind.i64.wrap ((IntKind.u64.wrap (↑i + ↑j)).fdiv (2 ^ min (Int.toNat 1) IntKind.u64.bits))+1)):AV)=(vi (↑((i+j) / 2+1)))∧T0∧T0∧True)∧T0∧True)) (by kernel_rfl) (by kernel_rfl) ?_
    exact⟨⟨rfl,rfl,rfl,rfl,rfl,rfl,rfl,oL (by rw[hh];rfl),rfl,rfl,trivial⟩,rfl,trivial⟩
   ·have h:=fun c=>of_decide_eq_false (Bool.not_eq_true' _ |>.mp h) ((qF _ _).2 c)
    rw[if_pos (by unfold pM;rw[decide_eq_false h];rfl)] at e1
    exact e1.symm.trans q4
   ·refine AS.leZ [8] [] (b:=((T0∧T0∧T0∧T0∧T0∧T0∧T0∧T0∧((vi (IntKind.i64.wrap ((IntKind.u64.wrap (↑i + ↑j)).fdiv (2 ^ min (Int.toNat 1) IntKind.u64.bits)))):AV)=(vi (↑((i+j) / 2)))∧T0∧True)∧T0∧True)) (by kernel_rfl) (by kernel_rfl) ?_
    exact⟨⟨rfl,rfl,rfl,rfl,rfl,rfl,rfl,rfl,oL hh,rfl,trivial⟩,rfl,trivial⟩
   ·have h:=(qF _ _).1 (dW (Bool.not_eq_false' _ |>.mp h))
    rw[if_neg (by unfold pM;rw[decide_eq_true h];decide)] at e1
    exact e1.symm.trans q4
  ·have hij:i=j:=by have:=of_decide_eq_false h;omega
   subst hij
   rw[Nat.sub_self,jM] at q4
   rw[←q4]
   have hen:mid+m-i≤b:=by omega
   refine walk (aj:=bU) (keep:=[]) (cuts:=[39]) (n:=1000) follows ?_
   refine aJ (fun ZT ZW ZQ _=>((I64 (↑(mid+m) - ↑i))∧ZW [cd Tryz.f127 [1,1,1,1,1,1,1,1,1,0],cd Tryz.f127 [1,1,1,1,1,1,1,1,1,1]] (aI ZT []) ZQ)) (by kernel_rfl) ?_
   refine⟨⟨by omega,by omega⟩,?_⟩
   refine bK.weaken ?_ (Zj L fuel n ih σ _ _ a m b mid i (mid+m-i) rfl rfl hm hmb hf h2 hn hen)
   refine AS.leZ [7] [] (b:=((T0∧T0∧T0∧T0∧T0∧T0∧T0∧((vi (↑(mid+m) - ↑i)):AV)=(vi (↑(mid+m-i)))∧True)∧T0∧True)) (by kernel_rfl) (by kernel_rfl) ?_
   exact⟨⟨rfl,rfl,rfl,rfl,rfl,rfl,rfl,oL (by omega),trivial⟩,rfl,trivial⟩
theorem aaN {κ:Nat→Int} {fuel a m b:Nat} {σ:Nat→Nat} (h0:m-a≠1) (h1:b-m≠1):gY κ (fuel+1) a m b σ=aai κ fuel a m b ((a+b) / 2) (jM (pM κ σ ((a+b) / 2+m)) ((if (a+b) / 2<m then (a+b) / 2 else m)-(if (a+b) / 2<m then (a+b) / 2+m-b else a)) (if (a+b) / 2<m then (a+b) / 2+m-b else a) (if (a+b) / 2<m then (a+b) / 2 else m)) σ:=by
 rw[gY,if_neg h0,if_neg h1];rfl
theorem Z4 (L:Nat→Ev) (fuel n:Nat) (ih:AL G L fuel n) (σ:Nat→Nat) (a m b:Nat) (ha:a<m) (hb:m<b) (h0:m≠a+1) (h1:b≠m+1) (hf:b-a≤fuel+1) (h2:b≤n) (hn:n≤100000000):dV Tryz.prog G 127 [.vec 1000000 9 0 n,vi a,vi m,vi b,rO] (lC L σ) (.d lH) (lC L (gY (fun i=>Ev.t (L i)) (fuel+1) a m b σ)):=by
 rw[aaN (by omega) (by omega)]
 refine dV.eG (mv:=[]) (by kernel_rfl) Tryz.func127 rfl Tryz.call127 ?_
 refine walk (aj:=bU) (keep:=[]) (cuts:=[1,12]) (n:=1000) follows ?_
 refine aJ (fun ZT ZW ZQ _=>((I64 (↑m - ↑a))∧((((↑m:Int) - ↑a==1)=true)→ZW [cd Tryz.f127 [0,1,0],cd Tryz.f127 [1]] (aI ZT [0]) ZQ)∧((((↑m:Int) - ↑a==1)=false)→ZW [cd Tryz.f127 [1,0],cd Tryz.f127 [1,1]] (aI ZT [1]) ZQ))) (by kernel_rfl) ?_
 refine⟨⟨by omega,by omega⟩,fun h=>?_,fun _=>?_⟩
 ·exfalso
  have:(m:Int)-(a:Int)=1:=by simpa using h
  omega
 refine walk (aj:=bU) (keep:=[]) (cuts:=[13,24]) (n:=1000) follows ?_
 refine aJ (fun ZT ZW ZQ _=>((I64 (↑b - ↑m))∧((((↑b:Int) - ↑m==1)=true)→ZW [cd Tryz.f127 [1,0,1,0],cd Tryz.f127 [1,1]] (aI ZT [0]) ZQ)∧((((↑b:Int) - ↑m==1)=false)→ZW [cd Tryz.f127 [1,1]] (aI ZT [1]) ZQ))) (by kernel_rfl) ?_
 refine⟨⟨by omega,by omega⟩,fun h=>?_,fun _=>?_⟩
 ·exfalso
  have:(b:Int)-(m:Int)=1:=by simpa using h
  omega
 refine dI (aj:=bU) ?_
 refine aJ (fun ZT ZW ZQ _=>(fun Za=>(((I64 (↑a + ↑b))∧((0:Int)≤(1:Int)))∧(I64 (IntKind.i64.wrap Za + ↑m))∧(((decide (↑m>IntKind.i64.wrap Za))=true)→((I64 (IntKind.i64.wrap Za + ↑m - ↑b))∧(I64 (IntKind.i64.wrap Za + ↑m-1))∧ZW [cd Tryz.f127 [1,1,1,1,1,1,1,0,0],(.blk 8),cd Tryz.f127 [1,1,1,1,1,1,1,1]] (aI ZT [0]) ZQ))∧(((decide (↑m>IntKind.i64.wrap Za))=false)→((I64 (IntKind.i64.wrap Za + ↑m-1))∧ZW [cd Tryz.f127 [1,1,1,1,1,1,1,0,0],(.blk 8),cd Tryz.f127 [1,1,1,1,1,1,1,1]] (aI ZT [1]) ZQ)))) ((IntKind.u64.wrap (↑a + ↑b)).fdiv (2 ^ min (Int.toNat 1) IntKind.u64.bits))) (by kernel_rfl) ?_
 try dsimp only
 have hh:=half (i:=a) (j:=b) (by omega)
 simp only[hh]
 refine⟨⟨⟨by omega,by omega⟩,by decide⟩,⟨by omega,by omega⟩,fun h=>⟨⟨by omega,by omega⟩,⟨by omega,by omega⟩,?_⟩,fun h=>⟨⟨by omega,by omega⟩,?_⟩⟩
 ·have h:=dW h
  have hc:(a+b) / 2<m:=by omega
  simp only[if_pos hc]
  refine bK.weaken ?_ (U6 L fuel n ih σ a m b ((a+b) / 2) _ _ (by omega) (by omega) ha hb rfl hf h2 hn (if_pos hc).symm (if_pos hc).symm)
  refine AS.leZ [5,6,7,8,9] [] (b:=((T0∧T0∧T0∧T0∧T0∧((vi (IntKind.i64.wrap ((IntKind.u64.wrap (↑a + ↑b)).fdiv (2 ^ min (Int.toNat 1) IntKind.u64.bits)))):AV)=(vi (↑((a+b) / 2)))∧((vi (IntKind.i64.wrap ((IntKind.u64.wrap (↑a + ↑b)).fdiv (2 ^ min (Int.toNat 1) IntKind.u64.bits)) + ↑m)):AV)=(vi (↑((a+b) / 2+m)))∧((vi (IntKind.i64.wrap ((IntKind.u64.wrap (↑a + ↑b)).fdiv (2 ^ min (Int.toNat 1) IntKind.u64.bits)) + ↑m - ↑b)):AV)=(vi (↑((a+b) / 2+m-b)))∧((vi (IntKind.i64.wrap ((IntKind.u64.wrap (↑a + ↑b)).fdiv (2 ^ min (Int.toNat 1) IntKind.u64.bits)))):AV)=(vi (↑((a+b) / 2)))∧((vi (IntKind.i64.wrap ((IntKind.u64.wrap (↑a + ↑b)).fdiv (2 ^ min (Int.toNat 1) IntKind.u64.bits)) + ↑m-1)):AV)=(vi (↑((a+b) / 2+m-1)))∧True)∧T0∧True)) (by kernel_rfl) (by kernel_rfl) ?_
  rw[hh]
  exact⟨⟨rfl,rfl,rfl,rfl,rfl,rfl,oL (by omega),oL (by omega),rfl,oL (by omega),trivial⟩,rfl,trivial⟩
 ·have h:=of_decide_eq_false h
  have hc:¬(a+b) / 2<m:=by omega
  simp only[if_neg hc]
  refine bK.weaken ?_ (U6 L fuel n ih σ a m b ((a+b) / 2) _ _ (by omega) (by omega) ha hb rfl hf h2 hn (if_neg hc).symm (if_neg hc).symm)
  refine AS.leZ [5,6,9] [] (b:=((T0∧T0∧T0∧T0∧T0∧((vi (IntKind.i64.wrap ((IntKind.u64.wrap (↑a + ↑b)).fdiv (2 ^ min (Int.toNat 1) IntKind.u64.bits)))):AV)=(vi (↑((a+b) / 2)))∧((vi (IntKind.i64.wrap ((IntKind.u64.wrap (↑a + ↑b)).fdiv (2 ^ min (Int.toNat 1) IntKind.u64.bits)) + ↑m)):AV)=(vi (↑((a+b) / 2+m)))∧T0∧T0∧((vi (IntKind.i64.wrap ((IntKind.u64.wrap (↑a + ↑b)).fdiv (2 ^ min (Int.toNat 1) IntKind.u64.bits)) + ↑m-1)):AV)=(vi (↑((a+b) / 2+m-1)))∧True)∧T0∧True)) (by kernel_rfl) (by kernel_rfl) ?_
  rw[hh]
  exact⟨⟨rfl,rfl,rfl,rfl,rfl,rfl,oL (by omega),rfl,rfl,oL (by omega),trivial⟩,rfl,trivial⟩
theorem f127:∀(fuel:Nat) (L:Nat→Ev) (n:Nat) (_:n≤100000000),AL G L fuel n
 | 0,L,n,hn=>fun τ a m b h ha hb _=>by omega
 | fuel+1,L,n,hn=>fun τ a m b h ha hb h2=>by
  by_cases h0:m=a+1
  ·have:=aal (G:=G) L τ n a m b h0 hb h2 hn
   rw[gY,if_pos (by omega)]
   exact this
  ·by_cases h1:b=m+1
   ·have:=Zt (G:=G) L τ n a m b ha h0 h1 h2 hn
    rw[gY,if_neg (by omega),if_pos (by omega)]
    exact this
   ·exact Z4 L fuel n (f127 fuel L n hn) τ a m b ha hb h0 h1 h h2 hn
end Go.Proofs
