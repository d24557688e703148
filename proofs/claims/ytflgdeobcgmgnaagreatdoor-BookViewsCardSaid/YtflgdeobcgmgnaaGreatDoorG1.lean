import Derived.Test.YtflgdeobcgmgnaaGreatDoorAcD
import Derived.Test.YtflgdeobcgmgnaaGreatDoorG0
set_option autoImplicit false
set_option maxHeartbeats 1000000
set_option maxRecDepth 100000
namespace Go.Proofs
open Go Go.Ab Go.RowKit
variable {G:IH}
def nP:iR:=fun f a=>match f,a with
 | 15,[a,b]=>some (db (decide (xL GV a=xL GV b)))
 | 66,[a,b]=>some (db (decide (xL MG a=xL MG b)))
 | 62,[a,b]=>some (db (decide (xL jD a=xL jD b)))
 | 65,[a,b]=>some (db (decide (qU a=qU b)))
 | 64,[a,b,_]=>some (db (decide (xL qU a=xL qU b)))
 | 37,[a,b]=>some (db (decide (jJ a=jJ b)))
 | 17,[a,b]=>some (db (decide (jJ a=jJ b)))
 | 34,[a,b]=>some (db (decide (xL jD a=xL jD b)))
 | 22,[b,k]=>some (di (dQ (jJ b).es (Ej k)))
 | 23,[b,k]=>some (di (dQ (jJ b).es (Ej k)))
 | _,_=>none
def QJ (x:En):Prop:=x.gs.length≤1000000∧x.ah.length≤1000000
def gq (es:List En):Prop:=es.length≤1000000∧∀i,i<es.length→QJ (es.getD i en0)
theorem f65 (a b:En) (ha:QJ a):aA Tryz.prog G 65 [zi a,zi b] (db (decide (a=b))):=by
 refine aA.walk (aj:=nP) (keep:=[]) follows Tryz.func65 rfl Tryz.call65 ?_
 refine aC (fun _ _ _ ZK=>(fun Za=>(((((Bool.rec false Za (a.k.st.toList==b.k.st.toList)&&a.t==b.t&&a.s.toList==b.s.toList)=true)→ZK 15 [(.slc 4 a.gs.length (dP a.gs)),(.slc 4 b.gs.length (dP b.gs))] (db (decide (xL GV (DV.slc 4 a.gs.length (dP a.gs))=xL GV (DV.slc 4 b.gs.length (dP b.gs))))))∧(((Bool.rec false Za (a.k.st.toList==b.k.st.toList)&&a.t==b.t&&a.s.toList==b.s.toList&&decide (xL GV (DV.slc 4 a.gs.length (dP a.gs))=xL GV (DV.slc 4 b.gs.length (dP b.gs))))=true)→ZK 66 [(.slc 6 a.ah.length (dI a.ah)),(.slc 6 b.ah.length (dI b.ah))] (db (decide (xL MG (DV.slc 6 a.ah.length (dI a.ah))=xL MG (DV.slc 6 b.ah.length (dI b.ah)))))))∧((db (Bool.rec false Za (a.k.st.toList==b.k.st.toList)&&a.t==b.t&&a.s.toList==b.s.toList&&decide (xL GV (DV.slc 4 a.gs.length (dP a.gs))=xL GV (DV.slc 4 b.gs.length (dP b.gs)))&&decide (xL MG (DV.slc 6 a.ah.length (dI a.ah))=xL MG (DV.slc 6 b.ah.length (dI b.ah))))):DV)=(db (decide (a=b))))) (a.k.ex.toList==b.k.ex.toList&&a.k.n==b.k.n)) (by kernel_rfl) ?_
 try dsimp only
 simp only[RZ,Ri,oq,II]
 refine⟨⟨fun _=>f15 _ _ ha.1,fun _=>f66 _ _ ha.2⟩,congrArg db ?_⟩
 obtain ⟨a1,a2,a3,a4,a5⟩:=a
 obtain ⟨b1,b2,b3,b4,b5⟩:=b
 rw[dJ,Bool.eq_iff_iff]
 simp only[IE,aY,beq_iff_eq,eF,En.mk.injEq,and_assoc]
noncomputable def S64 (a b:List En) (k:Nat):AS:=⟨regs Tryz.f64.ntmps [(0,.d (jI a)),(1,.d (jI b)),(2,.d (.con (.func (.func 65) #[] #[]))),(15,.d (jI a)),(16,vi a.length),(17,vi k)],[]⟩
theorem f64 (a b:List En) (ha:gq a):aA Tryz.prog G 64 [jI a,jI b,.con (.func (.func 65) #[] #[])] (db (decide (a=b))):=by
 refine aA.walk (aj:=nP) (keep:=[]) follows Tryz.func64 rfl Tryz.call64 ?_
 refine aC (fun ZT ZW ZQ _=>(((((↑a.length:Int) != ↑b.length)=true)→(((db false):DV)=(db (decide (a=b)))))∧((((↑a.length:Int) != ↑b.length)=false)→ZW [cd Tryz.f64 [1,1,0,1,0],(.blk 0),cd Tryz.f64 [1,1,1]] (aB ZT [1]) ZQ))) (by kernel_rfl) ?_
 refine⟨fun hne=>?_,fun heq=>?_⟩
 ·rw[decide_eq_false]
  rintro rfl
  simp at hne
 have heq:a.length=b.length:=by
  have h0:(a.length:Int)=b.length:=by simpa using heq
  omega
 obtain ⟨hl,he⟩:=ha
 refine aX.loop (c:=aU (au Tryz.f64) [1,1,0,1,0,0]) (by kernel_rfl) (S64 a b) (fun k=>k≤a.length∧∀i,i<k→a.getD i en0=b.getD i en0) (fun k=>a.length-k) 0 ?_ ⟨Nat.zero_le _,fun i hi=>absurd hi (Nat.not_lt_zero _)⟩ ?_
 ·exact AS.bD (by kernel_rfl)
 ·rintro k ⟨hk,hkd⟩
  refine dh (aj:=nP) ?_
  refine aV (fun ZT ZW ZQ ZK ZA _=>(fun Za Zb=>((((decide ((↑k:Int)<↑a.length))=true)→(((0≤(↑k:Int))∧((↑k:Int)<↑a.length))∧((0≤(↑k:Int))∧((↑k:Int)<↑b.length))∧ZK 65 [(.agg [(ds (a.getD (↑k:Int).toNat en0).k.st),(ds (a.getD (↑k:Int).toNat en0).k.ex),(di (a.getD (↑k:Int).toNat en0).k.n),(di (a.getD (↑k:Int).toNat en0).t),(ds (a.getD (↑k:Int).toNat en0).s),(.slc 4 (a.getD (↑k:Int).toNat en0).gs.length (dP (a.getD (↑k:Int).toNat en0).gs)),(.slc 6 (a.getD (↑k:Int).toNat en0).ah.length (dI (a.getD (↑k:Int).toNat en0).ah))]),(.agg [(ds (b.getD (↑k:Int).toNat en0).k.st),(ds (b.getD (↑k:Int).toNat en0).k.ex),(di (b.getD (↑k:Int).toNat en0).k.n),(di (b.getD (↑k:Int).toNat en0).t),(ds (b.getD (↑k:Int).toNat en0).s),(.slc 4 (b.getD (↑k:Int).toNat en0).gs.length (dP (b.getD (↑k:Int).toNat en0).gs)),(.slc 6 (b.getD (↑k:Int).toNat en0).ah.length (dI (b.getD (↑k:Int).toNat en0).ah))])] (db (decide (qU Za=qU Zb)))∧(((!decide (qU Za=qU Zb))=true)→(((db false):DV)=(db (decide (a=b)))))∧(((!decide (qU Za=qU Zb))=false)→((I64 (↑k+1))∧(ZA (aB ZT [0,1]))))))∧(((decide ((↑k:Int)<↑a.length))=false)→ZW [cd Tryz.f64 [1,1,1]] (aB ZT [1]) ZQ))) (DV.agg [DV.con (Value.string (a.getD (↑k:Int).toNat en0).k.st),DV.con (Value.string (a.getD (↑k:Int).toNat en0).k.ex),DV.con (Value.int IntKind.i64 (a.getD (↑k:Int).toNat en0).k.n),DV.con (Value.int IntKind.i64 (a.getD (↑k:Int).toNat en0).t),DV.con (Value.string (a.getD (↑k:Int).toNat en0).s),DV.slc 4 (a.getD (↑k:Int).toNat en0).gs.length (dP (a.getD (↑k:Int).toNat en0).gs),DV.slc 6 (a.getD (↑k:Int).toNat en0).ah.length (dI (a.getD (↑k:Int).toNat en0).ah)]) (DV.agg [DV.con (Value.string (b.getD (↑k:Int).toNat en0).k.st),DV.con (Value.string (b.getD (↑k:Int).toNat en0).k.ex),DV.con (Value.int IntKind.i64 (b.getD (↑k:Int).toNat en0).k.n),DV.con (Value.int IntKind.i64 (b.getD (↑k:Int).toNat en0).t),DV.con (Value.string (b.getD (↑k:Int).toNat en0).s),DV.slc 4 (b.getD (↑k:Int).toNat en0).gs.length (dP (b.getD (↑k:Int).toNat en0).gs),DV.slc 6 (b.getD (↑k:Int).toNat en0).ah.length (dI (b.getD (↑k:Int).toNat en0).ah)])) (by kernel_rfl) ?_
  try dsimp only
  simp only[gW,UR]
  refine⟨fun h=>?_,fun h=>?_⟩
  ·have hk2:k<a.length:=by have:=dn h;omega
   refine⟨⟨by omega,by omega⟩,⟨by omega,by omega⟩,f65 (a.getD k en0) (b.getD k en0) (he k hk2),fun h2=>?_,fun h2=>⟨⟨by omega,by omega⟩,Again.mk (k+1) ?_ ⟨hk2,fun i hi=>?_⟩ (by omega)⟩⟩
   ·rw[decide_eq_false]
    rintro rfl
    simp at h2
   ·exact AS.bD (by kernel_rfl)
   ·rcases Nat.lt_or_ge i k with h4|h4
    ·exact hkd i h4
    ·obtain rfl:i=k:=by omega
     simpa using h2
  ·simp only[decide_eq_false_iff_not] at h
   refine dh (aj:=nP) ?_
   refine aC (fun _ _ _ _=>(((db true):DV)=(db (decide (a=b))))) (by kernel_rfl) ?_
   rw[decide_eq_true (rX heq fun i hi=>hkd i (by omega))]
theorem f37 (a b:Bk) (ha:gq a.es):aA Tryz.prog G 37 [cu a,cu b] (db (decide (a=b))):=by
 refine aA.walk (aj:=nP) (keep:=[]) follows Tryz.func37 rfl Tryz.call37 ?_
 refine aC (fun _ _ _ ZK=>((((a.t==b.t)=true)→ZK 64 [(.slc 7 a.es.length (bK a.es)),(.slc 7 b.es.length (bK b.es)),(.con (.func (.func 65) ⟨[]⟩ ⟨[]⟩))] (db (decide (xL qU (DV.slc 7 a.es.length (bK a.es))=xL qU (DV.slc 7 b.es.length (bK b.es))))))∧((db (a.t==b.t&&decide (xL qU (DV.slc 7 a.es.length (bK a.es))=xL qU (DV.slc 7 b.es.length (bK b.es))))):DV)=(db (decide (a=b))))) (by kernel_rfl) ?_
 simp only[KE]
 refine⟨fun _=>f64 _ _ ha,congrArg db ?_⟩
 obtain ⟨a1,a2⟩:=a
 obtain ⟨b1,b2⟩:=b
 rw[Bool.eq_iff_iff]
 simp only[aY,beq_iff_eq,eF,Bk.mk.injEq]
theorem f34 (a b:List Ev) (ha:a.length≤1000000):aA Tryz.prog G 34 [eu a,eu b] (db (decide (a=b))):=by
 refine aA.walk (aj:=nP) (keep:=[]) follows Tryz.func34 rfl Tryz.call34 ?_
 refine aC (fun _ _ _ ZK=>(ZK 62 [(.slc 9 a.length (bW a)),(.slc 9 b.length (bW b))] (db (decide (xL jD (DV.slc 9 a.length (bW a))=xL jD (DV.slc 9 b.length (bW b)))))∧((db (decide (xL jD (DV.slc 9 a.length (bW a))=xL jD (DV.slc 9 b.length (bW b))))):DV)=(db (decide (a=b))))) (by kernel_rfl) ?_
 simp only[Rw]
 exact⟨f62 a b ha,trivial⟩
noncomputable def S23 (b:Bk) (k:Ky) (j:Nat):AS:=⟨regs Tryz.f23.ntmps [(2,.box 2 0),(3,.box 3 0),(5,vi j)],[(2,(fQ b).map .d),(3,(O5 k).map .d)]⟩
theorem f23 (b:Bk) (k:Ky) (hl:b.es.length≤1000000):aA Tryz.prog G 23 [cu b,XT k] (di (dQ b.es k)):=by
 refine aA.walk (aj:=nP) (keep:=[]) follows Tryz.func23 rfl Tryz.call23 ?_
 refine aC (fun ZT ZW ZQ _=>ZW [cd Tryz.f23 [1,0,1,0],(.blk 0),cd Tryz.f23 [1,1]] (aB ZT []) ZQ) (by kernel_rfl) ?_
 refine aX.loop (c:=aU (au Tryz.f23) [1,0,1,0,0]) (by kernel_rfl) (S23 b k) (fun j=>j≤b.es.length∧∀i,i<j→(b.es.getD i en0).k≠k) (fun j=>b.es.length-j) 0 ?_ ⟨Nat.zero_le _,fun i hi=>absurd hi (Nat.not_lt_zero _)⟩ ?_
 ·exact AS.bD (by kernel_rfl)
 ·rintro j ⟨hj,hn⟩
  refine dh (aj:=nP) ?_
  refine aV (fun ZT ZW ZQ _ ZA _=>(fun Za=>((((decide ((↑j:Int)<↑b.es.length))=true)→(((0≤(↑j:Int))∧((↑j:Int)<↑b.es.length))∧((Za=true)→(((di (↑j)):DV)=(di (dQ b.es k))))∧((Za=false)→((I64 (↑j+1))∧(ZA (aB ZT [0,1]))))))∧(((decide ((↑j:Int)<↑b.es.length))=false)→ZW [cd Tryz.f23 [1,1]] (aB ZT [1]) ZQ))) (Bool.rec false ((b.es.getD (↑j:Int).toNat en0).k.ex.toList==k.ex.toList&&(b.es.getD (↑j:Int).toNat en0).k.n==k.n) ((b.es.getD (↑j:Int).toNat en0).k.st.toList==k.st.toList))) (by kernel_rfl) ?_
  try dsimp only
  simp only[gW,oq,II]
  refine⟨fun h=>?_,fun h=>?_⟩
  ·have hj2:j<b.es.length:=by have:=dn h;omega
   refine⟨⟨by omega,by omega⟩,fun h2=>?_,fun h2=>⟨⟨by omega,by omega⟩,Again.mk (j+1) ?_ ⟨hj2,fun i hi=>?_⟩ (by omega)⟩⟩
   ·rw[Po hj2 hn (dn h2)]
   ·exact AS.bD (by kernel_rfl)
   ·rcases Nat.lt_or_ge i j with h4|h4
    ·exact hn i h4
    ·obtain rfl:i=j:=by omega
     exact of_decide_eq_false h2
  ·refine dh (aj:=nP) ?_
   refine aC (fun _ _ _ _=>(((di (-1)):DV)=(di (dQ b.es k)))) (by kernel_rfl) ?_
   have hj2:j=b.es.length:=by have:=of_decide_eq_false h;omega
   subst hj2
   rw[Jj hn]
noncomputable def S17 (a b:Bk) (i:Nat):AS:=⟨regs Tryz.f17.ntmps [(2,.box 2 0),(3,.box 3 0),(5,vi i)],[(2,(fQ a).map .d),(3,(fQ b).map .d)]⟩
noncomputable def adz (a b:Bk) (x y:En) (i k:Nat):AS:=⟨regs Tryz.f17.ntmps [(2,.box 2 0),(3,.box 3 0),(5,vi i),(6,.box 6 0),(7,.box 7 0),(8,vi k)],[(2,(fQ a).map .d),(3,(fQ b).map .d),(6,(wP x).map .d),(7,(wP y).map .d)]⟩
noncomputable def aez (a b:Bk) (x y:En) (i k:Nat):AS:=⟨regs Tryz.f17.ntmps [(2,.box 2 0),(3,.box 3 0),(5,vi i),(6,.box 6 0),(7,.box 7 0),(9,vi k)],[(2,(fQ a).map .d),(3,(fQ b).map .d),(6,(wP x).map .d),(7,(wP y).map .d)]⟩
noncomputable def adJ (a b:Bk) (x y:En) (i:Nat):AS:=⟨regs Tryz.f17.ntmps [(2,.box 2 0),(3,.box 3 0),(5,vi i),(6,.box 6 0),(7,.box 7 0)],[(2,(fQ a).map .d),(3,(fQ b).map .d),(6,(wP x).map .d),(7,(wP y).map .d)]⟩
theorem f17 (a b:Bk) (ha:gq a.es):aA Tryz.prog G 17 [cu a,cu b] (db (decide (a=b))):=by
 refine aA.walk (aj:=nP) (keep:=[]) follows Tryz.func17 rfl Tryz.call17 ?_
 refine aC (fun ZT ZW ZQ _=>((((a.t != b.t||(↑a.es.length:Int) != ↑b.es.length)=true)→(((db false):DV)=(db (decide (a=b)))))∧(((a.t != b.t||(↑a.es.length:Int) != ↑b.es.length)=false)→ZW [cd Tryz.f17 [1,1,0,1,0],(.blk 0),cd Tryz.f17 [1,1,1]] (aB ZT [1]) ZQ))) (by kernel_rfl) ?_
 refine⟨fun hne=>?_,fun PW=>?_⟩
 ·rw[decide_eq_false]
  rintro rfl
  simp at hne
 have ht:a.t=b.t:=by
  simp only[Bool.or_eq_false_iff] at PW
  simpa using PW.1
 have heq:a.es.length=b.es.length:=by
  simp only[Bool.or_eq_false_iff] at PW
  have h0:(a.es.length:Int)=b.es.length:=by simpa using PW.2
  omega
 clear PW
 obtain ⟨hl,he⟩:=ha
 have hno:∀i,i<a.es.length→a.es.getD i en0≠b.es.getD i en0→db false=db (decide (a=b)):=by
  intro i hi hn
  rw[decide_eq_false]
  rintro rfl
  exact hn rfl
 refine aX.loop (c:=aU (au Tryz.f17) [1,1,0,1,0,0]) (by kernel_rfl) (S17 a b) (fun k=>k≤a.es.length∧∀i,i<k→a.es.getD i en0=b.es.getD i en0) (fun k=>a.es.length-k) 0 ?_ ⟨Nat.zero_le _,fun i hi=>absurd hi (Nat.not_lt_zero _)⟩ ?_
 ·exact AS.bD (by kernel_rfl)
 ·rintro i ⟨hi,hkd⟩
  refine walk (aj:=nP) (keep:=[]) (cuts:=[7]) (n:=1000) follows ?_
  refine aV (fun ZT ZW ZQ _ _ ZR=>((((decide ((↑i:Int)<↑a.es.length))=true)→((((0≤(↑i:Int))∧((↑i:Int)<↑a.es.length))∧(0≤(↑i:Int))∧((↑i:Int)<↑b.es.length))∧ZW [cd Tryz.f17 [1,1,0,1,0,0,1,0,0,1,0],cd Tryz.f17 [1,1,0,1,0,0,1,0,0,1,1],(.blk 1),cd Tryz.f17 [1,1,0,1,0,0,1,1]] (aB ZT [0]) ZR))∧(((decide ((↑i:Int)<↑a.es.length))=false)→ZW [cd Tryz.f17 [1,1,1]] (aB ZT [1]) ZQ))) (by kernel_rfl) ?_
  refine⟨fun h=>?_,fun h=>?_⟩
  ·have hi2:i<a.es.length:=by have:=dn h;omega
   refine⟨⟨⟨by omega,by omega⟩,by omega,by omega⟩,?_⟩
   refine aX.weaken (st':=adJ a b (a.es.getD i en0) (b.es.getD i en0) i) ?_ ?_
   ·refine AS.leZ [] [2,3] (b:=((T0∧T0∧T0∧T0∧T0∧True)∧T0∧T0∧((some [(vs (a.es.getD (↑i:Int).toNat en0).k.st),(vs (a.es.getD (↑i:Int).toNat en0).k.ex),(vi (a.es.getD (↑i:Int).toNat en0).k.n),(vi (a.es.getD (↑i:Int).toNat en0).t),(vs (a.es.getD (↑i:Int).toNat en0).s),(.d (.slc 4 (a.es.getD (↑i:Int).toNat en0).gs.length (dP (a.es.getD (↑i:Int).toNat en0).gs))),(.d (.slc 6 (a.es.getD (↑i:Int).toNat en0).ah.length (dI (a.es.getD (↑i:Int).toNat en0).ah)))]):dS)=(some [(vs (a.es.getD i en0).k.st),(vs (a.es.getD i en0).k.ex),(vi (a.es.getD i en0).k.n),(vi (a.es.getD i en0).t),(vs (a.es.getD i en0).s),(.d (.slc 4 (a.es.getD i en0).gs.length (dP (a.es.getD i en0).gs))),(.d (.slc 6 (a.es.getD i en0).ah.length (dI (a.es.getD i en0).ah)))])∧((some [(vs (b.es.getD (↑i:Int).toNat en0).k.st),(vs (b.es.getD (↑i:Int).toNat en0).k.ex),(vi (b.es.getD (↑i:Int).toNat en0).k.n),(vi (b.es.getD (↑i:Int).toNat en0).t),(vs (b.es.getD (↑i:Int).toNat en0).s),(.d (.slc 4 (b.es.getD (↑i:Int).toNat en0).gs.length (dP (b.es.getD (↑i:Int).toNat en0).gs))),(.d (.slc 6 (b.es.getD (↑i:Int).toNat en0).ah.length (dI (b.es.getD (↑i:Int).toNat en0).ah)))]):dS)=(some [(vs (b.es.getD i en0).k.st),(vs (b.es.getD i en0).k.ex),(vi (b.es.getD i en0).k.n),(vi (b.es.getD i en0).t),(vs (b.es.getD i en0).s),(.d (.slc 4 (b.es.getD i en0).gs.length (dP (b.es.getD i en0).gs))),(.d (.slc 6 (b.es.getD i en0).ah.length (dI (b.es.getD i en0).ah)))])∧True)) (by kernel_rfl) (by kernel_rfl) ?_
    exact⟨⟨rfl,rfl,rfl,rfl,rfl,trivial⟩,rfl,rfl,rfl,rfl,trivial⟩
   have hn:=hno i hi2
   obtain ⟨hg,has⟩:=he i hi2
   have Py:a.es.getD i en0=b.es.getD i en0→∀i',i' < i+1→a.es.getD i' en0=b.es.getD i' en0:=fun e i' h'=>by
    rcases Nat.lt_or_ge i' i with h4|h4
    ·exact hkd i' h4
    ·obtain rfl:i'=i:=by omega
     exact e
   generalize a.es.getD i en0=x at hn hg has Py
   generalize b.es.getD i en0=y at hn Py
   refine dh (aj:=nP) ?_
   refine aV (fun ZT ZW _ _ _ ZR=>(fun Za=>(((Za=true)→(((db false):DV)=(db (decide (a=b)))))∧((Za=false)→ZW [cd Tryz.f17 [1,1,0,1,0,0,1,0,0,1,1,0,1,0],(.blk 2),cd Tryz.f17 [1,1,0,1,0,0,1,0,0,1,1,1],(.blk 1),cd Tryz.f17 [1,1,0,1,0,0,1,1]] (aB ZT [1]) ZR))) (!Bool.rec false (x.k.ex.toList==y.k.ex.toList&&x.k.n==y.k.n) (x.k.st.toList==y.k.st.toList)||x.t != y.t||!x.s.toList==y.s.toList||(↑x.gs.length:Int) != (↑y.gs.length:Int)||(↑x.ah.length:Int) != ↑y.ah.length)) (by kernel_rfl) ?_
   try dsimp only
   simp only[oq,II]
   refine⟨fun h=>?_,fun h=>?_⟩
   ·refine hn ?_
    rintro rfl
    simp[IE] at h
   simp only[Bool.or_eq_false_iff,Bool.not_eq_false',bne_eq_false_iff_eq,Int.natCast_inj,dJ,eF,IE] at h
   obtain ⟨⟨⟨⟨q1,q2⟩,q3⟩,q4⟩,q5⟩:=h
   refine aX.loop (c:=aU (au Tryz.f17) [1,1,0,1,0,0,1,0,0,1,1,0,1,0,0]) (by kernel_rfl) (adz a b x y i) (fun k=>k≤x.gs.length∧∀i,i<k→x.gs.getD i dR=y.gs.getD i dR) (fun k=>x.gs.length-k) 0 ?_ ⟨Nat.zero_le _,fun i hi=>absurd hi (Nat.not_lt_zero _)⟩ ?_
   ·exact AS.bD (by kernel_rfl)
   rintro k ⟨hk,hkg⟩
   refine dh (aj:=nP) ?_
   refine aV (fun ZT ZW ZQ _ ZA _=>(fun Za=>((((decide ((↑k:Int)<↑x.gs.length))=true)→((((0≤(↑k:Int))∧((↑k:Int)<↑x.gs.length))∧(0≤(↑k:Int))∧((↑k:Int)<↑y.gs.length))∧((Za=true)→(((db false):DV)=(db (decide (a=b)))))∧((Za=false)→((I64 (↑k+1))∧(ZA (aB ZT [0,1]))))))∧(((decide ((↑k:Int)<↑x.gs.length))=false)→ZW [cd Tryz.f17 [1,1,0,1,0,0,1,0,0,1,1,1],(.blk 1),cd Tryz.f17 [1,1,0,1,0,0,1,1]] (aB ZT [1]) ZQ))) (!Bool.rec false ((x.gs.getD (↑k:Int).toNat dR).h==(y.gs.getD (↑k:Int).toNat dR).h&&((x.gs.getD (↑k:Int).toNat dR).t==(y.gs.getD (↑k:Int).toNat dR).t&&(x.gs.getD (↑k:Int).toNat dR).s.toList==(y.gs.getD (↑k:Int).toNat dR).s.toList)) ((x.gs.getD (↑k:Int).toNat dR).v==(y.gs.getD (↑k:Int).toNat dR).v))) (by kernel_rfl) ?_
   try dsimp only
   simp only[gW,oq,VG]
   refine⟨fun h=>?_,fun h=>?_⟩
   ·have hk2:k<x.gs.length:=by have:=dn h;omega
    refine⟨⟨⟨by omega,by omega⟩,by omega,by omega⟩,fun h2=>?_,fun h2=>⟨⟨by omega,by omega⟩,Again.mk (k+1) ?_ ⟨hk2,fun i hi=>?_⟩ (by omega)⟩⟩
    ·refine hn ?_
     rintro rfl
     simp at h2
    ·exact AS.bD (by kernel_rfl)
    ·rcases Nat.lt_or_ge i k with h4|h4
     ·exact hkg i h4
     ·obtain rfl:i=k:=by omega
      simpa using h2
   have hge:x.gs=y.gs:=rX q4 fun i hi=>hkg i (by have:=of_decide_eq_false h;omega)
   clear hk hkg h
   refine dh (aj:=nP) ?_
   refine aV (fun ZT ZW _ _ _ ZR=>ZW [cd Tryz.f17 [1,1,0,1,0,0,1,0,0,1,1,1,1,0],(.blk 4),(.blk 1),cd Tryz.f17 [1,1,0,1,0,0,1,1]] (aB ZT []) ZR) (by kernel_rfl) ?_
   refine aX.loop (c:=aU (au Tryz.f17) [1,1,0,1,0,0,1,0,0,1,1,1,1,0,0]) (by kernel_rfl) (aez a b x y i) (fun k=>k≤x.ah.length∧∀i,i<k→x.ah.getD i bZ=y.ah.getD i bZ) (fun k=>x.ah.length-k) 0 ?_ ⟨Nat.zero_le _,fun i hi=>absurd hi (Nat.not_lt_zero _)⟩ ?_
   ·exact AS.bD (by kernel_rfl)
   rintro k ⟨hk,hka⟩
   refine dh (aj:=nP) ?_
   refine aV (fun ZT ZW ZQ _ ZA _=>(fun Za=>((((decide ((↑k:Int)<↑x.ah.length))=true)→((((0≤(↑k:Int))∧((↑k:Int)<↑x.ah.length))∧(0≤(↑k:Int))∧((↑k:Int)<↑y.ah.length))∧((Za=true)→(((db false):DV)=(db (decide (a=b)))))∧((Za=false)→((I64 (↑k+1))∧(ZA (aB ZT [0,1]))))))∧(((decide ((↑k:Int)<↑x.ah.length))=false)→ZW [(.blk 1),cd Tryz.f17 [1,1,0,1,0,0,1,1]] (aB ZT [1]) ZQ))) (!Bool.rec false ((x.ah.getD (↑k:Int).toNat bZ).s.toList==(y.ah.getD (↑k:Int).toNat bZ).s.toList&&((x.ah.getD (↑k:Int).toNat bZ).dec==(y.ah.getD (↑k:Int).toNat bZ).dec&&((x.ah.getD (↑k:Int).toNat bZ).acc==(y.ah.getD (↑k:Int).toNat bZ).acc&&((x.ah.getD (↑k:Int).toNat bZ).at_==(y.ah.getD (↑k:Int).toNat bZ).at_&&(x.ah.getD (↑k:Int).toNat bZ).ans.toList==(y.ah.getD (↑k:Int).toNat bZ).ans.toList)))) ((x.ah.getD (↑k:Int).toNat bZ).t==(y.ah.getD (↑k:Int).toNat bZ).t))) (by kernel_rfl) ?_
   try dsimp only
   simp only[gW,oq,UE]
   refine⟨fun h=>?_,fun h=>?_⟩
   ·have hk2:k<x.ah.length:=by have:=dn h;omega
    refine⟨⟨⟨by omega,by omega⟩,by omega,by omega⟩,fun h2=>?_,fun h2=>⟨⟨by omega,by omega⟩,Again.mk (k+1) ?_ ⟨hk2,fun i hi=>?_⟩ (by omega)⟩⟩
    ·refine hn ?_
     rintro rfl
     simp at h2
    ·exact AS.bD (by kernel_rfl)
    ·rcases Nat.lt_or_ge i k with h4|h4
     ·exact hka i h4
     ·obtain rfl:i=k:=by omega
      simpa using h2
   have hae:x.ah=y.ah:=rX q5 fun i hi=>hka i (by have:=of_decide_eq_false h;omega)
   clear hk hka h
   have hxy:x=y:=by
    obtain ⟨x1,x2,x3,x4,x5⟩:=x
    obtain ⟨y1,y2,y3,y4,y5⟩:=y
    simp only at q1 q2 q3 hge hae
    rw[q1,q2,q3,hge,hae]
   refine dh (aj:=nP) ?_
   refine aV (fun ZT _ _ _ ZA _=>((I64 (↑i+1))∧(ZA (aB ZT [])))) (by kernel_rfl) ?_
   refine⟨⟨by omega,by omega⟩,Again.mk (i+1) ?_ ⟨hi2,Py hxy⟩ (by omega)⟩
   exact AS.bD (by kernel_rfl)
  ·refine dh (aj:=nP) ?_
   refine aC (fun _ _ _ _=>(((db true):DV)=(db (decide (a=b))))) (by kernel_rfl) ?_
   obtain ⟨at1,ae⟩:=a
   obtain ⟨bt,be⟩:=b
   simp only at ht heq hkd h
   subst ht
   have:=of_decide_eq_false h
   rw[decide_eq_true (by rw[rX heq fun i hi=>hkd i (by omega)])]
end Go.Proofs
namespace Go.Proofs
def swp (σ:Nat→Nat) (i j:Nat):Nat→Nat:=fun k=>if k=i then σ j else if k=j then σ i else σ k
def iI (σ:Nat→Nat) (a b n:Nat):Nat→Nat:=fun k=>if a≤k∧k<a+n then σ (k-a+b) else if b≤k∧k<b+n then σ (k-b+a) else σ k
theorem Wj (σ:Nat→Nat) (a b:Nat):iI σ a b 0=σ:=by
 funext k
 unfold iI
 rw[if_neg (by omega),if_neg (by omega)]
theorem WT (σ:Nat→Nat) (a b n:Nat) (h:a+n<b):swp (iI σ a b n) (a+n) (b+n)=iI σ a b (n+1):=by
 funext k
 unfold swp iI
 repeat' split
 all_goals first
  | rfl
  | (exfalso;omega)
  | (congr 1;omega)
def dF (σ:Nat→Nat) (s i j:Nat):Nat→Nat:=fun k=>if s≤k∧k<s+j then σ (k+i) else if s+j≤k∧k<s+j+i then σ (k-j) else σ k
def Hq (m:Nat):Nat→Nat→Nat→(Nat→Nat)→(Nat→Nat)
 | 0,_,_,σ=>σ
 | n+1,i,j,σ=>if i=j then iI σ (m-i) m i else if j<i then Hq m n (i-j) j (iI σ (m-i) m j) else Hq m n i (j-i) (iI σ (m-i) (m+j-i) i)
theorem uP (m:Nat):∀(n i j:Nat) (σ:Nat→Nat),i+j≤n→0<i→0<j→i≤m→Hq m n i j σ=dF σ (m-i) i j
 | 0,i,j,σ,h,h1,_,_=>by omega
 | n+1,i,j,σ,h,h1,h2,h3=>by
  unfold Hq
  by_cases e:i=j
  ·subst e
   rw[if_pos rfl]
   funext k
   unfold iI dF
   repeat' split
   all_goals first
    | rfl
    | (exfalso;omega)
    | (congr 1;omega)
  ·rw[if_neg e]
   by_cases c:j<i
   ·rw[if_pos c,uP m n (i-j) j _ (by omega) (by omega) h2 (by omega)]
    funext k
    unfold dF
    dsimp only[iI]
    repeat' split
    all_goals first
     | rfl
     | (exfalso;omega)
     | (congr 1;omega)
   ·rw[if_neg c,uP m n i (j-i) _ (by omega) h1 (by omega) h3]
    funext k
    unfold dF
    dsimp only[iI]
    repeat' split
    all_goals first
     | rfl
     | (exfalso;omega)
     | (congr 1;omega)
def jB (p:Nat→Bool):Nat→Nat→Nat→Nat
 | 0,i,_=>i
 | n+1,i,j=>if i<j then (if p ((i+j) / 2)=true then jB p n ((i+j) / 2+1) j else jB p n i ((i+j) / 2)) else i
theorem yj {p:Nat→Bool}:∀{n i j:Nat},i≤j→j-i≤n→(∀k l,i≤k→k≤l→l<j→p l=true→p k=true)→i≤jB p n i j∧jB p n i j≤j∧(∀k,i≤k→k<jB p n i j→p k=true)∧∀k,jB p n i j≤k→k<j→p k=false
 | 0,i,j,h,hn,_=>by
  unfold jB
  exact⟨Nat.le_refl _,h,fun k a b=>by omega,fun k a b=>by omega⟩
 | n+1,i,j,h,hn,hm=>by
  unfold jB
  by_cases c:i<j
  ·rw[if_pos c]
   by_cases d:p ((i+j) / 2)=true
   ·rw[if_pos d]
    obtain ⟨q1,q2,q3,q4⟩:=yj (p:=p) (n:=n) (i:=(i+j) / 2+1) (j:=j) (by omega) (by omega) fun k l a b c d=>hm k l (by omega) b c d
    refine⟨by omega,q2,fun k a b=>?_,q4⟩
    by_cases e:k≤(i+j) / 2
    ·exact hm k _ a e (by omega) d
    ·exact q3 k (by omega) b
   ·rw[if_neg d]
    obtain ⟨q1,q2,q3,q4⟩:=yj (p:=p) (n:=n) (i:=i) (j:=(i+j) / 2) (by omega) (by omega) fun k l a b c d=>hm k l a b (by omega) d
    refine⟨q1,by omega,q3,fun k a b=>?_⟩
    by_cases e:k<(i+j) / 2
    ·exact q4 k a e
    ·cases hk:p k with
     | false=>rfl
     | true=>exact absurd (hm _ k (by omega) (by omega) b hk) d
  ·rw[if_neg c]
   exact⟨Nat.le_refl _,h,fun k a b=>by omega,fun k a b=>by omega⟩
section
variable (κ:Nat→Int)
def ltK (x y:Nat):Prop:=κ x<κ y∨(κ x=κ y∧x<y)
def xW (σ:Nat→Nat) (a b:Nat):Prop:=∀i j,a≤i→i<j→j<b→ltK κ (σ i) (σ j)
variable {κ}
theorem Lp {x y z:Nat} (h:ltK κ x y) (k:ltK κ y z):ltK κ x z:=by
 unfold ltK at *;omega
theorem JH {x:Nat}:¬ltK κ x x:=by unfold ltK;omega
structure jH (σ τ:Nat→Nat) (a b:Nat):Prop where
 out:∀k,¬(a≤k∧k<b)→τ k=σ k
 to:∀i,a≤i→i<b→∃j,a≤j∧j<b∧τ i=σ j
 from_:∀j,a≤j→j<b→∃i,a≤i∧i<b∧τ i=σ j
theorem jH.refl (σ:Nat→Nat) (a b:Nat):jH σ σ a b:=⟨fun _ _=>rfl,fun i h k=>⟨i,h,k,rfl⟩,fun i h k=>⟨i,h,k,rfl⟩⟩
theorem jH.trans {σ τ ρ:Nat→Nat} {a b:Nat} (h:jH σ τ a b) (k:jH τ ρ a b):jH σ ρ a b:=by
 refine⟨fun i hi=>(k.out i hi).trans (h.out i hi),fun i h1 h2=>?_,fun j h1 h2=>?_⟩
 ·obtain ⟨j,a1,a2,a3⟩:=k.to i h1 h2
  obtain ⟨l,b1,b2,b3⟩:=h.to j a1 a2
  exact⟨l,b1,b2,a3.trans b3⟩
 ·obtain ⟨i,a1,a2,a3⟩:=h.from_ j h1 h2
  obtain ⟨l,b1,b2,b3⟩:=k.from_ i a1 a2
  exact⟨l,b1,b2,b3.trans a3⟩
theorem jH.mono {σ τ:Nat→Nat} {a b a' b':Nat} (h:jH σ τ a b) (h1:a'≤a) (h2:b≤b'):jH σ τ a' b':=by
 refine⟨fun k hk=>h.out k (by omega),fun i q1 q2=>?_,fun j q1 q2=>?_⟩
 ·by_cases c:a≤i∧i<b
  ·obtain ⟨j,a1,a2,a3⟩:=h.to i c.1 c.2
   exact⟨j,by omega,by omega,a3⟩
  ·exact⟨i,q1,q2,h.out i c⟩
 ·by_cases c:a≤j∧j<b
  ·obtain ⟨i,a1,a2,a3⟩:=h.from_ j c.1 c.2
   exact⟨i,by omega,by omega,a3⟩
  ·exact⟨j,q1,q2,h.out j c⟩
theorem H6 (σ:Nat→Nat) (s i j:Nat):jH σ (dF σ s i j) s (s+i+j):=by
 refine⟨fun k hk=>?_,fun k h1 h2=>?_,fun k h1 h2=>?_⟩
 ·unfold dF
  rw[if_neg (by omega),if_neg (by omega)]
 ·unfold dF
  by_cases c:s≤k∧k<s+j
  ·exact⟨k+i,by omega,by omega,by rw[if_pos c]⟩
  ·exact⟨k-j,by omega,by omega,by rw[if_neg c,if_pos (by omega)]⟩
 ·by_cases c:k<s+i
  ·refine⟨k+j,by omega,by omega,?_⟩
   unfold dF
   rw[if_neg (by omega),if_pos (by omega)]
   congr 1;omega
  ·refine⟨k-i,by omega,by omega,?_⟩
   unfold dF
   rw[if_pos (by omega)]
   congr 1;omega
end
end Go.Proofs
namespace Go.Proofs
variable (κ:Nat→Int)
def gG:Nat→Nat→Nat→Nat→(Nat→Nat)→(Nat→Nat)
 | 0,_,_,_,σ=>σ
 | n+1,a,m,b,σ=>
  if m-a=1 then dF σ a 1 (jB (fun h=>decide (κ (σ h)<κ (σ a))) (b-m) m b-m)
  else if b-m=1 then dF σ (jB (fun h=>!decide (κ (σ m)<κ (σ h))) (m-a) a m) (m-jB (fun h=>!decide (κ (σ m)<κ (σ h))) (m-a) a m) 1
  else
   let mid:=(a+b) / 2
   let s0:=if mid<m then mid+m-b else a
   let r0:=if mid<m then mid else m
   let st:=jB (fun c=>!decide (κ (σ (mid+m-1-c))<κ (σ c))) (r0-s0) s0 r0
   let en:=mid+m-st
   let σ1:=dF σ st (m-st) (en-m)
   let σ2:=if a<st∧st<mid then gG n a st mid σ1 else σ1
   if mid<en∧en<b then gG n mid en b σ2 else σ2
variable {κ}
theorem Jy (σ:Nat→Nat) (s i j:Nat) (h:i=0∨j=0):dF σ s i j=σ:=by
 funext k
 unfold dF
 repeat' split
 all_goals first
  | rfl
  | (exfalso;omega)
  | (congr 1;omega)
theorem ZU {x y:Nat} (h:ltK κ x y):κ x≤κ y:=by unfold ltK at h;omega
theorem tC {σ:Nat→Nat} {a b i j:Nat} (h:xW κ σ a b) (h1:a≤i) (h2:i≤j) (h3:j<b):κ (σ i)≤κ (σ j):=by
 by_cases c:i=j
 ·subst c;exact Int.le_refl _
 ·exact ZU (h i j h1 (by omega) h3)
theorem vZ {x y:Nat} (h:κ x≤κ y) (k:x<y):ltK κ x y:=by unfold ltK;omega
theorem Ap {x y:Nat} (h:κ x<κ y):ltK κ x y:=.inl h
theorem Kt:∀(n a m b:Nat) (σ:Nat→Nat),b-a≤n→a<m→m<b→xW κ σ a m→xW κ σ m b→(∀i j,a≤i→i<m→m≤j→j<b→σ i<σ j)→xW κ (gG κ n a m b σ) a b∧jH σ (gG κ n a m b σ) a b
 | 0,a,m,b,σ,h,h1,h2,_,_,_=>by omega
 | n+1,a,m,b,σ,h,h1,h2,hl,hr,hx=>by
  unfold gG
  by_cases c1:m-a=1
  ·rw[if_pos c1]
   obtain ⟨q1,q2,q3,q4⟩:=yj (p:=fun h=>decide (κ (σ h)<κ (σ a))) (n:=b-m) (i:=m) (j:=b) (by omega) (Nat.le_refl _) (fun k l e1 e2 e3 e4=>by
    have:=tC hr e1 e2 e3
    simp only[decide_eq_true_eq] at e4⊢
    omega)
   generalize jB (fun h=>decide (κ (σ h)<κ (σ a))) (b-m) m b=i at q1 q2 q3 q4
   have hm:m=a+1:=by omega
   refine⟨fun u v e1 e2 e3=>?_,(H6 σ a 1 (i-m)).mono (Nat.le_refl _) (by omega)⟩
   unfold dF
   by_cases u1:u<a+(i-m)
   ·rw[if_pos (by omega)]
    by_cases v1:v<a+(i-m)
    ·rw[if_pos (by omega)]
     exact hr _ _ (by omega) (by omega) (by omega)
    ·rw[if_neg (by omega)]
     by_cases v2:v<a+(i-m)+1
     ·rw[if_pos (by omega)]
      have:=q3 (u+1) (by omega) (by omega)
      have e:v-(i-m)=a:=by omega
      rw[e]
      exact Ap (by simpa using this)
     ·rw[if_neg (by omega)]
      exact hr _ _ (by omega) (by omega) e3
   ·rw[if_neg (by omega),if_neg (by omega:¬(a≤v∧v<a+(i-m))),if_neg (by omega:¬(a+(i-m)≤v∧v<a+(i-m)+1))]
    by_cases u2:u<a+(i-m)+1
    ·rw[if_pos (by omega)]
     have e:u-(i-m)=a:=by omega
     rw[e]
     have:=q4 v (by omega) e3
     exact vZ (by simp at this;exact this) (hx a v (Nat.le_refl _) h1 (by omega) e3)
    ·rw[if_neg (by omega)]
     exact hr _ _ (by omega) e2 e3
  ·rw[if_neg c1]
   by_cases c2:b-m=1
   ·rw[if_pos c2]
    obtain ⟨q1,q2,q3,q4⟩:=yj (p:=fun h=>!decide (κ (σ m)<κ (σ h))) (n:=m-a) (i:=a) (j:=m) (by omega) (Nat.le_refl _) (fun k l e1 e2 e3 e4=>by
     have:=tC hl e1 e2 e3
     simp only[Bool.not_eq_true',decide_eq_false_iff_not] at e4⊢
     omega)
    generalize jB (fun h=>!decide (κ (σ m)<κ (σ h))) (m-a) a m=i at q1 q2 q3 q4
    have hb:b=m+1:=by omega
    refine⟨fun u v e1 e2 e3=>?_,(H6 σ i (m-i) 1).mono q1 (by omega)⟩
    unfold dF
    by_cases u1:u<i
    ·rw[if_neg (by omega),if_neg (by omega)]
     by_cases v1:v<i
     ·rw[if_neg (by omega),if_neg (by omega)]
      exact hl _ _ e1 e2 (by omega)
     ·by_cases v2:v<i+1
      ·rw[if_pos (by omega)]
       have e:v+(m-i)=m:=by omega
       rw[e]
       have:=q3 u e1 u1
       exact vZ (by simp at this;exact this) (hx u m e1 (by omega) (Nat.le_refl _) h2)
      ·rw[if_neg (by omega),if_pos (by omega)]
       exact hl _ _ e1 (by omega) (by omega)
    ·by_cases u2:u<i+1
     ·rw[if_pos (by omega),if_neg (by omega),if_pos (by omega)]
      have e:u+(m-i)=m:=by omega
      rw[e]
      have:=q4 (v-1) (by omega) (by omega)
      exact Ap (by simpa using this)
     ·rw[if_neg (by omega),if_pos (by omega),if_neg (by omega),if_pos (by omega)]
      exact hl _ _ (by omega) (by omega) (by omega)
   ·rw[if_neg c2]
    have hmid:a<(a+b) / 2∧(a+b) / 2<b∧a+b≤2*((a+b) / 2)+1∧2*((a+b) / 2)≤a+b:=by omega
    generalize (a+b) / 2=mid at hmid
    obtain ⟨d1,d2,d3,d4⟩:=hmid
    try dsimp only
    have hs:a≤(if mid<m then mid+m-b else a)∧(if mid<m then mid+m-b else a)≤(if mid<m then mid else m)∧(if mid<m then mid else m)≤m∧(if mid<m then mid else m)≤mid∧mid+m-(if mid<m then mid+m-b else a)≤b∧
      ((if mid<m then mid+m-b else a)=a∨mid+m-(if mid<m then mid+m-b else a)=b)∧((if mid<m then mid else m)=m∨(if mid<m then mid else m)=mid):=by
     split<;>omega
    generalize (if mid<m then mid+m-b else a)=s0 at hs
    generalize (if mid<m then mid else m)=r0 at hs
    obtain ⟨g1,g2,g3,g4,g5,g6,g7⟩:=hs
    obtain ⟨q1,q2,q3,q4⟩:=yj (p:=fun c=>!decide (κ (σ (mid+m-1-c))<κ (σ c))) (n:=r0-s0) (i:=s0) (j:=r0) g2 (Nat.le_refl _) (fun k l e1 e2 e3 e4=>by
     have t1:=tC hl (by omega:a≤k) e2 (by omega)
     have t2:=tC hr (by omega:m≤mid+m-1-l) (by omega:mid+m-1-l≤mid+m-1-k) (by omega)
     simp only[Bool.not_eq_true',decide_eq_false_iff_not] at e4⊢
     omega)
    generalize jB (fun c=>!decide (κ (σ (mid+m-1-c))<κ (σ c))) (r0-s0) s0 r0=st at q1 q2 q3 q4
    have hen:∃en,mid+m-st=en∧en+st=mid+m∧m≤en∧mid≤en∧en≤b:=⟨_,rfl,by omega,by omega,by omega,by omega⟩
    obtain ⟨en,e0,e1,e2,e3,e4⟩:=hen
    rw[e0]
    -- the claim: what goes to the left is ahead of what goes to the right
    have cl1:∀i j,a≤i→i<st→en≤j→j<b→ltK κ (σ i) (σ j):=fun i j f1 f2 f3 f4=>by
     refine vZ ?_ (hx i j f1 (by omega) (by omega) f4)
     have f5:s0<st:=by omega
     have:=q3 (st-1) (by omega) (by omega)
     have e:mid+m-1-(st-1)=en:=by omega
     rw[e] at this
     have this:¬κ (σ en)<κ (σ (st-1)):=by simpa using this
     have t1:=tC hl f1 (by omega:i≤st-1) (by omega)
     have t2:=tC hr e2 f3 f4
     omega
    have cl2:∀i j,m≤i→i<en→st≤j→j<m→ltK κ (σ i) (σ j):=fun i j f1 f2 f3 f4=>by
     refine Ap ?_
     have f5:st<r0:=by omega
     have:=q4 st (Nat.le_refl _) f5
     have e:mid+m-1-st=en-1:=by omega
     rw[e] at this
     have this:κ (σ (en-1))<κ (σ st):=by simpa using this
     have t1:=tC hr f1 (by omega:i≤en-1) (by omega)
     have t2:=tC hl (by omega:a≤st) f3 f4
     omega
    have r1:∀k,k<st→dF σ st (m-st) (en-m) k=σ k:=fun k f=>by unfold dF;rw[if_neg (by omega),if_neg (by omega)]
    have r2:∀k,st≤k→k<mid→dF σ st (m-st) (en-m) k=σ (k+(m-st)):=fun k f1 f2=>by unfold dF;rw[if_pos (by omega)]
    have r3:∀k,mid≤k→k<en→dF σ st (m-st) (en-m) k=σ (k-(en-m)):=fun k f1 f2=>by unfold dF;rw[if_neg (by omega),if_pos (by omega)]
    have r4:∀k,en≤k→dF σ st (m-st) (en-m) k=σ k:=fun k f=>by unfold dF;rw[if_neg (by omega),if_neg (by omega)]
    have pr:jH σ (dF σ st (m-st) (en-m)) a b:=(H6 σ st (m-st) (en-m)).mono (by omega) (by omega)
    generalize dF σ st (m-st) (en-m)=τ at r1 r2 r3 r4 pr
    have s1:xW κ τ a st:=fun i j f1 f2 f3=>by rw[r1 i (by omega),r1 j f3];exact hl i j f1 f2 (by omega)
    have s2:xW κ τ st mid:=fun i j f1 f2 f3=>by rw[r2 i f1 (by omega),r2 j (by omega) f3];exact hr _ _ (by omega) (by omega) (by omega)
    have s3:xW κ τ mid en:=fun i j f1 f2 f3=>by rw[r3 i f1 (by omega),r3 j (by omega) f3];exact hl _ _ (by omega) (by omega) (by omega)
    have s4:xW κ τ en b:=fun i j f1 f2 f3=>by rw[r4 i f1,r4 j (by omega)];exact hr _ _ (by omega) f2 f3
    have lr:∀i j,a≤i→i<mid→mid≤j→j<b→ltK κ (τ i) (τ j):=fun i j f1 f2 f3 f4=>by
     by_cases u:i<st
     ·rw[r1 i u]
      by_cases v:j<en
      ·rw[r3 j f3 v];exact hl _ _ f1 (by omega) (by omega)
      ·rw[r4 j (by omega)];exact cl1 i j f1 u (by omega) f4
     ·rw[r2 i (by omega) f2]
      by_cases v:j<en
      ·rw[r3 j f3 v];exact cl2 _ _ (by omega) (by omega) (by omega) (by omega)
      ·rw[r4 j (by omega)];exact hr _ _ (by omega) (by omega) f4
    -- the left half
    have L:xW κ (if a<st∧st<mid then gG κ n a st mid τ else τ) a mid∧jH τ (if a<st∧st<mid then gG κ n a st mid τ else τ) a mid:=by
     by_cases c:a<st∧st<mid
     ·rw[if_pos c]
      exact Kt n a st mid τ (by omega) c.1 c.2 s1 s2 fun i j f1 f2 f3 f4=>by
       rw[r1 i f2,r2 j f3 f4]
       exact hx _ _ f1 (by omega) (by omega) (by omega)
     ·rw[if_neg c]
      refine⟨?_,jH.refl _ _ _⟩
      by_cases c3:st≤a
      ·have:st=a:=by omega
       rw[this] at s2;exact s2
      ·have:st=mid:=by omega
       rw[this] at s1;exact s1
    generalize (if a<st∧st<mid then gG κ n a st mid τ else τ)=ρ at L
    obtain ⟨L1,L2⟩:=L
    have ro:∀k,mid≤k→ρ k=τ k:=fun k f=>L2.out k (by omega)
    have Rr:xW κ (if mid<en∧en<b then gG κ n mid en b ρ else ρ) mid b∧jH ρ (if mid<en∧en<b then gG κ n mid en b ρ else ρ) mid b:=by
     have t3:xW κ ρ mid en:=fun i j f1 f2 f3=>by rw[ro i f1,ro j (by omega)];exact s3 i j f1 f2 f3
     have t4:xW κ ρ en b:=fun i j f1 f2 f3=>by rw[ro i (by omega),ro j (by omega)];exact s4 i j f1 f2 f3
     by_cases c:mid<en∧en<b
     ·rw[if_pos c]
      exact Kt n mid en b ρ (by omega) c.1 c.2 t3 t4 fun i j f1 f2 f3 f4=>by
       rw[ro i f1,ro j (by omega),r3 i f1 f2,r4 j f3]
       exact hx _ _ (by omega) (by omega) (by omega) f4
     ·rw[if_neg c]
      refine⟨?_,jH.refl _ _ _⟩
      by_cases c3:en≤mid
      ·have:en=mid:=by omega
       rw[this] at t4;exact t4
      ·have:en=b:=by omega
       rw[this] at t3;exact t3
    generalize (if mid<en∧en<b then gG κ n mid en b ρ else ρ)=π at Rr
    obtain ⟨R1,R2⟩:=Rr
    have po:∀k,k<mid→π k=ρ k:=fun k f=>R2.out k (by omega)
    refine⟨fun i j f1 f2 f3=>?_,pr.trans ((L2.mono (Nat.le_refl _) (by omega)).trans (R2.mono (by omega) (Nat.le_refl _)))⟩
    by_cases u:mid≤i
    ·exact R1 i j u f2 f3
    ·by_cases v:j<mid
     ·rw[po i (by omega),po j v];exact L1 i j f1 f2 v
     ·obtain ⟨i',a1,a2,a3⟩:=L2.to i f1 (by omega)
      obtain ⟨j',b1,b2,b3⟩:=R2.to j (by omega) f3
      rw[po i (by omega),a3,b3,ro j' b1]
      exact lr i' j' a1 a2 b1 b2
end Go.Proofs
namespace Go.Proofs
variable (κ:Nat→Int)
def jS (a:Nat):Nat→(Nat→Nat)→(Nat→Nat)
 | 0,σ=>σ
 | j+1,σ=>if a<j+1∧κ (σ (j+1))<κ (σ j) then jS a j (swp σ (j+1) j) else σ
def uT (a:Nat):Nat→Nat→(Nat→Nat)→(Nat→Nat)
 | 0,_,σ=>σ
 | k+1,i,σ=>uT a k (i+1) (jS κ a i σ)
def jQ (a b:Nat) (σ:Nat→Nat):Nat→Nat:=uT κ a (b-(a+1)) (a+1) σ
def oP (n:Nat):Nat→Nat→(Nat→Nat)→(Nat→Nat)
 | 0,a,σ=>jQ κ a n σ
 | k+1,a,σ=>if a+20≤n then oP n k (a+20) (jQ κ a (a+20) σ) else jQ κ a n σ
def uY (n s:Nat):Nat→Nat→(Nat→Nat)→(Nat→Nat)
 | 0,_,σ=>σ
 | k+1,a,σ=>if a+2*s≤n then uY n s k (a+2*s) (gG κ (2*s) a (a+s) (a+2*s) σ) else if a+s<n then gG κ (n-a) a (a+s) n σ else σ
def nY (n:Nat):Nat→Nat→(Nat→Nat)→(Nat→Nat)
 | 0,_,σ=>σ
 | k+1,s,σ=>if s<n then nY n k (2*s) (uY κ n s (n+1) 0 σ) else σ
def iQ (n:Nat):Nat→Nat:=nY κ n n 20 (oP κ n n 0 id)
variable {κ}
theorem Eo (a:Nat):∀(j:Nat) (σ:Nat→Nat),a≤j→jH σ (jS κ a j σ) a (j+1)
 | 0,σ,h=>by unfold jS;exact jH.refl _ _ _
 | j+1,σ,h=>by
  unfold jS
  by_cases c:a<j+1∧κ (σ (j+1))<κ (σ j)
  ·rw[if_pos c]
   refine jH.trans ?_ ((Eo a j (swp σ (j+1) j) (by omega)).mono (Nat.le_refl _) (by omega))
   refine⟨fun k hk=>?_,fun i h1 h2=>?_,fun i h1 h2=>?_⟩
   ·unfold swp
    rw[if_neg (by omega),if_neg (by omega)]
   ·unfold swp
    split
    ·exact⟨j,by omega,by omega,rfl⟩
    ·split
     ·exact⟨j+1,by omega,by omega,rfl⟩
     ·exact⟨i,h1,h2,rfl⟩
   ·by_cases e1:i=j
    ·subst e1
     exact⟨i+1,by omega,by omega,by unfold swp;rw[if_pos rfl]⟩
    ·by_cases e2:i=j+1
     ·subst e2
      exact⟨j,by omega,by omega,by unfold swp;rw[if_neg (by omega),if_pos rfl]⟩
     ·exact⟨i,h1,h2,by unfold swp;rw[if_neg e2,if_neg e1]⟩
  ·rw[if_neg c]
   exact jH.refl _ _ _
theorem Lr (a:Nat):∀(j:Nat) (σ:Nat→Nat),a≤j→xW κ σ a j→(∀k,a≤k→k<j→σ k<σ j)→xW κ (jS κ a j σ) a (j+1)
 | 0,σ,h,hs,hx=>by
  unfold jS
  intro u v h1 h2 h3
  omega
 | j+1,σ,h,hs,hx=>by
  unfold jS
  by_cases c:a<j+1∧κ (σ (j+1))<κ (σ j)
  ·rw[if_pos c]
   have s1:swp σ (j+1) j j=σ (j+1):=by unfold swp;rw[if_neg (by omega),if_pos rfl]
   have s2:swp σ (j+1) j (j+1)=σ j:=by unfold swp;rw[if_pos rfl]
   have s3:∀k,k<j→swp σ (j+1) j k=σ k:=fun k hk=>by unfold swp;rw[if_neg (by omega),if_neg (by omega)]
   have ih:=Lr a j (swp σ (j+1) j) (by omega) (fun u v h1 h2 h3=>by rw[s3 u (by omega),s3 v h3];exact hs u v h1 h2 (by omega)) fun k h1 h2=>by
    rw[s3 k h2,s1];exact hx k h1 (by omega)
   have po:=Eo (κ:=κ) a j (swp σ (j+1) j) (by omega)
   intro u v h1 h2 h3
   by_cases e:v=j+1
   ·subst e
    rw[po.out (j+1) (by omega),s2]
    obtain ⟨l,l1,l2,l3⟩:=po.to u h1 h2
    rw[l3]
    by_cases e2:l=j
    ·subst e2
     rw[s1]
     exact Ap c.2
    ·rw[s3 l (by omega)]
     exact hs l j l1 (by omega) (by omega)
   ·exact ih u v h1 h2 (by omega)
  ·rw[if_neg c]
   intro u v h1 h2 h3
   by_cases e:v=j+1
   ·subst e
    refine vZ ?_ (hx u h1 h2)
    have:=tC hs h1 (by omega:u≤j) (by omega)
    have:¬κ (σ (j+1))<κ (σ j):=fun q=>c ⟨by omega,q⟩
    omega
   ·exact hs u v h1 h2 (by omega)
structure uD (κ:Nat→Int) (σ:Nat→Nat) (a b:Nat):Prop where
 gY:xW κ σ a b
 ins:∀i,a≤i→i<b→a≤σ i∧σ i<b
 all:∀j,a≤j→j<b→∃i,a≤i∧i<b∧σ i=j
theorem uD.congr {σ τ:Nat→Nat} {a b:Nat} (h:uD κ σ a b) (e:∀k,a≤k→k<b→τ k=σ k):uD κ τ a b:=by
 refine⟨fun i j h1 h2 h3=>by rw[e i h1 (by omega),e j (by omega) h3];exact h.gY i j h1 h2 h3,fun i h1 h2=>by rw[e i h1 h2];exact h.ins i h1 h2,fun j h1 h2=>?_⟩
 obtain ⟨i,a1,a2,a3⟩:=h.all j h1 h2
 exact⟨i,a1,a2,by rw[e i a1 a2];exact a3⟩
theorem QV (a:Nat):∀(k i:Nat) (σ:Nat→Nat),a≤i→uD κ σ a i→(∀j,i≤j→j<i+k→σ j=j)→uD κ (uT κ a k i σ) a (i+k)∧∀j,¬(a≤j∧j<i+k)→uT κ a k i σ j=σ j
 | 0,i,σ,h,hb,_=>⟨hb,fun _ _=>rfl⟩
 | k+1,i,σ,h,hb,hi=>by
  unfold uT
  have po:=Eo (κ:=κ) a i σ h
  have e0:=hi i (Nat.le_refl _) (by omega)
  have sr:=Lr (κ:=κ) a i σ h hb.gY fun k h1 h2=>by rw[e0];exact(hb.ins k h1 h2).2
  obtain ⟨q1,q2⟩:=QV a k (i+1) (jS κ a i σ) (by omega) ⟨sr,fun u h1 h2=>by
    obtain ⟨l,l1,l2,l3⟩:=po.to u h1 h2
    rw[l3]
    by_cases c:l=i
    ·subst c;rw[e0];omega
    ·have:=hb.ins l l1 (by omega);omega,fun j h1 h2=>by
    by_cases c:j=i
    ·subst c
     obtain ⟨l,l1,l2,l3⟩:=po.from_ j h1 h2
     exact⟨l,l1,l2,by rw[l3,e0]⟩
    ·obtain ⟨u,u1,u2,u3⟩:=hb.all j h1 (by omega)
     obtain ⟨l,l1,l2,l3⟩:=po.from_ u u1 (by omega)
     exact⟨l,l1,l2,by rw[l3,u3]⟩⟩ fun j h1 h2=>by rw[po.out j (by omega)];exact hi j (by omega) (by omega)
  have e:i+1+k=i+(k+1):=by omega
  rw[e] at q1 q2
  exact⟨q1,fun j hj=>by rw[q2 j hj,po.out j (by omega)]⟩
theorem RS {a b:Nat} {σ:Nat→Nat} (h:a<b) (hi:∀j,a≤j→j<b→σ j=j):uD κ (jQ κ a b σ) a b∧∀j,¬(a≤j∧j<b)→jQ κ a b σ j=σ j:=by
 have e:a+1+(b-(a+1))=b:=by omega
 have:=QV (κ:=κ) a (b-(a+1)) (a+1) σ (by omega) ⟨fun i j h1 h2 h3=>by omega,fun i h1 h2=>by
   have:i=a:=by omega
   subst this;rw[hi i h1 h];omega,fun j h1 h2=>⟨j,h1,h2,hi j h1 (by omega)⟩⟩ (fun j h1 h2=>hi j (by omega) (by omega))
 rw[e] at this
 exact this
def Bl (κ:Nat→Int) (n s:Nat) (σ:Nat→Nat):Prop:=(∀q,q*s<n→uD κ σ (q*s) (min (q*s+s) n))∧∀k,n≤k→σ k=k
theorem Yv (n:Nat):∀(k q:Nat) (σ:Nat→Nat),n≤q*20+k→q*20≤n→(∀p,p<q→uD κ σ (p*20) (p*20+20))→(∀j,q*20≤j→σ j=j)→Bl κ n 20 (oP κ n k (q*20) σ):=by
 have last:∀(q:Nat) (σ:Nat→Nat),q*20≤n→n<q*20+20→(∀p,p<q→uD κ σ (p*20) (p*20+20))→(∀j,q*20≤j→σ j=j)→Bl κ n 20 (jQ κ (q*20) n σ):=by
  intro q σ h1 h2 h3 h4
  by_cases c:q*20<n
  ·obtain ⟨i1,i2⟩:=RS (κ:=κ) c (fun j a _=>h4 j a)
   refine⟨fun p hp=>?_,fun k hk=>by rw[i2 k (by omega)];exact h4 k (by omega)⟩
   by_cases e:p<q
   ·have:min (p*20+20) n=p*20+20:=by omega
    rw[this]
    exact(h3 p e).congr fun k _ f=>i2 k (by omega)
   ·have e2:p=q:=by omega
    subst e2
    have:min (p*20+20) n=n:=by omega
    rw[this];exact i1
  ·have e0:jQ κ (q*20) n σ=σ:=by
    unfold jQ
    have:n-(q*20+1)=0:=by omega
    rw[this];rfl
   rw[e0]
   refine⟨fun p hp=>?_,fun k hk=>h4 k (by omega)⟩
   have:min (p*20+20) n=p*20+20:=by omega
   rw[this]
   exact h3 p (by omega)
 intro k
 induction k with
 | zero=>intro q σ h1 h2 h3 h4;exact last q σ h2 (by omega) h3 h4
 | succ k ih=>
  intro q σ h1 h2 h3 h4
  unfold oP
  by_cases c:q*20+20≤n
  ·rw[if_pos c]
   obtain ⟨i1,i2⟩:=RS (κ:=κ) (a:=q*20) (b:=q*20+20) (by omega) (fun j a _=>h4 j a)
   have e:q*20+20=(q+1)*20:=by omega
   have:=ih (q+1) (jQ κ (q*20) (q*20+20) σ) (by omega) (by omega) (fun p hp=>?_) fun j hj=>by rw[i2 j (by omega)];exact h4 j (by omega)
   ·rw[←e] at this;exact this
   ·by_cases e2:p<q
    ·exact(h3 p e2).congr fun k _ f=>i2 k (by omega)
    ·have e3:p=q:=by omega
     subst e3;exact i1
  ·rw[if_neg c]
   exact last q σ h2 (by omega) h3 h4
theorem QY {a m b n:Nat} {σ:Nat→Nat} (hn:b-a≤n) (h1:a<m) (h2:m<b) (hl:uD κ σ a m) (hr:uD κ σ m b):uD κ (gG κ n a m b σ) a b∧∀j,¬(a≤j∧j<b)→gG κ n a m b σ j=σ j:=by
 obtain ⟨s1,s2⟩:=Kt n a m b σ hn h1 h2 hl.gY hr.gY fun i j f1 f2 f3 f4=>by
  have:=hl.ins i f1 f2
  have:=hr.ins j f3 f4
  omega
 refine⟨⟨s1,fun i f1 f2=>?_,fun j f1 f2=>?_⟩,s2.out⟩
 ·obtain ⟨l,l1,l2,l3⟩:=s2.to i f1 f2
  rw[l3]
  by_cases c:l<m
  ·have:=hl.ins l l1 c;omega
  ·have:=hr.ins l (by omega) l2;omega
 ·have:∃u,a≤u∧u<b∧σ u=j:=by
   by_cases c:j<m
   ·obtain ⟨u,u1,u2,u3⟩:=hl.all j f1 c
    exact⟨u,u1,by omega,u3⟩
   ·obtain ⟨u,u1,u2,u3⟩:=hr.all j (by omega) f2
    exact⟨u,by omega,u2,u3⟩
  obtain ⟨u,u1,u2,u3⟩:=this
  obtain ⟨l,l1,l2,l3⟩:=s2.from_ u u1 u2
  exact⟨l,l1,l2,by rw[l3,u3]⟩
theorem Rz (n s:Nat) (hs:0<s):∀(k q:Nat) (σ:Nat→Nat),n<q*(2*s)+k→(∀p,p<q→uD κ σ (p*(2*s)) (p*(2*s)+2*s))→(q*(2*s)≤n)→(∀p,q*(2*s)≤p*s→p*s<n→uD κ σ (p*s) (min (p*s+s) n))→(∀j,n≤j→σ j=j)→Bl κ n (2*s) (uY κ n s k (q*(2*s)) σ)
 | 0,q,σ,h1,_,h3,_,_=>by omega
 | k+1,q,σ,h1,h2,h3,h4,h5=>by
  have e2:2*q*s=q*(2*s):=by rw[Nat.mul_comm 2 q,Nat.mul_assoc]
  have e3:(2*q+1)*s=q*(2*s)+s:=by rw[Nat.add_mul,e2,Nat.one_mul]
  have e4:(q+1)*(2*s)=q*(2*s)+2*s:=by rw[Nat.add_mul,Nat.one_mul]
  have lt:∀p,p<q→p*(2*s)+2*s≤q*(2*s):=fun p hp=>by
   have:=Nat.mul_le_mul_right (2*s) (show p+1≤q from hp)
   rw[Nat.add_mul,Nat.one_mul] at this;exact this
  have gt:∀p,q*(2*s)+2*s≤p*s→q*(2*s)+2*s≤p*s:=fun _ h=>h
  unfold uY
  by_cases c:q*(2*s)+2*s≤n
  ·rw[if_pos c]
   have b1:=h4 (2*q) (by omega) (by omega)
   have b2:=h4 (2*q+1) (by omega) (by omega)
   rw[e2] at b1
   rw[e3] at b2
   have m1:min (q*(2*s)+s) n=q*(2*s)+s:=by omega
   have m2:min (q*(2*s)+s+s) n=q*(2*s)+2*s:=by omega
   rw[m1] at b1
   rw[m2] at b2
   obtain ⟨i1,i2⟩:=QY (n:=2*s) (by omega) (by omega) (by omega) b1 b2
   have:=Rz n s hs k (q+1) (gG κ (2*s) (q*(2*s)) (q*(2*s)+s) (q*(2*s)+2*s) σ) (by omega) (fun p hp=>?_) (by omega) (fun p f1 f2=>(h4 p (by omega) f2).congr fun k g1 _=>i2 k (by omega)) fun j hj=>by rw[i2 j (by omega)];exact h5 j hj
   ·rw[e4] at this;exact this
   ·by_cases e:p<q
    ·exact(h2 p e).congr fun k _ g=>i2 k (by have:=lt p e;omega)
    ·have e5:p=q:=by omega
     subst e5;exact i1
  ·rw[if_neg c]
   have fin:∀τ:Nat→Nat,(∀j,¬(q*(2*s)≤j∧j<n)→τ j=σ j)→(q*(2*s)<n→uD κ τ (q*(2*s)) n)→Bl κ n (2*s) τ:=fun τ t1 t2=>by
    refine⟨fun p hp=>?_,fun j hj=>by rw[t1 j (by omega)];exact h5 j hj⟩
    by_cases e:p<q
    ·have:=lt p e
     have m:min (p*(2*s)+2*s) n=p*(2*s)+2*s:=by omega
     rw[m]
     exact(h2 p e).congr fun k _ g=>t1 k (by omega)
    ·by_cases e5:p=q
     ·subst e5
      have m:min (p*(2*s)+2*s) n=n:=by omega
      rw[m];exact t2 hp
     ·exfalso
      have:=Nat.mul_le_mul_right (2*s) (show q+1≤p by omega)
      omega
   by_cases c2:q*(2*s)+s<n
   ·rw[if_pos c2]
    have b1:=h4 (2*q) (by omega) (by omega)
    have b2:=h4 (2*q+1) (by omega) (by omega)
    rw[e2] at b1
    rw[e3] at b2
    have m1:min (q*(2*s)+s) n=q*(2*s)+s:=by omega
    have m2:min (q*(2*s)+s+s) n=n:=by omega
    rw[m1] at b1
    rw[m2] at b2
    obtain ⟨i1,i2⟩:=QY (n:=n-q*(2*s)) (Nat.le_refl _) (by omega) c2 b1 b2
    exact fin _ i2 fun _=>i1
   ·rw[if_neg c2]
    refine fin σ (fun _ _=>rfl) fun hq=>?_
    have b1:=h4 (2*q) (by omega) (by omega)
    rw[e2] at b1
    have m1:min (q*(2*s)+s) n=n:=by omega
    rw[m1] at b1;exact b1
theorem YJ (n:Nat):∀(k s:Nat) (σ:Nat→Nat),n≤s+k→0<s→Bl κ n s σ→uD κ (nY κ n k s σ) 0 n∧∀j,n≤j→nY κ n k s σ j=j:=by
 have base:∀(s:Nat) (σ:Nat→Nat),n≤s→Bl κ n s σ→uD κ σ 0 n∧∀j,n≤j→σ j=j:=by
  intro s σ h hb
  refine⟨?_,hb.2⟩
  by_cases c:0<n
  ·have:=hb.1 0 (by omega)
   have m:min (0*s+s) n=n:=by omega
   rw[m,Nat.zero_mul] at this
   exact this
  ·exact⟨fun i j _ _ _=>by omega,fun i _ _=>by omega,fun j _ _=>by omega⟩
 intro k
 induction k with
 | zero=>intro s σ h hs hb;exact base s σ h hb
 | succ k ih=>
  intro s σ h hs hb
  unfold nY
  by_cases c:s<n
  ·rw[if_pos c]
   have:=Rz (κ:=κ) n s hs (n+1) 0 σ (by omega) (fun p hp=>absurd hp (Nat.not_lt_zero p)) (by omega) (fun p _ f=>hb.1 p f) hb.2
   rw[Nat.zero_mul] at this
   exact ih (2*s) _ (by omega) (by omega) this
  ·rw[if_neg c]
   exact base s σ (by omega) hb
theorem Ry (n:Nat):uD κ (iQ κ n) 0 n∧∀j,n≤j→iQ κ n j=j:=by
 refine YJ n n 20 _ (by omega) (by omega) ?_
 have:=Yv (κ:=κ) n n 0 id (by omega) (by omega) (fun p hp=>absurd hp (Nat.not_lt_zero p)) fun j _=>rfl
 rw[Nat.zero_mul] at this
 exact this
end Go.Proofs
namespace Go.Proofs
variable {κ:Nat→Int}
def zU (κ:Nat→Int) (x:Nat):List Nat→List Nat
 | []=>[x]
 | a :: l=>if κ x<κ a then x :: a :: l else a :: zU κ x l
def Hf (κ:Nat→Int) (l:List Nat):List Nat:=l.foldl (fun m x=>zU κ x m) []
theorem EM (x:Nat):∀l:List Nat,(zU κ x l).Perm (x :: l)
 | []=>List.Perm.refl _
 | a :: l=>by
  unfold zU
  split
  ·exact List.Perm.refl _
  ·exact((EM x l).cons a).trans (List.Perm.swap x a l)
theorem Oo (x:Nat):∀l:List Nat,(∀y∈l,y<x)→l.Pairwise (ltK κ)→(zU κ x l).Pairwise (ltK κ)
 | [],_,_=>by unfold zU;exact List.pairwise_singleton _ _
 | a :: l,hx,h=>by
  unfold zU
  obtain ⟨h1,h2⟩:=List.pairwise_cons.1 h
  split
  ·rename_i c
   refine List.pairwise_cons.2 ⟨fun y hy=>?_,h⟩
   rcases List.mem_cons.1 hy with rfl|hy
   ·exact Ap c
   ·exact Lp (Ap c) (h1 y hy)
  ·rename_i c
   refine List.pairwise_cons.2 ⟨fun y hy=>?_,Oo x l (fun y hy=>hx y (List.mem_cons_of_mem _ hy)) h2⟩
   rcases List.mem_cons.1 ((EM x l).mem_iff.1 hy) with rfl|hy
   ·exact vZ (by omega) (hx a (by simp))
   ·exact h1 y hy
theorem Lu (l:List Nat) (x:Nat):Hf κ (l++[x])=zU κ x (Hf κ l):=by
 unfold Hf
 rw[List.foldl_append];rfl
theorem AQ:∀n,(Hf κ (List.range n)).Perm (List.range n)∧(Hf κ (List.range n)).Pairwise (ltK κ)
 | 0=>⟨List.Perm.refl _,List.Pairwise.nil⟩
 | n+1=>by
  obtain ⟨h1,h2⟩:=AQ n
  rw[List.range_succ,Lu]
  refine⟨(EM _ _).trans ((h1.cons n).trans ?_),Oo n _ (fun y hy=>?_) h2⟩
  ·exact(List.perm_append_singleton n (List.range n)).symm
  ·exact List.mem_range.1 (h1.mem_iff.1 hy)
theorem QZ {g:Nat→Ev} (hg:∀i,κ i=(g i).t) (x:Nat):∀l:List Nat,ins (g x) (l.map g)=(zU κ x l).map g
 | []=>rfl
 | a :: l=>by
  rw[List.map_cons]
  unfold ins zU
  rw[hg x,hg a]
  split
  ·rfl
  ·rw[List.map_cons,QZ hg x l]
theorem Q5 {g:Nat→Ev} (hg:∀i,κ i=(g i).t):∀n,gY ((List.range n).map g)=(Hf κ (List.range n)).map g
 | 0=>rfl
 | n+1=>by
  rw[List.range_succ,List.map_append,Lu]
  show gY (_++[g n])=_
  rw[su,Q5 hg n,QZ hg]
theorem MJ (n:Nat):(List.range n).map (iQ κ n)=Hf κ (List.range n):=by
 obtain ⟨⟨s1,s2,s3⟩,_⟩:=Ry (κ:=κ) n
 obtain ⟨p1,p2⟩:=AQ (κ:=κ) n
 have q2:((List.range n).map (iQ κ n)).Pairwise (ltK κ):=by
  rw[List.pairwise_map]
  refine List.Pairwise.imp_of_mem (R:=(· < ·)) ?_ List.pairwise_lt_range
  intro a b ha hb hab
  exact s1 a b (Nat.zero_le _) hab (List.mem_range.1 hb)
 have nd:∀{l:List Nat},l.Pairwise (ltK κ)→l.Nodup:=fun h=>h.imp fun {a b} h e=>by subst e;exact JH h
 have q1:((List.range n).map (iQ κ n)).Perm (List.range n):=by
  refine(List.perm_ext_iff_of_nodup (nd q2) List.nodup_range).2 fun x=>?_
  rw[List.mem_map,List.mem_range]
  constructor
  ·rintro ⟨i,hi,rfl⟩
   exact(s2 i (Nat.zero_le _) (List.mem_range.1 hi)).2
  ·intro hx
   obtain ⟨i,_,i2,i3⟩:=s3 x (Nat.zero_le _) hx
   exact⟨i,List.mem_range.2 i2,i3⟩
 refine List.Perm.eq_of_pairwise (le:=ltK κ) (fun a b _ _ h1 h2=>absurd (Lp h1 h2) JH) q2 p2 (q1.trans p1.symm)
theorem NR (l:List Ev) {κ:Nat→Int} (hκ:∀i,κ i=(l.getD i ev0).t):(List.range l.length).map (fun i=>l.getD (iQ κ l.length i) ev0)=gY l:=by
 have e:(List.range l.length).map (fun i=>l.getD i ev0)=l:=by
  refine List.ext_getElem (by simp) fun i h1 h2=>?_
  rw[List.getElem_map,List.getElem_range,List.getD,List.getElem?_eq_getElem h2];rfl
 have:=Q5 (g:=fun i=>l.getD i ev0) hκ l.length
 rw[e] at this
 rw[this,←MJ,List.map_map]
 rfl
end Go.Proofs
namespace Go.Proofs
open Go Go.Ab Go.RowKit
variable {G:IH}
theorem nD {x y:Int} (h:x=y):AV.d (.con (.int .i64 x))=.d (.con (.int .i64 y)):=by rw[h]
abbrev iO:DV:=.aN []
def qg (x y:Int):Int:=if x<y then -1 else if y<x then 1 else 0
theorem Vk (x y:Int):qg x y<0↔x<y:=by
 unfold qg
 split
 ·rename_i h;simp[h]
 ·rename_i h
  split<;>simp[h]
def Tf:iR:=fun f a=>match f,a with
 | 106,_=>some (db false)
 | 86,[.con (.int _ x),.con (.int _ y)]=>some (di (qg x y))
 | _,_=>none
theorem f106 (x:Int):aA Tryz.prog G 106 [di x] (db false):=by
 refine aA.walk (aj:=Tf) (keep:=[]) follows Tryz.func106 rfl Tryz.call106 ?_
 refine aC (fun _ _ _ _=>(((db (x != x)):DV)=(db false))) (by kernel_rfl) ?_
 simp
theorem f86 (x y:Int):aA Tryz.prog G 86 [di x,di y] (di (qg x y)):=by
 refine aA.walk (aj:=Tf) (keep:=[]) follows Tryz.func86 rfl Tryz.call86 ?_
 refine aC (fun _ _ _ ZK=>(ZK 106 [(di x)] (db false)∧ZK 106 [(di y)] (db false)∧((false=true)→(((false=true)→(((di 0):DV)=(di (qg x y))))∧((false=false)→(((di (-1)):DV)=(di (qg x y))))))∧((false=false)→(((false=true)→(((di 1):DV)=(di (qg x y))))∧((false=false)→((((decide (x<y))=true)→(((di (-1)):DV)=(di (qg x y))))∧(((decide (x<y))=false)→((((decide (x>y))=true)→(((di 1):DV)=(di (qg x y))))∧(((decide (x>y))=false)→(((di 0):DV)=(di (qg x y)))))))))))) (by kernel_rfl) ?_
 unfold qg
 refine⟨f106 x,f106 y,fun c=>(by cases c),fun _=>⟨fun c=>(by cases c),fun _=>⟨fun h=>?_,fun h=>⟨fun h2=>?_,fun h2=>?_⟩⟩⟩⟩
 ·rw[if_pos (dn h)]
 ·rw[if_neg (of_decide_eq_false h),if_pos (dn h2)]
 ·rw[if_neg (of_decide_eq_false h),if_neg (of_decide_eq_false h2)]
def sN (x y:Ev):Int:=qg x.t y.t
theorem qx (x y:Ev):sN x y<0↔x.t<y.t:=Vk _ _
theorem f85 (x y:Ev):aA Tryz.prog G 85 [ig x,ig y] (di (sN x y)):=by
 refine aA.walk (aj:=Tf) (keep:=[]) follows Tryz.func85 rfl Tryz.call85 ?_
 refine aC (fun _ _ _ ZK=>(ZK 86 [(di x.t),(di y.t)] (di (qg x.t y.t))∧((di (qg x.t y.t)):DV)=(di (sN x y)))) (by kernel_rfl) ?_
 exact⟨f86 _ _,rfl⟩
theorem Vw {m i j:Nat} (τ:Nat→Nat) (h:j<i) (hj:0<j) (hi:i≤m):dF τ (m-i) i j=dF (iI τ (m-i) m j) (m-(i-j)) (i-j) j:=by
 obtain ⟨n,hn⟩:∃n,i+j=n+1:=⟨i+j-1,by omega⟩
 rw[←uP m (n+1) i j τ (by omega) (by omega) hj hi,Hq,if_neg (by omega),if_pos h,uP m n (i-j) j _ (by omega) (by omega) hj (by omega)]
theorem UG {m i j:Nat} (τ:Nat→Nat) (h:i<j) (h0:0<i) (hi:i≤m):dF τ (m-i) i j=dF (iI τ (m-i) (m+j-i) i) (m-i) i (j-i):=by
 obtain ⟨n,hn⟩:∃n,i+j=n+1:=⟨i+j-1,by omega⟩
 rw[←uP m (n+1) i j τ (by omega) h0 (by omega) hi,Hq,if_neg (by omega),if_neg (by omega),uP m n i (j-i) _ (by omega) h0 (by omega) hi]
theorem WX {m i:Nat} (τ:Nat→Nat) (h0:0<i) (hi:i≤m):dF τ (m-i) i i=iI τ (m-i) m i:=by
 obtain ⟨n,hn⟩:∃n,i+i=n+1:=⟨i+i-1,by omega⟩
 rw[←uP m (n+1) i i τ (by omega) h0 h0 hi,Hq,if_pos rfl]
theorem aag (σ:Nat→Nat) (a t:Nat):swp (dF σ a 1 t) (a+t) (a+t+1)=dF σ a 1 (t+1):=by
 funext k
 unfold swp dF
 repeat' split
 all_goals first
  | rfl
  | (exfalso;omega)
  | (congr 1;omega)
theorem Xz (σ:Nat→Nat) (m t:Nat) (h:t+1≤m):swp (dF σ (m-t) t 1) (m-t) (m-t-1)=dF σ (m-(t+1)) (t+1) 1:=by
 funext k
 unfold swp dF
 repeat' split
 all_goals first
  | rfl
  | (exfalso;omega)
  | (congr 1;omega)
theorem CB {p:Nat→Bool}:∀{n n' i j:Nat},j-i≤n→j-i≤n'→jB p n i j=jB p n' i j
 | 0,0,_,_,_,_=>rfl
 | 0,n'+1,i,j,h,_=>by rw[jB,jB,if_neg (by omega)]
 | n+1,0,i,j,_,h=>by rw[jB,jB,if_neg (by omega)]
 | n+1,n'+1,i,j,h,h'=>by
  rw[jB,jB]
  by_cases c:i<j
  ·rw[if_pos c,if_pos c,CB (n:=n) (n':=n') (by omega) (by omega),CB (n:=n) (n':=n') (i:=i) (by omega) (by omega)]
  ·rw[if_neg c,if_neg c]
theorem NW {p:Nat→Bool} {i j:Nat} (h:i<j):jB p (j-i) i j=if p ((i+j) / 2)=true then jB p (j-((i+j) / 2+1)) ((i+j) / 2+1) j else jB p ((i+j) / 2-i) i ((i+j) / 2):=by
 obtain ⟨n,hn⟩:∃n,j-i=n+1:=⟨j-i-1,by omega⟩
 rw[hn,jB,if_pos h]
 rw[CB (n:=n) (n':=j-((i+j) / 2+1)) (by omega) (by omega),CB (n:=n) (n':=(i+j) / 2-i) (i:=i) (by omega) (by omega)]
theorem fdiv_pow (g k:Nat) (hk:k≤64):Int.fdiv (g:Int) (2 ^ (min k 64))=((g / 2 ^ k:Nat):Int):=by
 rw[Nat.min_eq_left hk,Int.fdiv_eq_ediv_of_nonneg _ (Int.le_of_lt (Int.pow_pos (by decide)))]
 push_cast
 rfl
theorem Zl (n:Nat) (h:n<9223372036854775808):IntKind.wrap .i64 (n:Int)=n:=IntWalk.i64_in n ⟨by omega,by omega⟩
theorem Yx (n:Nat) (h:n<18446744073709551616):IntKind.wrap .u64 (n:Int)=n:=IntWalk.u64_in n ⟨by omega,by omega⟩
theorem Xe (g k:Nat) (hk:k≤64):Int.fdiv (g:Int) (2 ^ (min k (IntKind.bits .u64)))=((g / 2 ^ k:Nat):Int):=fdiv_pow g k hk
theorem half {i j:Nat} (h:i+j≤400000000):IntKind.i64.wrap ((IntKind.u64.wrap ((i:Int)+(j:Int))).fdiv (2 ^ min (Int.toNat 1) IntKind.u64.bits))=(((i+j) / 2:Nat):Int):=by
 have e:(i:Int)+(j:Int)=((i+j:Nat):Int):=by omega
 rw[e,Yx _ (by omega),Xe _ _ (by decide)]
 exact Zl _ (by simp only[Int.toNat_one,Nat.pow_one];omega)
theorem LU {κ:Nat→Int} {n:Nat}:∀{k k' a:Nat} {σ:Nat→Nat},n-a≤k→n-a≤k'→oP κ n k a σ=oP κ n k' a σ
 | 0,0,_,_,_,_=>rfl
 | 0,k'+1,a,σ,h,_=>by rw[oP,oP,if_neg (by omega)]
 | k+1,0,a,σ,_,h=>by rw[oP,oP,if_neg (by omega)]
 | k+1,k'+1,a,σ,h,h'=>by
  rw[oP,oP]
  by_cases c:a+20≤n
  ·rw[if_pos c,if_pos c,LU (k:=k) (k':=k') (by omega) (by omega)]
  ·rw[if_neg c,if_neg c]
theorem DW {κ:Nat→Int} {n:Nat}:∀{k k' s:Nat} {σ:Nat→Nat},0<s→n-s≤k→n-s≤k'→nY κ n k s σ=nY κ n k' s σ
 | 0,0,_,_,_,_,_=>rfl
 | 0,k'+1,s,σ,_,h,_=>by rw[nY,nY,if_neg (by omega)]
 | k+1,0,s,σ,_,_,h=>by rw[nY,nY,if_neg (by omega)]
 | k+1,k'+1,s,σ,hs,h,h'=>by
  rw[nY,nY]
  by_cases c:s<n
  ·rw[if_pos c,if_pos c,DW (k:=k) (k':=k') (by omega) (by omega) (by omega)]
  ·rw[if_neg c,if_neg c]
theorem MB {κ:Nat→Int} {n s:Nat} (hs:0<s):∀{k k' a:Nat} {σ:Nat→Nat},n<a+k→n<a+k'→a≤n→uY κ n s k a σ=uY κ n s k' a σ
 | 0,_,_,_,h,_,h2=>by omega
 | _+1,0,_,_,_,h,h2=>by omega
 | k+1,k'+1,a,σ,h,h',h2=>by
  rw[uY,uY]
  by_cases c:a+2*s≤n
  ·rw[if_pos c,if_pos c,MB hs (k:=k) (k':=k') (by omega) (by omega) c]
  ·rw[if_neg c,if_neg c]
abbrev mY:RK:=⟨true,26,false,none⟩
def dO (L:Nat→Ev) (σ:Nat→Nat) (i:Nat):DV:=ig (L (σ i))
abbrev rM:AV:=.d (.con (.func (.func 85) #[] #[]))
abbrev lq (L:Nat→Ev) (σ:Nat→Nat):List (Nat×List AV):=[(1000000,[.arr mY 9 (dO L σ)])]
theorem Nr (L:Nat→Ev) (σ:Nat→Nat) (i:Nat):jD (dO L σ i)=L (σ i):=rfl
theorem FI {L:Nat→Ev} {σ:Nat→Nat} {p q i1 i2:Nat} (h1:i1=p) (h2:i2=q):(fun j=>bif Nat.beq j i2 then ig (L (σ i1)) else bif Nat.beq j i1 then ig (L (σ i2)) else dO L σ j)=dO L (swp σ p q):=by
 subst h1 h2
 funext j
 unfold dO swp
 by_cases e2:j=i2
 ·subst e2
  rw[show Nat.beq j j=true from Nat.beq_refl j,cond_true]
  by_cases e1:j=i1
  ·rw[if_pos e1,e1]
  ·rw[if_neg e1,if_pos rfl]
 ·rw[show Nat.beq j i2=false from aQ e2,cond_false]
  by_cases e1:j=i1
  ·rw[if_pos e1,show Nat.beq j i1=true from by rw[e1];exact Nat.beq_refl _,cond_true]
  ·rw[if_neg e1,if_neg e2,show Nat.beq j i1=false from aQ e1,cond_false]
noncomputable def ade (L:Nat→Ev) (σ:Nat→Nat) (n a b c k:Nat):AS:=⟨regs Tryz.f181.ntmps [(0,.vec 1000000 9 0 n),(1,vi a),(2,vi b),(3,vi c),(10,vi k)],lq L (iI σ a b k)⟩
theorem f181 (L:Nat→Ev) (σ:Nat→Nat) (n a b c:Nat) (h1:a+c≤b) (h2:b+c≤n) (hn:n≤100000000):dD Tryz.prog G 181 [.vec 1000000 9 0 n,vi a,vi b,vi c,rM] (lq L σ) (.d iO) (lq L (iI σ a b c)):=by
 refine dD.dA (mv:=[]) (by kernel_rfl) Tryz.func181 rfl Tryz.call181 ?_
 refine dh (aj:=bG) ?_
 refine aC (fun ZT ZW ZQ _=>ZW [cd Tryz.f181 [1,0],(.blk 0)] (aB ZT []) ZQ) (by kernel_rfl) ?_
 refine aX.loop (c:=aU (au Tryz.f181) [1,0,0]) (by kernel_rfl) (ade L σ n a b c) (fun k=>k≤c) (fun k=>c-k) 0 ?_ (Nat.zero_le _) ?_
 ·refine AS.leZ [] [0] (b:=((T0∧T0∧T0∧T0∧T0∧True)∧((some [(.arr bY 9 (dO L σ))]):dS)=(some [(.arr bY 9 (dO L (iI σ a b 0)))])∧True)) (by kernel_rfl) (by kernel_rfl) ?_
  exact⟨⟨rfl,rfl,rfl,rfl,rfl,trivial⟩,by rw[Wj],trivial⟩
 ·rintro k hk
  refine dh (aj:=bG) ?_
  refine aV (fun ZT ZW ZQ _ ZA _=>((((decide ((↑k:Int)<↑c))=true)→(((I64 (↑a + ↑k))∧(I64 (↑b + ↑k))∧(I64 (↑b + ↑k))∧((0≤(↑b:Int) + ↑k)∧((↑b:Int) + ↑k<↑n))∧(I64 (↑a + ↑k))∧((0≤(↑a:Int) + ↑k)∧((↑a:Int) + ↑k<↑n))∧((0≤(↑a:Int) + ↑k)∧((↑a:Int) + ↑k<↑n))∧(0≤(↑b:Int) + ↑k)∧((↑b:Int) + ↑k<↑n))∧(I64 (↑k+1))∧(ZA (aB ZT [0]))))∧(((decide ((↑k:Int)<↑c))=false)→ZW [] (aB ZT [1]) ZQ))) (by kernel_rfl) ?_
  refine⟨fun h=>?_,fun h=>?_⟩
  ·have hk2:k<c:=by have:=dn h;omega
   refine⟨?_,⟨by omega,by omega⟩,Again.mk (k+1) ?_ hk2 (by omega)⟩
   ·refine⟨⟨by omega,by omega⟩,⟨by omega,by omega⟩,⟨by omega,by omega⟩,⟨by omega,by omega⟩,⟨by omega,by omega⟩,⟨by omega,by omega⟩,⟨by omega,by omega⟩,by omega,by omega⟩
   refine AS.leZ [] [0] (b:=((T0∧T0∧T0∧T0∧T0∧True)∧((some [(.arr bY 9 (fun j=>bif Nat.beq j (0+Int.toNat ((↑b:Int)+(↑k:Int))) then DV.agg [di (Ev.kind (L (iI σ a b k (0+Int.toNat ((↑a:Int)+(↑k:Int)))))),ds (Ky.st (Ev.k (L (iI σ a b k (0+Int.toNat ((↑a:Int)+(↑k:Int))))))),ds (Ky.ex (Ev.k (L (iI σ a b k (0+Int.toNat ((↑a:Int)+(↑k:Int))))))),di (Ky.n (Ev.k (L (iI σ a b k (0+Int.toNat ((↑a:Int)+(↑k:Int))))))),di (Ev.t (L (iI σ a b k (0+Int.toNat ((↑a:Int)+(↑k:Int)))))),di (Ev.v (L (iI σ a b k (0+Int.toNat ((↑a:Int)+(↑k:Int)))))),di (Ev.h (L (iI σ a b k (0+Int.toNat ((↑a:Int)+(↑k:Int)))))),ds (Ev.s (L (iI σ a b k (0+Int.toNat ((↑a:Int)+(↑k:Int)))))),db (Ev.acc (L (iI σ a b k (0+Int.toNat ((↑a:Int)+(↑k:Int))))))] else bif Nat.beq j (0+Int.toNat ((↑a:Int)+(↑k:Int))) then DV.agg [di (Ev.kind (L (iI σ a b k (0+Int.toNat ((↑b:Int)+(↑k:Int)))))),ds (Ky.st (Ev.k (L (iI σ a b k (0+Int.toNat ((↑b:Int)+(↑k:Int))))))),ds (Ky.ex (Ev.k (L (iI σ a b k (0+Int.toNat ((↑b:Int)+(↑k:Int))))))),di (Ky.n (Ev.k (L (iI σ a b k (0+Int.toNat ((↑b:Int)+(↑k:Int))))))),di (Ev.t (L (iI σ a b k (0+Int.toNat ((↑b:Int)+(↑k:Int)))))),di (Ev.v (L (iI σ a b k (0+Int.toNat ((↑b:Int)+(↑k:Int)))))),di (Ev.h (L (iI σ a b k (0+Int.toNat ((↑b:Int)+(↑k:Int)))))),ds (Ev.s (L (iI σ a b k (0+Int.toNat ((↑b:Int)+(↑k:Int)))))),db (Ev.acc (L (iI σ a b k (0+Int.toNat ((↑b:Int)+(↑k:Int))))))] else dO L (iI σ a b k) j))]):dS)=(some [(.arr bY 9 (dO L (iI σ a b (k+1))))])∧True)) (by kernel_rfl) (by kernel_rfl) ?_
   refine⟨⟨rfl,rfl,rfl,rfl,rfl,trivial⟩,?_,trivial⟩
   rw[←WT σ a b k (by omega)]
   exact congrArg (fun f=>some [AV.arr mY 9 f]) (FI (by omega) (by omega))
  ·obtain rfl:k=c:=by have:=of_decide_eq_false h;omega
   refine dh (aj:=bG) ?_
   refine aC (fun _ _ _ _=>((ZS ((.d (.aN [])):AV))∧((some [(.arr bY 9 (dO L (iI σ a b k)))]):dS)=(some [(.arr bY 9 (dO L (iI σ a b k)))])∧True)) (by kernel_rfl) ?_
   exact⟨rfl,rfl,trivial⟩
def OJ (L:Nat→Ev) (τ τ2:Nat→Nat):dU:={ d:=bG,m:=fun f args _=>match f,args with
 | 181,[_,.d (.con (.int _ a)),.d (.con (.int _ b)),.d (.con (.int _ c)),_]=>some (.d iO,[(1000000,[.arr mY 9 (dO L (iI τ a.toNat b.toNat c.toNat))])])
 | _,_=>none }
noncomputable def aef (L:Nat→Ev) (n m:Nat) (x:Nat×Nat×(Nat→Nat)):AS:=⟨regs Tryz.f154.ntmps [(0,.vec 1000000 9 0 n),(2,vi m),(4,rM),(10,vi x.1),(11,vi x.2.1)],lq L x.2.2⟩
theorem f154 (L:Nat→Ev) (σ:Nat→Nat) (n a m b:Nat) (h1:a<m) (h2:m<b) (h3:b≤n) (hn:n≤100000000):dD Tryz.prog G 154 [.vec 1000000 9 0 n,vi a,vi m,vi b,rM] (lq L σ) (.d iO) (lq L (dF σ a (m-a) (b-m))):=by
 refine dD.dA (mv:=[]) (by kernel_rfl) Tryz.func154 rfl Tryz.call154 ?_
 refine dh (aj:=bG) ?_
 refine aC (fun ZT ZW ZQ _=>((I64 (↑m - ↑a))∧(I64 (↑b - ↑m))∧ZW [cd Tryz.f154 [1,1,0,0],(.blk 0),cd Tryz.f154 [1,1,1]] (aB ZT []) ZQ)) (by kernel_rfl) ?_
 refine⟨⟨by omega,by omega⟩,⟨by omega,by omega⟩,?_⟩
 refine aX.loop (c:=aU (au Tryz.f154) [1,1,0,0,0]) (by kernel_rfl) (aef L n m) (fun x=>0<x.1∧0<x.2.1∧x.1≤m∧m+x.2.1≤n∧dF x.2.2 (m-x.1) x.1 x.2.1=dF σ a (m-a) (b-m)) (fun x=>x.1+x.2.1) (m-a,b-m,σ) ?_ (by refine⟨?_,?_,?_,?_,?_⟩<;>simp only<;>first|omega|(congr 1;omega)) ?_
 ·refine AS.leZ [3,4] [] (b:=((T0∧T0∧T0∧((vi (↑m - ↑a)):AV)=(vi (↑(m-a)))∧((vi (↑b - ↑m)):AV)=(vi (↑(b-m)))∧True)∧T0∧True)) (by kernel_rfl) (by kernel_rfl) ?_
  exact⟨⟨rfl,rfl,rfl,nD (by omega),nD (by omega),trivial⟩,rfl,trivial⟩
 ·rintro ⟨i,j,τ⟩ ⟨q1,q2,q3,q4,q5⟩
  simp only at q1 q2 q3 q4 q5
  refine dh (aj:=OJ L τ τ) ?_
  refine aV (fun ZT ZW ZQ _ ZA _=>(((((↑i:Int) != ↑j)=true)→((((decide ((↑i:Int)>↑j))=true)→(((I64 (↑m - ↑i))∧dD Tryz.prog G 181 [(.vec 1000000 9 0 n),(vi (↑m - ↑i)),(vi (↑m)),(vi (↑j)),(.d (.con (.func (.func 85) ⟨[]⟩ ⟨[]⟩)))] [(1000000,[(.arr bY 9 (dO L τ))])] (.d (.aN [])) [(1000000,[(.arr bY 9 (dO L (iI τ ((↑m:Int) - ↑i).toNat (↑m:Int).toNat (↑j:Int).toNat)))])])∧(I64 (↑i - ↑j))∧(ZA (aB ZT [0,0]))))∧(((decide ((↑i:Int)>↑j))=false)→(((I64 (↑m - ↑i))∧(I64 (↑m + ↑j))∧(I64 (↑m + ↑j - ↑i))∧dD Tryz.prog G 181 [(.vec 1000000 9 0 n),(vi (↑m - ↑i)),(vi (↑m + ↑j - ↑i)),(vi (↑i)),(.d (.con (.func (.func 85) ⟨[]⟩ ⟨[]⟩)))] [(1000000,[(.arr bY 9 (dO L τ))])] (.d (.aN [])) [(1000000,[(.arr bY 9 (dO L (iI τ ((↑m:Int)-(↑i:Int)).toNat ((↑m:Int) + ↑j - ↑i).toNat (↑i:Int).toNat)))])])∧(I64 (↑j - ↑i))∧(ZA (aB ZT [0,1]))))))∧((((↑i:Int) != ↑j)=false)→ZW [cd Tryz.f154 [1,1,1]] (aB ZT [1]) ZQ))) (by kernel_rfl) ?_
  simp only[gW]
  refine⟨fun h=>⟨fun h2=>?_,fun h2=>?_⟩,fun h=>?_⟩
  ·have hij:j<i:=by have:=dn h2;omega
   rw[show ((m:Int)-(i:Int)).toNat=m-i by omega]
   have hc:=f181 (G:=G) L τ n (m-i) m j (by omega) (by omega) hn
   rw[show (((m-i:Nat)):Int)=(m:Int)-(i:Int) by omega] at hc
   refine⟨⟨⟨by omega,by omega⟩,hc⟩,⟨by omega,by omega⟩,Again.mk (i-j,j,iI τ (m-i) m j) ?_ ⟨by simp only;omega,q2,by simp only;omega,q4,(Vw τ hij q2 q3).symm.trans q5⟩ (by simp only;omega)⟩
   refine AS.leZ [3] [0] (b:=((T0∧T0∧T0∧((vi (↑i - ↑j)):AV)=(vi (↑(i-j)))∧T0∧True)∧((some [(.arr bY 9 (dO L (iI τ ((↑m:Int) - ↑i).toNat (↑m:Int).toNat (↑j:Int).toNat)))]):dS)=(some [(.arr bY 9 (dO L (iI τ (m-i) m j)))])∧True)) (by kernel_rfl) (by kernel_rfl) ?_
   refine⟨⟨rfl,rfl,rfl,nD (by omega),rfl,trivial⟩,?_,trivial⟩
   rw[show ((m:Int)-(i:Int)).toNat=m-i by omega];rfl
  ·have h3:(i:Int)≠(j:Int):=by simpa using h
   have hij:i<j:=by have:=of_decide_eq_false h2;omega
   rw[show ((m:Int)-(i:Int)).toNat=m-i by omega,show ((m:Int)+(j:Int)-(i:Int)).toNat=m+j-i by omega]
   have hc:=f181 (G:=G) L τ n (m-i) (m+j-i) i (by omega) (by omega) hn
   rw[show (((m-i:Nat)):Int)=(m:Int)-(i:Int) by omega,show (((m+j-i:Nat)):Int)=(m:Int)+(j:Int)-(i:Int) by omega] at hc
   refine⟨⟨⟨by omega,by omega⟩,⟨by omega,by omega⟩,⟨by omega,by omega⟩,hc⟩,⟨by omega,by omega⟩,Again.mk (i,j-i,iI τ (m-i) (m+j-i) i) ?_ ⟨q1,by simp only;omega,q3,by simp only;omega,(UG τ hij q1 q3).symm.trans q5⟩ (by simp only;omega)⟩
   refine AS.leZ [4] [0] (b:=((T0∧T0∧T0∧T0∧((vi (↑j - ↑i)):AV)=(vi (↑(j-i)))∧True)∧((some [(.arr bY 9 (dO L (iI τ ((↑m:Int)-(↑i:Int)).toNat ((↑m:Int) + ↑j - ↑i).toNat (↑i:Int).toNat)))]):dS)=(some [(.arr bY 9 (dO L (iI τ (m-i) (m+j-i) i)))])∧True)) (by kernel_rfl) (by kernel_rfl) ?_
   refine⟨⟨rfl,rfl,rfl,rfl,nD (by omega),trivial⟩,?_,trivial⟩
   rw[show ((m:Int)-(i:Int)).toNat=m-i by omega,show ((m:Int)+(j:Int)-(i:Int)).toNat=m+j-i by omega];rfl
  ·have h3:(i:Int)=(j:Int):=by simpa using h
   obtain rfl:i=j:=by omega
   refine dh (aj:=OJ L τ τ) ?_
   refine aC (fun _ _ _ _=>(fun Za=>(((I64 (↑m - ↑i))∧dD Tryz.prog G 181 [(.vec 1000000 9 0 n),(vi (↑m - ↑i)),(vi (↑m)),(vi (↑i)),(.d (.con (.func (.func 85) ⟨[]⟩ ⟨[]⟩)))] [(1000000,[(.arr bY 9 (dO L τ))])] (.d (.aN [])) [(1000000,[Za])])∧(ZS ((.d (.aN [])):AV))∧((some [Za]):dS)=(some [(.arr bY 9 (dO L (dF σ a (m-a) (b-m))))])∧True)) ((.arr bY 9 (dO L (iI τ ((↑m:Int) - ↑i).toNat (↑m:Int).toNat (↑i:Int).toNat))):AV)) (by kernel_rfl) ?_
   try dsimp only
   simp only[gW]
   rw[show ((m:Int)-(i:Int)).toNat=m-i by omega]
   have hc:=f181 (G:=G) L τ n (m-i) m i (by omega) (by omega) hn
   rw[show (((m-i:Nat)):Int)=(m:Int)-(i:Int) by omega] at hc
   rw[WX τ q1 q3] at q5
   exact⟨⟨⟨by omega,by omega⟩,hc⟩,trivial,by rw[q5],trivial⟩
noncomputable def oN:dU:={ d:=fun f args=>match f,args with
 | 85,[x,y]=>some (di (sN (jD x) (jD y)))
 | _,_=>none }
noncomputable def abP (L:Nat→Ev) (n a b:Nat) (x:Nat×(Nat→Nat)):AS:=⟨regs Tryz.f126.ntmps [(0,.vec 1000000 9 0 n),(1,vi a),(2,vi b),(3,rM),(8,vi x.1)],lq L x.2⟩
noncomputable def acE (L:Nat→Ev) (n a b i:Nat) (x:Nat×(Nat→Nat)):AS:=⟨regs Tryz.f126.ntmps [(0,.vec 1000000 9 0 n),(1,vi a),(2,vi b),(3,rM),(8,vi i),(9,vi x.1)],lq L x.2⟩
theorem f126 (L:Nat→Ev) (σ:Nat→Nat) (n a b:Nat) (h1:a≤n) (h2:b≤n) (hn:n≤100000000):dD Tryz.prog G 126 [.vec 1000000 9 0 n,vi a,vi b,rM] (lq L σ) (.d iO) (lq L (jQ (fun i=>Ev.t (L i)) a b σ)):=by
 refine dD.dA (mv:=[]) (by kernel_rfl) Tryz.func126 rfl Tryz.call126 ?_
 refine dh (aj:=bG) ?_
 refine aC (fun ZT ZW ZQ _=>((I64 (↑a+1))∧ZW [cd Tryz.f126 [1,0],(.blk 0)] (aB ZT []) ZQ)) (by kernel_rfl) ?_
 refine⟨⟨by omega,by omega⟩,?_⟩
 refine aX.loop (c:=aU (au Tryz.f126) [1,0,0]) (by kernel_rfl) (abP L n a b) (fun x=>a<x.1∧x.1≤n+1∧uT (fun i=>Ev.t (L i)) a (b-x.1) x.1 x.2=jQ (fun i=>Ev.t (L i)) a b σ) (fun x=>b-x.1) (a+1,σ) ?_ ⟨by simp only;omega,by simp only;omega,rfl⟩ ?_
 ·exact AS.bD (by kernel_rfl)
 ·rintro ⟨i,τ⟩ ⟨q1,q2,q3⟩
  simp only at q1 q2 q3
  refine dh (aj:=oN) ?_
  refine aV (fun ZT ZW ZQ _ _ ZR=>((((decide ((↑i:Int)<↑b))=true)→ZW [cd Tryz.f126 [1,0,0,1,0,0,1,0],(.blk 2),(.blk 1),cd Tryz.f126 [1,0,0,1,1]] (aB ZT [0]) ZR)∧(((decide ((↑i:Int)<↑b))=false)→ZW [] (aB ZT [1]) ZQ))) (by kernel_rfl) ?_
  refine⟨fun h=>?_,fun h=>?_⟩
  ·have hib:i<b:=by have:=dn h;omega
   refine aX.loop (c:=aU (au Tryz.f126) [1,0,0,1,0,0,1,0,0]) (by kernel_rfl) (acE L n a b i) (fun x=>a≤x.1∧x.1≤i∧jS (fun i=>Ev.t (L i)) a x.1 x.2=jS (fun i=>Ev.t (L i)) a i τ) (fun x=>x.1) (i,τ) ?_ ⟨by simp only;omega,by simp only;omega,rfl⟩ ?_
   ·exact AS.bD (by kernel_rfl)
   ·rintro ⟨j,ρ⟩ ⟨r1,r2,r3⟩
    simp only at r1 r2 r3
    refine dh (aj:=oN) ?_
    refine aV (fun ZT ZW ZQ ZK ZA _=>(fun Za Zb Zc=>(((((decide ((↑j:Int)>↑a))=true)→((0≤(↑j:Int))∧((↑j:Int)<↑n)))∧(((decide ((↑j:Int)>↑a))=true)→(I64 (↑j-1)))∧(((decide ((↑j:Int)>↑a))=true)→((0≤(↑j:Int)-1)∧((↑j:Int)-1<↑n)))∧(((decide ((↑j:Int)>↑a))=true)→ZK 85 [(.agg [(di Zb.kind),(ds Zb.k.st),(ds Zb.k.ex),(di Zb.k.n),(di Zb.t),(di Zb.v),(di Zb.h),(ds Zb.s),(db Zb.acc)]),(.agg [(di Za.kind),(ds Za.k.st),(ds Za.k.ex),(di Za.k.n),(di Za.t),(di Za.v),(di Za.h),(ds Za.s),(db Za.acc)])] (di (sN (jD (dO L ρ (0+((↑j:Int):Int).toNat))) (jD (dO L ρ (0+((↑j:Int)-1).toNat)))))))∧((Zc=true)→(((I64 (↑j-1))∧(I64 (↑j-1))∧((0≤(↑j:Int)-1)∧((↑j:Int)-1<↑n))∧((0≤(↑j:Int))∧((↑j:Int)<↑n))∧((0≤(↑j:Int))∧((↑j:Int)<↑n))∧(0≤(↑j:Int)-1)∧((↑j:Int)-1<↑n))∧(I64 (↑j-1))∧(ZA (aB ZT [0]))))∧((Zc=false)→ZW [(.blk 1),cd Tryz.f126 [1,0,0,1,1]] (aB ZT [1]) ZQ))) (L (ρ (0+((↑j:Int)-1).toNat))) (L (ρ (0+(↑j:Int).toNat))) (decide ((↑j:Int)>(↑a:Int))&&decide (sN (jD (dO L ρ (0+((↑j:Int):Int).toNat))) (jD (dO L ρ (0+((↑j:Int)-1).toNat)))<0))) (by kernel_rfl) ?_
    try dsimp only
    simp only[Nr]
    refine⟨⟨fun h=>?_,fun h=>?_,fun h=>?_,fun h=>f85 (L (ρ (0+((j:Int)).toNat))) (L (ρ (0+((j:Int)-1).toNat)))⟩,fun h=>?_,fun h=>?_⟩
    ·have:=dn h;exact⟨by omega,by omega⟩
    ·have:=dn h;exact⟨by omega,by omega⟩
    ·have:=dn h;exact⟨by omega,by omega⟩
    ·simp only[aY,eF,Nat.zero_add,gW] at h
     obtain ⟨h3,h4⟩:=h
     obtain ⟨k,rfl⟩:∃k,j=k+1:=⟨j-1,by omega⟩
     rw[show (((k+1:Nat):Int)-1).toNat=k by omega] at h4
     have e1:jS (fun i=>Ev.t (L i)) a (k+1) ρ=jS (fun i=>Ev.t (L i)) a k (swp ρ (k+1) k):=by
      rw[jS,if_pos ⟨by omega,(qx _ _).1 h4⟩]
     refine⟨⟨⟨by omega,by omega⟩,⟨by omega,by omega⟩,⟨by omega,by omega⟩,⟨by omega,by omega⟩,⟨by omega,by omega⟩,by omega,by omega⟩,⟨by omega,by omega⟩,Again.mk (k,swp ρ (k+1) k) ?_ ⟨by simp only;omega,by simp only;omega,e1.symm.trans r3⟩ (by simp only;omega)⟩
     refine AS.leZ [5] [0] (b:=((T0∧T0∧T0∧T0∧T0∧((vi (↑(k+1)-1)):AV)=(vi (↑k))∧True)∧((some [(.arr bY 9 (fun j=>bif Nat.beq j (0+Int.toNat ((↑(k+1):Int)-1)) then DV.agg [di (Ev.kind (L (ρ (0+Int.toNat (↑(k+1):Int))))),ds (Ky.st (Ev.k (L (ρ (0+Int.toNat (↑(k+1):Int)))))),ds (Ky.ex (Ev.k (L (ρ (0+Int.toNat (↑(k+1):Int)))))),di (Ky.n (Ev.k (L (ρ (0+Int.toNat (↑(k+1):Int)))))),di (Ev.t (L (ρ (0+Int.toNat (↑(k+1):Int))))),di (Ev.v (L (ρ (0+Int.toNat (↑(k+1):Int))))),di (Ev.h (L (ρ (0+Int.toNat (↑(k+1):Int))))),ds (Ev.s (L (ρ (0+Int.toNat (↑(k+1):Int))))),db (Ev.acc (L (ρ (0+Int.toNat (↑(k+1):Int)))))] else bif Nat.beq j (0+Int.toNat (↑(k+1):Int)) then DV.agg [di (Ev.kind (L (ρ (0+Int.toNat ((↑(k+1):Int)-1))))),ds (Ky.st (Ev.k (L (ρ (0+Int.toNat ((↑(k+1):Int)-1)))))),ds (Ky.ex (Ev.k (L (ρ (0+Int.toNat ((↑(k+1):Int)-1)))))),di (Ky.n (Ev.k (L (ρ (0+Int.toNat ((↑(k+1):Int)-1)))))),di (Ev.t (L (ρ (0+Int.toNat ((↑(k+1):Int)-1))))),di (Ev.v (L (ρ (0+Int.toNat ((↑(k+1):Int)-1))))),di (Ev.h (L (ρ (0+Int.toNat ((↑(k+1):Int)-1))))),ds (Ev.s (L (ρ (0+Int.toNat ((↑(k+1):Int)-1))))),db (Ev.acc (L (ρ (0+Int.toNat ((↑(k+1):Int)-1)))))] else dO L ρ j))]):dS)=(some [(.arr bY 9 (dO L (swp ρ (k+1) k)))])∧True)) (by kernel_rfl) (by kernel_rfl) ?_
     refine⟨⟨rfl,rfl,rfl,rfl,rfl,nD (by omega),trivial⟩,?_,trivial⟩
     exact congrArg (fun f=>some [AV.arr mY 9 f]) (FI (by omega) (by omega))
    ·have e1:jS (fun i=>Ev.t (L i)) a j ρ=ρ:=by
      rcases j with _|k
      ·rfl
      ·rw[jS,if_neg]
       rintro ⟨h3,h4⟩
       rw[Bool.and_eq_false_iff] at h
       rcases h with h|h
       ·have:=of_decide_eq_false h;omega
       ·have:=of_decide_eq_false h
        simp only[Nat.zero_add,gW] at this
        rw[show (((k+1:Nat):Int)-1).toNat=k by omega] at this
        exact this ((qx _ _).2 h4)
     obtain ⟨k,hk⟩:∃k,b-i=k+1:=⟨b-i-1,by omega⟩
     have e2:uT (fun i=>Ev.t (L i)) a (b-(i+1)) (i+1) ρ=jQ (fun i=>Ev.t (L i)) a b σ:=by
      rw[←q3,hk,uT,show b-(i+1)=k by omega,←r3,e1]
     refine dh (aj:=oN) ?_
     refine aV (fun ZT _ _ _ ZA _=>((I64 (↑i+1))∧(ZA (aB ZT [])))) (by kernel_rfl) ?_
     refine⟨⟨by omega,by omega⟩,Again.mk (i+1,ρ) ?_ ⟨by simp only;omega,by simp only;omega,e2⟩ (by simp only;omega)⟩
     exact AS.bD (by kernel_rfl)
  ·have hib:b-i=0:=by have:=of_decide_eq_false h;omega
   rw[hib,uT] at q3
   refine dh (aj:=oN) ?_
   refine aC (fun _ _ _ _=>((ZS ((.d (.aN [])):AV))∧((some [(.arr bY 9 (dO L τ))]):dS)=(some [(.arr bY 9 (dO L (jQ (fun i=>(L i).t) a b σ)))])∧True)) (by kernel_rfl) ?_
   exact⟨rfl,by rw[q3],trivial⟩
noncomputable def abZ (L:Nat→Ev) (σ:Nat→Nat) (n a m b:Nat) (x:Nat×Nat):AS:=⟨regs Tryz.f127.ntmps [(0,.vec 1000000 9 0 n),(1,vi a),(2,vi m),(3,vi b),(4,rM),(10,vi x.1),(11,vi x.2)],lq L σ⟩
noncomputable def aci (L:Nat→Ev) (σ:Nat→Nat) (n a m b i t:Nat):AS:=⟨regs Tryz.f127.ntmps [(0,.vec 1000000 9 0 n),(1,vi a),(2,vi m),(3,vi b),(4,rM),(10,vi i),(13,vi (a+t))],lq L (dF σ a 1 t)⟩
theorem aas (L:Nat→Ev) (σ:Nat→Nat) (n a m b:Nat) (h0:m=a+1) (h1:m<b) (h2:b≤n) (hn:n≤100000000):dD Tryz.prog G 127 [.vec 1000000 9 0 n,vi a,vi m,vi b,rM] (lq L σ) (.d iO) (lq L (dF σ a 1 (jB (fun h=>decide (Ev.t (L (σ h))<Ev.t (L (σ a)))) (b-m) m b-m))):=by
 refine dD.dA (mv:=[]) (by kernel_rfl) Tryz.func127 rfl Tryz.call127 ?_
 refine walk (aj:=bG) (keep:=[]) (cuts:=[1,12]) (n:=1000) follows ?_
 refine aC (fun ZT ZW ZQ _=>((I64 (↑m - ↑a))∧((((↑m:Int) - ↑a==1)=true)→ZW [cd Tryz.f127 [0,1,0],cd Tryz.f127 [1]] (aB ZT [0]) ZQ)∧((((↑m:Int) - ↑a==1)=false)→ZW [cd Tryz.f127 [1,0],cd Tryz.f127 [1,1]] (aB ZT [1]) ZQ))) (by kernel_rfl) ?_
 refine⟨⟨by omega,by omega⟩,fun _=>?_,fun h=>?_⟩
 ·refine dh (aj:=bG) ?_
  refine aC (fun ZT ZW ZQ _=>ZW [cd Tryz.f127 [0,1,0,1,1,0,0],(.blk 0),cd Tryz.f127 [0,1,0,1,1,1],cd Tryz.f127 [1]] (aB ZT []) ZQ) (by kernel_rfl) ?_
  refine aX.loop (c:=aU (au Tryz.f127) [0,1,0,1,1,0,0,0]) (by kernel_rfl) (abZ L σ n a m b) (fun x=>m≤x.1∧x.1≤x.2∧x.2≤b∧jB (fun h=>decide (Ev.t (L (σ h))<Ev.t (L (σ a)))) (x.2-x.1) x.1 x.2=jB (fun h=>decide (Ev.t (L (σ h))<Ev.t (L (σ a)))) (b-m) m b) (fun x=>x.2-x.1) (m,b) ?_ ⟨by simp only;omega,by simp only;omega,by simp only;omega,rfl⟩ ?_
  ·exact AS.bD (by kernel_rfl)
  ·rintro ⟨i,j⟩ ⟨q1,q2,q3,q4⟩
   simp only at q1 q2 q3 q4
   refine dh (aj:=oN) ?_
   refine aV (fun ZT ZW ZQ ZK ZA _=>(fun Za Zb Zc Zd=>((((decide ((↑i:Int)<↑j))=true)→(((I64 (↑i + ↑j))∧((0:Int)≤(1:Int)))∧(((0≤IntKind.i64.wrap Zc)∧(IntKind.i64.wrap Zc<↑n))∧((0≤(↑a:Int))∧((↑a:Int)<↑n))∧ZK 85 [(.agg [(di (L (σ Za)).kind),(ds (L (σ Za)).k.st),(ds (L (σ Za)).k.ex),(di (L (σ Za)).k.n),(di (L (σ Za)).t),(di (L (σ Za)).v),(di (L (σ Za)).h),(ds (L (σ Za)).s),(db (L (σ Za)).acc)]),(.agg [(di Zb.kind),(ds Zb.k.st),(ds Zb.k.ex),(di Zb.k.n),(di Zb.t),(di Zb.v),(di Zb.h),(ds Zb.s),(db Zb.acc)])] (di (sN (jD (dO L σ Za)) Zd)))∧(((decide (sN (jD (dO L σ Za)) Zd<0))=true)→((I64 (IntKind.i64.wrap Zc+1))∧(ZA (aB ZT [0,0]))))∧(((decide (sN (jD (dO L σ Za)) Zd<0))=false)→(ZA (aB ZT [0,1])))))∧(((decide ((↑i:Int)<↑j))=false)→ZW [cd Tryz.f127 [0,1,0,1,1,1],cd Tryz.f127 [1]] (aB ZT [1]) ZQ))) (0+(IntKind.i64.wrap ((IntKind.u64.wrap (↑i + ↑j)).fdiv (2 ^ min (Int.toNat 1) IntKind.u64.bits))).toNat) (L (σ (0+(↑a:Int).toNat))) ((IntKind.u64.wrap (↑i + ↑j)).fdiv (2 ^ min (Int.toNat 1) IntKind.u64.bits)) (jD (dO L σ (0+(↑a:Int).toNat)))) (by kernel_rfl) ?_
   try dsimp only
   have hh:=half (i:=i) (j:=j) (by omega)
   simp only[Nr,hh,Nat.zero_add,gW]
   refine⟨fun h=>?_,fun h=>?_⟩
   ·have hij:i<j:=by have:=dn h;omega
    have e1:=NW (p:=fun h=>decide (Ev.t (L (σ h))<Ev.t (L (σ a)))) hij
    refine⟨⟨⟨by omega,by omega⟩,by decide⟩,⟨⟨by omega,by omega⟩,⟨by omega,by omega⟩,f85 (L (σ ((i+j) / 2))) (L (σ a))⟩,fun h=>⟨⟨by omega,by omega⟩,Again.mk ((i+j) / 2+1,j) ?_ ⟨by simp only;omega,by simp only;omega,q3,?_⟩ (by simp only;omega)⟩,fun h=>Again.mk (i,(i+j) / 2) ?_ ⟨by simp only;omega,by simp only;omega,by simp only;omega,?_⟩ (by simp only;omega)⟩
    ·refine AS.leZ [5] [] (b:=((T0∧T0∧T0∧T0∧T0∧((vi (IntKind.i64.wrap ((IntKind.u64.wrap (↑i + ↑j)).fdiv (2 ^ min (Int.toNat 1) IntKind.u64.bits))+1)):AV)=(vi (↑((i+j) / 2+1)))∧T0∧True)∧T0∧True)) (by kernel_rfl) (by kernel_rfl) ?_
     exact⟨⟨rfl,rfl,rfl,rfl,rfl,nD (by rw[hh];rfl),rfl,trivial⟩,rfl,trivial⟩
    ·have h:=(qx _ _).1 (dn h)
     rw[if_pos (decide_eq_true h)] at e1
     exact e1.symm.trans q4
    ·refine AS.leZ [6] [] (b:=((T0∧T0∧T0∧T0∧T0∧T0∧((vi (IntKind.i64.wrap ((IntKind.u64.wrap (↑i + ↑j)).fdiv (2 ^ min (Int.toNat 1) IntKind.u64.bits)))):AV)=(vi (↑((i+j) / 2)))∧True)∧T0∧True)) (by kernel_rfl) (by kernel_rfl) ?_
     exact⟨⟨rfl,rfl,rfl,rfl,rfl,rfl,nD hh,trivial⟩,rfl,trivial⟩
    ·have h:=fun c=>of_decide_eq_false h ((qx _ _).2 c)
     rw[if_neg (fun c=>h (dn c))] at e1
     exact e1.symm.trans q4
   ·have hij:i=j:=by have:=of_decide_eq_false h;omega
    subst hij
    rw[Nat.sub_self,jB] at q4
    rw[←q4]
    refine dh (aj:=bG) ?_
    refine aC (fun ZT ZW ZQ _=>ZW [cd Tryz.f127 [0,1,0,1,1,1,0,1,0],(.blk 2),cd Tryz.f127 [0,1,0,1,1,1,1],cd Tryz.f127 [1]] (aB ZT []) ZQ) (by kernel_rfl) ?_
    refine aX.loop (c:=aU (au Tryz.f127) [0,1,0,1,1,1,0,1,0,0]) (by kernel_rfl) (aci L σ n a m b i) (fun t=>t≤i-m) (fun t=>i-m-t) 0 ?_ (Nat.zero_le _) ?_
    ·refine AS.leZ [] [0] (b:=((T0∧T0∧T0∧T0∧T0∧T0∧T0∧True)∧((some [(.arr bY 9 (dO L σ))]):dS)=(some [(.arr bY 9 (dO L (dF σ a 1 0)))])∧True)) (by kernel_rfl) (by kernel_rfl) ?_
     refine⟨⟨rfl,rfl,rfl,rfl,rfl,rfl,rfl,trivial⟩,?_,trivial⟩
     rw[Jy _ _ _ _ (.inr rfl)]
    ·rintro t ht
     refine dh (aj:=bG) ?_
     refine aV (fun ZT ZW ZQ _ ZA _=>((I64 (↑i-1))∧(((decide ((↑a:Int) + ↑t<↑i-1))=true)→(((I64 (↑a + ↑t+1))∧(I64 (↑a + ↑t+1))∧((0≤(↑a:Int) + ↑t+1)∧((↑a:Int) + ↑t+1<↑n))∧((0≤(↑a:Int) + ↑t)∧((↑a:Int) + ↑t<↑n))∧((0≤(↑a:Int) + ↑t)∧((↑a:Int) + ↑t<↑n))∧(0≤(↑a:Int) + ↑t+1)∧((↑a:Int) + ↑t+1<↑n))∧(I64 (↑a + ↑t+1))∧(ZA (aB ZT [0]))))∧(((decide ((↑a:Int) + ↑t<↑i-1))=false)→ZW [cd Tryz.f127 [0,1,0,1,1,1,1],cd Tryz.f127 [1]] (aB ZT [1]) ZQ))) (by kernel_rfl) ?_
     refine⟨⟨by omega,by omega⟩,fun h=>?_,fun h=>?_⟩
     ·have h5:=dn h
      refine⟨⟨⟨by omega,by omega⟩,⟨by omega,by omega⟩,⟨by omega,by omega⟩,⟨by omega,by omega⟩,⟨by omega,by omega⟩,by omega,by omega⟩,⟨by omega,by omega⟩,Again.mk (t+1) ?_ (by omega) (by omega)⟩
      refine AS.leZ [6] [0] (b:=((T0∧T0∧T0∧T0∧T0∧T0∧((vi (↑a + ↑t+1)):AV)=(vi (↑a + ↑(t+1)))∧True)∧((some [(.arr bY 9 (fun j=>bif Nat.beq j (0+Int.toNat ((↑a:Int)+(↑t:Int)+1)) then DV.agg [di (Ev.kind (L (dF σ a 1 t (0+Int.toNat ((↑a:Int)+(↑t:Int)))))),ds (Ky.st (Ev.k (L (dF σ a 1 t (0+Int.toNat ((↑a:Int)+(↑t:Int))))))),ds (Ky.ex (Ev.k (L (dF σ a 1 t (0+Int.toNat ((↑a:Int)+(↑t:Int))))))),di (Ky.n (Ev.k (L (dF σ a 1 t (0+Int.toNat ((↑a:Int)+(↑t:Int))))))),di (Ev.t (L (dF σ a 1 t (0+Int.toNat ((↑a:Int)+(↑t:Int)))))),di (Ev.v (L (dF σ a 1 t (0+Int.toNat ((↑a:Int)+(↑t:Int)))))),di (Ev.h (L (dF σ a 1 t (0+Int.toNat ((↑a:Int)+(↑t:Int)))))),ds (Ev.s (L (dF σ a 1 t (0+Int.toNat ((↑a:Int)+(↑t:Int)))))),db (Ev.acc (L (dF σ a 1 t (0+Int.toNat ((↑a:Int)+(↑t:Int))))))] else bif Nat.beq j (0+Int.toNat ((↑a:Int)+(↑t:Int))) then DV.agg [di (Ev.kind (L (dF σ a 1 t (0+Int.toNat ((↑a:Int)+(↑t:Int)+1))))),ds (Ky.st (Ev.k (L (dF σ a 1 t (0+Int.toNat ((↑a:Int)+(↑t:Int)+1)))))),ds (Ky.ex (Ev.k (L (dF σ a 1 t (0+Int.toNat ((↑a:Int)+(↑t:Int)+1)))))),di (Ky.n (Ev.k (L (dF σ a 1 t (0+Int.toNat ((↑a:Int)+(↑t:Int)+1)))))),di (Ev.t (L (dF σ a 1 t (0+Int.toNat ((↑a:Int)+(↑t:Int)+1))))),di (Ev.v (L (dF σ a 1 t (0+Int.toNat ((↑a:Int)+(↑t:Int)+1))))),di (Ev.h (L (dF σ a 1 t (0+Int.toNat ((↑a:Int)+(↑t:Int)+1))))),ds (Ev.s (L (dF σ a 1 t (0+Int.toNat ((↑a:Int)+(↑t:Int)+1))))),db (Ev.acc (L (dF σ a 1 t (0+Int.toNat ((↑a:Int)+(↑t:Int)+1)))))] else dO L (dF σ a 1 t) j))]):dS)=(some [(.arr bY 9 (dO L (dF σ a 1 (t+1))))])∧True)) (by kernel_rfl) (by kernel_rfl) ?_
      refine⟨⟨rfl,rfl,rfl,rfl,rfl,rfl,nD (by omega),trivial⟩,?_,trivial⟩
      rw[←aag σ a t]
      exact congrArg (fun f=>some [AV.arr mY 9 f]) (FI (by omega) (by omega))
     ·obtain rfl:t=i-m:=by have:=of_decide_eq_false h;omega
      refine dh (aj:=bG) ?_
      refine aC (fun _ _ _ _=>(fun Za=>((ZS ((.d (.aN [])):AV))∧(Za:dS)=Za∧True)) (some [(.arr bY 9 (dO L (dF σ a 1 (i-m))))])) (by kernel_rfl) ?_
      exact⟨rfl,rfl,trivial⟩
 ·exfalso
  have:¬((m:Int)-(a:Int)=1):=by simpa using h
  omega
noncomputable def ab5 (L:Nat→Ev) (σ:Nat→Nat) (n a m b:Nat) (x:Nat×Nat):AS:=⟨regs Tryz.f127.ntmps [(0,.vec 1000000 9 0 n),(1,vi a),(2,vi m),(3,vi b),(4,rM),(14,vi x.1),(15,vi x.2)],lq L σ⟩
noncomputable def abw (L:Nat→Ev) (σ:Nat→Nat) (n a m b i t:Nat):AS:=⟨regs Tryz.f127.ntmps [(0,.vec 1000000 9 0 n),(1,vi a),(2,vi m),(3,vi b),(4,rM),(14,vi i),(17,vi (m-t:Nat))],lq L (dF σ (m-t) t 1)⟩
theorem aaO (L:Nat→Ev) (σ:Nat→Nat) (n a m b:Nat) (ha:a<m) (h0:m≠a+1) (h1:b=m+1) (h2:b≤n) (hn:n≤100000000):dD Tryz.prog G 127 [.vec 1000000 9 0 n,vi a,vi m,vi b,rM] (lq L σ) (.d iO) (lq L (dF σ (jB (fun h=>!decide (Ev.t (L (σ m))<Ev.t (L (σ h)))) (m-a) a m) (m-jB (fun h=>!decide (Ev.t (L (σ m))<Ev.t (L (σ h)))) (m-a) a m) 1)):=by
 refine dD.dA (mv:=[]) (by kernel_rfl) Tryz.func127 rfl Tryz.call127 ?_
 refine walk (aj:=bG) (keep:=[]) (cuts:=[1,12]) (n:=1000) follows ?_
 refine aC (fun ZT ZW ZQ _=>((I64 (↑m - ↑a))∧((((↑m:Int) - ↑a==1)=true)→ZW [cd Tryz.f127 [0,1,0],cd Tryz.f127 [1]] (aB ZT [0]) ZQ)∧((((↑m:Int) - ↑a==1)=false)→ZW [cd Tryz.f127 [1,0],cd Tryz.f127 [1,1]] (aB ZT [1]) ZQ))) (by kernel_rfl) ?_
 refine⟨⟨by omega,by omega⟩,fun h=>?_,fun _=>?_⟩
 ·exfalso
  have:(m:Int)-(a:Int)=1:=by simpa using h
  omega
 ·refine walk (aj:=bG) (keep:=[]) (cuts:=[24]) (n:=1000) follows ?_
  refine aC (fun ZT ZW ZQ _=>((I64 (↑b - ↑m))∧((((↑b:Int) - ↑m==1)=true)→ZW [cd Tryz.f127 [1,0,1,0,1,1,0,0],(.blk 4),cd Tryz.f127 [1,0,1,0,1,1,1],cd Tryz.f127 [1,1]] (aB ZT [0]) ZQ)∧((((↑b:Int) - ↑m==1)=false)→ZW [cd Tryz.f127 [1,1]] (aB ZT [1]) ZQ))) (by kernel_rfl) ?_
  refine⟨⟨by omega,by omega⟩,fun _=>?_,fun h=>?_⟩
  ·refine aX.loop (c:=aU (au Tryz.f127) [1,0,1,0,1,1,0,0,0]) (by kernel_rfl) (ab5 L σ n a m b) (fun x=>a≤x.1∧x.1≤x.2∧x.2≤m∧jB (fun h=>!decide (Ev.t (L (σ m))<Ev.t (L (σ h)))) (x.2-x.1) x.1 x.2=jB (fun h=>!decide (Ev.t (L (σ m))<Ev.t (L (σ h)))) (m-a) a m) (fun x=>x.2-x.1) (a,m) ?_ ⟨by simp only;omega,by simp only;omega,by simp only;omega,rfl⟩ ?_
   ·exact AS.bD (by kernel_rfl)
   ·rintro ⟨i,j⟩ ⟨q1,q2,q3,q4⟩
    simp only at q1 q2 q3 q4
    refine dh (aj:=oN) ?_
    refine aV (fun ZT ZW ZQ ZK ZA _=>(fun Za Zb Zc Zd=>((((decide ((↑i:Int)<↑j))=true)→(((I64 (↑i + ↑j))∧((0:Int)≤(1:Int)))∧(((0≤(↑m:Int))∧((↑m:Int)<↑n))∧((0≤IntKind.i64.wrap Zc)∧(IntKind.i64.wrap Zc<↑n))∧ZK 85 [(.agg [(di Zb.kind),(ds Zb.k.st),(ds Zb.k.ex),(di Zb.k.n),(di Zb.t),(di Zb.v),(di Zb.h),(ds Zb.s),(db Zb.acc)]),(.agg [(di (L (σ Za)).kind),(ds (L (σ Za)).k.st),(ds (L (σ Za)).k.ex),(di (L (σ Za)).k.n),(di (L (σ Za)).t),(di (L (σ Za)).v),(di (L (σ Za)).h),(ds (L (σ Za)).s),(db (L (σ Za)).acc)])] (di (sN Zd (jD (dO L σ Za)))))∧(((!decide (sN Zd (jD (dO L σ Za))<0))=true)→((I64 (IntKind.i64.wrap Zc+1))∧(ZA (aB ZT [0,0]))))∧(((!decide (sN Zd (jD (dO L σ Za))<0))=false)→(ZA (aB ZT [0,1])))))∧(((decide ((↑i:Int)<↑j))=false)→ZW [cd Tryz.f127 [1,0,1,0,1,1,1],cd Tryz.f127 [1,1]] (aB ZT [1]) ZQ))) (0+(IntKind.i64.wrap ((IntKind.u64.wrap (↑i + ↑j)).fdiv (2 ^ min (Int.toNat 1) IntKind.u64.bits))).toNat) (L (σ (0+(↑m:Int).toNat))) ((IntKind.u64.wrap (↑i + ↑j)).fdiv (2 ^ min (Int.toNat 1) IntKind.u64.bits)) (jD (dO L σ (0+(↑m:Int).toNat)))) (by kernel_rfl) ?_
    try dsimp only
    have hh:=half (i:=i) (j:=j) (by omega)
    simp only[Nr,hh,Nat.zero_add,gW]
    refine⟨fun h=>?_,fun h=>?_⟩
    ·have hij:i<j:=by have:=dn h;omega
     have e1:=NW (p:=fun h=>!decide (Ev.t (L (σ m))<Ev.t (L (σ h)))) hij
     refine⟨⟨⟨by omega,by omega⟩,by decide⟩,⟨⟨by omega,by omega⟩,⟨by omega,by omega⟩,f85 (L (σ m)) (L (σ ((i+j) / 2)))⟩,fun h=>⟨⟨by omega,by omega⟩,Again.mk ((i+j) / 2+1,j) ?_ ⟨by simp only;omega,by simp only;omega,q3,?_⟩ (by simp only;omega)⟩,fun h=>Again.mk (i,(i+j) / 2) ?_ ⟨by simp only;omega,by simp only;omega,by simp only;omega,?_⟩ (by simp only;omega)⟩
     ·refine AS.leZ [5] [] (b:=((T0∧T0∧T0∧T0∧T0∧((vi (IntKind.i64.wrap ((IntKind.u64.wrap (↑i + ↑j)).fdiv (2 ^ min (Int.toNat 1) IntKind.u64.bits))+1)):AV)=(vi (↑((i+j) / 2+1)))∧T0∧True)∧T0∧True)) (by kernel_rfl) (by kernel_rfl) ?_
      exact⟨⟨rfl,rfl,rfl,rfl,rfl,nD (by rw[hh];rfl),rfl,trivial⟩,rfl,trivial⟩
     ·have h:=fun c=>of_decide_eq_false (Bool.not_eq_true' _ |>.mp h) ((qx _ _).2 c)
      rw[if_pos (by rw[decide_eq_false h];rfl)] at e1
      exact e1.symm.trans q4
     ·refine AS.leZ [6] [] (b:=((T0∧T0∧T0∧T0∧T0∧T0∧((vi (IntKind.i64.wrap ((IntKind.u64.wrap (↑i + ↑j)).fdiv (2 ^ min (Int.toNat 1) IntKind.u64.bits)))):AV)=(vi (↑((i+j) / 2)))∧True)∧T0∧True)) (by kernel_rfl) (by kernel_rfl) ?_
      exact⟨⟨rfl,rfl,rfl,rfl,rfl,rfl,nD hh,trivial⟩,rfl,trivial⟩
     ·have h:=(qx _ _).1 (dn (Bool.not_eq_false' _ |>.mp h))
      rw[if_neg (by rw[decide_eq_true h];decide)] at e1
      exact e1.symm.trans q4
    ·have hij:i=j:=by have:=of_decide_eq_false h;omega
     subst hij
     rw[Nat.sub_self,jB] at q4
     rw[←q4]
     refine dh (aj:=bG) ?_
     refine aC (fun ZT ZW ZQ _=>ZW [cd Tryz.f127 [1,0,1,0,1,1,1,0,1,0],(.blk 6),cd Tryz.f127 [0,1,0,1,1,1,1],cd Tryz.f127 [1,1]] (aB ZT []) ZQ) (by kernel_rfl) ?_
     refine aX.loop (c:=aU (au Tryz.f127) [1,0,1,0,1,1,1,0,1,0,0]) (by kernel_rfl) (abw L σ n a m b i) (fun t=>t≤m-i) (fun t=>m-i-t) 0 ?_ (Nat.zero_le _) ?_
     ·refine AS.leZ [] [0] (b:=((T0∧T0∧T0∧T0∧T0∧T0∧T0∧True)∧((some [(.arr bY 9 (dO L σ))]):dS)=(some [(.arr bY 9 (dO L (dF σ (m-0) 0 1)))])∧True)) (by kernel_rfl) (by kernel_rfl) ?_
      refine⟨⟨rfl,rfl,rfl,rfl,rfl,rfl,rfl,trivial⟩,?_,trivial⟩
      rw[Jy _ _ _ _ (.inl rfl)]
     ·rintro t ht
      refine dh (aj:=bG) ?_
      refine aV (fun ZT ZW ZQ _ ZA _=>((((decide ((↑(m-t):Int)>↑i))=true)→(((I64 (↑(m-t)-1))∧(I64 (↑(m-t)-1))∧((0≤(↑(m-t):Int)-1)∧((↑(m-t):Int)-1<↑n))∧((0≤(↑(m-t):Int))∧((↑(m-t):Int)<↑n))∧((0≤(↑(m-t):Int))∧((↑(m-t):Int)<↑n))∧(0≤(↑(m-t):Int)-1)∧((↑(m-t):Int)-1<↑n))∧(I64 (↑(m-t)-1))∧(ZA (aB ZT [0]))))∧(((decide ((↑(m-t):Int)>↑i))=false)→ZW [cd Tryz.f127 [0,1,0,1,1,1,1],cd Tryz.f127 [1,1]] (aB ZT [1]) ZQ))) (by kernel_rfl) ?_
      refine⟨fun h=>?_,fun h=>?_⟩
      ·have h5:=dn h
       refine⟨⟨⟨by omega,by omega⟩,⟨by omega,by omega⟩,⟨by omega,by omega⟩,⟨by omega,by omega⟩,⟨by omega,by omega⟩,by omega,by omega⟩,⟨by omega,by omega⟩,Again.mk (t+1) ?_ (by omega) (by omega)⟩
       refine AS.leZ [6] [0] (b:=((T0∧T0∧T0∧T0∧T0∧T0∧((vi (↑(m-t)-1)):AV)=(vi (↑(m-(t+1))))∧True)∧((some [(.arr bY 9 (fun j=>bif Nat.beq j (0+Int.toNat ((↑(m-t):Int)-1)) then DV.agg [di (Ev.kind (L (dF σ (m-t) t 1 (0+Int.toNat (↑(m-t):Int))))),ds (Ky.st (Ev.k (L (dF σ (m-t) t 1 (0+Int.toNat (↑(m-t):Int)))))),ds (Ky.ex (Ev.k (L (dF σ (m-t) t 1 (0+Int.toNat (↑(m-t):Int)))))),di (Ky.n (Ev.k (L (dF σ (m-t) t 1 (0+Int.toNat (↑(m-t):Int)))))),di (Ev.t (L (dF σ (m-t) t 1 (0+Int.toNat (↑(m-t):Int))))),di (Ev.v (L (dF σ (m-t) t 1 (0+Int.toNat (↑(m-t):Int))))),di (Ev.h (L (dF σ (m-t) t 1 (0+Int.toNat (↑(m-t):Int))))),ds (Ev.s (L (dF σ (m-t) t 1 (0+Int.toNat (↑(m-t):Int))))),db (Ev.acc (L (dF σ (m-t) t 1 (0+Int.toNat (↑(m-t):Int)))))] else bif Nat.beq j (0+Int.toNat (↑(m-t):Int)) then DV.agg [di (Ev.kind (L (dF σ (m-t) t 1 (0+Int.toNat ((↑(m-t):Int)-1))))),ds (Ky.st (Ev.k (L (dF σ (m-t) t 1 (0+Int.toNat ((↑(m-t):Int)-1)))))),ds (Ky.ex (Ev.k (L (dF σ (m-t) t 1 (0+Int.toNat ((↑(m-t):Int)-1)))))),di (Ky.n (Ev.k (L (dF σ (m-t) t 1 (0+Int.toNat ((↑(m-t):Int)-1)))))),di (Ev.t (L (dF σ (m-t) t 1 (0+Int.toNat ((↑(m-t):Int)-1))))),di (Ev.v (L (dF σ (m-t) t 1 (0+Int.toNat ((↑(m-t):Int)-1))))),di (Ev.h (L (dF σ (m-t) t 1 (0+Int.toNat ((↑(m-t):Int)-1))))),ds (Ev.s (L (dF σ (m-t) t 1 (0+Int.toNat ((↑(m-t):Int)-1))))),db (Ev.acc (L (dF σ (m-t) t 1 (0+Int.toNat ((↑(m-t):Int)-1)))))] else dO L (dF σ (m-t) t 1) j))]):dS)=(some [(.arr bY 9 (dO L (dF σ (m-(t+1)) (t+1) 1)))])∧True)) (by kernel_rfl) (by kernel_rfl) ?_
       refine⟨⟨rfl,rfl,rfl,rfl,rfl,rfl,nD (by omega),trivial⟩,?_,trivial⟩
       rw[←Xz σ m t (by omega)]
       exact congrArg (fun f=>some [AV.arr mY 9 f]) (FI (by omega) (by omega))
      ·obtain rfl:t=m-i:=by have:=of_decide_eq_false h;omega
       refine dh (aj:=bG) ?_
       refine aC (fun _ _ _ _=>((ZS ((.d (.aN [])):AV))∧((some [(.arr bY 9 (dO L (dF σ (m-(m-i)) (m-i) 1)))]):dS)=(some [(.arr bY 9 (dO L (dF σ i (m-i) 1)))])∧True)) (by kernel_rfl) ?_
       exact⟨rfl,by rw[show m-(m-i)=i by omega],trivial⟩
  ·exfalso
   have:¬((b:Int)-(m:Int)=1):=by simpa using h
   omega
noncomputable def aaE (L:Nat→Ev) (fuel:Nat) (τ:Nat→Nat):FuncId→List AV→List (Nat×List AV)→Option (AV×List (Nat×List AV)):=fun f args _=>match f,args with
 | 154,[_,.d (.con (.int _ a)),.d (.con (.int _ b)),.d (.con (.int _ c)),_]=>some (.d iO,[(1000000,[.arr mY 9 (dO L (dF τ a.toNat (b.toNat-a.toNat) (c.toNat-b.toNat)))])])
 | 127,[_,.d (.con (.int _ a)),.d (.con (.int _ b)),.d (.con (.int _ c)),_]=>some (.d iO,[(1000000,[.arr mY 9 (dO L (gG (fun i=>Ev.t (L i)) fuel a.toNat b.toNat c.toNat τ))])])
 | _,_=>none
noncomputable def Ii (L:Nat→Ev) (fuel:Nat) (τ:Nat→Nat):dU:={ d:=(oN).d,m:=aaE L fuel τ }
noncomputable def XI (L:Nat→Ev) (σ:Nat→Nat) (n a m b mid:Nat) (x:Nat×Nat):AS:=⟨regs Tryz.f127.ntmps [(0,.vec 1000000 9 0 n),(1,vi a),(2,vi m),(3,vi b),(4,rM),(18,vi mid),(19,vi (mid+m:Nat)),(20,vi x.1),(21,vi x.2),(22,vi (mid+m-1:Nat))],lq L σ⟩
noncomputable def Ul (L:Nat→Ev) (τ:Nat→Nat) (n a m b mid st en:Nat):AS:=⟨regs Tryz.f127.ntmps [(0,.vec 1000000 9 0 n),(1,vi a),(2,vi m),(3,vi b),(4,rM),(18,vi mid),(20,vi st),(24,vi en)],lq L τ⟩
def pM (κ:Nat→Int) (σ:Nat→Nat) (q:Nat) (c:Nat):Bool:=!decide (κ (σ (q-1-c))<κ (σ c))
def Ai (G:IH) (L:Nat→Ev) (fuel n:Nat):Prop:=∀(τ:Nat→Nat) (a m b:Nat),b-a≤fuel→a<m→m<b→b≤n→dD Tryz.prog G 127 [.vec 1000000 9 0 n,vi a,vi m,vi b,rM] (lq L τ) (.d iO) (lq L (gG (fun i=>Ev.t (L i)) fuel a m b τ))
theorem RY (L:Nat→Ev) (fuel n:Nat) (ih:Ai G L fuel n) (σ:Nat→Nat) (a m b mid st en:Nat) (hm:a<mid) (hf:b-a≤fuel+1) (h2:b≤n) :
  aX Tryz.prog G [cd Tryz.f127 [1,1,1,1,1,1,1,1,1,1,1]] (Ul L σ n a m b mid st en) (DJ Tryz.prog Tryz.f127 [] (.d iO) (lq L (if mid<en∧en<b then gG (fun i=>Ev.t (L i)) fuel mid en b σ else σ))):=by
 refine dh (aj:=Ii L fuel σ) ?_
 refine aC (fun _ _ _ _=>(fun Za Zb=>(((Zb=true)→(dD Tryz.prog G 127 [(.vec 1000000 9 0 n),(vi (↑mid)),(vi (↑en)),(vi (↑b)),(.d (.con (.func (.func 85) ⟨[]⟩ ⟨[]⟩)))] [(1000000,[(.arr bY 9 (dO L σ))])] (.d (.aN [])) [(1000000,[Za])]∧(ZS ((.d (.aN [])):AV))∧((some [Za]):dS)=(some [(.arr bY 9 (dO L (if mid<en∧en<b then gG (fun i=>(L i).t) fuel mid en b σ else σ)))])∧True))∧((Zb=false)→((ZS ((.d (.aN [])):AV))∧((some [(.arr bY 9 (dO L σ))]):dS)=(some [(.arr bY 9 (dO L (if mid<en∧en<b then gG (fun i=>(L i).t) fuel mid en b σ else σ)))])∧True)))) ((.arr bY 9 (dO L (gG (fun i=>(L i).t) fuel (↑mid:Int).toNat (↑en:Int).toNat (↑b:Int).toNat σ))):AV) (decide ((↑mid:Int)<(↑en:Int))&&decide ((↑en:Int)<↑b))) (by kernel_rfl) ?_
 try dsimp only
 simp only[gW]
 refine⟨fun h=>?_,fun h=>?_⟩
 ·simp only[aY,eF] at h
  obtain ⟨h3,h4⟩:=h
  have h3:mid<en:=by omega
  have h4:en<b:=by omega
  exact⟨ih σ mid en b (by omega) h3 h4 h2,trivial,by rw[if_pos ⟨h3,h4⟩],trivial⟩
 ·refine⟨trivial,?_,trivial⟩
  rw[if_neg]
  rintro ⟨h3,h4⟩
  rw[decide_eq_true (by omega),decide_eq_true (by omega)] at h
  cases h
theorem RV (L:Nat→Ev) (fuel n:Nat) (ih:Ai G L fuel n) (σ σ2:Nat→Nat) (a m b mid st en:Nat) (hs:σ2=if a<st∧st<mid then gG (fun i=>Ev.t (L i)) fuel a st mid σ else σ) (hm:a<mid) (hmb:mid<b) (hf:b-a≤fuel+1) (h2:b≤n) :
  aX Tryz.prog G [cd Tryz.f127 [1,1,1,1,1,1,1,1,1,1,0],cd Tryz.f127 [1,1,1,1,1,1,1,1,1,1,1]] (Ul L σ n a m b mid st en) (DJ Tryz.prog Tryz.f127 [] (.d iO) (lq L (if mid<en∧en<b then gG (fun i=>Ev.t (L i)) fuel mid en b σ2 else σ2))):=by
 refine walk (aj:=Ii L fuel σ) (keep:=[]) (cuts:=[43]) (n:=1000) follows ?_
 refine aC (fun ZT ZW ZQ _=>(fun Za=>(((Za=true)→(dD Tryz.prog G 127 [(.vec 1000000 9 0 n),(vi (↑a)),(vi (↑st)),(vi (↑mid)),(.d (.con (.func (.func 85) ⟨[]⟩ ⟨[]⟩)))] [(1000000,[(.arr bY 9 (dO L σ))])] (.d (.aN [])) [(1000000,[(.arr bY 9 (dO L (gG (fun i=>(L i).t) fuel (↑a:Int).toNat (↑st:Int).toNat (↑mid:Int).toNat σ)))])]∧ZW [cd Tryz.f127 [1,1,1,1,1,1,1,1,1,1,1]] (aB ZT [0]) ZQ))∧((Za=false)→ZW [cd Tryz.f127 [1,1,1,1,1,1,1,1,1,1,1]] (aB ZT [1]) ZQ))) (decide ((↑a:Int)<(↑st:Int))&&decide ((↑st:Int)<↑mid))) (by kernel_rfl) ?_
 try dsimp only
 simp only[gW]
 refine⟨fun h=>?_,fun h=>?_⟩
 ·simp only[aY,eF] at h
  obtain ⟨h3,h4⟩:=h
  have h3:a<st:=by omega
  have h4:st<mid:=by omega
  refine⟨ih σ a st mid (by omega) h3 h4 (by omega),?_⟩
  rw[if_pos ⟨h3,h4⟩] at hs
  subst hs
  refine aX.weaken ?_ (RY L fuel n ih _ a m b mid st en hm hf h2)
  exact AS.bD (by kernel_rfl)
 ·rw[if_neg (fun hc=>by
   rw[decide_eq_true (by omega),decide_eq_true (by omega)] at h
   cases h)] at hs
  subst hs
  refine aX.weaken ?_ (RY L fuel n ih _ a m b mid st en hm hf h2)
  exact AS.bD (by kernel_rfl)
theorem Yz (L:Nat→Ev) (fuel n:Nat) (ih:Ai G L fuel n) (σ σ1 σ2:Nat→Nat) (a m b mid st en:Nat) (hs1:σ1=dF σ st (m-st) (en-m)) (hs:σ2=if a<st∧st<mid then gG (fun i=>Ev.t (L i)) fuel a st mid σ1 else σ1) (hm:a<mid) (hmb:mid<b) (hf:b-a≤fuel+1) (h2:b≤n) (hn:n≤100000000) (heb:en≤b) :
  aX Tryz.prog G [cd Tryz.f127 [1,1,1,1,1,1,1,1,1,0],cd Tryz.f127 [1,1,1,1,1,1,1,1,1,1]] (Ul L σ n a m b mid st en) (DJ Tryz.prog Tryz.f127 [] (.d iO) (lq L (if mid<en∧en<b then gG (fun i=>Ev.t (L i)) fuel mid en b σ2 else σ2))):=by
 refine walk (aj:=Ii L fuel σ) (keep:=[]) (cuts:=[41]) (n:=1000) follows ?_
 refine aC (fun ZT ZW ZQ _=>((((decide ((↑st:Int)<(↑m:Int))&&decide ((↑m:Int)<↑en))=true)→(dD Tryz.prog G 154 [(.vec 1000000 9 0 n),(vi (↑st)),(vi (↑m)),(vi (↑en)),(.d (.con (.func (.func 85) ⟨[]⟩ ⟨[]⟩)))] [(1000000,[(.arr bY 9 (dO L σ))])] (.d (.aN [])) [(1000000,[(.arr bY 9 (dO L (dF σ (↑st:Int).toNat ((↑m:Int).toNat-(↑st:Int).toNat) ((↑en:Int).toNat-(↑m:Int).toNat))))])]∧ZW [cd Tryz.f127 [1,1,1,1,1,1,1,1,1,1,0],cd Tryz.f127 [1,1,1,1,1,1,1,1,1,1,1]] (aB ZT [0]) ZQ))∧(((decide ((↑st:Int)<(↑m:Int))&&decide ((↑m:Int)<↑en))=false)→ZW [cd Tryz.f127 [1,1,1,1,1,1,1,1,1,1,0],cd Tryz.f127 [1,1,1,1,1,1,1,1,1,1,1]] (aB ZT [1]) ZQ))) (by kernel_rfl) ?_
 simp only[gW]
 refine⟨fun h=>?_,fun h=>?_⟩
 ·simp only[aY,eF] at h
  obtain ⟨h3,h4⟩:=h
  have h3:st<m:=by omega
  have h4:m<en:=by omega
  refine⟨f154 L σ n st m en h3 h4 (by omega) hn,?_⟩
  subst hs1
  refine aX.weaken ?_ (RV L fuel n ih _ σ2 a m b mid st en hs hm hmb hf h2)
  refine AS.leZ [] [0] (b:=((T0∧T0∧T0∧T0∧T0∧T0∧T0∧T0∧True)∧((some [(.arr bY 9 (dO L (dF σ (↑st:Int).toNat ((↑m:Int).toNat-(↑st:Int).toNat) ((↑en:Int).toNat-(↑m:Int).toNat))))]):dS)=(some [(.arr bY 9 (dO L (dF σ st (m-st) (en-m))))])∧True)) (by kernel_rfl) (by kernel_rfl) ?_
  exact⟨⟨rfl,rfl,rfl,rfl,rfl,rfl,rfl,rfl,trivial⟩,rfl,trivial⟩
 ·have e:dF σ st (m-st) (en-m)=σ:=by
   rw[Bool.and_eq_false_iff] at h
   rcases h with h|h
   ·have:=of_decide_eq_false h
    exact Jy _ _ _ _ (.inl (by omega))
   ·have:=of_decide_eq_false h
    exact Jy _ _ _ _ (.inr (by omega))
  rw[e] at hs1
  subst hs1
  refine aX.weaken ?_ (RV L fuel n ih _ σ2 a m b mid st en hs hm hmb hf h2)
  exact AS.bD (by kernel_rfl)
def aa0 (κ:Nat→Int) (fuel a m b mid st:Nat) (σ:Nat→Nat):Nat→Nat:=
 let σ1:=dF σ st (m-st) (mid+m-st-m);let σ2:=if a<st∧st<mid then gG κ fuel a st mid σ1 else σ1;if mid<mid+m-st∧mid+m-st<b then gG κ fuel mid (mid+m-st) b σ2 else σ2
theorem Vu (L:Nat→Ev) (fuel n:Nat) (ih:Ai G L fuel n) (σ:Nat→Nat) (a m b mid s0 r0:Nat) (hm:a<mid) (hmb:mid<b) (ham:a<m) (hb:m<b) (hmid:mid=(a+b) / 2) (hf:b-a≤fuel+1) (h2:b≤n) (hn:n≤100000000) (hs0:s0=if mid<m then mid+m-b else a) (hr0:r0=if mid<m then mid else m) :
  aX Tryz.prog G [cd Tryz.f127 [1,1,1,1,1,1,1,0,0],.blk 8,cd Tryz.f127 [1,1,1,1,1,1,1,1]] (XI L σ n a m b mid (s0,r0)) (DJ Tryz.prog Tryz.f127 [] (.d iO) (lq L (aa0 (fun i=>Ev.t (L i)) fuel a m b mid (jB (pM (fun i=>Ev.t (L i)) σ (mid+m)) (r0-s0) s0 r0) σ))):=by
 have hs:s0≤r0:=by rw[hs0,hr0];split<;>omega
 refine aX.loop (c:=aU (au Tryz.f127) [1,1,1,1,1,1,1,0,0,0]) (by kernel_rfl) (XI L σ n a m b mid) (fun x=>s0≤x.1∧x.1≤x.2∧x.2≤r0∧jB (pM (fun i=>Ev.t (L i)) σ (mid+m)) (x.2-x.1) x.1 x.2=jB (pM (fun i=>Ev.t (L i)) σ (mid+m)) (r0-s0) s0 r0) (fun x=>x.2-x.1) (s0,r0) ?_ ⟨Nat.le_refl _,hs,Nat.le_refl _,rfl⟩ ?_
 ·exact AS.bD (by kernel_rfl)
 ·rintro ⟨i,j⟩ ⟨q1,q2,q3,q4⟩
  simp only at q1 q2 q3 q4
  have hrm:r0≤m:=by rw[hr0];split<;>omega
  have hsb:mid+m-b≤s0:=by rw[hs0];split<;>omega
  have hsa:a≤s0:=by rw[hs0];split<;>omega
  refine walk (aj:=oN) (keep:=[]) (cuts:=[39]) (n:=1000) follows ?_
  refine aV (fun ZT ZW ZQ ZK ZA _=>(fun Za=>((((decide ((↑i:Int)<↑j))=true)→(((I64 (↑i + ↑j))∧((0:Int)≤(1:Int)))∧((I64 (↑(mid+m-1)-IntKind.i64.wrap Za))∧((0≤↑(mid+m-1)-IntKind.i64.wrap Za)∧(↑(mid+m-1)-IntKind.i64.wrap Za<↑n))∧((0≤IntKind.i64.wrap Za)∧(IntKind.i64.wrap Za<↑n))∧ZK 85 [(.agg [(di (L (σ (0+(↑(mid+m-1)-IntKind.i64.wrap Za).toNat))).kind),(ds (L (σ (0+(↑(mid+m-1)-IntKind.i64.wrap Za).toNat))).k.st),(ds (L (σ (0+(↑(mid+m-1)-IntKind.i64.wrap Za).toNat))).k.ex),(di (L (σ (0+(↑(mid+m-1)-IntKind.i64.wrap Za).toNat))).k.n),(di (L (σ (0+(↑(mid+m-1)-IntKind.i64.wrap Za).toNat))).t),(di (L (σ (0+(↑(mid+m-1)-IntKind.i64.wrap Za).toNat))).v),(di (L (σ (0+(↑(mid+m-1)-IntKind.i64.wrap Za).toNat))).h),(ds (L (σ (0+(↑(mid+m-1)-IntKind.i64.wrap Za).toNat))).s),(db (L (σ (0+(↑(mid+m-1)-IntKind.i64.wrap Za).toNat))).acc)]),(.agg [(di (L (σ (0+(IntKind.i64.wrap Za).toNat))).kind),(ds (L (σ (0+(IntKind.i64.wrap Za).toNat))).k.st),(ds (L (σ (0+(IntKind.i64.wrap Za).toNat))).k.ex),(di (L (σ (0+(IntKind.i64.wrap Za).toNat))).k.n),(di (L (σ (0+(IntKind.i64.wrap Za).toNat))).t),(di (L (σ (0+(IntKind.i64.wrap Za).toNat))).v),(di (L (σ (0+(IntKind.i64.wrap Za).toNat))).h),(ds (L (σ (0+(IntKind.i64.wrap Za).toNat))).s),(db (L (σ (0+(IntKind.i64.wrap Za).toNat))).acc)])] (di (sN (jD (dO L σ (0+(↑(mid+m-1)-IntKind.i64.wrap Za).toNat))) (jD (dO L σ (0+(IntKind.i64.wrap Za).toNat))))))∧(((!decide (sN (jD (dO L σ (0+(↑(mid+m-1)-IntKind.i64.wrap Za).toNat))) (jD (dO L σ (0+(IntKind.i64.wrap Za).toNat)))<0))=true)→((I64 (IntKind.i64.wrap Za+1))∧(ZA (aB ZT [0,0]))))∧(((!decide (sN (jD (dO L σ (0+(↑(mid+m-1)-IntKind.i64.wrap Za).toNat))) (jD (dO L σ (0+(IntKind.i64.wrap Za).toNat)))<0))=false)→(ZA (aB ZT [0,1])))))∧(((decide ((↑i:Int)<↑j))=false)→ZW [cd Tryz.f127 [1,1,1,1,1,1,1,1]] (aB ZT [1]) ZQ))) ((IntKind.u64.wrap (↑i + ↑j)).fdiv (2 ^ min (Int.toNat 1) IntKind.u64.bits))) (by kernel_rfl) ?_
  try dsimp only
  have hh:=half (i:=i) (j:=j) (by omega)
  simp only[Nr,hh,Nat.zero_add,gW]
  refine⟨fun h=>?_,fun h=>?_⟩
  ·have hij:i<j:=by have:=dn h;omega
   have e1:=NW (p:=pM (fun i=>Ev.t (L i)) σ (mid+m)) hij
   have e2:(((mid+m-1:Nat):Int)-(((i+j) / 2:Nat):Int)).toNat=mid+m-1-(i+j) / 2:=by omega
   simp only[e2]
   refine⟨⟨⟨by omega,by omega⟩,by decide⟩,⟨⟨by omega,by omega⟩,⟨by omega,by omega⟩,⟨by omega,by omega⟩,f85 (L (σ (mid+m-1-(i+j) / 2))) (L (σ ((i+j) / 2)))⟩,fun h=>⟨⟨by omega,by omega⟩,Again.mk ((i+j) / 2+1,j) ?_ ⟨by simp only;omega,by simp only;omega,q3,?_⟩ (by simp only;omega)⟩,fun h=>Again.mk (i,(i+j) / 2) ?_ ⟨q1,by simp only;omega,by simp only;omega,?_⟩ (by simp only;omega)⟩
   ·refine AS.leZ [7] [] (b:=((T0∧T0∧T0∧T0∧T0∧T0∧T0∧((vi (IntKind.i64.wrap ((IntKind.u64.wrap (↑i + ↑j)).fdiv (2 ^ min (Int.toNat 1) IntKind.u64.bits))+1)):AV)=(vi (↑((i+j) / 2+1)))∧T0∧T0∧True)∧T0∧True)) (by kernel_rfl) (by kernel_rfl) ?_
    exact⟨⟨rfl,rfl,rfl,rfl,rfl,rfl,rfl,nD (by rw[hh];rfl),rfl,rfl,trivial⟩,rfl,trivial⟩
   ·have h:=fun c=>of_decide_eq_false (Bool.not_eq_true' _ |>.mp h) ((qx _ _).2 c)
    rw[if_pos (by unfold pM;rw[decide_eq_false h];rfl)] at e1
    exact e1.symm.trans q4
   ·refine AS.leZ [8] [] (b:=((T0∧T0∧T0∧T0∧T0∧T0∧T0∧T0∧((vi (IntKind.i64.wrap ((IntKind.u64.wrap (↑i + ↑j)).fdiv (2 ^ min (Int.toNat 1) IntKind.u64.bits)))):AV)=(vi (↑((i+j) / 2)))∧T0∧True)∧T0∧True)) (by kernel_rfl) (by kernel_rfl) ?_
    exact⟨⟨rfl,rfl,rfl,rfl,rfl,rfl,rfl,rfl,nD hh,rfl,trivial⟩,rfl,trivial⟩
   ·have h:=(qx _ _).1 (dn (Bool.not_eq_false' _ |>.mp h))
    rw[if_neg (by unfold pM;rw[decide_eq_true h];decide)] at e1
    exact e1.symm.trans q4
  ·have hij:i=j:=by have:=of_decide_eq_false h;omega
   subst hij
   rw[Nat.sub_self,jB] at q4
   rw[←q4]
   have hen:mid+m-i≤b:=by omega
   refine walk (aj:=bG) (keep:=[]) (cuts:=[39]) (n:=1000) follows ?_
   refine aC (fun ZT ZW ZQ _=>((I64 (↑(mid+m) - ↑i))∧ZW [cd Tryz.f127 [1,1,1,1,1,1,1,1,1,0],cd Tryz.f127 [1,1,1,1,1,1,1,1,1,1]] (aB ZT []) ZQ)) (by kernel_rfl) ?_
   refine⟨⟨by omega,by omega⟩,?_⟩
   refine aX.weaken ?_ (Yz L fuel n ih σ _ _ a m b mid i (mid+m-i) rfl rfl hm hmb hf h2 hn hen)
   refine AS.leZ [7] [] (b:=((T0∧T0∧T0∧T0∧T0∧T0∧T0∧((vi (↑(mid+m) - ↑i)):AV)=(vi (↑(mid+m-i)))∧True)∧T0∧True)) (by kernel_rfl) (by kernel_rfl) ?_
   exact⟨⟨rfl,rfl,rfl,rfl,rfl,rfl,rfl,nD (by omega),trivial⟩,rfl,trivial⟩
theorem abf {κ:Nat→Int} {fuel a m b:Nat} {σ:Nat→Nat} (h0:m-a≠1) (h1:b-m≠1):gG κ (fuel+1) a m b σ=aa0 κ fuel a m b ((a+b) / 2) (jB (pM κ σ ((a+b) / 2+m)) ((if (a+b) / 2<m then (a+b) / 2 else m)-(if (a+b) / 2<m then (a+b) / 2+m-b else a)) (if (a+b) / 2<m then (a+b) / 2+m-b else a) (if (a+b) / 2<m then (a+b) / 2 else m)) σ:=by
 rw[gG,if_neg h0,if_neg h1];rfl
theorem Z9 (L:Nat→Ev) (fuel n:Nat) (ih:Ai G L fuel n) (σ:Nat→Nat) (a m b:Nat) (ha:a<m) (hb:m<b) (h0:m≠a+1) (h1:b≠m+1) (hf:b-a≤fuel+1) (h2:b≤n) (hn:n≤100000000):dD Tryz.prog G 127 [.vec 1000000 9 0 n,vi a,vi m,vi b,rM] (lq L σ) (.d iO) (lq L (gG (fun i=>Ev.t (L i)) (fuel+1) a m b σ)):=by
 rw[abf (by omega) (by omega)]
 refine dD.dA (mv:=[]) (by kernel_rfl) Tryz.func127 rfl Tryz.call127 ?_
 refine walk (aj:=bG) (keep:=[]) (cuts:=[1,12]) (n:=1000) follows ?_
 refine aC (fun ZT ZW ZQ _=>((I64 (↑m - ↑a))∧((((↑m:Int) - ↑a==1)=true)→ZW [cd Tryz.f127 [0,1,0],cd Tryz.f127 [1]] (aB ZT [0]) ZQ)∧((((↑m:Int) - ↑a==1)=false)→ZW [cd Tryz.f127 [1,0],cd Tryz.f127 [1,1]] (aB ZT [1]) ZQ))) (by kernel_rfl) ?_
 refine⟨⟨by omega,by omega⟩,fun h=>?_,fun _=>?_⟩
 ·exfalso
  have:(m:Int)-(a:Int)=1:=by simpa using h
  omega
 refine walk (aj:=bG) (keep:=[]) (cuts:=[13,24]) (n:=1000) follows ?_
 refine aC (fun ZT ZW ZQ _=>((I64 (↑b - ↑m))∧((((↑b:Int) - ↑m==1)=true)→ZW [cd Tryz.f127 [1,0,1,0],cd Tryz.f127 [1,1]] (aB ZT [0]) ZQ)∧((((↑b:Int) - ↑m==1)=false)→ZW [cd Tryz.f127 [1,1]] (aB ZT [1]) ZQ))) (by kernel_rfl) ?_
 refine⟨⟨by omega,by omega⟩,fun h=>?_,fun _=>?_⟩
 ·exfalso
  have:(b:Int)-(m:Int)=1:=by simpa using h
  omega
 refine dh (aj:=bG) ?_
 refine aC (fun ZT ZW ZQ _=>(fun Za=>(((I64 (↑a + ↑b))∧((0:Int)≤(1:Int)))∧(I64 (IntKind.i64.wrap Za + ↑m))∧(((decide (↑m>IntKind.i64.wrap Za))=true)→((I64 (IntKind.i64.wrap Za + ↑m - ↑b))∧(I64 (IntKind.i64.wrap Za + ↑m-1))∧ZW [cd Tryz.f127 [1,1,1,1,1,1,1,0,0],(.blk 8),cd Tryz.f127 [1,1,1,1,1,1,1,1]] (aB ZT [0]) ZQ))∧(((decide (↑m>IntKind.i64.wrap Za))=false)→((I64 (IntKind.i64.wrap Za + ↑m-1))∧ZW [cd Tryz.f127 [1,1,1,1,1,1,1,0,0],(.blk 8),cd Tryz.f127 [1,1,1,1,1,1,1,1]] (aB ZT [1]) ZQ)))) ((IntKind.u64.wrap (↑a + ↑b)).fdiv (2 ^ min (Int.toNat 1) IntKind.u64.bits))) (by kernel_rfl) ?_
 try dsimp only
 have hh:=half (i:=a) (j:=b) (by omega)
 simp only[hh]
 refine⟨⟨⟨by omega,by omega⟩,by decide⟩,⟨by omega,by omega⟩,fun h=>⟨⟨by omega,by omega⟩,⟨by omega,by omega⟩,?_⟩,fun h=>⟨⟨by omega,by omega⟩,?_⟩⟩
 ·have h:=dn h
  have hc:(a+b) / 2<m:=by omega
  simp only[if_pos hc]
  refine aX.weaken ?_ (Vu L fuel n ih σ a m b ((a+b) / 2) _ _ (by omega) (by omega) ha hb rfl hf h2 hn (if_pos hc).symm (if_pos hc).symm)
  refine AS.leZ [5,6,7,8,9] [] (b:=((T0∧T0∧T0∧T0∧T0∧((vi (IntKind.i64.wrap ((IntKind.u64.wrap (↑a + ↑b)).fdiv (2 ^ min (Int.toNat 1) IntKind.u64.bits)))):AV)=(vi (↑((a+b) / 2)))∧((vi (IntKind.i64.wrap ((IntKind.u64.wrap (↑a + ↑b)).fdiv (2 ^ min (Int.toNat 1) IntKind.u64.bits)) + ↑m)):AV)=(vi (↑((a+b) / 2+m)))∧((vi (IntKind.i64.wrap ((IntKind.u64.wrap (↑a + ↑b)).fdiv (2 ^ min (Int.toNat 1) IntKind.u64.bits)) + ↑m - ↑b)):AV)=(vi (↑((a+b) / 2+m-b)))∧((vi (IntKind.i64.wrap ((IntKind.u64.wrap (↑a + ↑b)).fdiv (2 ^ min (Int.toNat 1) IntKind.u64.bits)))):AV)=(vi (↑((a+b) / 2)))∧((vi (IntKind.i64.wrap ((IntKind.u64.wrap (↑a + ↑b)).fdiv (2 ^ min (Int.toNat 1) IntKind.u64.bits)) + ↑m-1)):AV)=(vi (↑((a+b) / 2+m-1)))∧True)∧T0∧True)) (by kernel_rfl) (by kernel_rfl) ?_
  rw[hh]
  exact⟨⟨rfl,rfl,rfl,rfl,rfl,rfl,nD (by omega),nD (by omega),rfl,nD (by omega),trivial⟩,rfl,trivial⟩
 ·have h:=of_decide_eq_false h
  have hc:¬(a+b) / 2<m:=by omega
  simp only[if_neg hc]
  refine aX.weaken ?_ (Vu L fuel n ih σ a m b ((a+b) / 2) _ _ (by omega) (by omega) ha hb rfl hf h2 hn (if_neg hc).symm (if_neg hc).symm)
  refine AS.leZ [5,6,9] [] (b:=((T0∧T0∧T0∧T0∧T0∧((vi (IntKind.i64.wrap ((IntKind.u64.wrap (↑a + ↑b)).fdiv (2 ^ min (Int.toNat 1) IntKind.u64.bits)))):AV)=(vi (↑((a+b) / 2)))∧((vi (IntKind.i64.wrap ((IntKind.u64.wrap (↑a + ↑b)).fdiv (2 ^ min (Int.toNat 1) IntKind.u64.bits)) + ↑m)):AV)=(vi (↑((a+b) / 2+m)))∧T0∧T0∧((vi (IntKind.i64.wrap ((IntKind.u64.wrap (↑a + ↑b)).fdiv (2 ^ min (Int.toNat 1) IntKind.u64.bits)) + ↑m-1)):AV)=(vi (↑((a+b) / 2+m-1)))∧True)∧T0∧True)) (by kernel_rfl) (by kernel_rfl) ?_
  rw[hh]
  exact⟨⟨rfl,rfl,rfl,rfl,rfl,rfl,nD (by omega),rfl,rfl,nD (by omega),trivial⟩,rfl,trivial⟩
theorem f127:∀(fuel:Nat) (L:Nat→Ev) (n:Nat) (_:n≤100000000),Ai G L fuel n
 | 0,L,n,hn=>fun τ a m b h ha hb _=>by omega
 | fuel+1,L,n,hn=>fun τ a m b h ha hb h2=>by
  by_cases h0:m=a+1
  ·have:=aas (G:=G) L τ n a m b h0 hb h2 hn
   rw[gG,if_pos (by omega)]
   exact this
  ·by_cases h1:b=m+1
   ·have:=aaO (G:=G) L τ n a m b ha h0 h1 h2 hn
    rw[gG,if_neg (by omega),if_pos (by omega)]
    exact this
   ·exact Z9 L fuel n (f127 fuel L n hn) τ a m b ha hb h0 h1 h h2 hn
end Go.Proofs
