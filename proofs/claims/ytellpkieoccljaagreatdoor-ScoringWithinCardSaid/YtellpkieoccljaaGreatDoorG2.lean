import Derived.Test.YtellpkieoccljaaGreatDoorAcD
import Derived.Test.YtellpkieoccljaaGreatDoorG1
import Derived.Test.YtellpkieoccljaaGreatDoorG0
set_option autoImplicit false
namespace Go.Proofs
open Go Go.Ab Go.RowKit
set_option maxHeartbeats 4000000
set_option maxRecDepth 100000
variable {G:IH}
/-! The reference's text of an expression. -/
theorem JF (sep:List UInt8):∀(l:List (List UInt8)) (s:List UInt8),l≠[]→Lib.join (l++[s]) sep=Lib.join l sep++(sep++s)
 | [],_,h=>absurd rfl h
 | [t],s,_=>by simp[Lib.join,List.intercalate,List.intersperse]
 | t :: u :: l,s,_=>by
  have ih:=JF sep (u :: l) s (by simp)
  have e:∀(a b:List UInt8) (m:List (List UInt8)),Lib.join (a :: b :: m) sep=a++(sep++Lib.join (b :: m) sep):=fun a b m=>by
   simp[Lib.join,List.intercalate,List.intersperse]
  rw[List.cons_append,List.cons_append,e,←List.cons_append,ih,e]
  simp only[List.append_assoc]
theorem RU {l:List ByteArray} (s sep:ByteArray) (h:l≠[]):fJ (l++[s]) sep=fJ l sep++sep++s:=by
 unfold fJ
 rw[List.map_append]
 show (ByteArray.mk (Lib.join (_++[s.data.toList]) _).toArray)=_
 rw[JF _ _ _ (by simpa using h)]
 apply ByteArray.ext
 simp
theorem Ur (s sep:ByteArray):fJ [s] sep=s:=by
 unfold fJ
 apply ByteArray.ext
 simp[Lib.join_one]
theorem JY (sep:ByteArray):fJ [] sep=.empty:=by
 unfold fJ
 apply ByteArray.ext
 simp[Lib.join_nil]
def jT (x:Ex) (k:Nat):ByteArray:=fJ ((x.kids.map aO).take k) iM
theorem PV (x:Ex):jT x 0=.empty:=JY _
theorem QC {x:Ex} {k:Nat} (h:k<x.kids.length):jT x (k+1)=if (k:Int)>0 then jT x k++iM++aO (x.kids.getD k ak) else jT x k++aO (x.kids.getD k ak):=by
 unfold jT
 have hk:k<(x.kids.map aO).length:=by simpa using h
 have e:(x.kids.map aO)[k]=aO (x.kids.getD k ak):=by
  rw[List.getElem_map,List.getD,bQ h];rfl
 rw[List.take_succ_eq_append_getElem hk,e]
 split
 ·rename_i h0
  rw[RU]
  intro hh
  have:=congrArg List.length hh
  rw[List.length_take] at this
  simp at this
  rcases this with h1|h1
  ·omega
  ·rw[h1] at h;simp at h
 ·obtain rfl:k=0:=by omega
  rw[List.take_zero,List.nil_append,Ur,JY]
  apply ByteArray.ext
  simp
theorem JG:∀(l:List (Int×ByteArray)) (k:Nat),ni (l.take k)≤ni l
 | [],k=>by simp[ni]
 | p :: l,0=>by simp[ni]
 | p :: l,k+1=>by
  have:=JG l k
  simp only[List.take_succ_cons,ni];omega
theorem Qg {x:Ex} (h:Sm x) (k:Nat):(jT x k).size≤1100000:=by
 unfold jT
 rw[←Bf,←List.map_take]
 have h1:=zk ((gW x.kids).take k)
 have h2:=JG (gW x.kids) k
 have h3:=h.tot
 omega
theorem Vm (x:Ex):jT x x.kids.length=fJ ((gW x.kids).map (·.2)) iM:=by
 unfold jT
 rw[Bf,List.take_of_length_le (by simp)]
theorem Xh {k:Int} (h:aU k≠0):dh k=aU k-1:=by
 have hc:k=1∨k=2∨k=3∨k=4∨k=5∨k=6∨k=7∨k=8∨k=9∨k=10∨k=11∨k=12∨k=13∨k=14∨k=15∨k=16∨k=17∨k=18∨k=19∨k=20:=by
  refine Classical.byContradiction fun hn=>h ?_
  unfold aU
  repeat' split
  all_goals omega
 rcases hc with rfl|rfl|rfl|rfl|rfl|rfl|rfl|rfl|rfl|rfl|rfl|rfl|rfl|rfl|rfl|rfl|rfl|rfl|rfl|rfl<;>decide
theorem GX {x:Ex} (h:aV x=true):aU x.k≠0:=by
 intro h0
 rw[NC] at h
 unfold hdB at h
 rw[if_pos (by rw[h0];rfl)] at h
 cases h
noncomputable def yw:aZ:=fun f a=>match f,a with
 | 171,[e]=>some (di (aU (ah e).k))
 | 172,[fr n d]=>some (.au [ds (str (jG n d).1),db (jG n d).2])
 | 173,[e,.con (.int .i64 v)]=>some (ds (dK (v-1) (dh (ah e).k,aO (ah e))))
 | 174,[.con (.int .i64 v)]=>some (IZ v)
 | 142,[e]=>some (ds (aO (ah e)))
 | _,_=>none
theorem X8 {m:Nat} {y:Ex} (hy:ht y≤m) (hn:aV y=true) (hsz:(aO y).size≤10000000) (h:aj Tryz.prog G 142 [bG m y] (ds (aO y))) (v:Int) (hv:-100≤v∧v≤100):aj Tryz.prog G 173 [bG m y,di v] (ds (dK (v-1) (dh y.k,aO y))):=by
 have e:ah (exV y.k y.s y.n y.d y.pos y.kids.length (lay (bJ m) y.kids))=y:=fU hy
 have hr:=Xh (GX hn)
 refine aj.walk (ay:=yw) (keep:=[]) follows Tryz.func173 rfl Tryz.call173 ?_
 refine aA (fun _ _ _ ZK=>(ZK 171 [(aB m y)] (di (aU (ah (aB m y)).k))∧(((decide (aU (ah (aB m y)).k<v))=true)→((ZK 142 [(aB m y)] (ds (aO (ah (aB m y))))∧((ByteArray.mk #[40]).size+(aO (ah (aB m y))).size≤9223372036854775807)∧((ByteArray.mk #[40]++aO (ah (aB m y))).size+(ByteArray.mk #[41]).size≤9223372036854775807))∧((ds (ByteArray.mk #[40]++aO (ah (aB m y))++ByteArray.mk #[41])):DV)=(ds (dK (v-1) (dh y.k,aO y)))))∧(((decide (aU (ah (aB m y)).k<v))=false)→(ZK 142 [(aB m y)] (ds (aO (ah (aB m y))))∧((ds (aO (ah (aB m y)))):DV)=(ds (dK (v-1) (dh y.k,aO y))))))) (by kernel_rfl) ?_
 simp only[e]
 unfold dK
 refine⟨f171 m y,fun h1=>⟨⟨h,?_,?_⟩,?_⟩,fun h1=>⟨h,?_⟩⟩
 ·show 1+_≤_;omega
 ·rw[ByteArray.size_append];show 1+_+1≤_;omega
 ·have:=of_decide_eq_true h1
  rw[if_pos (by simp only;omega)]
 ·have:=of_decide_eq_false h1
  rw[if_neg (by simp only;omega)]
def oT (k:Int) (j:Nat):ByteArray:=if k∈(bU (aU k)).take j then gq k else .empty
theorem Zr {k:Int} {j:Nat} (hj:j<(bU (aU k)).length) (h:(bU (aU k)).getD j 0=k):oT k (j+1)=(opsT (aU k)).getD j .empty:=by
 unfold oT opsT
 rw[List.getD,bQ hj] at h
 have h:(bU (aU k))[j]=k:=h
 rw[if_pos,List.getD,List.getElem?_map,bQ hj]
 ·show gq k=gq ((bU (aU k))[j])
  rw[h]
 ·rw[List.take_succ_eq_append_getElem hj,h]
  simp
theorem Yc {k:Int} {j:Nat} (hj:j<(bU (aU k)).length) (h:¬(bU (aU k)).getD j 0=k):oT k (j+1)=oT k j:=by
 unfold oT
 rw[List.getD,bQ hj] at h
 have h:¬(bU (aU k))[j]=k:=h
 have h2:¬k=(bU (aU k))[j]:=fun h'=>h h'.symm
 have e:k∈(bU (aU k)).take (j+1)↔k∈(bU (aU k)).take j:=by
  rw[List.take_succ_eq_append_getElem hj,List.mem_append,List.mem_singleton]
  exact⟨fun h'=>h'.resolve_right h2,.inl⟩
 by_cases hm:k∈(bU (aU k)).take j
 ·rw[if_pos (e.2 hm),if_pos hm]
 ·rw[if_neg (fun h'=>hm (e.1 h')),if_neg hm]
theorem ZJ {k:Int} (h:gU k=true):oT k (bU (aU k)).length=gq k:=by
 unfold oT
 rw[if_pos]
 rw[List.take_length]
 have hc:k=6∨k=7∨k=8∨k=9∨k=12∨k=13∨k=14∨k=15∨k=16∨k=17∨k=19∨k=20:=by
  have:=of_decide_eq_true h
  omega
 rcases hc with rfl|rfl|rfl|rfl|rfl|rfl|rfl|rfl|rfl|rfl|rfl|rfl<;>decide
noncomputable def Tj (m:Nat) (x:Ex) (j:Nat):AS:=⟨regs Tryz.f142.ntmps [(1,.box 1 0),(7,vi (aU x.k)),(8,.d (.slc 1 (opsT (aU x.k)).length (dX (opsT (aU x.k))))),(9,.d (.slc 1 (bU (aU x.k)).length (dV (bU (aU x.k))))),(10,.d (ds (oT x.k j))),(11,vi j)],[(1,l7 m x)]⟩
noncomputable def Jd (m:Nat) (x:Ex) (pre:ByteArray) (k:Nat):AS:=⟨regs Tryz.f142.ntmps [(1,.box 1 0),(5,.d (ds (pre++jT x k))),(6,vi k)],[(1,l7 m x)]⟩
theorem f142 (m:Nat):∀(x:Ex),ht x≤m→Sm x→aV x=true→aj Tryz.prog G 142 [bG m x] (ds (aO x)):=by
 induction m using Nat.strongRecOn with
 | _ m ih=>
 intro x hx hs hsn
 have hl:=hs.len.1
 have e:ah (exV x.k x.s x.n x.d x.pos x.kids.length (lay (bJ m) x.kids))=x:=fU hx
 have aak:∀i,i<x.kids.length→aj Tryz.prog G 142 [aS m x i] (ds (aO (x.kids.getD i ak))):=fun i hi=>
  jD (Q:=fun d=>aj Tryz.prog G 142 [d] _) hx hi fun m' h1 h2=>ih m' h1 _ h2 (hs.kid hi) (dO hsn hi)
 have SE:∀i,i<x.kids.length→∀v:Int,(-100≤v∧v≤100)→aj Tryz.prog G 173 [aS m x i,di v] (ds (dK (v-1) (g0 (gW x.kids) i))):=fun i hi v hv=>by
  rw[qR hi]
  exact jD (Q:=fun d=>aj Tryz.prog G 173 [d,di v] _) hx hi fun m' h1 h2=>X8 h2 (dO hsn hi) (by have:=(hs.kid hi).size;omega) (ih m' h1 _ h2 (hs.kid hi) (dO hsn hi)) v hv
 refine aj.walk (ay:=yw) (keep:=[]) follows Tryz.func142 rfl Tryz.call142 ?_
 refine Qb ((.au [(.slc 1 (opsT (aU (ah (aB m x)).k)).length (dX (opsT (aU (ah (aB m x)).k)))),(.slc 1 (bU (aU (ah (aB m x)).k)).length (dV (bU (aU (ah (aB m x)).k))))]):DV) (dh (ah (aY m (x.kids.getD (Int.toNat 0) ak))).k,aO (ah (aY m (x.kids.getD (Int.toNat 0) ak)))) ((.d (.slc 1 (opsT (aU (ah (aB m x)).k)).length (dX (opsT (aU (ah (aB m x)).k))))):AV) ((.d (.slc 1 (bU (aU (ah (aB m x)).k)).length (dV (bU (aU (ah (aB m x)).k))))):AV) ((.d (.slc 6 x.kids.length (lay (bJ m) x.kids))):AV) (fF Tryz.prog Tryz.f142 (ds (aO x))) (fun Za Zb Zc Zd Ze Zf=>((((x.k==2)=true)→(((ds x.s):DV)=(ds (aO x))))∧(((x.k==2)=false)→((((x.k==1)=true)→(aj Tryz.prog G 172 [(.agg [(di x.n),(di x.d)])] (.au [(ds (str (jG x.n x.d).fst)),(db (jG x.n x.d).snd)])∧((ds (str (jG x.n x.d).fst)):DV)=(ds (aO x))))∧(((x.k==1)=false)→((((x.k==3)=true)→(((ds (ByteArray.mk #[116,114,117,101])):DV)=(ds (aO x))))∧(((x.k==3)=false)→((((x.k==4)=true)→(((ds (ByteArray.mk #[102,97,108,115,101])):DV)=(ds (aO x))))∧(((x.k==4)=false)→((((x.k==18)=true)→(((((0:Int)≤(0:Int))∧(0<(↑x.kids.length:Int)))∧aj Tryz.prog G 173 [(aY m (x.kids.getD (Int.toNat 0) ak)),(di 3)] (ds (dK (3-1) Zb))∧((ByteArray.mk #[110,111,116,32]).size+(dK (3-1) Zb).size≤9223372036854775807))∧((ds (ByteArray.mk #[110,111,116,32]++dK (3-1) Zb)):DV)=(ds (aO x))))∧(((x.k==18)=false)→((((x.k==5)=true)→(((((0:Int)≤(0:Int))∧(0<(↑x.kids.length:Int)))∧aj Tryz.prog G 173 [(aY m (x.kids.getD (Int.toNat 0) ak)),(di 7)] (ds (dK (7-1) Zb))∧((ByteArray.mk #[45]).size+(dK (7-1) Zb).size≤9223372036854775807))∧((ds (ByteArray.mk #[45]++dK (7-1) Zb)):DV)=(ds (aO x))))∧(((x.k==5)=false)→((((x.k==10)=true)→((((x.k==10)=true)→((((x.k==11)=true)→aC Tryz.prog G [cd Tryz.f142 [1,0,1,0,1,1,1,1,1,1,1,1,1,1,1,1,1,0,1,1,0,1,0],(.blk 1),cd Tryz.f142 [1,0,1,0,1,1,1,1,1,1,1,1,1,1,1,1,1,0,1,1,1],(.blk 0),cd Tryz.f142 [1,1]] ⟨regs 120 [(0,(.d (aB m x))),(1,(.box 1 0)),(2,(vs (ByteArray.mk #[]))),(5,(vs (ByteArray.mk #[109,97,120,40]))),(6,(vi 0)),(13,(.box 1 0)),(14,(vi x.k)),(15,(vb (x.k==2))),(16,(vb (x.k==2))),(19,(vb (x.k==1))),(20,(vb (x.k==1))),(28,(vb (x.k==3))),(29,(vb (x.k==3))),(30,(vb (x.k==4))),(31,(vb (x.k==4))),(32,(vb (x.k==18))),(33,(vb (x.k==18))),(40,(vb (x.k==5))),(41,(vb (x.k==5))),(48,(vb (x.k==10))),(49,(vb (x.k==10))),(51,(.box 1 0)),(52,(vi x.k)),(53,(vb (x.k==11)))],[(1,[(vi x.k),(vs x.s),(vi x.n),(vi x.d),(vi x.pos),Ze])]⟩ Zf)∧(((x.k==11)=false)→aC Tryz.prog G [cd Tryz.f142 [1,0,1,0,1,1,1,1,1,1,1,1,1,1,1,1,1,0,1,1,0,1,0],(.blk 1),cd Tryz.f142 [1,0,1,0,1,1,1,1,1,1,1,1,1,1,1,1,1,0,1,1,1],(.blk 0),cd Tryz.f142 [1,1]] ⟨regs 120 [(0,(.d (aB m x))),(1,(.box 1 0)),(2,(vs (ByteArray.mk #[]))),(5,(vs (ByteArray.mk #[109,105,110,40]))),(6,(vi 0)),(13,(.box 1 0)),(14,(vi x.k)),(15,(vb (x.k==2))),(16,(vb (x.k==2))),(19,(vb (x.k==1))),(20,(vb (x.k==1))),(28,(vb (x.k==3))),(29,(vb (x.k==3))),(30,(vb (x.k==4))),(31,(vb (x.k==4))),(32,(vb (x.k==18))),(33,(vb (x.k==18))),(40,(vb (x.k==5))),(41,(vb (x.k==5))),(48,(vb (x.k==10))),(49,(vb (x.k==10))),(51,(.box 1 0)),(52,(vi x.k)),(53,(vb (x.k==11)))],[(1,[(vi x.k),(vs x.s),(vi x.n),(vi x.d),(vi x.pos),Ze])]⟩ Zf)))∧(((x.k==10)=false)→(aj Tryz.prog G 171 [(aB m x)] (di (aU (ah (aB m x)).k))∧aj Tryz.prog G 174 [(di (aU (ah (aB m x)).k))] Za∧aC Tryz.prog G [cd Tryz.f142 [1,1,1,1,1,0,1,0],(.blk 3),cd Tryz.f142 [1,1,1,1,1,1]] ⟨regs 120 [(0,(.d (aB m x))),(1,(.box 1 0)),(2,(vs (ByteArray.mk #[]))),(7,(vi (aU (ah (aB m x)).k))),(8,Zc),(9,Zd),(10,(vs (ByteArray.mk #[]))),(11,(vi 0)),(13,(.box 1 0)),(14,(vi x.k)),(15,(vb (x.k==2))),(16,(vb (x.k==2))),(19,(vb (x.k==1))),(20,(vb (x.k==1))),(28,(vb (x.k==3))),(29,(vb (x.k==3))),(30,(vb (x.k==4))),(31,(vb (x.k==4))),(32,(vb (x.k==18))),(33,(vb (x.k==18))),(40,(vb (x.k==5))),(41,(vb (x.k==5))),(48,(vb (x.k==10))),(49,(vb (x.k==10))),(75,(.d (aB m x))),(76,(vi (aU (ah (aB m x)).k))),(77,(.d Za)),(78,(vi (aU (ah (aB m x)).k))),(79,(.d Za)),(80,Zc),(81,Zd)],[(1,[(vi x.k),(vs x.s),(vi x.n),(vi x.d),(vi x.pos),Ze])]⟩ Zf))))∧(((x.k==10)=false)→((((x.k==11)=true)→((((x.k==11)=true)→aC Tryz.prog G [cd Tryz.f142 [1,0,1,0,1,1,1,1,1,1,1,1,1,1,1,1,1,0,1,1,0,1,0],(.blk 1),cd Tryz.f142 [1,0,1,0,1,1,1,1,1,1,1,1,1,1,1,1,1,0,1,1,1],(.blk 0),cd Tryz.f142 [1,1]] ⟨regs 120 [(0,(.d (aB m x))),(1,(.box 1 0)),(2,(vs (ByteArray.mk #[]))),(5,(vs (ByteArray.mk #[109,97,120,40]))),(6,(vi 0)),(13,(.box 1 0)),(14,(vi x.k)),(15,(vb (x.k==2))),(16,(vb (x.k==2))),(19,(vb (x.k==1))),(20,(vb (x.k==1))),(28,(vb (x.k==3))),(29,(vb (x.k==3))),(30,(vb (x.k==4))),(31,(vb (x.k==4))),(32,(vb (x.k==18))),(33,(vb (x.k==18))),(40,(vb (x.k==5))),(41,(vb (x.k==5))),(48,(vb (x.k==11))),(49,(vb (x.k==10))),(50,(vb (x.k==11))),(51,(.box 1 0)),(52,(vi x.k)),(53,(vb (x.k==11)))],[(1,[(vi x.k),(vs x.s),(vi x.n),(vi x.d),(vi x.pos),Ze])]⟩ Zf)∧(((x.k==11)=false)→aC Tryz.prog G [cd Tryz.f142 [1,0,1,0,1,1,1,1,1,1,1,1,1,1,1,1,1,0,1,1,0,1,0],(.blk 1),cd Tryz.f142 [1,0,1,0,1,1,1,1,1,1,1,1,1,1,1,1,1,0,1,1,1],(.blk 0),cd Tryz.f142 [1,1]] ⟨regs 120 [(0,(.d (aB m x))),(1,(.box 1 0)),(2,(vs (ByteArray.mk #[]))),(5,(vs (ByteArray.mk #[109,105,110,40]))),(6,(vi 0)),(13,(.box 1 0)),(14,(vi x.k)),(15,(vb (x.k==2))),(16,(vb (x.k==2))),(19,(vb (x.k==1))),(20,(vb (x.k==1))),(28,(vb (x.k==3))),(29,(vb (x.k==3))),(30,(vb (x.k==4))),(31,(vb (x.k==4))),(32,(vb (x.k==18))),(33,(vb (x.k==18))),(40,(vb (x.k==5))),(41,(vb (x.k==5))),(48,(vb (x.k==11))),(49,(vb (x.k==10))),(50,(vb (x.k==11))),(51,(.box 1 0)),(52,(vi x.k)),(53,(vb (x.k==11)))],[(1,[(vi x.k),(vs x.s),(vi x.n),(vi x.d),(vi x.pos),Ze])]⟩ Zf)))∧(((x.k==11)=false)→(aj Tryz.prog G 171 [(aB m x)] (di (aU (ah (aB m x)).k))∧aj Tryz.prog G 174 [(di (aU (ah (aB m x)).k))] Za∧aC Tryz.prog G [cd Tryz.f142 [1,1,1,1,1,0,1,0],(.blk 3),cd Tryz.f142 [1,1,1,1,1,1]] ⟨regs 120 [(0,(.d (aB m x))),(1,(.box 1 0)),(2,(vs (ByteArray.mk #[]))),(7,(vi (aU (ah (aB m x)).k))),(8,Zc),(9,Zd),(10,(vs (ByteArray.mk #[]))),(11,(vi 0)),(13,(.box 1 0)),(14,(vi x.k)),(15,(vb (x.k==2))),(16,(vb (x.k==2))),(19,(vb (x.k==1))),(20,(vb (x.k==1))),(28,(vb (x.k==3))),(29,(vb (x.k==3))),(30,(vb (x.k==4))),(31,(vb (x.k==4))),(32,(vb (x.k==18))),(33,(vb (x.k==18))),(40,(vb (x.k==5))),(41,(vb (x.k==5))),(48,(vb (x.k==11))),(49,(vb (x.k==10))),(50,(vb (x.k==11))),(75,(.d (aB m x))),(76,(vi (aU (ah (aB m x)).k))),(77,(.d Za)),(78,(vi (aU (ah (aB m x)).k))),(79,(.d Za)),(80,Zc),(81,Zd)],[(1,[(vi x.k),(vs x.s),(vi x.n),(vi x.d),(vi x.pos),Ze])]⟩ Zf)))))))))))))))))) (by kernel_rfl) ?_
 simp only[e]
 have ef:=GK x
 unfold zn at ef
 simp only[beq_iff_eq,beq_eq_false_iff_ne,ne_eq]
 have q0:∀(_:0<x.kids.length),ah (aS m x (Int.toNat (0:Int)))=x.kids.getD 0 ak:=fun h=>dL hx h
 have q1:∀(_:1<x.kids.length),ah (aS m x (Int.toNat (1:Int)))=x.kids.getD 1 ak:=fun h=>dL hx h
 refine⟨fun h2=>?_,fun n2=>⟨fun h1=>⟨f172 _ _,?_⟩,fun n1=>⟨fun h3=>?_,fun n3=>⟨fun h4=>?_,fun n4=>⟨fun h18=>?_,fun n18=>⟨fun h5=>?_,fun n5=>?_⟩⟩⟩⟩⟩⟩
 ·rw[ef,if_neg (by omega),if_pos h2]
 ·rw[ef,if_pos h1]
  unfold mY
  rw[Ef]
 ·rw[ef,if_neg n1,if_neg n2,if_pos h3]
 ·rw[ef,if_neg n1,if_neg n2,if_neg n3,if_pos h4]
 ·have hl1:=kG hsn (.inr h18)
  have hl0:0<x.kids.length:=by omega
  simp only[q0 hl0]
  rw[ef,if_neg n1,if_neg n2,if_neg n3,if_neg n4,if_neg (by omega),if_pos h18]
  have hh:=SE 0 hl0 3 (by omega)
  rw[qR hl0] at hh⊢
  have w:=jZ 2 (dh (x.kids.getD 0 ak).k,aO (x.kids.getD 0 ak))
  have:=(hs.kid hl0).size
  refine⟨⟨⟨by omega,by omega⟩,hh,?_⟩,rfl⟩
  show 4+ByteArray.size (dK 2 _)≤_
  simp only at w
  omega
 ·have hl1:=kG hsn (.inl h5)
  have hl0:0<x.kids.length:=by omega
  simp only[q0 hl0]
  rw[ef,if_neg n1,if_neg n2,if_neg n3,if_neg n4,if_pos h5]
  have hh:=SE 0 hl0 7 (by omega)
  rw[qR hl0] at hh⊢
  have w:=jZ 6 (dh (x.kids.getD 0 ak).k,aO (x.kids.getD 0 ak))
  have:=(hs.kid hl0).size
  refine⟨⟨⟨by omega,by omega⟩,hh,?_⟩,rfl⟩
  show 1+ByteArray.size (dK 6 _)≤_
  simp only at w
  omega
 ·refine⟨fun h10=>⟨fun _=>⟨fun h11=>absurd (h10.symm.trans h11) (by decide),fun n11=>?_⟩,fun hn=>absurd h10 hn⟩,fun n10=>⟨fun h11=>⟨fun _=>?_,fun hn=>absurd h11 hn⟩,fun n11=>?_⟩⟩
  ·refine aC.loop (c:=dR (aQ Tryz.f142) [1,0,1,0,1,1,1,1,1,1,1,1,1,1,1,1,1,0,1,1,0,1,0,0]) (by kernel_rfl) (Jd m x ⟨#[109,105,110,40]⟩) (fun k=>k≤x.kids.length) (fun k=>x.kids.length-k) 0 ?_ (Nat.zero_le _) ?_
   ·refine lG (some [(vi x.k),(vs x.s),(vi x.n),(vi x.d),(vi x.pos),(.d (.slc 6 x.kids.length (lay (bJ m) x.kids)))]) (fun Za=>((((.box 1 0):AV)=(.box 1 0)∧((vs (ByteArray.mk #[109,105,110,40])):AV)=(vs (ByteArray.mk #[109,105,110,40]++jT x 0))∧((vi 0):AV)=(vi 0)∧True)∧(Za:(Option (List AV)))=Za∧True)) (by kernel_rfl) ?_
    refine⟨⟨rfl,?_,rfl,trivial⟩,rfl,trivial⟩
    rw[PV];rfl
   ·intro k hk
    refine walk (ay:=yw) (keep:=[]) (cuts:=[]) (n:=1000) follows ?_
    refine JA (x.kids.getD (↑k:Int).toNat ak) ((.d (.slc 6 x.kids.length (lay (bJ m) x.kids))):AV) (ByteArray.mk #[109,105,110,40]++jT x k) (decide ((↑k:Int)<↑x.kids.length)) (ByteArray.mk #[109,105,110,40]++jT x k++ByteArray.mk #[44,32]) (fun Za Zb Zc Zd Ze=>(((Zd=true)→((((decide ((↑k:Int)>0))=true)→((Zc.size+(ByteArray.mk #[44,32]).size≤9223372036854775807)∧(((0≤(↑k:Int))∧((↑k:Int)<↑x.kids.length))∧aj Tryz.prog G 142 [(aY m Za)] (ds (aO (ah (aY m Za))))∧(Ze.size+(aO (ah (aY m Za))).size≤9223372036854775807))∧(I64 (↑k+1))∧Again (Jd m x (ByteArray.mk #[109,105,110,40])) (fun k=>k≤x.kids.length) (fun k=>x.kids.length-k) k ⟨regs 120 [(1,(.box 1 0)),(5,(vs (ByteArray.mk #[109,105,110,40]++jT x k++ByteArray.mk #[44,32]++aO (ah (aY m Za))))),(6,(vi (↑k+1))),(54,(vi (↑k))),(55,(.box 1 5)),(56,Zb),(57,(vi (↑x.kids.length))),(58,(vb Zd)),(59,(vi (↑k))),(60,(vi (↑k+1))),(61,(vi (↑k))),(62,(vb (decide ((↑k:Int)>0)))),(63,(vs Zc)),(64,(vs Ze)),(65,(vs Ze)),(66,(.box 1 5)),(67,Zb),(68,(vi (↑k))),(69,(.d (.ptr [(di Za.k),(ds Za.s),(di Za.n),(di Za.d),(di Za.pos),(.slc 6 Za.kids.length (bJ m Za.kids))]))),(70,(.d (aY m Za))),(71,(vs (aO (ah (aY m Za))))),(72,(vs (ByteArray.mk #[109,105,110,40]++jT x k++ByteArray.mk #[44,32]++aO (ah (aY m Za)))))],[(1,[(vi x.k),(vs x.s),(vi x.n),(vi x.d),(vi x.pos),Zb])]⟩))∧(((decide ((↑k:Int)>0))=false)→((((0≤(↑k:Int))∧((↑k:Int)<↑x.kids.length))∧aj Tryz.prog G 142 [(aY m Za)] (ds (aO (ah (aY m Za))))∧(Zc.size+(aO (ah (aY m Za))).size≤9223372036854775807))∧(I64 (↑k+1))∧Again (Jd m x (ByteArray.mk #[109,105,110,40])) (fun k=>k≤x.kids.length) (fun k=>x.kids.length-k) k ⟨regs 120 [(1,(.box 1 0)),(5,(vs (ByteArray.mk #[109,105,110,40]++jT x k++aO (ah (aY m Za))))),(6,(vi (↑k+1))),(54,(vi (↑k))),(55,(.box 1 5)),(56,Zb),(57,(vi (↑x.kids.length))),(58,(vb Zd)),(59,(vi (↑k))),(60,(vi (↑k+1))),(61,(vi (↑k))),(62,(vb (decide ((↑k:Int)>0)))),(65,(vs Zc)),(66,(.box 1 5)),(67,Zb),(68,(vi (↑k))),(69,(.d (.ptr [(di Za.k),(ds Za.s),(di Za.n),(di Za.d),(di Za.pos),(.slc 6 Za.kids.length (bJ m Za.kids))]))),(70,(.d (aY m Za))),(71,(vs (aO (ah (aY m Za))))),(72,(vs (ByteArray.mk #[109,105,110,40]++jT x k++aO (ah (aY m Za)))))],[(1,[(vi x.k),(vs x.s),(vi x.n),(vi x.d),(vi x.pos),Zb])]⟩))))∧((Zd=false)→aC Tryz.prog G [cd Tryz.f142 [1,0,1,0,1,1,1,1,1,1,1,1,1,1,1,1,1,0,1,1,1],(.blk 0),cd Tryz.f142 [1,1]] ⟨regs 120 [(1,(.box 1 0)),(5,(vs Zc)),(6,(vi (↑k))),(54,(vi (↑k))),(55,(.box 1 5)),(56,Zb),(57,(vi (↑x.kids.length))),(58,(vb Zd))],[(1,[(vi x.k),(vs x.s),(vi x.n),(vi x.d),(vi x.pos),Zb])]⟩ (fF Tryz.prog Tryz.f142 (ds (aO x)))))) (by kernel_rfl) ?_
    simp only[Int.toNat_natCast]
    have hj:=Qg hs k
    refine⟨fun h=>?_,fun h=>?_⟩
    ·have hk2:k<x.kids.length:=by have:=of_decide_eq_true h;omega
     have hf:=(hs.kid hk2).size
     have ej:=QC hk2
     have hc:aj Tryz.prog G 142 [aS m x k] (ds (aO (ah (aS m x k)))):=by
      rw[dL hx hk2]
      exact aak k hk2
     have er:ah (aS m x k)=x.kids.getD k ak:=dL hx hk2
     simp only[er] at hc⊢
     refine⟨fun h0=>⟨?_,⟨⟨by omega,by omega⟩,hc,?_⟩,⟨by omega,by omega⟩,Again.mk (k+1) ?_ hk2 (by omega)⟩,fun h0=>⟨⟨⟨by omega,by omega⟩,hc,?_⟩,⟨by omega,by omega⟩,Again.mk (k+1) ?_ hk2 (by omega)⟩⟩
     ·rw[ByteArray.size_append];show 4+_+2≤_;omega
     ·rw[ByteArray.size_append,ByteArray.size_append];show 4+_+2+_≤_;omega
     ·refine lG (some [(vi x.k),(vs x.s),(vi x.n),(vi x.d),(vi x.pos),(.d (.slc 6 x.kids.length (lay (bJ m) x.kids)))]) (fun Za=>((((.box 1 0):AV)=(.box 1 0)∧((vs (ByteArray.mk #[109,105,110,40]++jT x k++ByteArray.mk #[44,32]++aO (x.kids.getD k ak))):AV)=(vs (ByteArray.mk #[109,105,110,40]++jT x (k+1)))∧((vi (↑k+1)):AV)=(vi (↑(k+1)))∧True)∧(Za:(Option (List AV)))=Za∧True)) (by kernel_rfl) ?_
      refine⟨⟨rfl,?_,rfl,trivial⟩,rfl,trivial⟩
      rw[ej,if_pos (of_decide_eq_true h0),←ByteArray.append_assoc,←ByteArray.append_assoc]
      rfl
     ·rw[ByteArray.size_append];show 4+_+_≤_;omega
     ·refine lG (some [(vi x.k),(vs x.s),(vi x.n),(vi x.d),(vi x.pos),(.d (.slc 6 x.kids.length (lay (bJ m) x.kids)))]) (fun Za=>((((.box 1 0):AV)=(.box 1 0)∧((vs (ByteArray.mk #[109,105,110,40]++jT x k++aO (x.kids.getD k ak))):AV)=(vs (ByteArray.mk #[109,105,110,40]++jT x (k+1)))∧((vi (↑k+1)):AV)=(vi (↑(k+1)))∧True)∧(Za:(Option (List AV)))=Za∧True)) (by kernel_rfl) ?_
      refine⟨⟨rfl,?_,rfl,trivial⟩,rfl,trivial⟩
      rw[ej,if_neg (of_decide_eq_false h0),←ByteArray.append_assoc]
    ·simp only[decide_eq_false_iff_not] at h
     obtain rfl:k=x.kids.length:=by omega
     refine walk (ay:=yw) (keep:=[]) (cuts:=[]) (n:=1000) follows ?_
     refine vk (b:=(((ByteArray.mk #[109,105,110,40]++jT x x.kids.length).size+(ByteArray.mk #[41]).size≤9223372036854775807)∧((ds (ByteArray.mk #[109,105,110,40]++jT x x.kids.length++ByteArray.mk #[41])):DV)=(ds (aO x)))) (by kernel_rfl) ?_
     have ea:=Vm x
     rw[ef,if_neg n1,if_neg n2,if_neg n3,if_neg n4,if_neg n5,if_neg n18,if_pos h10,←ea]
     refine⟨?_,rfl⟩
     rw[ByteArray.size_append];show 4+_+1≤_;omega
  ·refine aC.loop (c:=dR (aQ Tryz.f142) [1,0,1,0,1,1,1,1,1,1,1,1,1,1,1,1,1,0,1,1,0,1,0,0]) (by kernel_rfl) (Jd m x ⟨#[109,97,120,40]⟩) (fun k=>k≤x.kids.length) (fun k=>x.kids.length-k) 0 ?_ (Nat.zero_le _) ?_
   ·refine lG (some [(vi x.k),(vs x.s),(vi x.n),(vi x.d),(vi x.pos),(.d (.slc 6 x.kids.length (lay (bJ m) x.kids)))]) (fun Za=>((((.box 1 0):AV)=(.box 1 0)∧((vs (ByteArray.mk #[109,97,120,40])):AV)=(vs (ByteArray.mk #[109,97,120,40]++jT x 0))∧((vi 0):AV)=(vi 0)∧True)∧(Za:(Option (List AV)))=Za∧True)) (by kernel_rfl) ?_
    refine⟨⟨rfl,?_,rfl,trivial⟩,rfl,trivial⟩
    rw[PV];rfl
   ·intro k hk
    refine walk (ay:=yw) (keep:=[]) (cuts:=[]) (n:=1000) follows ?_
    refine JA (x.kids.getD (↑k:Int).toNat ak) ((.d (.slc 6 x.kids.length (lay (bJ m) x.kids))):AV) (ByteArray.mk #[109,97,120,40]++jT x k) (decide ((↑k:Int)<↑x.kids.length)) (ByteArray.mk #[109,97,120,40]++jT x k++ByteArray.mk #[44,32]) (fun Za Zb Zc Zd Ze=>(((Zd=true)→((((decide ((↑k:Int)>0))=true)→((Zc.size+(ByteArray.mk #[44,32]).size≤9223372036854775807)∧(((0≤(↑k:Int))∧((↑k:Int)<↑x.kids.length))∧aj Tryz.prog G 142 [(aY m Za)] (ds (aO (ah (aY m Za))))∧(Ze.size+(aO (ah (aY m Za))).size≤9223372036854775807))∧(I64 (↑k+1))∧Again (Jd m x (ByteArray.mk #[109,97,120,40])) (fun k=>k≤x.kids.length) (fun k=>x.kids.length-k) k ⟨regs 120 [(1,(.box 1 0)),(5,(vs (ByteArray.mk #[109,97,120,40]++jT x k++ByteArray.mk #[44,32]++aO (ah (aY m Za))))),(6,(vi (↑k+1))),(54,(vi (↑k))),(55,(.box 1 5)),(56,Zb),(57,(vi (↑x.kids.length))),(58,(vb Zd)),(59,(vi (↑k))),(60,(vi (↑k+1))),(61,(vi (↑k))),(62,(vb (decide ((↑k:Int)>0)))),(63,(vs Zc)),(64,(vs Ze)),(65,(vs Ze)),(66,(.box 1 5)),(67,Zb),(68,(vi (↑k))),(69,(.d (.ptr [(di Za.k),(ds Za.s),(di Za.n),(di Za.d),(di Za.pos),(.slc 6 Za.kids.length (bJ m Za.kids))]))),(70,(.d (aY m Za))),(71,(vs (aO (ah (aY m Za))))),(72,(vs (ByteArray.mk #[109,97,120,40]++jT x k++ByteArray.mk #[44,32]++aO (ah (aY m Za)))))],[(1,[(vi x.k),(vs x.s),(vi x.n),(vi x.d),(vi x.pos),Zb])]⟩))∧(((decide ((↑k:Int)>0))=false)→((((0≤(↑k:Int))∧((↑k:Int)<↑x.kids.length))∧aj Tryz.prog G 142 [(aY m Za)] (ds (aO (ah (aY m Za))))∧(Zc.size+(aO (ah (aY m Za))).size≤9223372036854775807))∧(I64 (↑k+1))∧Again (Jd m x (ByteArray.mk #[109,97,120,40])) (fun k=>k≤x.kids.length) (fun k=>x.kids.length-k) k ⟨regs 120 [(1,(.box 1 0)),(5,(vs (ByteArray.mk #[109,97,120,40]++jT x k++aO (ah (aY m Za))))),(6,(vi (↑k+1))),(54,(vi (↑k))),(55,(.box 1 5)),(56,Zb),(57,(vi (↑x.kids.length))),(58,(vb Zd)),(59,(vi (↑k))),(60,(vi (↑k+1))),(61,(vi (↑k))),(62,(vb (decide ((↑k:Int)>0)))),(65,(vs Zc)),(66,(.box 1 5)),(67,Zb),(68,(vi (↑k))),(69,(.d (.ptr [(di Za.k),(ds Za.s),(di Za.n),(di Za.d),(di Za.pos),(.slc 6 Za.kids.length (bJ m Za.kids))]))),(70,(.d (aY m Za))),(71,(vs (aO (ah (aY m Za))))),(72,(vs (ByteArray.mk #[109,97,120,40]++jT x k++aO (ah (aY m Za)))))],[(1,[(vi x.k),(vs x.s),(vi x.n),(vi x.d),(vi x.pos),Zb])]⟩))))∧((Zd=false)→aC Tryz.prog G [cd Tryz.f142 [1,0,1,0,1,1,1,1,1,1,1,1,1,1,1,1,1,0,1,1,1],(.blk 0),cd Tryz.f142 [1,1]] ⟨regs 120 [(1,(.box 1 0)),(5,(vs Zc)),(6,(vi (↑k))),(54,(vi (↑k))),(55,(.box 1 5)),(56,Zb),(57,(vi (↑x.kids.length))),(58,(vb Zd))],[(1,[(vi x.k),(vs x.s),(vi x.n),(vi x.d),(vi x.pos),Zb])]⟩ (fF Tryz.prog Tryz.f142 (ds (aO x)))))) (by kernel_rfl) ?_
    simp only[Int.toNat_natCast]
    have hj:=Qg hs k
    refine⟨fun h=>?_,fun h=>?_⟩
    ·have hk2:k<x.kids.length:=by have:=of_decide_eq_true h;omega
     have hf:=(hs.kid hk2).size
     have ej:=QC hk2
     have hc:aj Tryz.prog G 142 [aS m x k] (ds (aO (ah (aS m x k)))):=by
      rw[dL hx hk2]
      exact aak k hk2
     have er:ah (aS m x k)=x.kids.getD k ak:=dL hx hk2
     simp only[er] at hc⊢
     refine⟨fun h0=>⟨?_,⟨⟨by omega,by omega⟩,hc,?_⟩,⟨by omega,by omega⟩,Again.mk (k+1) ?_ hk2 (by omega)⟩,fun h0=>⟨⟨⟨by omega,by omega⟩,hc,?_⟩,⟨by omega,by omega⟩,Again.mk (k+1) ?_ hk2 (by omega)⟩⟩
     ·rw[ByteArray.size_append];show 4+_+2≤_;omega
     ·rw[ByteArray.size_append,ByteArray.size_append];show 4+_+2+_≤_;omega
     ·refine lG (some [(vi x.k),(vs x.s),(vi x.n),(vi x.d),(vi x.pos),(.d (.slc 6 x.kids.length (lay (bJ m) x.kids)))]) (fun Za=>((((.box 1 0):AV)=(.box 1 0)∧((vs (ByteArray.mk #[109,97,120,40]++jT x k++ByteArray.mk #[44,32]++aO (x.kids.getD k ak))):AV)=(vs (ByteArray.mk #[109,97,120,40]++jT x (k+1)))∧((vi (↑k+1)):AV)=(vi (↑(k+1)))∧True)∧(Za:(Option (List AV)))=Za∧True)) (by kernel_rfl) ?_
      refine⟨⟨rfl,?_,rfl,trivial⟩,rfl,trivial⟩
      rw[ej,if_pos (of_decide_eq_true h0),←ByteArray.append_assoc,←ByteArray.append_assoc]
      rfl
     ·rw[ByteArray.size_append];show 4+_+_≤_;omega
     ·refine lG (some [(vi x.k),(vs x.s),(vi x.n),(vi x.d),(vi x.pos),(.d (.slc 6 x.kids.length (lay (bJ m) x.kids)))]) (fun Za=>((((.box 1 0):AV)=(.box 1 0)∧((vs (ByteArray.mk #[109,97,120,40]++jT x k++aO (x.kids.getD k ak))):AV)=(vs (ByteArray.mk #[109,97,120,40]++jT x (k+1)))∧((vi (↑k+1)):AV)=(vi (↑(k+1)))∧True)∧(Za:(Option (List AV)))=Za∧True)) (by kernel_rfl) ?_
      refine⟨⟨rfl,?_,rfl,trivial⟩,rfl,trivial⟩
      rw[ej,if_neg (of_decide_eq_false h0),←ByteArray.append_assoc]
    ·simp only[decide_eq_false_iff_not] at h
     obtain rfl:k=x.kids.length:=by omega
     refine walk (ay:=yw) (keep:=[]) (cuts:=[]) (n:=1000) follows ?_
     refine vk (b:=(((ByteArray.mk #[109,97,120,40]++jT x x.kids.length).size+(ByteArray.mk #[41]).size≤9223372036854775807)∧((ds (ByteArray.mk #[109,97,120,40]++jT x x.kids.length++ByteArray.mk #[41])):DV)=(ds (aO x)))) (by kernel_rfl) ?_
     have ea:=Vm x
     rw[ef,if_neg n1,if_neg n2,if_neg n3,if_neg n4,if_neg n5,if_neg n18,if_neg n10,if_pos h11,←ea]
     refine⟨?_,rfl⟩
     rw[ByteArray.size_append];show 4+_+1≤_;omega
  ·obtain ⟨hl2,hob⟩:=kH hsn ⟨n1,n2,n3,n4,n5,n18,n10,n11⟩
   have hl0:0<x.kids.length:=by omega
   have hl1:1<x.kids.length:=by omega
   have wo:aO x=dK (Iz x.k) (g0 (gW x.kids) 0)++(⟨#[32]⟩:ByteArray)++gq x.k++(⟨#[32]⟩:ByteArray)++dK (dh x.k+1) (g0 (gW x.kids) 1):=by
    rw[ef,if_neg n1,if_neg n2,if_neg n3,if_neg n4,if_neg n5,if_neg n18,if_neg n10,if_neg n11]
   refine⟨f171 m x,f174 _,?_⟩
   have hol:=NI (aU x.k)
   refine aC.loop (c:=dR (aQ Tryz.f142) [1,1,1,1,1,0,1,0,0]) (by kernel_rfl) (Tj m x) (fun j=>j≤(bU (aU x.k)).length) (fun j=>(bU (aU x.k)).length-j) 0 ?_ (Nat.zero_le _) ?_
   ·refine lG (some [(vi x.k),(vs x.s),(vi x.n),(vi x.d),(vi x.pos),(.d (.slc 6 x.kids.length (lay (bJ m) x.kids)))]) (fun Za=>((((.box 1 0):AV)=(.box 1 0)∧((vi (aU x.k)):AV)=(vi (aU x.k))∧((.d (.slc 1 (opsT (aU x.k)).length (dX (opsT (aU x.k))))):AV)=(.d (.slc 1 (opsT (aU x.k)).length (dX (opsT (aU x.k)))))∧((.d (.slc 1 (bU (aU x.k)).length (dV (bU (aU x.k))))):AV)=(.d (.slc 1 (bU (aU x.k)).length (dV (bU (aU x.k)))))∧((vs (ByteArray.mk #[])):AV)=(vs (oT x.k 0))∧((vi 0):AV)=(vi 0)∧True)∧(Za:(Option (List AV)))=Za∧True)) (by kernel_rfl) ?_
    exact⟨⟨rfl,rfl,rfl,rfl,rfl,rfl,trivial⟩,rfl,trivial⟩
   ·intro j hj
    refine walk (ay:=yw) (keep:=[]) (cuts:=[]) (n:=1000) follows ?_
    refine Py ((.d (.slc 1 (bU (aU x.k)).length (dV (bU (aU x.k))))):AV) (decide ((↑j:Int)<↑(bU (aU x.k)).length)) ((.d (.slc 1 (opsT (aU x.k)).length (dX (opsT (aU x.k))))):AV) ((bU (aU x.k)).getD (↑j:Int).toNat 0==x.k) ((bU (aU x.k)).getD (↑j:Int).toNat 0) ((opsT (aU x.k)).getD (↑j:Int).toNat ByteArray.empty) ((.d (.slc 6 x.kids.length (lay (bJ m) x.kids))):AV) (fun Za Zb Zc Zd Ze Zf Zg=>(((Zb=true)→(((0≤(↑j:Int))∧((↑j:Int)<↑(bU (aU x.k)).length))∧((Zd=true)→(((0≤(↑j:Int))∧((↑j:Int)<↑(opsT (aU x.k)).length))∧(I64 (↑j+1))∧Again (Tj m x) (fun j=>j≤(bU (aU x.k)).length) (fun j=>(bU (aU x.k)).length-j) j ⟨regs 120 [(1,(.box 1 0)),(7,(vi (aU x.k))),(8,Zc),(9,Za),(10,(vs Zf)),(11,(vi (↑j+1))),(82,(vi (↑j))),(83,Za),(84,(vi (↑(bU (aU x.k)).length))),(85,(vb Zb)),(86,(vi (↑j))),(87,(vi (↑j+1))),(88,Za),(89,(vi (↑j))),(90,(.d (.ptr [(di Ze)]))),(91,(vi Ze)),(92,(.box 1 0)),(93,(vi x.k)),(94,(vb Zd)),(95,Zc),(96,(vi (↑j))),(97,(.d (.ptr [(ds Zf)]))),(98,(vs Zf))],[(1,[(vi x.k),(vs x.s),(vi x.n),(vi x.d),(vi x.pos),Zg])]⟩))∧((Zd=false)→((I64 (↑j+1))∧Again (Tj m x) (fun j=>j≤(bU (aU x.k)).length) (fun j=>(bU (aU x.k)).length-j) j ⟨regs 120 [(1,(.box 1 0)),(7,(vi (aU x.k))),(8,Zc),(9,Za),(10,(vs (oT x.k j))),(11,(vi (↑j+1))),(82,(vi (↑j))),(83,Za),(84,(vi (↑(bU (aU x.k)).length))),(85,(vb Zb)),(86,(vi (↑j))),(87,(vi (↑j+1))),(88,Za),(89,(vi (↑j))),(90,(.d (.ptr [(di Ze)]))),(91,(vi Ze)),(92,(.box 1 0)),(93,(vi x.k)),(94,(vb Zd))],[(1,[(vi x.k),(vs x.s),(vi x.n),(vi x.d),(vi x.pos),Zg])]⟩))))∧((Zb=false)→aC Tryz.prog G [cd Tryz.f142 [1,1,1,1,1,1]] ⟨regs 120 [(1,(.box 1 0)),(7,(vi (aU x.k))),(8,Zc),(9,Za),(10,(vs (oT x.k j))),(11,(vi (↑j))),(82,(vi (↑j))),(83,Za),(84,(vi (↑(bU (aU x.k)).length))),(85,(vb Zb))],[(1,[(vi x.k),(vs x.s),(vi x.n),(vi x.d),(vi x.pos),Zg])]⟩ (fF Tryz.prog Tryz.f142 (ds (aO x)))))) (by kernel_rfl) ?_
    simp only[Int.toNat_natCast]
    refine⟨fun h=>?_,fun h=>?_⟩
    ·have hj2:j<(bU (aU x.k)).length:=by have:=of_decide_eq_true h;omega
     have ht:(opsT (aU x.k)).length=(bU (aU x.k)).length:=by unfold opsT;rw[List.length_map]
     refine⟨⟨by omega,by omega⟩,fun h0=>⟨⟨by omega,by omega⟩,⟨by omega,by omega⟩,Again.mk (j+1) ?_ hj2 (by omega)⟩,fun h0=>⟨⟨by omega,by omega⟩,Again.mk (j+1) ?_ hj2 (by omega)⟩⟩
     ·refine lG (some [(vi x.k),(vs x.s),(vi x.n),(vi x.d),(vi x.pos),(.d (.slc 6 x.kids.length (lay (bJ m) x.kids)))]) (fun Za=>((((.box 1 0):AV)=(.box 1 0)∧((vi (aU x.k)):AV)=(vi (aU x.k))∧((.d (.slc 1 (opsT (aU x.k)).length (dX (opsT (aU x.k))))):AV)=(.d (.slc 1 (opsT (aU x.k)).length (dX (opsT (aU x.k)))))∧((.d (.slc 1 (bU (aU x.k)).length (dV (bU (aU x.k))))):AV)=(.d (.slc 1 (bU (aU x.k)).length (dV (bU (aU x.k)))))∧((vs ((opsT (aU x.k)).getD j ByteArray.empty)):AV)=(vs (oT x.k (j+1)))∧((vi (↑j+1)):AV)=(vi (↑(j+1)))∧True)∧(Za:(Option (List AV)))=Za∧True)) (by kernel_rfl) ?_
      refine⟨⟨rfl,rfl,rfl,rfl,?_,rfl,trivial⟩,rfl,trivial⟩
      rw[Zr hj2 (by simpa using h0)]
     ·refine AS.leZ [4] [] (b:=((T0∧T0∧T0∧T0∧((vs (oT x.k j)):AV)=(vs (oT x.k (j+1)))∧T0∧True)∧T0∧True)) (by kernel_rfl) (by kernel_rfl) ?_
      refine⟨⟨rfl,rfl,rfl,rfl,?_,rfl,trivial⟩,rfl,trivial⟩
      rw[Yc hj2 (by simpa using h0)]
    ·simp only[decide_eq_false_iff_not] at h
     obtain rfl:j=(bU (aU x.k)).length:=by omega
     refine walk (ay:=yw) (keep:=[]) (cuts:=[]) (n:=1000) follows ?_
     refine aA (fun _ _ _ ZK=>(fun Za Zb=>((((aU x.k==4)=true)→(((((0:Int)≤(0:Int))∧(0<(↑x.kids.length:Int)))∧ZK 173 [(aY m (x.kids.getD (Int.toNat 0) ak)),(di 5)] (ds (dK (5-1) Za))∧((dK (5-1) Za).size+(ByteArray.mk #[32]).size≤9223372036854775807)∧((dK (5-1) Za++ByteArray.mk #[32]).size+(oT x.k (bU (aU x.k)).length).size≤9223372036854775807)∧((dK (5-1) Za++ByteArray.mk #[32]++oT x.k (bU (aU x.k)).length).size+(ByteArray.mk #[32]).size≤9223372036854775807)∧(((0:Int)≤(1:Int))∧(1<(↑x.kids.length:Int)))∧(I64 (aU x.k+1))∧ZK 173 [(aY m (x.kids.getD (Int.toNat 1) ak)),(di (aU x.k+1))] (ds (dK (aU x.k+1-1) Zb))∧((dK (5-1) Za++ByteArray.mk #[32]++oT x.k (bU (aU x.k)).length++ByteArray.mk #[32]).size+(dK (aU x.k+1-1) Zb).size≤9223372036854775807))∧((ds (dK (5-1) Za++ByteArray.mk #[32]++oT x.k (bU (aU x.k)).length++ByteArray.mk #[32]++dK (aU x.k+1-1) Zb)):DV)=(ds (aO x))))∧(((aU x.k==4)=false)→(((((0:Int)≤(0:Int))∧(0<(↑x.kids.length:Int)))∧ZK 173 [(aY m (x.kids.getD (Int.toNat 0) ak)),(di (aU x.k))] (ds (dK (aU x.k-1) Za))∧((dK (aU x.k-1) Za).size+(ByteArray.mk #[32]).size≤9223372036854775807)∧((dK (aU x.k-1) Za++ByteArray.mk #[32]).size+(oT x.k (bU (aU x.k)).length).size≤9223372036854775807)∧((dK (aU x.k-1) Za++ByteArray.mk #[32]++oT x.k (bU (aU x.k)).length).size+(ByteArray.mk #[32]).size≤9223372036854775807)∧(((0:Int)≤(1:Int))∧(1<(↑x.kids.length:Int)))∧(I64 (aU x.k+1))∧ZK 173 [(aY m (x.kids.getD (Int.toNat 1) ak)),(di (aU x.k+1))] (ds (dK (aU x.k+1-1) Zb))∧((dK (aU x.k-1) Za++ByteArray.mk #[32]++oT x.k (bU (aU x.k)).length++ByteArray.mk #[32]).size+(dK (aU x.k+1-1) Zb).size≤9223372036854775807))∧((ds (dK (aU x.k-1) Za++ByteArray.mk #[32]++oT x.k (bU (aU x.k)).length++ByteArray.mk #[32]++dK (aU x.k+1-1) Zb)):DV)=(ds (aO x)))))) (dh (ah (aY m (x.kids.getD (Int.toNat 0) ak))).k,aO (ah (aY m (x.kids.getD (Int.toNat 0) ak)))) (dh (ah (aY m (x.kids.getD (Int.toNat 1) ak))).k,aO (ah (aY m (x.kids.getD (Int.toNat 1) ak))))) (by kernel_rfl) ?_
     simp only[beq_iff_eq,beq_eq_false_iff_ne,ne_eq,q0 hl0,q1 hl1,ZJ hob]
     have hh0:=SE 0 hl0
     have hh1:=SE 1 hl1
     have w0:=fun v=>jZ v (g0 (gW x.kids) 0)
     have w1:=fun v=>jZ v (g0 (gW x.kids) 1)
     have ht:=BU (gW x.kids)
     have htt:=hs.tot
     have ho:=EI x.k
     have hlr:=Xh (GX hsn)
     have hlv:-1≤dh x.k∧dh x.k≤8:=Vp _
     rw[qR hl0] at hh0 w0 wo ht
     rw[qR hl1] at hh1 w1 wo ht
     unfold Iz at wo
     have e1:dh x.k+1=aU x.k+1-1:=by omega
     rw[e1] at wo
     have s1:=w1 (aU x.k+1-1)
     refine⟨fun h3=>?_,fun h3=>?_⟩
     ·have s0:=w0 (5-1)
      simp only at s0 s1 ht
      rw[if_pos (by omega),h3] at wo
      have a0:=hh0 5 (by omega)
      have a1:=hh1 (aU x.k+1) (by omega)
      rw[h3] at a1 s1
      simp only[h3]
      refine⟨⟨⟨by omega,by omega⟩,a0,?_,?_,?_,⟨by omega,by omega⟩,⟨by omega,by omega⟩,a1,?_⟩,?_⟩
      ·show _+1≤_;omega
      ·rw[ByteArray.size_append];show _+1+_≤_;omega
      ·rw[ByteArray.size_append,ByteArray.size_append];show _+1+_+1≤_;omega
      ·rw[ByteArray.size_append,ByteArray.size_append,ByteArray.size_append];show _+1+_+1+_≤_;omega
      ·rw[wo];rfl
     ·have s0:=w0 (aU x.k-1)
      simp only at s0 s1 ht
      rw[if_neg (by omega),hlr] at wo
      have a0:=hh0 (aU x.k) (by omega)
      have a1:=hh1 (aU x.k+1) (by omega)
      refine⟨⟨⟨by omega,by omega⟩,a0,?_,?_,?_,⟨by omega,by omega⟩,⟨by omega,by omega⟩,a1,?_⟩,?_⟩
      ·show _+1≤_;omega
      ·rw[ByteArray.size_append];show _+1+_≤_;omega
      ·rw[ByteArray.size_append,ByteArray.size_append];show _+1+_+1≤_;omega
      ·rw[ByteArray.size_append,ByteArray.size_append,ByteArray.size_append];show _+1+_+1+_≤_;omega
      ·rw[wo]
noncomputable def abx:aZ:=fun f a=>match f,a with
 | 141,[e]=>some (db (aV (ah e)))
 | 32,[e]=>some (di ((ht (ah e):Int)+1))
 | 142,[e]=>some (ds (aO (ah e)))
 | _,_=>none
theorem f84 (hT:Tab G) (m:Nat) (x:Ex) (hx:ht x≤m) (hs:Sm x):aj Tryz.prog G 84 [bG m x] (db (kK x)):=by
 have e:ah (exV x.k x.s x.n x.d x.pos x.kids.length (lay (bJ m) x.kids))=x:=fU hx
 refine aj.walk (ay:=abx) (keep:=[]) follows Tryz.func84 rfl Tryz.call84 ?_
 refine aA (fun _ _ _ ZK=>((ZK 141 [(aB m x)] (db (aV (ah (aB m x))))∧(((aV (ah (aB m x)))=true)→ZK 32 [(aB m x)] (di (↑(ht (ah (aB m x)))+1)))∧(((aV (ah (aB m x))&&decide ((↑(ht (ah (aB m x))):Int)+1≤32))=true)→ZK 142 [(aB m x)] (ds (aO (ah (aB m x))))))∧((db (aV (ah (aB m x))&&decide ((↑(ht (ah (aB m x))):Int)+1≤32)&&decide ((↑(aO (ah (aB m x))).size:Int)≤16384))):DV)=(db (kK x)))) (by kernel_rfl) ?_
 simp only[e]
 refine⟨⟨f141 hT m x hx hs,fun _=>f32 m x hx hs,fun h=>?_⟩,?_⟩
 ·simp only[aT] at h
  exact f142 m x hx hs h.1
 ·unfold kK
  refine congrArg db ?_
  have e2:decide (((aO x).size:Int)≤16384)=decide ((aO x).size≤16384):=by rw[decide_eq_decide];omega
  rw[e2]
abbrev eN (s:ByteArray):DV:=.agg [di 2,ds s,di 0,di 0,di 0,.con (.slice none 0 0)]
abbrev xN (s:ByteArray):Ex:=.mk 2 s 0 0 0 []
theorem aaC {s:ByteArray} (k:IH) (v:Value) (h:DV.rel k (eN s) v):DV.rel k (bG 0 (xN s)) v:=by
 obtain ⟨us,rfl,a,u1,rfl,ha,b,u2,rfl,hb,c,u3,rfl,hc,d,u4,rfl,hd,e,u5,rfl,he,f,u6,rfl,hf,h0⟩:=h
 exact⟨_,rfl,a,_,rfl,ha,b,_,rfl,hb,c,_,rfl,hc,d,_,rfl,hd,e,_,rfl,he,f,_,rfl,su hf,h0⟩
theorem Qp {s:ByteArray} (k:IH) (us:List Value) (h:DV.aF k [eN s] us):DV.aF k [bG 0 (xN s)] us:=by
 obtain ⟨v,us',rfl,hv,h0⟩:=h
 exact⟨v,us',rfl,aaC k v hv,h0⟩
theorem Xf {s:ByteArray} (h:s.size≤1000):Sm (xN s):=⟨by simp[xN,jV,iK],by simp only[xN,xU,zC];exact⟨h,trivial⟩⟩
theorem Rk (s:ByteArray):ht (xN s)=0:=by simp[xN,ht,iI]
theorem BG {s:ByteArray} (h:nameB s=true):1≤s.size∧s.size≤16:=by
 unfold nameB at h
 simp only[aT,decide_eq_true_eq] at h
 exact⟨h.1,h.2.1⟩
theorem U1 (s:ByteArray):kK (xN s)=nameB s:=by
 unfold kK
 rw[Rk]
 have e1:aV (xN s)=nameB s:=by simp[aV,qO,xN,qH]
 have e2:aO (xN s)=s:=by simp[aO,zn,xN,gW]
 rw[e1,e2]
 cases h:nameB s with
 | false=>rfl
 | true=>
  have:=BG h
  rw[decide_eq_true (by omega:s.size≤16384)];rfl
noncomputable def Xl:aZ:=fun f a=>match f,a with
 | 72,[.agg [_,.con (.string s),_,_,_,_]]=>some (ds (if nameB s then s else .empty))
 | 84,[.agg [_,.con (.string s),_,_,_,_]]=>some (db (nameB s))
 | _,_=>none
theorem f147 (hT:Tab G) (s:ByteArray) (hs:s.size≤1000):aj Tryz.prog G 147 [ds s] (db (nameB s)):=by
 have h40:=(f72 hT (G:=G) 0 (xN s) (by rw[Rk];omega) (Xf hs)).args Qp
 have e2:oh (xN s)=if nameB s then s else .empty:=by
  unfold oh
  rw[U1]
  have e2:aO (xN s)=s:=by simp[aO,zn,xN,gW]
  rw[e2]
 rw[e2] at h40
 refine aj.walk (ay:=Xl) (keep:=[]) follows Tryz.func147 rfl Tryz.call147 ?_
 refine aA (fun _ _ _ ZK=>(ZK 72 [(.agg [(di 2),(ds s),(di 0),(di 0),(di 0),(.con (.slice none 0 0))])] (ds (if nameB s=true then s else ByteArray.empty))∧((db (!(if nameB s=true then s else ByteArray.empty).toList==(ByteArray.mk #[]).toList)):DV)=(db (nameB s)))) (by kernel_rfl) ?_
 refine⟨h40,?_⟩
 refine congrArg db ?_
 rw[uz]
 cases h:nameB s with
 | false=>rfl
 | true=>
  have:=BG h
  rw[if_pos rfl,decide_eq_false (by omega)];rfl
theorem f100 (hT:Tab G) (s:ByteArray) (hs:s.size≤1000):aj Tryz.prog G 100 [ds s] (db (nameB s)):=by
 have h64:=(f84 hT (G:=G) 0 (xN s) (by rw[Rk];omega) (Xf hs)).args Qp
 rw[U1] at h64
 refine aj.walk (ay:=Xl) (keep:=[]) follows Tryz.func100 rfl Tryz.call100 ?_
 refine aA (fun _ _ _ ZK=>(ZK 84 [(.agg [(di 2),(ds s),(di 0),(di 0),(di 0),(.con (.slice none 0 0))])] (db (nameB s))∧(ZS ((db (nameB s)):DV)))) (by kernel_rfl) ?_
 exact⟨h64,rfl⟩
def mB (l:List ByteArray):Nat→Value→Bool
 | 0=>fun _=>false
 | k+1=>fun v=>iR v (.string (l.getD k .empty))||mB l k v
theorem Zk {l:List ByteArray} {k:Nat} (hk:k≤l.length) (s:ByteArray):mB l k (.string s)=true↔s∈l.take k:=by
 induction k with
 | zero=>simp[mB]
 | succ k ih=>
  have h:k<l.length:=hk
  have e:iR (.string s) (.string (l.getD k .empty))=decide (s=l.getD k .empty):=rfl
  simp only[mB,e,Bool.or_eq_true,ih (by omega)]
  rw[List.take_succ_eq_append_getElem h,List.getD,bQ h]
  simp only[decide_eq_true_eq,List.mem_append,List.mem_singleton,Option.getD_some]
  exact⟨fun h=>h.symm,fun h=>h.symm⟩
theorem XO (l:List ByteArray) (k:Nat):bV (.string (l.getD k .empty)) (.con (.bool true)) (fun v=>.con (.bool (mB l k v)))=fun v=>.con (.bool (mB l (k+1) v)):=by
 funext v
 unfold bV
 simp only[mB]
 cases iR v (.string (l.getD k .empty))<;>rfl
theorem GZ {l:List ByteArray} {k:Nat} (hk:k<l.length) (h:(l.take k).Nodup) (hn:l.getD k .empty∉l.take k):(l.take (k+1)).Nodup:=by
 rw[List.take_succ_eq_append_getElem hk]
 rw[List.getD,bQ hk] at hn
 have hn:l[k]∉l.take k:=hn
 rw[List.nodup_append]
 refine⟨h,by simp,fun a ha b hb=>?_⟩
 rw[List.mem_singleton] at hb
 subst hb
 exact fun e=>hn (e▸ha)
theorem JO {l:List ByteArray} {k:Nat} (hk:k<l.length) (hn:l.getD k .empty∈l.take k):¬l.Nodup:=by
 intro h
 have h2:(l.take (k+1)).Nodup:=h.sublist (List.take_sublist _ _)
 rw[List.take_succ_eq_append_getElem hk,List.nodup_append] at h2
 rw[List.getD,bQ hk] at hn
 exact h2.2.2 _ hn _ (List.mem_singleton.2 rfl) rfl
noncomputable def S48 (l:List ByteArray) (k:Nat):AS:=⟨regs Tryz.f93.ntmps [(3,.dw 6),(7,.d (.slc 1 l.length (dX l))),(8,vi l.length),(9,vi k)],[(6,[.mp none (fun v=>.con (.bool (mB l k v))) (mB l k)])]⟩
theorem f93 (l:List ByteArray) (hl:l.length≤100000):aj Tryz.prog G 93 [.slc 1 l.length (dX l)] (db (decide l.Nodup)):=by
 refine aj.walk (ay:=({ d:=fun _ _=>none }:iq)) (keep:=[]) follows Tryz.func93 rfl Tryz.call93 ?_
 refine aA (fun ZT ZW ZQ _=>ZW [cd Tryz.f93 [1,1,0,1,0],(.blk 0),cd Tryz.f93 [1,1,1]] (aI ZT []) ZQ) (by kernel_rfl) ?_
 refine aC.loop (c:=dR (aQ Tryz.f93) [1,1,0,1,0,0]) (by kernel_rfl) (S48 l) (fun k=>k≤l.length∧(l.take k).Nodup) (fun k=>l.length-k) 0 ?_ ⟨Nat.zero_le _,by simp⟩ ?_
 ·refine AS.leZ [] [0] (b:=((T0∧T0∧T0∧T0∧True)∧((some [(.mp none (fun x=>DV.con (Value.bool false)) (fun x=>false))]):(Option (List AV)))=(some [(.mp none (fun v=>DV.con (Value.bool (mB l 0 v))) (mB l 0))])∧True)) (by kernel_rfl) (by kernel_rfl) ?_
  exact⟨⟨rfl,rfl,rfl,rfl,trivial⟩,rfl,trivial⟩
 ·rintro k ⟨hk,hkn⟩
  refine walk (ay:=({ d:=fun _ _=>none }:iq)) (keep:=[]) (cuts:=[]) (n:=1000) follows ?_
  refine bW (fun ZT ZW ZQ _ ZA _=>(fun Za=>((((decide ((↑k:Int)<↑l.length))=true)→(((0≤(↑k:Int))∧((↑k:Int)<↑l.length))∧((Za=false)→((DV.con (Value.bool false)).imp (DV.con (Value.bool Za))))∧((Za=true)→(((db false):DV)=(db (decide l.Nodup))))∧((Za=false)→((I64 (↑k+1))∧(ZA (aI ZT [0,1]))))))∧(((decide ((↑k:Int)<↑l.length))=false)→ZW [cd Tryz.f93 [1,1,1]] (aI ZT [1]) ZQ))) (mB l k (Value.string (l.getD (↑k:Int).toNat ByteArray.empty)))) (by kernel_rfl) ?_
  simp only[Int.toNat_natCast]
  have hm:=Zk hk (l.getD k .empty)
  refine⟨fun h1=>?_,fun h1=>?_⟩
  ·have hk2:k<l.length:=by have:=of_decide_eq_true h1;omega
   refine⟨⟨by omega,by omega⟩,fun h2=>imp_eq (by rw[h2]),fun h2=>?_,fun h2=>⟨⟨by omega,by omega⟩,Again.mk (k+1) ?_ ⟨hk2,GZ hk2 hkn fun hh=>(by rw[hm.2 hh] at h2;cases h2)⟩ (by omega)⟩⟩
   ·rw[decide_eq_false (JO hk2 (hm.1 h2))]
   ·refine AS.leZ [] [0] (b:=((T0∧T0∧T0∧T0∧True)∧((some [(.mp none (bV (Value.string (l.getD (↑k:Int).toNat ByteArray.empty)) (DV.con (Value.bool true)) fun v=>DV.con (Value.bool (mB l k v))) (bT (Value.string (l.getD (↑k:Int).toNat ByteArray.empty)) (mB l k)))]):(Option (List AV)))=(some [(.mp none (fun v=>DV.con (Value.bool (mB l (k+1) v))) (mB l (k+1)))])∧True)) (by kernel_rfl) (by kernel_rfl) ?_
    refine⟨⟨rfl,rfl,rfl,rfl,trivial⟩,?_,trivial⟩
    refine congrArg (fun f=>some [AV.mp none f (mB l (k+1))]) (XO l k)
  ·simp only[decide_eq_false_iff_not] at h1
   obtain rfl:k=l.length:=by omega
   refine walk (ay:=({ d:=fun _ _=>none }:iq)) (keep:=[]) (cuts:=[]) (n:=1000) follows ?_
   refine aA (fun _ _ _ _=>(((db true):DV)=(db (decide l.Nodup)))) (by kernel_rfl) ?_
   rw[List.take_length] at hkn
   rw[decide_eq_true hkn]
/-! MX of facts. -/
structure Fc where
 name:ByteArray
 kind:Int
 ln:Int
 ld:Int
 hn:Int
 hd:Int
 words:List ByteArray
 deriving DecidableEq
abbrev aG:Fc:=⟨.empty,0,0,0,0,0,[]⟩
abbrev lC (l:List ByteArray):DV:=.slc 1 l.length (dX l)
abbrev qU (x:Fc):DV:=.agg [ds x.name,di x.kind,di x.ln,di x.ld,di x.hn,di x.hd,lC x.words]
def gV (L:List Fc) (i:Nat):DV:=qU (L.getD i aG)
abbrev fC (L:List Fc):DV:=.slc 7 L.length (gV L)
/-! The first element with a property. -/
def lZ {α:Type} (p:α→Bool) (l:List α):Int:=if l.any p then ((l.takeWhile fun x=>!p x).length:Int) else -1
theorem rY {α:Type} {x0:α} {p:α→Bool} {L:List α} {k:Nat} (hk:k<L.length) (hno:∀i,i<k→p (L.getD i x0)=false) (h:p (L.getD k x0)=true):L.any p=true∧lZ p L=k:=by
 have e:∀i (h:i<L.length),L.getD i x0=L[i]:=fun i h=>by rw[List.getD,bQ h];rfl
 have h1:L.any p=true:=by
  rw[List.any_eq_true]
  exact⟨L[k],List.getElem_mem hk,by rw[←e k hk];exact h⟩
 refine⟨h1,?_⟩
 unfold lZ
 rw[if_pos h1]
 have:∀(l:List α) (k:Nat) (hk:k<l.length),(∀i (h:i<l.length),i<k→p l[i]=false)→p l[k]=true→(l.takeWhile fun x=>!p x).length=k:=by
  intro l
  induction l with
  | nil=>intro k hk;simp at hk
  | cons x l ih=>
   intro k hk h2 h3
   cases k with
   | zero=>
    simp only[List.getElem_cons_zero] at h3
    rw[List.takeWhile_cons,h3];simp
   | succ k=>
    have h4:=h2 0 (by simp) (by omega)
    simp only[List.getElem_cons_zero] at h4
    rw[List.takeWhile_cons]
    simp only[h4,Bool.not_false,if_true,List.length_cons]
    rw[ih k (by simpa using hk) (fun i h5 h6=>by
     have:=h2 (i+1) (by simpa using h5) (by omega)
     simpa using this) (by simpa using h3)]
 rw[this L k hk (fun i h5 h6=>by rw[←e i h5];exact hno i h6) (by rw[←e k hk];exact h)]
theorem wR {α:Type} {x0:α} {p:α→Bool} {L:List α} (hno:∀i,i<L.length→p (L.getD i x0)=false):L.any p=false∧lZ p L = -1:=by
 have h1:L.any p=false:=by
  rw[Bool.eq_false_iff]
  intro h
  obtain ⟨x,hx,hd⟩:=List.any_eq_true.1 h
  obtain ⟨i,hi,rfl⟩:=List.getElem_of_mem hx
  have:=hno i hi
  rw[List.getD,bQ hi] at this
  rw[show p L[i]=false from this] at hd
  cases hd
 refine⟨h1,?_⟩
 unfold lZ
 rw[if_neg (by rw[h1];simp)]
theorem DF {α:Type} (p:α→Bool) (L:List α):decide (lZ p L≥0)=L.any p:=by
 unfold lZ
 cases h:L.any p with
 | true=>rw[if_pos rfl,decide_eq_true_eq];omega
 | false=>rfl
def rdS (d:DV):ByteArray:=match d with | .con (.string s)=>s|_=>.empty
def jP (d:DV):List ByteArray:=match d with | .slc _ n f=>(List.range n).map fun i=>rdS (f i)|_=>[]
theorem oO (l:List ByteArray):jP (lC l)=l:=by
 unfold jP
 refine List.ext_getElem (by simp) fun i h1 h2=>?_
 rw[List.getElem_map,List.getElem_range]
 unfold dX
 rw[List.getD,bQ h2];rfl
/-! Slices of strings and a test. -/
noncomputable def Df (p:ByteArray→Bool) (l:List ByteArray):aZ:=fun f a=>match f,a with
 | 148,[.con (.string s)]=>some (db (p s))
 | 98,[.con (.string s),_]=>some (db (p s))
 | 149,[_,_]=>some (di (lZ p l))
 | _,_=>none
noncomputable def abN (l:List ByteArray) (k:Nat):AS:=⟨regs Tryz.f149.ntmps [(0,.d (lC l)),(1,.d (.con (.func (.func 148) #[] #[]))),(7,vi l.length),(8,vi k)],[]⟩
theorem abL (p:ByteArray→Bool) (l:List ByteArray) (hl:l.length≤1000000) (hc:∀i,i<l.length→aj Tryz.prog G 148 [ds (l.getD i .empty)] (db (p (l.getD i .empty)))):aj Tryz.prog G 149 [lC l,(.con (.func (.func 148) #[] #[]))] (di (lZ p l)):=by
 refine aj.walk (ay:=Df p l) (keep:=[]) follows Tryz.func149 rfl Tryz.call149 ?_
 refine aA (fun ZT ZW ZQ _=>ZW [cd Tryz.f149 [1,0,1,0],(.blk 0),cd Tryz.f149 [1,1]] (aI ZT []) ZQ) (by kernel_rfl) ?_
 refine aC.loop (c:=dR (aQ Tryz.f149) [1,0,1,0,0]) (by kernel_rfl) (abN l) (fun k=>k≤l.length∧∀i,i<k→p (l.getD i .empty)=false) (fun k=>l.length-k) 0 ?_ ⟨Nat.zero_le _,fun i hi=>by omega⟩ ?_
 ·exact AS.dB (by kernel_rfl)
 ·rintro k ⟨hk,hkd⟩
  refine walk (ay:=Df p l) (keep:=[]) (cuts:=[]) (n:=1000) follows ?_
  refine bW (fun ZT ZW ZQ ZK ZA _=>(fun Za=>((((decide ((↑k:Int)<↑l.length))=true)→((((0≤(↑k:Int))∧((↑k:Int)<↑l.length))∧ZK 148 [(ds Za)] (db (p Za)))∧(((p Za)=true)→(((di (↑k)):DV)=(di (lZ p l))))∧(((p Za)=false)→((I64 (↑k+1))∧(ZA (aI ZT [0,1]))))))∧(((decide ((↑k:Int)<↑l.length))=false)→ZW [cd Tryz.f149 [1,1]] (aI ZT [1]) ZQ))) (l.getD (↑k:Int).toNat ByteArray.empty)) (by kernel_rfl) ?_
  simp only[Int.toNat_natCast]
  refine⟨fun h=>?_,fun h=>?_⟩
  ·have hk2:k<l.length:=by have:=of_decide_eq_true h;omega
   refine⟨⟨⟨by omega,by omega⟩,hc k hk2⟩,fun h2=>?_,fun h2=>⟨⟨by omega,by omega⟩,Again.mk (k+1) ?_ ⟨hk2,fun i hi=>?_⟩ (by omega)⟩⟩
   ·rw[(rY hk2 hkd h2).2]
   ·exact AS.dB (by kernel_rfl)
   ·rcases Nat.lt_or_ge i k with h4|h4
    ·exact hkd i h4
    ·obtain rfl:i=k:=by omega
     exact h2
  ·simp only[decide_eq_false_iff_not] at h
   have hst:=wR (p:=p) (L:=l) (x0:=.empty) fun i hi=>hkd i (by omega)
   refine walk (ay:=Df p l) (keep:=[]) (cuts:=[]) (n:=1000) follows ?_
   refine aA (fun _ _ _ _=>(((di (-1)):DV)=(di (lZ p l)))) (by kernel_rfl) ?_
   rw[hst.2]
theorem ad6 (p:ByteArray→Bool) (l:List ByteArray) (hl:l.length≤1000000) (hc:∀i,i<l.length→aj Tryz.prog G 148 [ds (l.getD i .empty)] (db (p (l.getD i .empty)))):aj Tryz.prog G 97 [lC l,(.con (.func (.func 148) #[] #[]))] (db (l.any p)):=by
 refine aj.walk (ay:=Df p l) (keep:=[]) follows Tryz.func97 rfl Tryz.call97 ?_
 refine aA (fun _ _ _ ZK=>(ZK 149 [(.slc 1 l.length (dX l)),(.con (.func (.func 148) ⟨[]⟩ ⟨[]⟩))] (di (lZ p l))∧((db (decide (lZ p l≥0))):DV)=(db (l.any p)))) (by kernel_rfl) ?_
 refine⟨abL p l hl hc,?_⟩
 rw[DF]
noncomputable def aby (l:List ByteArray) (c:DV) (k:Nat):AS:=⟨regs Tryz.f149.ntmps [(0,.d (lC l)),(1,.d (.clo (.func 98) [] [c])),(7,vi l.length),(8,vi k)],[]⟩
theorem ab3 (p:ByteArray→Bool) (l:List ByteArray) (c:DV) (hl:l.length≤1000000) (hc:∀i,i<l.length→aj Tryz.prog G 98 [ds (l.getD i .empty),c] (db (p (l.getD i .empty)))):aj Tryz.prog G 149 [lC l,(.clo (.func 98) [] [c])] (di (lZ p l)):=by
 refine aj.walk (ay:=Df p l) (keep:=[]) follows Tryz.func149 rfl Tryz.call149 ?_
 refine aA (fun ZT ZW ZQ _=>ZW [cd Tryz.f149 [1,0,1,0],(.blk 0),cd Tryz.f149 [1,1]] (aI ZT []) ZQ) (by kernel_rfl) ?_
 refine aC.loop (c:=dR (aQ Tryz.f149) [1,0,1,0,0]) (by kernel_rfl) (aby l c) (fun k=>k≤l.length∧∀i,i<k→p (l.getD i .empty)=false) (fun k=>l.length-k) 0 ?_ ⟨Nat.zero_le _,fun i hi=>by omega⟩ ?_
 ·exact AS.dB (by kernel_rfl)
 ·rintro k ⟨hk,hkd⟩
  refine walk (ay:=Df p l) (keep:=[]) (cuts:=[]) (n:=1000) follows ?_
  refine bW (fun ZT ZW ZQ ZK ZA _=>(fun Za=>((((decide ((↑k:Int)<↑l.length))=true)→((((0≤(↑k:Int))∧((↑k:Int)<↑l.length))∧ZK 98 [(ds Za),c] (db (p Za)))∧(((p Za)=true)→(((di (↑k)):DV)=(di (lZ p l))))∧(((p Za)=false)→((I64 (↑k+1))∧(ZA (aI ZT [0,1]))))))∧(((decide ((↑k:Int)<↑l.length))=false)→ZW [cd Tryz.f149 [1,1]] (aI ZT [1]) ZQ))) (l.getD (↑k:Int).toNat ByteArray.empty)) (by kernel_rfl) ?_
  simp only[Int.toNat_natCast]
  refine⟨fun h=>?_,fun h=>?_⟩
  ·have hk2:k<l.length:=by have:=of_decide_eq_true h;omega
   refine⟨⟨⟨by omega,by omega⟩,hc k hk2⟩,fun h2=>?_,fun h2=>⟨⟨by omega,by omega⟩,Again.mk (k+1) ?_ ⟨hk2,fun i hi=>?_⟩ (by omega)⟩⟩
   ·rw[(rY hk2 hkd h2).2]
   ·exact AS.dB (by kernel_rfl)
   ·rcases Nat.lt_or_ge i k with h4|h4
    ·exact hkd i h4
    ·obtain rfl:i=k:=by omega
     exact h2
  ·simp only[decide_eq_false_iff_not] at h
   have hst:=wR (p:=p) (L:=l) (x0:=.empty) fun i hi=>hkd i (by omega)
   refine walk (ay:=Df p l) (keep:=[]) (cuts:=[]) (n:=1000) follows ?_
   refine aA (fun _ _ _ _=>(((di (-1)):DV)=(di (lZ p l)))) (by kernel_rfl) ?_
   rw[hst.2]
theorem adV (p:ByteArray→Bool) (l:List ByteArray) (c:DV) (hl:l.length≤1000000) (hc:∀i,i<l.length→aj Tryz.prog G 98 [ds (l.getD i .empty),c] (db (p (l.getD i .empty)))):aj Tryz.prog G 97 [lC l,(.clo (.func 98) [] [c])] (db (l.any p)):=by
 refine aj.walk (ay:=Df p l) (keep:=[]) follows Tryz.func97 rfl Tryz.call97 ?_
 refine aA (fun _ _ _ ZK=>(ZK 149 [(.slc 1 l.length (dX l)),(.clo (.func 98) [] [c])] (di (lZ p l))∧((db (decide (lZ p l≥0))):DV)=(db (l.any p)))) (by kernel_rfl) ?_
 refine⟨ab3 p l c hl hc,?_⟩
 rw[DF]
noncomputable def Sr (p:Fc→Bool) (l:List Fc):aZ:=fun f a=>match f,a with
 | 95,[.agg [.con (.string a),.con (.int .i64 b),.con (.int .i64 c),.con (.int .i64 d),.con (.int .i64 e),.con (.int .i64 f),w],_]=>some (db (p ⟨a,b,c,d,e,f,jP w⟩))
 | 146,[_,_]=>some (di (lZ p l))
 | _,_=>none
noncomputable def adz (l:List Fc) (c:DV) (k:Nat):AS:=⟨regs Tryz.f146.ntmps [(0,.d (fC l)),(1,.d (.clo (.func 95) [] [c])),(7,vi l.length),(8,vi k)],[]⟩
theorem aa8 (p:Fc→Bool) (l:List Fc) (c:DV) (hl:l.length≤1000000) (hc:∀i,i<l.length→aj Tryz.prog G 95 [qU (l.getD i aG),c] (db (p (l.getD i aG)))):aj Tryz.prog G 146 [fC l,(.clo (.func 95) [] [c])] (di (lZ p l)):=by
 refine aj.walk (ay:=Sr p l) (keep:=[]) follows Tryz.func146 rfl Tryz.call146 ?_
 refine aA (fun ZT ZW ZQ _=>ZW [cd Tryz.f146 [1,0,1,0],(.blk 0),cd Tryz.f146 [1,1]] (aI ZT []) ZQ) (by kernel_rfl) ?_
 refine aC.loop (c:=dR (aQ Tryz.f146) [1,0,1,0,0]) (by kernel_rfl) (adz l c) (fun k=>k≤l.length∧∀i,i<k→p (l.getD i aG)=false) (fun k=>l.length-k) 0 ?_ ⟨Nat.zero_le _,fun i hi=>by omega⟩ ?_
 ·exact AS.dB (by kernel_rfl)
 ·rintro k ⟨hk,hkd⟩
  refine walk (ay:=Sr p l) (keep:=[]) (cuts:=[]) (n:=1000) follows ?_
  refine bW (fun ZT ZW ZQ ZK ZA _=>(fun Za=>((((decide ((↑k:Int)<↑l.length))=true)→((((0≤(↑k:Int))∧((↑k:Int)<↑l.length))∧ZK 95 [(qU (l.getD (↑k:Int).toNat aG)),c] (db Za))∧((Za=true)→(((di (↑k)):DV)=(di (lZ p l))))∧((Za=false)→((I64 (↑k+1))∧(ZA (aI ZT [0,1]))))))∧(((decide ((↑k:Int)<↑l.length))=false)→ZW [cd Tryz.f146 [1,1]] (aI ZT [1]) ZQ))) (p (Fc.mk (l.getD (↑k:Int).toNat aG).name (l.getD (↑k:Int).toNat aG).kind (l.getD (↑k:Int).toNat aG).ln (l.getD (↑k:Int).toNat aG).ld (l.getD (↑k:Int).toNat aG).hn (l.getD (↑k:Int).toNat aG).hd (jP (lC (l.getD (↑k:Int).toNat aG).words))))) (by kernel_rfl) ?_
  simp only[Int.toNat_natCast,oO]
  refine⟨fun h=>?_,fun h=>?_⟩
  ·have hk2:k<l.length:=by have:=of_decide_eq_true h;omega
   refine⟨⟨⟨by omega,by omega⟩,hc k hk2⟩,fun h2=>?_,fun h2=>⟨⟨by omega,by omega⟩,Again.mk (k+1) ?_ ⟨hk2,fun i hi=>?_⟩ (by omega)⟩⟩
   ·rw[(rY hk2 hkd h2).2]
   ·exact AS.dB (by kernel_rfl)
   ·rcases Nat.lt_or_ge i k with h4|h4
    ·exact hkd i h4
    ·obtain rfl:i=k:=by omega
     exact h2
  ·simp only[decide_eq_false_iff_not] at h
   have hst:=wR (p:=p) (L:=l) (x0:=aG) fun i hi=>hkd i (by omega)
   refine walk (ay:=Sr p l) (keep:=[]) (cuts:=[]) (n:=1000) follows ?_
   refine aA (fun _ _ _ _=>(((di (-1)):DV)=(di (lZ p l)))) (by kernel_rfl) ?_
   rw[hst.2]
theorem aeb (p:Fc→Bool) (l:List Fc) (c:DV) (hl:l.length≤1000000) (hc:∀i,i<l.length→aj Tryz.prog G 95 [qU (l.getD i aG),c] (db (p (l.getD i aG)))):aj Tryz.prog G 94 [fC l,(.clo (.func 95) [] [c])] (db (l.any p)):=by
 refine aj.walk (ay:=Sr p l) (keep:=[]) follows Tryz.func94 rfl Tryz.call94 ?_
 refine aA (fun _ _ _ ZK=>(ZK 146 [(.slc 7 l.length (gV l)),(.clo (.func 95) [] [c])] (di (lZ p l))∧((db (decide (lZ p l≥0))):DV)=(db (l.any p)))) (by kernel_rfl) ?_
 refine⟨aa8 p l c hl hc,?_⟩
 rw[DF]
open Go Go.Ab
set_option maxHeartbeats 1000000
variable {G:IH}
@[match_pattern] abbrev fn (k:Nat):DV:=.con (.func (.func k) #[] #[])
def jc (okk:Bool) (x:Int×Int):FE:=if okk then (if x.2=0 then (0,0,2) else red x.1 x.2) else (0,0,1)
def eG (k:Nat) (a b c d:Int):Int×Int:=match k with
 | 132=>(a*d+c*b,b*d)
 | 134=>(a*c,b*d)
 | 133=>(a*d-c*b,b*d)
 | _=>(a*d,b*c)
def uD:aZ
 | 132,[fr a b,fr c d]=>some (.au [di (eG 132 a b c d).1,di (eG 132 a b c d).2])
 | 134,[fr a b,fr c d]=>some (.au [di (eG 134 a b c d).1,di (eG 134 a b c d).2])
 | 133,[fr a b,fr c d]=>some (.au [di (eG 133 a b c d).1,di (eG 133 a b c d).2])
 | 135,[fr a b,fr c d]=>some (.au [di (eG 135 a b c d).1,di (eG 135 a b c d).2])
 | 131,[fn k]=>some (.clo (.func 166) [] [.ptr [fn k]])
 | 166,[fr a b,fr c d,.ptr [fn k]]=>some (fe (jc (ok a b&&ok c d) (eG k a b c d)))
 | f,l=>ay f l
theorem mb {x y:Int} (A B:Nat) (hx:-(A:Int)≤x∧x≤A) (hy:-(B:Int)≤y∧y≤B):-((A*B:Nat):Int)≤x*y∧x*y≤((A*B:Nat):Int):=by
 have h1:x.natAbs≤A:=by omega
 have h2:y.natAbs≤B:=by omega
 have h3:=Nat.mul_le_mul h1 h2
 rw[←Int.natAbs_mul] at h3
 omega
theorem f131 (k:Nat):aj Tryz.prog G 131 [fn k] (.clo (.func 166) [] [.ptr [fn k]]):=by
 refine aj.walk (ay:=uD) (keep:=[]) follows Tryz.func131 rfl Tryz.call131 ?_
 refine aA (fun _ _ _ _=>(ZS ((.clo (.func 166) [] [(.ptr [(fn k)])]):DV))) (by kernel_rfl) ?_
 rfl
theorem okb {n d:Int} (h:ok n d=true):(-((1000000000:Nat):Int)≤n∧n≤((1000000000:Nat):Int))∧(-((1000000:Nat):Int)≤d∧d≤((1000000:Nat):Int)):=by
 have:=kR h;omega
theorem f132 (a b c d:Int) (h1:ok a b=true) (h2:ok c d=true):aj Tryz.prog G 132 [fr a b,fr c d] (.au [di (eG 132 a b c d).1,di (eG 132 a b c d).2]):=by
 refine aj.walk (ay:=uD) (keep:=[]) follows Tryz.func132 rfl Tryz.call132 ?_
 refine aA (fun _ _ _ _=>(((I64 (a*d))∧(I64 (c*b))∧(I64 (a*d+c*b))∧(I64 (b*d)))∧((.au [(di (a*d+c*b)),(di (b*d))]):DV)=(.au [(di (eG 132 a b c d).fst),(di (eG 132 a b c d).snd)]))) (by kernel_rfl) ?_
 have m0:=mb _ _ (okb h1).1 (okb h2).2
 have m1:=mb _ _ (okb h2).1 (okb h1).2
 have m2:=mb _ _ (okb h1).2 (okb h2).2
 exact⟨⟨⟨by omega,by omega⟩,⟨by omega,by omega⟩,⟨by omega,by omega⟩,by omega,by omega⟩,rfl⟩
theorem U9 {a b c d:Int} (h1:ok a b=true) (h2:ok c d=true):iO (eG 132 a b c d).1∧iO (eG 132 a b c d).2:=by
 have m0:=mb _ _ (okb h1).1 (okb h2).2
 have m1:=mb _ _ (okb h2).1 (okb h1).2
 have m2:=mb _ _ (okb h1).2 (okb h2).2
 simp only[eG]
 exact⟨⟨by omega,by omega⟩,by omega,by omega⟩
theorem V3 (a b c d:Int):aj Tryz.prog G 166 [fr a b,fr c d,.ptr [fn 132]] (fe (jc (ok a b&&ok c d) (eG 132 a b c d))):=by
 refine aj.walk (ay:=uD) (keep:=[]) follows Tryz.func166 rfl Tryz.call166 ?_
 refine aA (fun _ _ _ ZK=>(fun Za Zb=>((ZK 137 [(.agg [(di a),(di b)])] (db (ok a b))∧(((!!ok a b)=true)→ZK 137 [(.agg [(di c),(di d)])] (db (ok c d))))∧(((!ok a b||!ok c d)=true)→(((.au [(.agg [(di 0),(di 0)]),(di 1)]):DV)=Zb))∧(((!ok a b||!ok c d)=false)→(ZK 132 [(.agg [(di a),(di b)]),(.agg [(di c),(di d)])] (.au [(di (a*d+c*b)),(di (b*d))])∧(((b*d==0)=true)→(((.au [(.agg [(di 0),(di 0)]),(di 2)]):DV)=Zb))∧(((b*d==0)=false)→(ZK 167 [(di (a*d+c*b)),(di (b*d))] Za∧(Za:DV)=Zb)))))) ((.au [(.agg [(di (red (a*d+c*b) (b*d)).fst),(di (red (a*d+c*b) (b*d)).snd.fst)]),(di (red (a*d+c*b) (b*d)).snd.snd)]):DV) (fe (jc (ok a b&&ok c d) (eG 132 a b c d)))) (by kernel_rfl) ?_
 refine⟨⟨f137 a b,fun _=>f137 c d⟩,fun h=>?_,fun h=>?_⟩
 ·have h:(ok a b&&ok c d)=false:=by cases ha:ok a b<;>cases hc:ok c d<;>simp_all
  rw[h];rfl
 ·have h1:ok a b=true:=by cases ha:ok a b<;>simp_all
  have h2:ok c d=true:=by cases ha:ok c d<;>simp_all
  rw[h1,h2]
  have hr:=U9 h1 h2
  refine⟨f132 a b c d h1 h2,fun h=>?_,fun h=>⟨f167 _ _ (by simpa using h) hr.1 hr.2,?_⟩⟩
  ·simp only[jc,eG];rw[if_pos (show (true&&true)=true from rfl),if_pos (by simpa using h)];rfl
  ·simp only[jc,eG];rw[if_pos (show (true&&true)=true from rfl),if_neg (by simpa using h)];rfl
theorem f76 (a b c d:Int):aj Tryz.prog G 76 [fr a b,fr c d] (fe (jc (ok a b&&ok c d) (eG 132 a b c d))):=by
 refine aj.walk (ay:=uD) (keep:=[]) follows Tryz.func76 rfl Tryz.call76 ?_
 refine aA (fun _ _ _ ZK=>(fun Za Zb=>((ZK 131 [Zb] (.clo (.func 166) [] [(.ptr [Zb])])∧ZK 166 [(.agg [(di a),(di b)]),(.agg [(di c),(di d)]),(.ptr [Zb])] (.au [(.agg [(di Za.fst),(di Za.snd.fst)]),(di Za.snd.snd)]))∧((.au [(.agg [(di Za.fst),(di Za.snd.fst)]),(di Za.snd.snd)]):DV)=(fe Za))) (jc (ok a b&&ok c d) (eG 132 a b c d)) ((.con (.func (.func 132) ⟨[]⟩ ⟨[]⟩)):DV)) (by kernel_rfl) ?_
 exact⟨⟨f131 132,V3 a b c d⟩,rfl⟩
theorem f134 (a b c d:Int) (h1:ok a b=true) (h2:ok c d=true):aj Tryz.prog G 134 [fr a b,fr c d] (.au [di (eG 134 a b c d).1,di (eG 134 a b c d).2]):=by
 refine aj.walk (ay:=uD) (keep:=[]) follows Tryz.func134 rfl Tryz.call134 ?_
 refine aA (fun _ _ _ _=>(((I64 (a*c))∧(I64 (b*d)))∧((.au [(di (a*c)),(di (b*d))]):DV)=(.au [(di (eG 134 a b c d).fst),(di (eG 134 a b c d).snd)]))) (by kernel_rfl) ?_
 have m0:=mb _ _ (okb h1).1 (okb h2).1
 have m1:=mb _ _ (okb h1).2 (okb h2).2
 exact⟨⟨⟨by omega,by omega⟩,by omega,by omega⟩,rfl⟩
theorem Xd {a b c d:Int} (h1:ok a b=true) (h2:ok c d=true):iO (eG 134 a b c d).1∧iO (eG 134 a b c d).2:=by
 have m0:=mb _ _ (okb h1).1 (okb h2).1
 have m1:=mb _ _ (okb h1).2 (okb h2).2
 simp only[eG]
 exact⟨⟨by omega,by omega⟩,by omega,by omega⟩
theorem YN (a b c d:Int):aj Tryz.prog G 166 [fr a b,fr c d,.ptr [fn 134]] (fe (jc (ok a b&&ok c d) (eG 134 a b c d))):=by
 refine aj.walk (ay:=uD) (keep:=[]) follows Tryz.func166 rfl Tryz.call166 ?_
 refine aA (fun _ _ _ ZK=>(fun Za Zb=>((ZK 137 [(.agg [(di a),(di b)])] (db (ok a b))∧(((!!ok a b)=true)→ZK 137 [(.agg [(di c),(di d)])] (db (ok c d))))∧(((!ok a b||!ok c d)=true)→(((.au [(.agg [(di 0),(di 0)]),(di 1)]):DV)=Zb))∧(((!ok a b||!ok c d)=false)→(ZK 134 [(.agg [(di a),(di b)]),(.agg [(di c),(di d)])] (.au [(di (a*c)),(di (b*d))])∧(((b*d==0)=true)→(((.au [(.agg [(di 0),(di 0)]),(di 2)]):DV)=Zb))∧(((b*d==0)=false)→(ZK 167 [(di (a*c)),(di (b*d))] Za∧(Za:DV)=Zb)))))) ((.au [(.agg [(di (red (a*c) (b*d)).fst),(di (red (a*c) (b*d)).snd.fst)]),(di (red (a*c) (b*d)).snd.snd)]):DV) (fe (jc (ok a b&&ok c d) (eG 134 a b c d)))) (by kernel_rfl) ?_
 refine⟨⟨f137 a b,fun _=>f137 c d⟩,fun h=>?_,fun h=>?_⟩
 ·have h:(ok a b&&ok c d)=false:=by cases ha:ok a b<;>cases hc:ok c d<;>simp_all
  rw[h];rfl
 ·have h1:ok a b=true:=by cases ha:ok a b<;>simp_all
  have h2:ok c d=true:=by cases ha:ok c d<;>simp_all
  rw[h1,h2]
  have hr:=Xd h1 h2
  refine⟨f134 a b c d h1 h2,fun h=>?_,fun h=>⟨f167 _ _ (by simpa using h) hr.1 hr.2,?_⟩⟩
  ·simp only[jc,eG];rw[if_pos (show (true&&true)=true from rfl),if_pos (by simpa using h)];rfl
  ·simp only[jc,eG];rw[if_pos (show (true&&true)=true from rfl),if_neg (by simpa using h)];rfl
theorem f78 (a b c d:Int):aj Tryz.prog G 78 [fr a b,fr c d] (fe (jc (ok a b&&ok c d) (eG 134 a b c d))):=by
 refine aj.walk (ay:=uD) (keep:=[]) follows Tryz.func78 rfl Tryz.call78 ?_
 refine aA (fun _ _ _ ZK=>(fun Za Zb=>((ZK 131 [Zb] (.clo (.func 166) [] [(.ptr [Zb])])∧ZK 166 [(.agg [(di a),(di b)]),(.agg [(di c),(di d)]),(.ptr [Zb])] (.au [(.agg [(di Za.fst),(di Za.snd.fst)]),(di Za.snd.snd)]))∧((.au [(.agg [(di Za.fst),(di Za.snd.fst)]),(di Za.snd.snd)]):DV)=(fe Za))) (jc (ok a b&&ok c d) (eG 134 a b c d)) ((.con (.func (.func 134) ⟨[]⟩ ⟨[]⟩)):DV)) (by kernel_rfl) ?_
 exact⟨⟨f131 134,YN a b c d⟩,rfl⟩
theorem f133 (a b c d:Int) (h1:ok a b=true) (h2:ok c d=true):aj Tryz.prog G 133 [fr a b,fr c d] (.au [di (eG 133 a b c d).1,di (eG 133 a b c d).2]):=by
 refine aj.walk (ay:=uD) (keep:=[]) follows Tryz.func133 rfl Tryz.call133 ?_
 refine aA (fun _ _ _ _=>(((I64 (a*d))∧(I64 (c*b))∧(I64 (a*d-c*b))∧(I64 (b*d)))∧((.au [(di (a*d-c*b)),(di (b*d))]):DV)=(.au [(di (eG 133 a b c d).fst),(di (eG 133 a b c d).snd)]))) (by kernel_rfl) ?_
 have m0:=mb _ _ (okb h1).1 (okb h2).2
 have m1:=mb _ _ (okb h2).1 (okb h1).2
 have m2:=mb _ _ (okb h1).2 (okb h2).2
 exact⟨⟨⟨by omega,by omega⟩,⟨by omega,by omega⟩,⟨by omega,by omega⟩,by omega,by omega⟩,rfl⟩
theorem ab4 {a b c d:Int} (h1:ok a b=true) (h2:ok c d=true):iO (eG 133 a b c d).1∧iO (eG 133 a b c d).2:=by
 have m0:=mb _ _ (okb h1).1 (okb h2).2
 have m1:=mb _ _ (okb h2).1 (okb h1).2
 have m2:=mb _ _ (okb h1).2 (okb h2).2
 simp only[eG]
 exact⟨⟨by omega,by omega⟩,by omega,by omega⟩
theorem YP (a b c d:Int):aj Tryz.prog G 166 [fr a b,fr c d,.ptr [fn 133]] (fe (jc (ok a b&&ok c d) (eG 133 a b c d))):=by
 refine aj.walk (ay:=uD) (keep:=[]) follows Tryz.func166 rfl Tryz.call166 ?_
 refine aA (fun _ _ _ ZK=>(fun Za Zb=>((ZK 137 [(.agg [(di a),(di b)])] (db (ok a b))∧(((!!ok a b)=true)→ZK 137 [(.agg [(di c),(di d)])] (db (ok c d))))∧(((!ok a b||!ok c d)=true)→(((.au [(.agg [(di 0),(di 0)]),(di 1)]):DV)=Zb))∧(((!ok a b||!ok c d)=false)→(ZK 133 [(.agg [(di a),(di b)]),(.agg [(di c),(di d)])] (.au [(di (a*d-c*b)),(di (b*d))])∧(((b*d==0)=true)→(((.au [(.agg [(di 0),(di 0)]),(di 2)]):DV)=Zb))∧(((b*d==0)=false)→(ZK 167 [(di (a*d-c*b)),(di (b*d))] Za∧(Za:DV)=Zb)))))) ((.au [(.agg [(di (red (a*d-c*b) (b*d)).fst),(di (red (a*d-c*b) (b*d)).snd.fst)]),(di (red (a*d-c*b) (b*d)).snd.snd)]):DV) (fe (jc (ok a b&&ok c d) (eG 133 a b c d)))) (by kernel_rfl) ?_
 refine⟨⟨f137 a b,fun _=>f137 c d⟩,fun h=>?_,fun h=>?_⟩
 ·have h:(ok a b&&ok c d)=false:=by cases ha:ok a b<;>cases hc:ok c d<;>simp_all
  rw[h];rfl
 ·have h1:ok a b=true:=by cases ha:ok a b<;>simp_all
  have h2:ok c d=true:=by cases ha:ok c d<;>simp_all
  rw[h1,h2]
  have hr:=ab4 h1 h2
  refine⟨f133 a b c d h1 h2,fun h=>?_,fun h=>⟨f167 _ _ (by simpa using h) hr.1 hr.2,?_⟩⟩
  ·simp only[jc,eG];rw[if_pos (show (true&&true)=true from rfl),if_pos (by simpa using h)];rfl
  ·simp only[jc,eG];rw[if_pos (show (true&&true)=true from rfl),if_neg (by simpa using h)];rfl
theorem f77 (a b c d:Int):aj Tryz.prog G 77 [fr a b,fr c d] (fe (jc (ok a b&&ok c d) (eG 133 a b c d))):=by
 refine aj.walk (ay:=uD) (keep:=[]) follows Tryz.func77 rfl Tryz.call77 ?_
 refine aA (fun _ _ _ ZK=>(fun Za Zb=>((ZK 131 [Zb] (.clo (.func 166) [] [(.ptr [Zb])])∧ZK 166 [(.agg [(di a),(di b)]),(.agg [(di c),(di d)]),(.ptr [Zb])] (.au [(.agg [(di Za.fst),(di Za.snd.fst)]),(di Za.snd.snd)]))∧((.au [(.agg [(di Za.fst),(di Za.snd.fst)]),(di Za.snd.snd)]):DV)=(fe Za))) (jc (ok a b&&ok c d) (eG 133 a b c d)) ((.con (.func (.func 133) ⟨[]⟩ ⟨[]⟩)):DV)) (by kernel_rfl) ?_
 exact⟨⟨f131 133,YP a b c d⟩,rfl⟩
theorem f135 (a b c d:Int) (h1:ok a b=true) (h2:ok c d=true):aj Tryz.prog G 135 [fr a b,fr c d] (.au [di (eG 135 a b c d).1,di (eG 135 a b c d).2]):=by
 refine aj.walk (ay:=uD) (keep:=[]) follows Tryz.func135 rfl Tryz.call135 ?_
 refine aA (fun _ _ _ _=>(((I64 (a*d))∧(I64 (b*c)))∧((.au [(di (a*d)),(di (b*c))]):DV)=(.au [(di (eG 135 a b c d).fst),(di (eG 135 a b c d).snd)]))) (by kernel_rfl) ?_
 have m0:=mb _ _ (okb h1).1 (okb h2).2
 have m1:=mb _ _ (okb h1).2 (okb h2).1
 exact⟨⟨⟨by omega,by omega⟩,by omega,by omega⟩,rfl⟩
theorem Vd {a b c d:Int} (h1:ok a b=true) (h2:ok c d=true):iO (eG 135 a b c d).1∧iO (eG 135 a b c d).2:=by
 have m0:=mb _ _ (okb h1).1 (okb h2).2
 have m1:=mb _ _ (okb h1).2 (okb h2).1
 simp only[eG]
 exact⟨⟨by omega,by omega⟩,by omega,by omega⟩
theorem VT (a b c d:Int):aj Tryz.prog G 166 [fr a b,fr c d,.ptr [fn 135]] (fe (jc (ok a b&&ok c d) (eG 135 a b c d))):=by
 refine aj.walk (ay:=uD) (keep:=[]) follows Tryz.func166 rfl Tryz.call166 ?_
 refine aA (fun _ _ _ ZK=>(fun Za Zb=>((ZK 137 [(.agg [(di a),(di b)])] (db (ok a b))∧(((!!ok a b)=true)→ZK 137 [(.agg [(di c),(di d)])] (db (ok c d))))∧(((!ok a b||!ok c d)=true)→(((.au [(.agg [(di 0),(di 0)]),(di 1)]):DV)=Zb))∧(((!ok a b||!ok c d)=false)→(ZK 135 [(.agg [(di a),(di b)]),(.agg [(di c),(di d)])] (.au [(di (a*d)),(di (b*c))])∧(((b*c==0)=true)→(((.au [(.agg [(di 0),(di 0)]),(di 2)]):DV)=Zb))∧(((b*c==0)=false)→(ZK 167 [(di (a*d)),(di (b*c))] Za∧(Za:DV)=Zb)))))) ((.au [(.agg [(di (red (a*d) (b*c)).fst),(di (red (a*d) (b*c)).snd.fst)]),(di (red (a*d) (b*c)).snd.snd)]):DV) (fe (jc (ok a b&&ok c d) (eG 135 a b c d)))) (by kernel_rfl) ?_
 refine⟨⟨f137 a b,fun _=>f137 c d⟩,fun h=>?_,fun h=>?_⟩
 ·have h:(ok a b&&ok c d)=false:=by cases ha:ok a b<;>cases hc:ok c d<;>simp_all
  rw[h];rfl
 ·have h1:ok a b=true:=by cases ha:ok a b<;>simp_all
  have h2:ok c d=true:=by cases ha:ok c d<;>simp_all
  rw[h1,h2]
  have hr:=Vd h1 h2
  refine⟨f135 a b c d h1 h2,fun h=>?_,fun h=>⟨f167 _ _ (by simpa using h) hr.1 hr.2,?_⟩⟩
  ·simp only[jc,eG];rw[if_pos (show (true&&true)=true from rfl),if_pos (by simpa using h)];rfl
  ·simp only[jc,eG];rw[if_pos (show (true&&true)=true from rfl),if_neg (by simpa using h)];rfl
theorem f79 (a b c d:Int):aj Tryz.prog G 79 [fr a b,fr c d] (fe (jc (ok a b&&ok c d) (eG 135 a b c d))):=by
 refine aj.walk (ay:=uD) (keep:=[]) follows Tryz.func79 rfl Tryz.call79 ?_
 refine aA (fun _ _ _ ZK=>(fun Za Zb=>((ZK 131 [Zb] (.clo (.func 166) [] [(.ptr [Zb])])∧ZK 166 [(.agg [(di a),(di b)]),(.agg [(di c),(di d)]),(.ptr [Zb])] (.au [(.agg [(di Za.fst),(di Za.snd.fst)]),(di Za.snd.snd)]))∧((.au [(.agg [(di Za.fst),(di Za.snd.fst)]),(di Za.snd.snd)]):DV)=(fe Za))) (jc (ok a b&&ok c d) (eG 135 a b c d)) ((.con (.func (.func 135) ⟨[]⟩ ⟨[]⟩)):DV)) (by kernel_rfl) ?_
 exact⟨⟨f131 135,VT a b c d⟩,rfl⟩
open Go Go.Ab
theorem EF {q p d:Int} (h:q∣p*d) (g:Int.gcd q p=1):q∣d:=by
 have:=Int.dvd_coe_gcd (a:=q*d) (b:=p*d) (c:=q) ⟨d,rfl⟩ h
 rw[Int.gcd_mul_right,g,Nat.one_mul] at this
 exact Int.dvd_natAbs.1 this
def qv (n d:Int):Rat:=(n:Rat) / (d:Rat)
theorem qx {d:Int} (h:d≠0):(d:Rat)≠0:=by
 intro hh;exact h (by exact_mod_cast hh)
theorem QI {p q n d:Int} (hq:q≠0) (hd:d≠0):qv p q=qv n d↔p*d=n*q:=by
 have h1:=qx hq
 have h2:=qx hd
 unfold qv
 constructor
 ·intro h
  have:(p:Rat)*d=n*q:=by grind
  exact_mod_cast this
 ·intro h
  have:(p:Rat)*d=n*q:=by exact_mod_cast h
  grind
theorem uj {n d:Int} (h:ok n d=true):0<d:=by have:=kR h;omega
theorem XK {p q n d:Int} (h1:ok p q=true) (h2:ok n d=true) (h:qv p q=qv n d):p=n∧q=d:=by
 have hq:=uj h1
 have hd:=uj h2
 rw[QI (by omega) (by omega)] at h
 have g1:=(kR h1).2.2.2.2
 have g2:=(kR h2).2.2.2.2
 have d1:q∣d:=by
  have:q∣p*d:=⟨n,by rw[h,Int.mul_comm]⟩
  exact EF this (by rw[Int.gcd_comm];exact g1)
 have d2:d∣q:=by
  have:d∣n*q:=⟨p,by rw[←h,Int.mul_comm]⟩
  exact EF this (by rw[Int.gcd_comm];exact g2)
 have hqd:q=d:=Int.le_antisymm (Int.le_of_dvd hd d1) (Int.le_of_dvd hq d2)
 subst hqd
 exact⟨Int.eq_of_mul_eq_mul_right (by omega) h,rfl⟩
theorem JL {n d:Int} (hd:0<d):(∀p q,ok p q=true→qv p q=qv n d→oJ n d=(p,q,0))∧((oJ n d).2.2=0→ok (oJ n d).1 (oJ n d).2.1=true∧qv (oJ n d).1 (oJ n d).2.1=qv n d)∧((oJ n d).2.2≠0→oJ n d=(0,0,2)):=by
 have hg:=NM (n:=n) hd
 obtain ⟨a,ha⟩:=Int.gcd_dvd_left (a:=n) (b:=d)
 obtain ⟨b,hb⟩:=Int.gcd_dvd_right (a:=n) (b:=d)
 have e1:n.tdiv (Int.gcd n d)=a:=by rw[show n.tdiv (Int.gcd n d)=((Int.gcd n d:Int)*a).tdiv (Int.gcd n d) by rw[←ha]];exact Int.mul_tdiv_cancel_left a (by omega)
 have e2:d.tdiv (Int.gcd n d)=b:=by rw[show d.tdiv (Int.gcd n d)=((Int.gcd n d:Int)*b).tdiv (Int.gcd n d) by rw[←hb]];exact Int.mul_tdiv_cancel_left b (by omega)
 have hb0:0<b:=by
  rcases Int.lt_or_le 0 b with h|h
  ·exact h
  ·have:=Int.mul_nonpos_of_nonneg_of_nonpos (Int.le_of_lt hg) h;omega
 have hv:qv a b=qv n d:=by
  rw[QI (by omega) (by omega)]
  generalize (Int.gcd n d:Int)=g at *
  rw[ha,hb];grind
 have adT:Int.gcd a b=1:=by
  have h3:Int.gcd (n / (Int.gcd n d)) (d / (Int.gcd n d))=1:=Int.gcd_ediv_gcd_ediv_gcd_of_ne_zero_right (by omega)
  rw[←Int.tdiv_eq_ediv_of_dvd (Int.gcd_dvd_left ..),←Int.tdiv_eq_ediv_of_dvd (Int.gcd_dvd_right ..),e1,e2] at h3
  exact h3
 unfold oJ
 rw[e1,e2]
 refine⟨fun p q hok hpq=>?_,?_,?_⟩
 ·have hq:=uj hok
  have h:=hpq.trans hv.symm
  rw[QI (by omega) (by omega)] at h
  have g1:=(kR hok).2.2.2.2
  have d1:q∣b:=by
   have:q∣p*b:=⟨a,by rw[h,Int.mul_comm]⟩
   exact EF this (by rw[Int.gcd_comm];exact g1)
  have d2:b∣q:=by
   have:b∣a*q:=⟨p,by rw[←h,Int.mul_comm]⟩
   exact EF this (by rw[Int.gcd_comm];exact adT)
  have hqd:q=b:=Int.le_antisymm (Int.le_of_dvd hb0 d1) (Int.le_of_dvd hq d2)
  subst hqd
  have:p=a:=Int.eq_of_mul_eq_mul_right (by omega) h
  subst this
  rw[if_pos hok]
 ·intro h0
  split at h0
  ·rename_i hok;rw[if_pos hok];exact⟨hok,hv⟩
  ·simp at h0
 ·intro h0
  split at h0
  ·simp at h0
  ·rename_i hok;rw[if_neg hok]
theorem Zp (n d:Int):qv (-n) (-d)=qv n d:=by
 unfold qv;rw[Rat.intCast_neg,Rat.intCast_neg];grind
theorem Po {n d:Int} (hd:d≠0):(∀p q,ok p q=true→qv p q=qv n d→red n d=(p,q,0))∧((red n d).2.2=0→ok (red n d).1 (red n d).2.1=true∧qv (red n d).1 (red n d).2.1=qv n d)∧((red n d).2.2≠0→red n d=(0,0,2)):=by
 unfold red
 split
 ·have:=JL (n:=-n) (d:=-d) (by omega)
  rw[Zp] at this;exact this
 ·exact JL (by omega)
def tC (x y:Int):Int:=if x<y then -1 else if y<x then 1 else 0
def dG (a b c d:Int):FE:=jc (ok a b&&ok c d) (eG 132 a b c d)
def bY (a b c d:Int):FE:=jc (ok a b&&ok c d) (eG 134 a b c d)
def bD (a b c d:Int):FE:=jc (ok a b&&ok c d) (eG 133 a b c d)
def dD (a b c d:Int):FE:=jc (ok a b&&ok c d) (eG 135 a b c d)
def fG (a b c d:Int):Int:=if ok a b&&ok c d then tC (a*d) (c*b) else 0
def ok2 (a b c d:Int):Bool:=ok a b&&ok c d
structure Spec (v:Rat) (x:FE):Prop where
 val:x.2.2=0→ok x.1 x.2.1=true∧qv x.1 x.2.1=v
 unq:∀p q,ok p q=true→qv p q=v→x=(p,q,0)
 bad:x.2.2≠0→x=(0,0,2)
theorem Tf {n d:Int} (hd:d≠0) {v:Rat} (hv:v=qv n d):Spec v (red n d):=by
 obtain ⟨h1,h2,h3⟩:=Po (n:=n) hd
 subst hv;exact⟨h2,h1,h3⟩
theorem qL {n d:Int} (h:ok n d=true):d≠0:=by have:=uj h;omega
theorem acp {a b c d:Int} (h1:ok a b=true) (h2:ok c d=true):Spec (qv a b+qv c d) (dG a b c d):=by
 have hb:=qL h1
 have hd:=qL h2
 have hbd:b*d≠0:=Int.mul_ne_zero hb hd
 simp only[dG,jc,h1,h2,eG,Bool.and_self,if_true,hbd,if_false]
 refine Tf hbd ?_
 have:=qx hb
 have:=qx hd
 simp only[qv,Rat.intCast_add,Rat.intCast_mul];grind
theorem acn {a b c d:Int} (h1:ok a b=true) (h2:ok c d=true):Spec (qv a b-qv c d) (bD a b c d):=by
 have hb:=qL h1
 have hd:=qL h2
 have hbd:b*d≠0:=Int.mul_ne_zero hb hd
 simp only[bD,jc,h1,h2,eG,Bool.and_self,if_true,hbd,if_false]
 refine Tf hbd ?_
 have:=qx hb
 have:=qx hd
 simp only[qv,Rat.intCast_sub,Rat.intCast_mul];grind
theorem acC {a b c d:Int} (h1:ok a b=true) (h2:ok c d=true):Spec (qv a b*qv c d) (bY a b c d):=by
 have hb:=qL h1
 have hd:=qL h2
 have hbd:b*d≠0:=Int.mul_ne_zero hb hd
 simp only[bY,jc,h1,h2,eG,Bool.and_self,if_true,hbd,if_false]
 refine Tf hbd ?_
 have:=qx hb
 have:=qx hd
 simp only[qv,Rat.intCast_mul];grind
theorem acu {a b c d:Int} (h1:ok a b=true) (h2:ok c d=true) (hc:c≠0):Spec (qv a b / qv c d) (dD a b c d):=by
 have hb:=qL h1
 have hd:=qL h2
 have hbc:b*c≠0:=Int.mul_ne_zero hb hc
 simp only[dD,jc,h1,h2,eG,Bool.and_self,if_true,hbc,if_false]
 refine Tf hbc ?_
 have:=qx hb
 have:=qx hd
 have:=qx hc
 simp only[qv,Rat.intCast_mul];grind
theorem QZ (x y:Bool):(Bool.rec false x y:Bool)=(y&&x):=by cases y<;>rfl
open Go Go.Ab
variable {G:IH}
abbrev lF (x:FE):DV:=.au [fr x.1 x.2.1,di x.2.2]
def ML:aZ
 | 170,[di _]=>some (db false)
 | 138,[di x,di y]=>some (di (tC x y))
 | 81,[fr a b,fr c d]=>some (.au [di (fG a b c d),db (ok2 a b c d)])
 | 25,[fr a b,fr c d]=>some (.au [di (fG a b c d),db (ok2 a b c d)])
 | 76,[fr a b,fr c d]=>some (fe (dG a b c d))
 | 78,[fr a b,fr c d]=>some (fe (bY a b c d))
 | 77,[fr a b,fr c d]=>some (fe (bD a b c d))
 | f,l=>ay f l
theorem Y0 (a b c d:Int):aj Tryz.prog G 76 [fr a b,fr c d] (lF (dG a b c d)):=f76 a b c d
theorem aa4 (a b c d:Int):aj Tryz.prog G 78 [fr a b,fr c d] (lF (bY a b c d)):=f78 a b c d
theorem Ws (a b c d:Int):aj Tryz.prog G 77 [fr a b,fr c d] (lF (bD a b c d)):=f77 a b c d
theorem aa2 (a b c d:Int):aj Tryz.prog G 79 [fr a b,fr c d] (lF (dD a b c d)):=f79 a b c d
theorem f170 (x:Int):aj Tryz.prog G 170 [di x] (db false):=by
 refine aj.walk (ay:=ML) (keep:=[]) follows Tryz.func170 rfl Tryz.call170 ?_
 refine aA (fun _ _ _ _=>(((db (x != x)):DV)=(db false))) (by kernel_rfl) ?_
 simp
theorem f138 (x y:Int):aj Tryz.prog G 138 [di x,di y] (di (tC x y)):=by
 refine aj.walk (ay:=ML) (keep:=[]) follows Tryz.func138 rfl Tryz.call138 ?_
 refine aA (fun _ _ _ ZK=>(ZK 170 [(di x)] (db false)∧ZK 170 [(di y)] (db false)∧((false=true)→(((false=true)→(((di 0):DV)=(di (tC x y))))∧((false=false)→(((di (-1)):DV)=(di (tC x y))))))∧((false=false)→(((false=true)→(((di 1):DV)=(di (tC x y))))∧((false=false)→((((decide (x<y))=true)→(((di (-1)):DV)=(di (tC x y))))∧(((decide (x<y))=false)→((((decide (x>y))=true)→(((di 1):DV)=(di (tC x y))))∧(((decide (x>y))=false)→(((di 0):DV)=(di (tC x y)))))))))))) (by kernel_rfl) ?_
 simp only[f170,tC]
 grind
theorem f81 (a b c d:Int):aj Tryz.prog G 81 [fr a b,fr c d] (.au [di (fG a b c d),db (ok2 a b c d)]):=by
 refine aj.walk (ay:=ML) (keep:=[]) follows Tryz.func81 rfl Tryz.call81 ?_
 refine aA (fun _ _ _ ZK=>((ZK 137 [(.agg [(di a),(di b)])] (db (ok a b))∧(((!!ok a b)=true)→ZK 137 [(.agg [(di c),(di d)])] (db (ok c d))))∧(((!ok a b||!ok c d)=true)→(((.au [(di 0),(db false)]):DV)=(.au [(di (fG a b c d)),(db (ok2 a b c d))])))∧(((!ok a b||!ok c d)=false)→(((I64 (a*d))∧(I64 (c*b))∧ZK 138 [(di (a*d)),(di (c*b))] (di (tC (a*d) (c*b))))∧((.au [(di (tC (a*d) (c*b))),(db true)]):DV)=(.au [(di (fG a b c d)),(db (ok2 a b c d))]))))) (by kernel_rfl) ?_
 simp only[f137,f138,fG,ok2]
 cases h1:ok a b with
 | false=>simp
 | true=>cases h2:ok c d with
  | false=>simp
  | true=>
   have m0:=mb _ _ (okb h1).1 (okb h2).2
   have m1:=mb _ _ (okb h2).1 (okb h1).2
   simp[I64];omega
theorem f25 (a b c d:Int):aj Tryz.prog G 25 [fr a b,fr c d] (.au [di (fG a b c d),db (ok2 a b c d)]):=by
 refine aj.walk (ay:=ML) (keep:=[]) follows Tryz.func25 rfl Tryz.call25 ?_
 refine aA (fun _ _ _ ZK=>(fun Za=>((ZK 65 [(.agg [(di a),(di b)])] (db (ok a b))∧(((!!ok a b)=true)→ZK 65 [(.agg [(di c),(di d)])] (db (ok c d))))∧(((!ok a b||!ok c d)=true)→(((.au [(di 0),(db false)]):DV)=Za))∧(((!ok a b||!ok c d)=false)→(((I64 (a*d))∧(I64 (c*b)))∧(((decide (a*d<c*b))=true)→(((.au [(di (-1)),(db true)]):DV)=Za))∧(((decide (a*d<c*b))=false)→((((decide (a*d>c*b))=true)→(((.au [(di 1),(db true)]):DV)=Za))∧(((decide (a*d>c*b))=false)→(((.au [(di 0),(db true)]):DV)=Za)))))))) ((.au [(di (fG a b c d)),(db (ok2 a b c d))]):DV)) (by kernel_rfl) ?_
 simp only[f65,fG,ok2]
 cases h1:ok a b with
 | false=>simp
 | true=>cases h2:ok c d with
  | false=>simp
  | true=>
   have m0:=mb _ _ (okb h1).1 (okb h2).2
   have m1:=mb _ _ (okb h2).1 (okb h1).2
   simp[I64,tC];grind
set_option maxHeartbeats 4000000
structure sS (x:Fc):Prop where
 nm:x.name.size≤1000
 ln:x.words.length≤1000
 wd:∀i,i<x.words.length→(x.words.getD i .empty).size≤1000
def rE (x:Fc):Bool:=(x.ln==0&&x.ld==0)&&(x.hn==0&&x.hd==0)
def qF (x:Fc):Bool:=nameB x.name&&(if x.kind=0 then ok2 x.ln x.ld x.hn x.hd&&decide (fG x.ln x.ld x.hn x.hd≤0)&&decide (x.words.length=0)
 else if x.kind=1 then rE x&&decide (x.words.length=0)
 else if x.kind=2 then rE x&&decide (1≤x.words.length)&&decide (x.words.length≤16)&&decide x.words.Nodup&&!x.words.any (fun s=>!nameB s)
 else false)
def iF (a b c d:Int):Bool:=ok2 a b c d
def dM (a b c d:Int):Int:=fG a b c d
def vC (l:List ByteArray):Bool:=decide l.Nodup
noncomputable def Xi:aZ:=fun f a=>match f,a with
 | 147,[.con (.string s)]=>some (db (nameB s))
 | 81,[fr a b,fr c d]=>some (.au [di (dM a b c d),db (iF a b c d)])
 | 93,[w]=>some (db (vC (jP w)))
 | 97,[w,.con (.func (.func 148) #[] #[])]=>some (db ((jP w).any fun s=>!nameB s))
 | _,_=>none
theorem f148 (hT:Tab G) (s:ByteArray) (hs:s.size≤1000):aj Tryz.prog G 148 [ds s] (db (!nameB s)):=by
 refine aj.walk (ay:=Xi) (keep:=[]) follows Tryz.func148 rfl Tryz.call148 ?_
 refine aA (fun _ _ _ ZK=>(ZK 147 [(ds s)] (db (nameB s))∧(ZS ((db !nameB s):DV)))) (by kernel_rfl) ?_
 exact⟨f147 hT s hs,rfl⟩
theorem f96 (hT:Tab G) (x:Fc) (h:sS x):aj Tryz.prog G 96 [qU x] (db (qF x)):=by
 refine aj.walk (ay:=Xi) (keep:=[]) follows Tryz.func96 rfl Tryz.call96 ?_
 refine aA (fun _ _ _ ZK=>(fun Za=>(ZK 147 [(ds x.name)] (db (nameB x.name))∧(((!nameB x.name)=true)→(((db false):DV)=(db (qF x))))∧(((!nameB x.name)=false)→((((x.kind==0)=true)→(ZK 81 [(.agg [(di x.ln),(di x.ld)]),(.agg [(di x.hn),(di x.hd)])] (.au [(di (dM x.ln x.ld x.hn x.hd)),(db (iF x.ln x.ld x.hn x.hd))])∧((db (iF x.ln x.ld x.hn x.hd&&decide (dM x.ln x.ld x.hn x.hd≤0)&&(↑x.words.length:Int)==0)):DV)=(db (qF x))))∧(((x.kind==0)=false)→((((x.kind==1)=true)→(((db (Bool.rec false (x.ld==0) (x.ln==0)&&Bool.rec false (x.hd==0) (x.hn==0)&&(↑x.words.length:Int)==0)):DV)=(db (qF x))))∧(((x.kind==1)=false)→((((x.kind==2)=true)→(((((Bool.rec false (x.ld==0) (x.ln==0)&&Bool.rec false (x.hd==0) (x.hn==0)&&decide ((↑x.words.length:Int)≥1)&&decide ((↑x.words.length:Int)≤16))=true)→ZK 93 [(.slc 1 x.words.length (dX x.words))] (db (vC Za)))∧(((Bool.rec false (x.ld==0) (x.ln==0)&&Bool.rec false (x.hd==0) (x.hn==0)&&decide ((↑x.words.length:Int)≥1)&&decide ((↑x.words.length:Int)≤16)&&vC Za)=true)→ZK 97 [(.slc 1 x.words.length (dX x.words)),(.con (.func (.func 148) ⟨[]⟩ ⟨[]⟩))] (db (Za.any fun s=>!nameB s))))∧((db (Bool.rec false (x.ld==0) (x.ln==0)&&Bool.rec false (x.hd==0) (x.hn==0)&&decide ((↑x.words.length:Int)≥1)&&decide ((↑x.words.length:Int)≤16)&&vC Za&&!Za.any fun s=>!nameB s)):DV)=(db (qF x))))∧(((x.kind==2)=false)→(((db false):DV)=(db (qF x)))))))))))) (jP (DV.slc 1 x.words.length (dX x.words)))) (by kernel_rfl) ?_
 simp only[oO]
 have z1:(Bool.rec false (x.ld==0) (x.ln==0):Bool)=(x.ln==0&&x.ld==0):=by cases (x.ln==0)<;>rfl
 have z2:(Bool.rec false (x.hd==0) (x.hn==0):Bool)=(x.hn==0&&x.hd==0):=by cases (x.hn==0)<;>rfl
 have w0:((x.words.length:Int)==0)=decide (x.words.length=0):=by rw[Bool.eq_iff_iff,beq_iff_eq,decide_eq_true_eq];omega
 have w1:decide ((x.words.length:Int)≥1)=decide (1≤x.words.length):=by rw[decide_eq_decide];omega
 have w2:decide ((x.words.length:Int)≤16)=decide (x.words.length≤16):=by rw[decide_eq_decide];omega
 rw[z1,z2,w0,w1,w2]
 simp only[beq_iff_eq,beq_eq_false_iff_ne,ne_eq]
 have hl:=h.ln
 unfold qF rE
 refine⟨f147 hT _ h.nm,fun hn=>?_,fun hn=>⟨fun k0=>⟨f81 _ _ _ _,?_⟩,fun k0=>⟨fun k1=>?_,fun k1=>⟨fun k2=>⟨⟨fun _=>f93 _ (by omega),fun _=>ad6 (fun s=>!nameB s) x.words (by omega) fun i hi=>f148 hT _ (h.wd i hi)⟩,?_⟩,fun k2=>?_⟩⟩⟩⟩
 ·rw[Bool.not_eq_true'] at hn
  rw[hn];rfl
 ·rw[Bool.not_eq_false'] at hn
  rw[hn,if_pos k0];rfl
 ·rw[Bool.not_eq_false'] at hn
  rw[hn,if_neg k0,if_pos k1];rfl
 ·rw[Bool.not_eq_false'] at hn
  rw[hn,if_neg k0,if_neg k1,if_pos k2];rfl
 ·rw[Bool.not_eq_false'] at hn
  rw[hn,if_neg k0,if_neg k1,if_neg k2];rfl
noncomputable def XB:aZ:=fun f a=>match f,a with
 | 99,[w,.con (.string s)]=>some (db (cu (jP w) s))
 | 96,[.agg [.con (.string a),.con (.int .i64 b),.con (.int .i64 c),.con (.int .i64 d),.con (.int .i64 e),.con (.int .i64 f),w]]=>some (db (qF ⟨a,b,c,d,e,f,jP w⟩))
 | 97,[w,.clo (.func 98) [] [.ptr [l]]]=>some (db ((jP w).any fun s=>cu (jP l) s))
 | 93,[w]=>some (db (vC (jP w)))
 | _,_=>none
theorem f98 (l:List ByteArray) (s:ByteArray) (hl:l.length≤100000):aj Tryz.prog G 98 [ds s,.ptr [lC l]] (db (cu l s)):=by
 refine aj.walk (ay:=XB) (keep:=[]) follows Tryz.func98 rfl Tryz.call98 ?_
 refine aA (fun _ _ _ ZK=>(ZK 99 [(.slc 1 l.length (dX l)),(ds s)] (db (cu (jP (DV.slc 1 l.length (dX l))) s))∧((db (cu (jP (DV.slc 1 l.length (dX l))) s)):DV)=(db (cu l s)))) (by kernel_rfl) ?_
 simp only[oO]
 exact⟨f99 l s (by omega),trivial⟩
def uP (names:List ByteArray) (x:Fc):Bool:=!qF x||x.words.any fun s=>cu names s
theorem f95 (hT:Tab G) (l:List ByteArray) (x:Fc) (h:sS x) (hl:l.length≤100000):aj Tryz.prog G 95 [qU x,.ptr [lC l]] (db (uP l x)):=by
 refine aj.walk (ay:=XB) (keep:=[]) follows Tryz.func95 rfl Tryz.call95 ?_
 refine aA (fun _ _ _ ZK=>(fun Za=>((ZK 96 [(qU x)] (db (qF (Fc.mk x.name x.kind x.ln x.ld x.hn x.hd Za)))∧(((!!qF (Fc.mk x.name x.kind x.ln x.ld x.hn x.hd Za))=true)→ZK 97 [(.slc 1 x.words.length (dX x.words)),(.clo (.func 98) [] [(.ptr [(.slc 1 l.length (dX l))])])] (db (Za.any fun s=>cu (jP (DV.slc 1 l.length (dX l))) s))))∧((db (!qF (Fc.mk x.name x.kind x.ln x.ld x.hn x.hd Za)||Za.any fun s=>cu (jP (DV.slc 1 l.length (dX l))) s)):DV)=(db (uP l x)))) (jP (DV.slc 1 x.words.length (dX x.words)))) (by kernel_rfl) ?_
 simp only[oO]
 have:=h.ln
 exact⟨⟨f96 hT x h,fun _=>adV (fun s=>cu l s) x.words (.ptr [lC l]) (by omega) fun i hi=>f98 l _ hl⟩,rfl⟩
def dF (L:List Fc):List ByteArray:=L.map (·.name)
def sG (L:List Fc):Nat→Nat→DV:=um (fun _=>DV.con undef) false 1 fun j=>[ds (L.getD j aG).name]
theorem UE {L:List Fc} {k i:Nat} (h:i<k) (hk:k≤L.length):sG L k (0+i)=dX (dF L) i:=by
 rw[Nat.zero_add]
 unfold sG dX dF
 rw[nD h,List.getD,List.getD,List.getElem?_map,bQ (by omega)]
 rfl
theorem Ag (L:List Fc):(dF L).length=L.length:=by unfold dF;rw[List.length_map]
def RP (a b:Bool):aZ:=fun f x=>match f,x with
 | 93,[_]=>some (db a)
 | 94,[_,_]=>some (db b)
 | _,_=>none
noncomputable def S21 (L:List Fc) (k:Nat):AS:=⟨regs Tryz.f51.ntmps [(0,.d (fC L)),(3,.box 3 0),(6,.d (fC L)),(7,vi L.length),(8,vi k)],[(3,[.vec 900 1 0 k]),(900,[.arr Kt 1 (sG L k)])]⟩
def jk (L:List Fc):Bool:=decide (L.length≤32)&&vC (dF L)&&!L.any (uP (dF L))
theorem f51 (hT:Tab G) (L:List Fc) (h:∀i,i<L.length→sS (L.getD i aG)) (hl:L.length≤1000):aj Tryz.prog G 51 [fC L] (db (jk L)):=by
 refine aj.walk (ay:=RP (vC (dF L)) (L.any (uP (dF L)))) (keep:=[]) follows Tryz.func51 rfl Tryz.call51 ?_
 refine aA (fun ZT ZW ZQ _=>ZW [cd Tryz.f51 [1,1,0,1,0],(.blk 0),cd Tryz.f51 [1,1,1]] (aI ZT []) ZQ) (by kernel_rfl) ?_
 refine aC.pre (.GI _ 3 0 900 1 Kt (sG L 0) (by kernel_rfl) (by kernel_rfl)) ?_
 refine aC.loop (c:=dR (aQ Tryz.f51) [1,1,0,1,0,0]) (by kernel_rfl) (S21 L) (fun k=>k≤L.length) (fun k=>L.length-k) 0 ?_ (Nat.zero_le _) ?_
 ·exact AS.dB (by kernel_rfl)
 ·intro k hk
  refine walk (ay:=RP (vC (dF L)) (L.any (uP (dF L)))) (keep:=[]) (cuts:=[]) (n:=1000) follows ?_
  refine bW (fun ZT ZW ZQ _ ZA _=>((((decide ((↑k:Int)<↑L.length))=true)→(((0≤(↑k:Int))∧((↑k:Int)<↑L.length))∧((((k+1)*16≤1099511627776)∧(k+1≤1099511627776))∧(∀(i:Nat),i<1→jW false 1 (aN false 1 [DV.con (Value.string (L.getD (↑k:Int).toNat aG).name)] i)=true))∧(I64 (↑k+1))∧(ZA (aI ZT [0]))))∧(((decide ((↑k:Int)<↑L.length))=false)→ZW [cd Tryz.f51 [1,1,1]] (aI ZT [1]) ZQ))) (by kernel_rfl) ?_
  simp only[Int.toNat_natCast]
  refine⟨fun h1=>?_,fun h1=>?_⟩
  ·have hk2:k<L.length:=by have:=of_decide_eq_true h1;omega
   refine⟨⟨by omega,by omega⟩,⟨⟨by omega,by omega⟩,fun i hi=>(by obtain rfl:i=0:=(by omega);rfl)⟩,⟨by omega,by omega⟩,Again.Iq [(16,900)] rfl (k+1) ?_ hk2 (by omega)⟩
   refine AS.leZ [] [1] (b:=((T0∧T0∧T0∧T0∧T0∧True)∧T0∧((some [(.arr ⟨false,9,false,none⟩ 1 (fun i=>bif i.blt k then sG L k i else aN false 1 [DV.con (Value.string (L.getD (↑k:Int).toNat aG).name)] (i-k)))]):(Option (List AV)))=(some [(.arr ⟨false,9,false,none⟩ 1 (sG L (k+1)))])∧True)) (by kernel_rfl) (by kernel_rfl) ?_
   exact⟨⟨rfl,rfl,rfl,rfl,rfl,trivial⟩,rfl,rfl,trivial⟩
  ·simp only[decide_eq_false_iff_not] at h1
   obtain rfl:k=L.length:=by omega
   have hdat:∀k v,DV.rel k (.slc 1 L.length fun i=>sG L L.length (0+i)) v→DV.rel k (lC (dF L)) v:=fun k v hv=>by
    unfold lC
    rw[Ag]
    exact DV.dJ (fun i hi=>UE hi (Nat.le_refl _)) hv
   refine aC.freeze (agg:=Kt) (sz:=1) (f:=sG L L.length) 900 (by kernel_rfl) ?_
   refine aC.qZ (dl:=[.slc 1 L.length fun i=>sG L L.length (0+i)]) 3 (by kernel_rfl) rfl ?_
   refine walk (ay:=RP (vC (dF L)) (L.any (uP (dF L)))) (keep:=[]) (cuts:=[]) (n:=1000) follows ?_
   refine aA (fun _ _ _ ZK=>((((!decide ((↑L.length:Int)>32))=true)→ZK 93 [(.slc 1 L.length (fun i=>sG L L.length (0+i)))] (db (vC (dF L))))∧(((decide ((↑L.length:Int)>32)||!vC (dF L))=true)→(((db false):DV)=(db (jk L))))∧(((decide ((↑L.length:Int)>32)||!vC (dF L))=false)→(ZK 94 [(.slc 7 L.length (gV L)),(.clo (.func 95) [] [(.ptr [(.slc 1 L.length (fun i=>sG L L.length (0+i)))])])] (db (L.any (uP (dF L))))∧((db (!L.any (uP (dF L)))):DV)=(db (jk L)))))) (by kernel_rfl) ?_
   have hn:(dF L).length=L.length:=Ag L
   have h48:aj Tryz.prog G 93 [lC (dF L)] (db (vC (dF L))):=f93 _ (by omega)
   have h49:=aeb (G:=G) (uP (dF L)) L (.ptr [lC (dF L)]) (by omega) fun i hi=>f95 hT (dF L) _ (h i hi) (by omega)
   have e32:decide ((L.length:Int)>32) = !decide (L.length≤32):=by rw[←decide_not,decide_eq_decide];omega
   rw[e32]
   unfold jk
   refine⟨fun _=>h48.args fun k us=>DV.fK (hdat k) (fun _ h=>h) us,fun hh=>?_,fun hh=>⟨h49.args fun k us=>DV.fK (fun _ h=>h) (DV.fK (fun v hv=>?_) fun _ h=>h) us,?_⟩⟩
   ·refine congrArg db ?_
    revert hh
    cases decide (L.length≤32)<;>cases vC (dF L)<;>simp
   ·obtain ⟨va,vc,e,ra,rc⟩:=hv
    refine⟨va,vc,e,ra,DV.fK (fun v hv=>?_) (fun _ h=>h) vc rc⟩
    obtain ⟨b,off,e,vs,r,c⟩:=hv
    exact⟨b,off,e,vs,DV.fK (hdat k) (fun _ h=>h) vs r,c⟩
   ·refine congrArg db ?_
    revert hh
    cases decide (L.length≤32)<;>cases vC (dF L)<;>simp
def jo:aZ:=fun _ _=>none
def vI (s:ByteArray) (x:Fc):Bool:=decide (x.name=s)
def eP (L:List Fc) (s:ByteArray):Int:=lZ (vI s) L
noncomputable def S55 (L:List Fc) (s:ByteArray) (k:Nat):AS:=⟨regs Tryz.f101.ntmps [(0,.d (fC L)),(1,.d (ds s)),(5,vi k)],[]⟩
theorem f101 (L:List Fc) (s:ByteArray) (hl:L.length≤100000):aj Tryz.prog G 101 [fC L,ds s] (di (eP L s)):=by
 refine aj.walk (ay:=jo) (keep:=[]) follows Tryz.func101 rfl Tryz.call101 ?_
 refine aA (fun ZT ZW ZQ _=>ZW [cd Tryz.f101 [1,0,1,0],(.blk 0),cd Tryz.f101 [1,1]] (aI ZT []) ZQ) (by kernel_rfl) ?_
 refine aC.loop (c:=dR (aQ Tryz.f101) [1,0,1,0,0]) (by kernel_rfl) (S55 L s) (fun k=>k≤L.length∧∀i,i<k→vI s (L.getD i aG)=false) (fun k=>L.length-k) 0 ?_ ⟨Nat.zero_le _,fun i hi=>absurd hi (Nat.not_lt_zero _)⟩ ?_
 ·exact AS.dB (by kernel_rfl)
 ·rintro k ⟨hk,hkd⟩
  refine walk (ay:=jo) (keep:=[]) (cuts:=[]) (n:=1000) follows ?_
  refine bW (fun ZT ZW ZQ _ ZA _=>((((decide ((↑k:Int)<↑L.length))=true)→(((0≤(↑k:Int))∧((↑k:Int)<↑L.length))∧((((L.getD (↑k:Int).toNat aG).name.toList==s.toList)=true)→(((di (↑k)):DV)=(di (eP L s))))∧((((L.getD (↑k:Int).toNat aG).name.toList==s.toList)=false)→((I64 (↑k+1))∧(ZA (aI ZT [0,1]))))))∧(((decide ((↑k:Int)<↑L.length))=false)→ZW [cd Tryz.f101 [1,1]] (aI ZT [1]) ZQ))) (by kernel_rfl) ?_
  simp only[Int.toNat_natCast,iT]
  refine⟨fun h=>?_,fun h=>?_⟩
  ·have hk2:k<L.length:=by have:=of_decide_eq_true h;omega
   refine⟨⟨by omega,by omega⟩,fun h2=>?_,fun h2=>⟨⟨by omega,by omega⟩,Again.mk (k+1) ?_ ⟨hk2,fun i hi=>?_⟩ (by omega)⟩⟩
   ·unfold eP
    rw[(rY hk2 hkd h2).2]
   ·exact AS.dB (by kernel_rfl)
   ·rcases Nat.lt_or_ge i k with h4|h4
    ·exact hkd i h4
    ·obtain rfl:i=k:=by omega
     exact h2
  ·simp only[decide_eq_false_iff_not] at h
   have hst:=wR (p:=vI s) (L:=L) (x0:=aG) fun i hi=>hkd i (by omega)
   refine walk (ay:=jo) (keep:=[]) (cuts:=[]) (n:=1000) follows ?_
   refine aA (fun _ _ _ _=>(((di (-1)):DV)=(di (eP L s)))) (by kernel_rfl) ?_
   unfold eP
   rw[hst.2]
/-! Equal slices of strings. -/
theorem OE {α:Type} {x0:α} {a b:List α} (hl:a.length=b.length) (h:∀i,i<a.length→a.getD i x0=b.getD i x0):a=b:=by
 refine List.ext_getElem hl fun i h1 h2=>?_
 have:=h i h1
 rw[List.getD,List.getD,bQ h1,bQ h2] at this
 exact this
def Qc (x:Fc):Bool:=decide (x.name.size≤40)&&decide (x.words.length≤20)&&x.words.all fun s=>decide (s.size≤40)
def sH (L:List Fc):Bool:=L.all Qc&&decide (L.length≤16)
structure PX (x:Fc):Prop where
 nm:x.name.size≤9223372036854775807
 ln:x.words.length≤9223372036854775807
 wd:∀i,i<x.words.length→(x.words.getD i .empty).size≤9223372036854775807
theorem MQ {α:Type} {x0:α} {p:α→Bool} {L:List α} (h:∀i,i<L.length→p (L.getD i x0)=true):L.all p=true:=by
 rw[List.all_eq_true]
 intro x hx
 obtain ⟨i,hi,rfl⟩:=List.getElem_of_mem hx
 have:=h i hi
 rw[List.getD,bQ hi] at this
 exact this
theorem FP {α:Type} {x0:α} {p:α→Bool} {L:List α} {i:Nat} (hi:i<L.length) (h:p (L.getD i x0)=false):L.all p=false:=by
 rw[Bool.eq_false_iff]
 intro hh
 have:=List.all_eq_true.1 hh (L.getD i x0) (by rw[List.getD,bQ hi];exact List.getElem_mem hi)
 rw[h] at this;cases this
noncomputable def S20 (L:List Fc) (k:Nat):AS:=⟨regs Tryz.f27.ntmps [(0,.d (fC L)),(3,vi k)],[]⟩
noncomputable def adx (L:List Fc) (k j:Nat):AS:=⟨regs Tryz.f27.ntmps [(0,.d (fC L)),(3,vi k),(4,vi j)],[]⟩
theorem f27 (L:List Fc) (hl:L.length≤9223372036854775807) (hw:∀i,i<L.length→PX (L.getD i aG)):aj Tryz.prog G 27 [fC L] (db (sH L)):=by
 refine aj.walk (ay:=jo) (keep:=[]) follows Tryz.func27 rfl Tryz.call27 ?_
 refine aA (fun ZT ZW ZQ _=>ZW [cd Tryz.f27 [1,0,1,0],(.blk 0),cd Tryz.f27 [1,1]] (aI ZT []) ZQ) (by kernel_rfl) ?_
 refine aC.loop (c:=dR (aQ Tryz.f27) [1,0,1,0,0]) (by kernel_rfl) (S20 L) (fun k=>k≤L.length∧∀i,i<k→Qc (L.getD i aG)=true) (fun k=>L.length-k) 0 ?_ ⟨Nat.zero_le _,fun i hi=>absurd hi (Nat.not_lt_zero _)⟩ ?_
 ·exact AS.dB (by kernel_rfl)
 ·rintro k ⟨hk,hkd⟩
  refine walk (ay:=jo) (keep:=[]) (cuts:=[]) (n:=1000) follows ?_
  refine bW (fun ZT ZW ZQ _ _ ZR=>(fun Za=>((((decide ((↑k:Int)<↑L.length))=true)→((((0≤(↑k:Int))∧((↑k:Int)<↑L.length))∧(((!decide ((↑(L.getD (↑k:Int).toNat aG).name.size:Int)>40))=true)→((0≤(↑k:Int))∧((↑k:Int)<↑L.length))))∧((Za=true)→(((db false):DV)=(db (sH L))))∧((Za=false)→ZW [cd Tryz.f27 [1,0,1,0,0,1,0,0,1,1,0],(.blk 2),(.blk 1),cd Tryz.f27 [1,0,1,0,0,1,1]] (aI ZT [0,1]) ZR)))∧(((decide ((↑k:Int)<↑L.length))=false)→ZW [cd Tryz.f27 [1,1]] (aI ZT [1]) ZQ))) (decide ((↑(L.getD (↑k:Int).toNat aG).name.size:Int)>40)||decide ((↑(L.getD (↑k:Int).toNat aG).words.length:Int)>20))) (by kernel_rfl) ?_
  simp only[Int.toNat_natCast]
  refine⟨fun h=>?_,fun h=>?_⟩
  ·have hk2:k<L.length:=by have:=of_decide_eq_true h;omega
   have hwk:=hw k hk2
   have hw1:=hwk.nm
   have hw2:=hwk.ln
   refine⟨⟨⟨by omega,by omega⟩,fun _=>⟨by omega,by omega⟩⟩,fun h2=>?_,fun h2=>?_⟩
   ·unfold sH
    rw[FP (x0:=aG) hk2]
    ·rfl
    ·unfold Qc
     simp only[Bool.or_eq_true,decide_eq_true_eq] at h2
     rcases h2 with h2|h2
     ·rw[decide_eq_false (by omega)];rfl
     ·rw[decide_eq_false (by omega:¬_≤20),Bool.and_false];rfl
   ·simp only[Bool.or_eq_false_iff,decide_eq_false_iff_not] at h2
    refine aC.loop (c:=dR (aQ Tryz.f27) [1,0,1,0,0,1,0,0,1,1,0,0]) (by kernel_rfl) (adx L k) (fun j=>j≤(L.getD k aG).words.length∧∀i,i<j→((L.getD k aG).words.getD i .empty).size≤40) (fun j=>(L.getD k aG).words.length-j) 0 ?_ ⟨Nat.zero_le _,fun i hi=>absurd hi (Nat.not_lt_zero _)⟩ ?_
    ·exact AS.dB (by kernel_rfl)
    ·rintro j ⟨hj,hjd⟩
     refine walk (ay:=jo) (keep:=[]) (cuts:=[]) (n:=1000) follows ?_
     refine bW (fun ZT ZW ZQ _ ZA _=>(fun Za=>(((0≤(↑k:Int))∧((↑k:Int)<↑L.length))∧(((decide ((↑j:Int)<↑(L.getD (↑k:Int).toNat aG).words.length))=true)→((((0≤(↑k:Int))∧((↑k:Int)<↑L.length))∧(0≤(↑j:Int))∧((↑j:Int)<↑(L.getD (↑k:Int).toNat aG).words.length))∧((Za=true)→(((db false):DV)=(db (sH L))))∧((Za=false)→((I64 (↑j+1))∧(ZA (aI ZT [0,1]))))))∧(((decide ((↑j:Int)<↑(L.getD (↑k:Int).toNat aG).words.length))=false)→ZW [(.blk 1),cd Tryz.f27 [1,0,1,0,0,1,1]] (aI ZT [1]) ZQ))) (decide ((↑((L.getD (↑k:Int).toNat aG).words.getD (↑j:Int).toNat ByteArray.empty).size:Int)>40))) (by kernel_rfl) ?_
     simp only[Int.toNat_natCast]
     refine⟨⟨by omega,by omega⟩,fun h3=>?_,fun h3=>?_⟩
     ·have hj2:j<(L.getD k aG).words.length:=by have:=of_decide_eq_true h3;omega
      have hw3:=hwk.wd j hj2
      refine⟨⟨⟨by omega,by omega⟩,⟨by omega,by omega⟩⟩,fun h4=>?_,fun h4=>⟨⟨by omega,by omega⟩,Again.mk (j+1) ?_ ⟨hj2,fun i hi=>?_⟩ (by omega)⟩⟩
      ·have h4:=of_decide_eq_true h4
       unfold sH
       rw[FP (x0:=aG) hk2]
       ·rfl
       ·unfold Qc
        rw[FP (x0:=ByteArray.empty) hj2 (decide_eq_false (by omega)),Bool.and_false]
      ·exact AS.dB (by kernel_rfl)
      ·rcases Nat.lt_or_ge i j with h5|h5
       ·exact hjd i h5
       ·obtain rfl:i=j:=by omega
        have h4:=of_decide_eq_false h4
        omega
     ·have h3:=of_decide_eq_false h3
      refine walk (ay:=jo) (keep:=[]) (cuts:=[]) (n:=1000) follows ?_
      refine bW (fun ZT _ _ _ ZA _=>((I64 (↑k+1))∧(ZA (aI ZT [])))) (by kernel_rfl) ?_
      refine⟨⟨by omega,by omega⟩,Again.mk (k+1) ?_ ⟨hk2,fun i hi=>?_⟩ (by omega)⟩
      ·exact AS.dB (by kernel_rfl)
      ·rcases Nat.lt_or_ge i k with h5|h5
       ·exact hkd i h5
       ·obtain rfl:i=k:=by omega
        unfold Qc
        rw[decide_eq_true (by omega),decide_eq_true (by omega:_≤20),MQ (x0:=ByteArray.empty) fun i hi=>decide_eq_true (hjd i (by omega))];rfl
  ·simp only[decide_eq_false_iff_not] at h
   refine walk (ay:=jo) (keep:=[]) (cuts:=[]) (n:=1000) follows ?_
   refine aA (fun _ _ _ _=>(((db (decide ((↑L.length:Int)≤16))):DV)=(db (sH L)))) (by kernel_rfl) ?_
   unfold sH
   rw[MQ (x0:=aG) fun i hi=>hkd i (by omega),Bool.true_and]
   refine congrArg db ?_
   rw[decide_eq_decide];omega
def LZ (a b:List ByteArray):Bool:=decide (a=b)
theorem XQ (x y:Bool):(Bool.rec false y x:Bool)=(x&&y):=by cases x<;>rfl
theorem UN {k:IH} {a:ByteArray} {b c d e f:Int} {l:List ByteArray} {w:DV} (hw:∀v,DV.rel k w v→DV.rel k (lC l) v) {v:Value} (h:DV.rel k (.agg [ds a,di b,di c,di d,di e,di f,w]) v):DV.rel k (qU ⟨a,b,c,d,e,f,l⟩) v:=by
 obtain ⟨vs,e,r⟩:=h
 refine⟨vs,e,?_⟩
 obtain ⟨v1,u1,e1,r1,v2,u2,e2,r2,v3,u3,e3,r3,v4,u4,e4,r4,v5,u5,e5,r5,v6,u6,e6,r6,v7,u7,e7,r7,h0⟩:=r
 exact⟨v1,u1,e1,r1,v2,u2,e2,r2,v3,u3,e3,r3,v4,u4,e4,r4,v5,u5,e5,r5,v6,u6,e6,r6,v7,u7,e7,hw _ r7,h0⟩
theorem pU {k:IH} {a:ByteArray} {b c d e f:Int} {v:Value} (h:DV.rel k (.agg [ds a,di b,di c,di d,di e,di f,.con (.slice none 0 0)]) v):DV.rel k (qU ⟨a,b,c,d,e,f,[]⟩) v:=
 UN (fun _ h=>su h) h
end Go.Proofs
