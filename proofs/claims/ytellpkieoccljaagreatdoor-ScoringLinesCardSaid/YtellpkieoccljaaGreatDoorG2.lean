import Derived.Test.YtellpkieoccljaaGreatDoorAcD
import Derived.Test.YtellpkieoccljaaGreatDoorG1
import Derived.Test.YtellpkieoccljaaGreatDoorG0
set_option autoImplicit false
namespace Go.Proofs
open Go Go.Ab Go.RowKit
set_option maxHeartbeats 4000000
set_option maxRecDepth 100000
variable {G:IH}
/-! The reference's text of an expression. -/
theorem join_snoc (sep:List UInt8):∀(l:List (List UInt8)) (s:List UInt8),l≠[]→Lib.join (l++[s]) sep=Lib.join l sep++(sep++s)
 | [],_,h=>absurd rfl h
 | [t],s,_=>by simp[Lib.join,List.intercalate,List.intersperse]
 | t :: u :: l,s,_=>by
  have ih:=join_snoc sep (u :: l) s (by simp)
  have e:∀(a b:List UInt8) (m:List (List UInt8)),Lib.join (a :: b :: m) sep=a++(sep++Lib.join (b :: m) sep):=fun a b m=>by
   simp[Lib.join,List.intercalate,List.intersperse]
  rw[List.cons_append,List.cons_append,e,←List.cons_append,ih,e]
  simp only[List.append_assoc]
theorem joinS_snoc {l:List ByteArray} (s sep:ByteArray) (h:l≠[]):joinS (l++[s]) sep=joinS l sep++sep++s:=by
 unfold joinS
 rw[List.map_append]
 show (ByteArray.mk (Lib.join (_++[s.data.toList]) _).toArray)=_
 rw[join_snoc _ _ _ (by simpa using h)]
 apply ByteArray.ext
 simp
theorem joinS_one (s sep:ByteArray):joinS [s] sep=s:=by
 unfold joinS
 apply ByteArray.ext
 simp[Lib.join_one]
theorem joinS_nil (sep:ByteArray):joinS [] sep=.empty:=by
 unfold joinS
 apply ByteArray.ext
 simp[Lib.join_nil]
def jT (x:Ex) (k:Nat):ByteArray:=joinS ((x.kids.map fmtE).take k) comS
theorem jT_zero (x:Ex):jT x 0=.empty:=joinS_nil _
theorem jT_succ {x:Ex} {k:Nat} (h:k<x.kids.length):jT x (k+1)=if (k:Int)>0 then jT x k++comS++fmtE (x.kids.getD k ex0) else jT x k++fmtE (x.kids.getD k ex0):=by
 unfold jT
 have hk:k<(x.kids.map fmtE).length:=by simpa using h
 have e:(x.kids.map fmtE)[k]=fmtE (x.kids.getD k ex0):=by
  rw[List.getElem_map,List.getD,gEe h];rfl
 rw[List.take_succ_eq_append_getElem hk,e]
 split
 ·rename_i h0
  rw[joinS_snoc]
  intro hh
  have:=congrArg List.length hh
  rw[List.length_take] at this
  simp at this
  rcases this with h1|h1
  ·omega
  ·rw[h1] at h;simp at h
 ·obtain rfl:k=0:=by omega
  rw[List.take_zero,List.nil_append,joinS_one,joinS_nil]
  apply ByteArray.ext
  simp
theorem totL_take:∀(l:List (Int×ByteArray)) (k:Nat),totL (l.take k)≤totL l
 | [],k=>by simp[totL]
 | p :: l,0=>by simp[totL]
 | p :: l,k+1=>by
  have:=totL_take l k
  simp only[List.take_succ_cons,totL];omega
theorem jT_size {x:Ex} (h:Sm x) (k:Nat):(jT x k).size≤1100000:=by
 unfold jT
 rw[←fmtL_snd,←List.map_take]
 have h1:=joinS_size ((fmtL x.kids).take k)
 have h2:=totL_take (fmtL x.kids) k
 have h3:=h.tot
 omega
theorem jT_all (x:Ex):jT x x.kids.length=joinS ((fmtL x.kids).map (·.2)) comS:=by
 unfold jT
 rw[fmtL_snd,List.take_of_length_le (by simp)]
theorem lv_rk {k:Int} (h:rkI k≠0):lvI k=rkI k-1:=by
 have hc:k=1∨k=2∨k=3∨k=4∨k=5∨k=6∨k=7∨k=8∨k=9∨k=10∨k=11∨k=12∨k=13∨k=14∨k=15∨k=16∨k=17∨k=18∨k=19∨k=20:=by
  refine Classical.byContradiction fun hn=>h ?_
  unfold rkI
  repeat' split
  all_goals omega
 rcases hc with rfl|rfl|rfl|rfl|rfl|rfl|rfl|rfl|rfl|rfl|rfl|rfl|rfl|rfl|rfl|rfl|rfl|rfl|rfl|rfl<;>decide
theorem snd_rk {x:Ex} (h:sndE x=true):rkI x.k≠0:=by
 intro h0
 rw[sound_hd] at h
 unfold hdB at h
 rw[if_pos (by rw[h0];rfl)] at h
 cases h
noncomputable def orcTx:Oracle:=fun f a=>match f,a with
 | 171,[e]=>some (di (rkI (rdE e).k))
 | 172,[fr n d]=>some (.tup [ds (str (decB n d).1),db (decB n d).2])
 | 173,[e,.con (.int .i64 v)]=>some (ds (wth (v-1) (lvI (rdE e).k,fmtE (rdE e))))
 | 174,[.con (.int .i64 v)]=>some (opsD v)
 | 142,[e]=>some (ds (fmtE (rdE e)))
 | _,_=>none
theorem f173_of {m:Nat} {y:Ex} (hy:ht y≤m) (hn:sndE y=true) (hsz:(fmtE y).size≤10000000) (h:FnOK Tryz.prog G 142 [exD m y] (ds (fmtE y))) (v:Int) (hv:-100≤v∧v≤100):FnOK Tryz.prog G 173 [exD m y,di v] (ds (wth (v-1) (lvI y.k,fmtE y))):=by
 have e:rdE (exV y.k y.s y.n y.d y.pos y.kids.length (lay (exG m) y.kids))=y:=rdE_eq hy
 have hr:=lv_rk (snd_rk hn)
 refine FnOK.walk (orc:=orcTx) (keep:=[]) follows Tryz.func173 rfl Tryz.call173 ?_
 refine of_tr (fun _ _ _ ZK=>(ZK 171 [(ndX m y)] (di (rkI (rdE (ndX m y)).k))∧(((decide (rkI (rdE (ndX m y)).k<v))=true)→((ZK 142 [(ndX m y)] (ds (fmtE (rdE (ndX m y))))∧((ByteArray.mk #[40]).size+(fmtE (rdE (ndX m y))).size≤9223372036854775807)∧((ByteArray.mk #[40]++fmtE (rdE (ndX m y))).size+(ByteArray.mk #[41]).size≤9223372036854775807))∧((ds (ByteArray.mk #[40]++fmtE (rdE (ndX m y))++ByteArray.mk #[41])):DV)=(ds (wth (v-1) (lvI y.k,fmtE y)))))∧(((decide (rkI (rdE (ndX m y)).k<v))=false)→(ZK 142 [(ndX m y)] (ds (fmtE (rdE (ndX m y))))∧((ds (fmtE (rdE (ndX m y)))):DV)=(ds (wth (v-1) (lvI y.k,fmtE y))))))) (by kernel_rfl) ?_
 simp only[e]
 unfold wth
 refine⟨f171 m y,fun h1=>⟨⟨h,?_,?_⟩,?_⟩,fun h1=>⟨h,?_⟩⟩
 ·show 1+_≤_;omega
 ·rw[bSa];show 1+_+1≤_;omega
 ·have:=oDt h1
  rw[if_pos (by simp only;omega)]
 ·have:=of_decide_eq_false h1
  rw[if_neg (by simp only;omega)]
def oT (k:Int) (j:Nat):ByteArray:=if k∈(opsI (rkI k)).take j then opS k else .empty
theorem oT_hit {k:Int} {j:Nat} (hj:j<(opsI (rkI k)).length) (h:(opsI (rkI k)).getD j 0=k):oT k (j+1)=(opsT (rkI k)).getD j .empty:=by
 unfold oT opsT
 rw[List.getD,gEe hj] at h
 have h:(opsI (rkI k))[j]=k:=h
 rw[if_pos,List.getD,List.getElem?_map,gEe hj]
 ·show opS k=opS ((opsI (rkI k))[j])
  rw[h]
 ·rw[List.take_succ_eq_append_getElem hj,h]
  simp
theorem oT_miss {k:Int} {j:Nat} (hj:j<(opsI (rkI k)).length) (h:¬(opsI (rkI k)).getD j 0=k):oT k (j+1)=oT k j:=by
 unfold oT
 rw[List.getD,gEe hj] at h
 have h:¬(opsI (rkI k))[j]=k:=h
 have h2:¬k=(opsI (rkI k))[j]:=fun h'=>h h'.symm
 have e:k∈(opsI (rkI k)).take (j+1)↔k∈(opsI (rkI k)).take j:=by
  rw[List.take_succ_eq_append_getElem hj,List.mem_append,List.mem_singleton]
  exact⟨fun h'=>h'.resolve_right h2,.inl⟩
 by_cases hm:k∈(opsI (rkI k)).take j
 ·rw[if_pos (e.2 hm),if_pos hm]
 ·rw[if_neg (fun h'=>hm (e.1 h')),if_neg hm]
theorem oT_all {k:Int} (h:opB k=true):oT k (opsI (rkI k)).length=opS k:=by
 unfold oT
 rw[if_pos]
 rw[List.take_length]
 have hc:k=6∨k=7∨k=8∨k=9∨k=12∨k=13∨k=14∨k=15∨k=16∨k=17∨k=19∨k=20:=by
  have:=oDt h
  omega
 rcases hc with rfl|rfl|rfl|rfl|rfl|rfl|rfl|rfl|rfl|rfl|rfl|rfl<;>decide
noncomputable def S111o (m:Nat) (x:Ex) (j:Nat):AS:=⟨regs Tryz.f142.ntmps [(1,.box 1 0),(7,vi (rkI x.k)),(8,.d (.slc 1 (opsT (rkI x.k)).length (stF (opsT (rkI x.k))))),(9,.d (.slc 1 (opsI (rkI x.k)).length (inF (opsI (rkI x.k))))),(10,.d (ds (oT x.k j))),(11,vi j)],[(1,exC m x)]⟩
noncomputable def S111 (m:Nat) (x:Ex) (pre:ByteArray) (k:Nat):AS:=⟨regs Tryz.f142.ntmps [(1,.box 1 0),(5,.d (ds (pre++jT x k))),(6,vi k)],[(1,exC m x)]⟩
theorem f142 (m:Nat):∀(x:Ex),ht x≤m→Sm x→sndE x=true→FnOK Tryz.prog G 142 [exD m x] (ds (fmtE x)):=by
 induction m using Nat.strongRecOn with
 | _ m ih=>
 intro x hx hs hsn
 have hl:=hs.len.1
 have e:rdE (exV x.k x.s x.n x.d x.pos x.kids.length (lay (exG m) x.kids))=x:=rdE_eq hx
 have h111:∀i,i<x.kids.length→FnOK Tryz.prog G 142 [kidA m x i] (ds (fmtE (x.kids.getD i ex0))):=fun i hi=>
  kidOK (Q:=fun d=>FnOK Tryz.prog G 142 [d] _) hx hi fun m' h1 h2=>ih m' h1 _ h2 (hs.kid hi) (snd_kid hsn hi)
 have h139:∀i,i<x.kids.length→∀v:Int,(-100≤v∧v≤100)→FnOK Tryz.prog G 173 [kidA m x i,di v] (ds (wth (v-1) (g0 (fmtL x.kids) i))):=fun i hi v hv=>by
  rw[g0_kid hi]
  exact kidOK (Q:=fun d=>FnOK Tryz.prog G 173 [d,di v] _) hx hi fun m' h1 h2=>f173_of h2 (snd_kid hsn hi) (by have:=(hs.kid hi).size;omega) (ih m' h1 _ h2 (hs.kid hi) (snd_kid hsn hi)) v hv
 refine FnOK.walk (orc:=orcTx) (keep:=[]) follows Tryz.func142 rfl Tryz.call142 ?_
 refine of_eqH6 ((.tup [(.slc 1 (opsT (rkI (rdE (ndX m x)).k)).length (stF (opsT (rkI (rdE (ndX m x)).k)))),(.slc 1 (opsI (rkI (rdE (ndX m x)).k)).length (inF (opsI (rkI (rdE (ndX m x)).k))))]):DV) (lvI (rdE (ndA m (x.kids.getD (Int.toNat 0) ex0))).k,fmtE (rdE (ndA m (x.kids.getD (Int.toNat 0) ex0)))) ((.d (.slc 1 (opsT (rkI (rdE (ndX m x)).k)).length (stF (opsT (rkI (rdE (ndX m x)).k))))):AV) ((.d (.slc 1 (opsI (rkI (rdE (ndX m x)).k)).length (inF (opsI (rkI (rdE (ndX m x)).k))))):AV) ((.d (.slc 6 x.kids.length (lay (exG m) x.kids))):AV) (Ret Tryz.prog Tryz.f142 (ds (fmtE x))) (fun Za Zb Zc Zd Ze Zf=>((((x.k==2)=true)→(((ds x.s):DV)=(ds (fmtE x))))∧(((x.k==2)=false)→((((x.k==1)=true)→(FnOK Tryz.prog G 172 [(.agg [(di x.n),(di x.d)])] (.tup [(ds (str (decB x.n x.d).fst)),(db (decB x.n x.d).snd)])∧((ds (str (decB x.n x.d).fst)):DV)=(ds (fmtE x))))∧(((x.k==1)=false)→((((x.k==3)=true)→(((ds (ByteArray.mk #[116,114,117,101])):DV)=(ds (fmtE x))))∧(((x.k==3)=false)→((((x.k==4)=true)→(((ds (ByteArray.mk #[102,97,108,115,101])):DV)=(ds (fmtE x))))∧(((x.k==4)=false)→((((x.k==18)=true)→(((((0:Int)≤(0:Int))∧(0<(↑x.kids.length:Int)))∧FnOK Tryz.prog G 173 [(ndA m (x.kids.getD (Int.toNat 0) ex0)),(di 3)] (ds (wth (3-1) Zb))∧((ByteArray.mk #[110,111,116,32]).size+(wth (3-1) Zb).size≤9223372036854775807))∧((ds (ByteArray.mk #[110,111,116,32]++wth (3-1) Zb)):DV)=(ds (fmtE x))))∧(((x.k==18)=false)→((((x.k==5)=true)→(((((0:Int)≤(0:Int))∧(0<(↑x.kids.length:Int)))∧FnOK Tryz.prog G 173 [(ndA m (x.kids.getD (Int.toNat 0) ex0)),(di 7)] (ds (wth (7-1) Zb))∧((ByteArray.mk #[45]).size+(wth (7-1) Zb).size≤9223372036854775807))∧((ds (ByteArray.mk #[45]++wth (7-1) Zb)):DV)=(ds (fmtE x))))∧(((x.k==5)=false)→((((x.k==10)=true)→((((x.k==10)=true)→((((x.k==11)=true)→AWP Tryz.prog G [cd Tryz.f142 [1,0,1,0,1,1,1,1,1,1,1,1,1,1,1,1,1,0,1,1,0,1,0],(.blk 1),cd Tryz.f142 [1,0,1,0,1,1,1,1,1,1,1,1,1,1,1,1,1,0,1,1,1],(.blk 0),cd Tryz.f142 [1,1]] ⟨regs 120 [(0,(.d (ndX m x))),(1,(.box 1 0)),(2,(vs (ByteArray.mk #[]))),(5,(vs (ByteArray.mk #[109,97,120,40]))),(6,(vi 0)),(13,(.box 1 0)),(14,(vi x.k)),(15,(vb (x.k==2))),(16,(vb (x.k==2))),(19,(vb (x.k==1))),(20,(vb (x.k==1))),(28,(vb (x.k==3))),(29,(vb (x.k==3))),(30,(vb (x.k==4))),(31,(vb (x.k==4))),(32,(vb (x.k==18))),(33,(vb (x.k==18))),(40,(vb (x.k==5))),(41,(vb (x.k==5))),(48,(vb (x.k==10))),(49,(vb (x.k==10))),(51,(.box 1 0)),(52,(vi x.k)),(53,(vb (x.k==11)))],[(1,[(vi x.k),(vs x.s),(vi x.n),(vi x.d),(vi x.pos),Ze])]⟩ Zf)∧(((x.k==11)=false)→AWP Tryz.prog G [cd Tryz.f142 [1,0,1,0,1,1,1,1,1,1,1,1,1,1,1,1,1,0,1,1,0,1,0],(.blk 1),cd Tryz.f142 [1,0,1,0,1,1,1,1,1,1,1,1,1,1,1,1,1,0,1,1,1],(.blk 0),cd Tryz.f142 [1,1]] ⟨regs 120 [(0,(.d (ndX m x))),(1,(.box 1 0)),(2,(vs (ByteArray.mk #[]))),(5,(vs (ByteArray.mk #[109,105,110,40]))),(6,(vi 0)),(13,(.box 1 0)),(14,(vi x.k)),(15,(vb (x.k==2))),(16,(vb (x.k==2))),(19,(vb (x.k==1))),(20,(vb (x.k==1))),(28,(vb (x.k==3))),(29,(vb (x.k==3))),(30,(vb (x.k==4))),(31,(vb (x.k==4))),(32,(vb (x.k==18))),(33,(vb (x.k==18))),(40,(vb (x.k==5))),(41,(vb (x.k==5))),(48,(vb (x.k==10))),(49,(vb (x.k==10))),(51,(.box 1 0)),(52,(vi x.k)),(53,(vb (x.k==11)))],[(1,[(vi x.k),(vs x.s),(vi x.n),(vi x.d),(vi x.pos),Ze])]⟩ Zf)))∧(((x.k==10)=false)→(FnOK Tryz.prog G 171 [(ndX m x)] (di (rkI (rdE (ndX m x)).k))∧FnOK Tryz.prog G 174 [(di (rkI (rdE (ndX m x)).k))] Za∧AWP Tryz.prog G [cd Tryz.f142 [1,1,1,1,1,0,1,0],(.blk 3),cd Tryz.f142 [1,1,1,1,1,1]] ⟨regs 120 [(0,(.d (ndX m x))),(1,(.box 1 0)),(2,(vs (ByteArray.mk #[]))),(7,(vi (rkI (rdE (ndX m x)).k))),(8,Zc),(9,Zd),(10,(vs (ByteArray.mk #[]))),(11,(vi 0)),(13,(.box 1 0)),(14,(vi x.k)),(15,(vb (x.k==2))),(16,(vb (x.k==2))),(19,(vb (x.k==1))),(20,(vb (x.k==1))),(28,(vb (x.k==3))),(29,(vb (x.k==3))),(30,(vb (x.k==4))),(31,(vb (x.k==4))),(32,(vb (x.k==18))),(33,(vb (x.k==18))),(40,(vb (x.k==5))),(41,(vb (x.k==5))),(48,(vb (x.k==10))),(49,(vb (x.k==10))),(75,(.d (ndX m x))),(76,(vi (rkI (rdE (ndX m x)).k))),(77,(.d Za)),(78,(vi (rkI (rdE (ndX m x)).k))),(79,(.d Za)),(80,Zc),(81,Zd)],[(1,[(vi x.k),(vs x.s),(vi x.n),(vi x.d),(vi x.pos),Ze])]⟩ Zf))))∧(((x.k==10)=false)→((((x.k==11)=true)→((((x.k==11)=true)→AWP Tryz.prog G [cd Tryz.f142 [1,0,1,0,1,1,1,1,1,1,1,1,1,1,1,1,1,0,1,1,0,1,0],(.blk 1),cd Tryz.f142 [1,0,1,0,1,1,1,1,1,1,1,1,1,1,1,1,1,0,1,1,1],(.blk 0),cd Tryz.f142 [1,1]] ⟨regs 120 [(0,(.d (ndX m x))),(1,(.box 1 0)),(2,(vs (ByteArray.mk #[]))),(5,(vs (ByteArray.mk #[109,97,120,40]))),(6,(vi 0)),(13,(.box 1 0)),(14,(vi x.k)),(15,(vb (x.k==2))),(16,(vb (x.k==2))),(19,(vb (x.k==1))),(20,(vb (x.k==1))),(28,(vb (x.k==3))),(29,(vb (x.k==3))),(30,(vb (x.k==4))),(31,(vb (x.k==4))),(32,(vb (x.k==18))),(33,(vb (x.k==18))),(40,(vb (x.k==5))),(41,(vb (x.k==5))),(48,(vb (x.k==11))),(49,(vb (x.k==10))),(50,(vb (x.k==11))),(51,(.box 1 0)),(52,(vi x.k)),(53,(vb (x.k==11)))],[(1,[(vi x.k),(vs x.s),(vi x.n),(vi x.d),(vi x.pos),Ze])]⟩ Zf)∧(((x.k==11)=false)→AWP Tryz.prog G [cd Tryz.f142 [1,0,1,0,1,1,1,1,1,1,1,1,1,1,1,1,1,0,1,1,0,1,0],(.blk 1),cd Tryz.f142 [1,0,1,0,1,1,1,1,1,1,1,1,1,1,1,1,1,0,1,1,1],(.blk 0),cd Tryz.f142 [1,1]] ⟨regs 120 [(0,(.d (ndX m x))),(1,(.box 1 0)),(2,(vs (ByteArray.mk #[]))),(5,(vs (ByteArray.mk #[109,105,110,40]))),(6,(vi 0)),(13,(.box 1 0)),(14,(vi x.k)),(15,(vb (x.k==2))),(16,(vb (x.k==2))),(19,(vb (x.k==1))),(20,(vb (x.k==1))),(28,(vb (x.k==3))),(29,(vb (x.k==3))),(30,(vb (x.k==4))),(31,(vb (x.k==4))),(32,(vb (x.k==18))),(33,(vb (x.k==18))),(40,(vb (x.k==5))),(41,(vb (x.k==5))),(48,(vb (x.k==11))),(49,(vb (x.k==10))),(50,(vb (x.k==11))),(51,(.box 1 0)),(52,(vi x.k)),(53,(vb (x.k==11)))],[(1,[(vi x.k),(vs x.s),(vi x.n),(vi x.d),(vi x.pos),Ze])]⟩ Zf)))∧(((x.k==11)=false)→(FnOK Tryz.prog G 171 [(ndX m x)] (di (rkI (rdE (ndX m x)).k))∧FnOK Tryz.prog G 174 [(di (rkI (rdE (ndX m x)).k))] Za∧AWP Tryz.prog G [cd Tryz.f142 [1,1,1,1,1,0,1,0],(.blk 3),cd Tryz.f142 [1,1,1,1,1,1]] ⟨regs 120 [(0,(.d (ndX m x))),(1,(.box 1 0)),(2,(vs (ByteArray.mk #[]))),(7,(vi (rkI (rdE (ndX m x)).k))),(8,Zc),(9,Zd),(10,(vs (ByteArray.mk #[]))),(11,(vi 0)),(13,(.box 1 0)),(14,(vi x.k)),(15,(vb (x.k==2))),(16,(vb (x.k==2))),(19,(vb (x.k==1))),(20,(vb (x.k==1))),(28,(vb (x.k==3))),(29,(vb (x.k==3))),(30,(vb (x.k==4))),(31,(vb (x.k==4))),(32,(vb (x.k==18))),(33,(vb (x.k==18))),(40,(vb (x.k==5))),(41,(vb (x.k==5))),(48,(vb (x.k==11))),(49,(vb (x.k==10))),(50,(vb (x.k==11))),(75,(.d (ndX m x))),(76,(vi (rkI (rdE (ndX m x)).k))),(77,(.d Za)),(78,(vi (rkI (rdE (ndX m x)).k))),(79,(.d Za)),(80,Zc),(81,Zd)],[(1,[(vi x.k),(vs x.s),(vi x.n),(vi x.d),(vi x.pos),Ze])]⟩ Zf)))))))))))))))))) (by kernel_rfl) ?_
 simp only[e]
 have ef:=fmtE_eq x
 unfold fmtK at ef
 simp only[beq_iff_eq,beq_eq_false_iff_ne,ne_eq]
 have q0:∀(_:0<x.kids.length),rdE (kidA m x (Int.toNat (0:Int)))=x.kids.getD 0 ex0:=fun h=>kid_rd hx h
 have q1:∀(_:1<x.kids.length),rdE (kidA m x (Int.toNat (1:Int)))=x.kids.getD 1 ex0:=fun h=>kid_rd hx h
 refine⟨fun h2=>?_,fun n2=>⟨fun h1=>⟨f172 _ _,?_⟩,fun n1=>⟨fun h3=>?_,fun n3=>⟨fun h4=>?_,fun n4=>⟨fun h18=>?_,fun n18=>⟨fun h5=>?_,fun n5=>?_⟩⟩⟩⟩⟩⟩
 ·rw[ef,if_neg (by omega),if_pos h2]
 ·rw[ef,if_pos h1]
  unfold numT
  rw[decF_eq]
 ·rw[ef,if_neg n1,if_neg n2,if_pos h3]
 ·rw[ef,if_neg n1,if_neg n2,if_neg n3,if_pos h4]
 ·have hl1:=snd_one hsn (.inr h18)
  have hl0:0<x.kids.length:=by omega
  simp only[q0 hl0]
  rw[ef,if_neg n1,if_neg n2,if_neg n3,if_neg n4,if_neg (by omega),if_pos h18]
  have hh:=h139 0 hl0 3 (by omega)
  rw[g0_kid hl0] at hh⊢
  have w:=wth_size 2 (lvI (x.kids.getD 0 ex0).k,fmtE (x.kids.getD 0 ex0))
  have:=(hs.kid hl0).size
  refine⟨⟨⟨by omega,by omega⟩,hh,?_⟩,rfl⟩
  show 4+ByteArray.size (wth 2 _)≤_
  simp only at w
  omega
 ·have hl1:=snd_one hsn (.inl h5)
  have hl0:0<x.kids.length:=by omega
  simp only[q0 hl0]
  rw[ef,if_neg n1,if_neg n2,if_neg n3,if_neg n4,if_pos h5]
  have hh:=h139 0 hl0 7 (by omega)
  rw[g0_kid hl0] at hh⊢
  have w:=wth_size 6 (lvI (x.kids.getD 0 ex0).k,fmtE (x.kids.getD 0 ex0))
  have:=(hs.kid hl0).size
  refine⟨⟨⟨by omega,by omega⟩,hh,?_⟩,rfl⟩
  show 1+ByteArray.size (wth 6 _)≤_
  simp only at w
  omega
 ·refine⟨fun h10=>⟨fun _=>⟨fun h11=>absurd (h10.symm.trans h11) (by decide),fun n11=>?_⟩,fun hn=>absurd h10 hn⟩,fun n10=>⟨fun h11=>⟨fun _=>?_,fun hn=>absurd h11 hn⟩,fun n11=>?_⟩⟩
  ·refine AWP.loop (c:=cAt (bodyOf Tryz.f142) [1,0,1,0,1,1,1,1,1,1,1,1,1,1,1,1,1,0,1,1,0,1,0,0]) (by kernel_rfl) (S111 m x ⟨#[109,105,110,40]⟩) (fun k=>k≤x.kids.length) (fun k=>x.kids.length-k) 0 ?_ (Nat.zero_le _) ?_
   ·refine of_eq1 (some [(vi x.k),(vs x.s),(vi x.n),(vi x.d),(vi x.pos),(.d (.slc 6 x.kids.length (lay (exG m) x.kids)))]) (fun Za=>((((.box 1 0):AV)=(.box 1 0)∧((vs (ByteArray.mk #[109,105,110,40])):AV)=(vs (ByteArray.mk #[109,105,110,40]++jT x 0))∧((vi 0):AV)=(vi 0)∧True)∧(Za:(Option (List AV)))=Za∧True)) (by kernel_rfl) ?_
    refine⟨⟨rfl,?_,rfl,trivial⟩,rfl,trivial⟩
    rw[jT_zero];rfl
   ·intro k hk
    refine walk (orc:=orcTx) (keep:=[]) (cuts:=[]) (n:=1000) follows ?_
    refine of_eqH5 (x.kids.getD (↑k:Int).toNat ex0) ((.d (.slc 6 x.kids.length (lay (exG m) x.kids))):AV) (ByteArray.mk #[109,105,110,40]++jT x k) (decide ((↑k:Int)<↑x.kids.length)) (ByteArray.mk #[109,105,110,40]++jT x k++ByteArray.mk #[44,32]) (fun Za Zb Zc Zd Ze=>(((Zd=true)→((((decide ((↑k:Int)>0))=true)→((Zc.size+(ByteArray.mk #[44,32]).size≤9223372036854775807)∧(((0≤(↑k:Int))∧((↑k:Int)<↑x.kids.length))∧FnOK Tryz.prog G 142 [(ndA m Za)] (ds (fmtE (rdE (ndA m Za))))∧(Ze.size+(fmtE (rdE (ndA m Za))).size≤9223372036854775807))∧(I64 (↑k+1))∧Again (S111 m x (ByteArray.mk #[109,105,110,40])) (fun k=>k≤x.kids.length) (fun k=>x.kids.length-k) k ⟨regs 120 [(1,(.box 1 0)),(5,(vs (ByteArray.mk #[109,105,110,40]++jT x k++ByteArray.mk #[44,32]++fmtE (rdE (ndA m Za))))),(6,(vi (↑k+1))),(54,(vi (↑k))),(55,(.box 1 5)),(56,Zb),(57,(vi (↑x.kids.length))),(58,(vb Zd)),(59,(vi (↑k))),(60,(vi (↑k+1))),(61,(vi (↑k))),(62,(vb (decide ((↑k:Int)>0)))),(63,(vs Zc)),(64,(vs Ze)),(65,(vs Ze)),(66,(.box 1 5)),(67,Zb),(68,(vi (↑k))),(69,(.d (.ptr [(di Za.k),(ds Za.s),(di Za.n),(di Za.d),(di Za.pos),(.slc 6 Za.kids.length (exG m Za.kids))]))),(70,(.d (ndA m Za))),(71,(vs (fmtE (rdE (ndA m Za))))),(72,(vs (ByteArray.mk #[109,105,110,40]++jT x k++ByteArray.mk #[44,32]++fmtE (rdE (ndA m Za)))))],[(1,[(vi x.k),(vs x.s),(vi x.n),(vi x.d),(vi x.pos),Zb])]⟩))∧(((decide ((↑k:Int)>0))=false)→((((0≤(↑k:Int))∧((↑k:Int)<↑x.kids.length))∧FnOK Tryz.prog G 142 [(ndA m Za)] (ds (fmtE (rdE (ndA m Za))))∧(Zc.size+(fmtE (rdE (ndA m Za))).size≤9223372036854775807))∧(I64 (↑k+1))∧Again (S111 m x (ByteArray.mk #[109,105,110,40])) (fun k=>k≤x.kids.length) (fun k=>x.kids.length-k) k ⟨regs 120 [(1,(.box 1 0)),(5,(vs (ByteArray.mk #[109,105,110,40]++jT x k++fmtE (rdE (ndA m Za))))),(6,(vi (↑k+1))),(54,(vi (↑k))),(55,(.box 1 5)),(56,Zb),(57,(vi (↑x.kids.length))),(58,(vb Zd)),(59,(vi (↑k))),(60,(vi (↑k+1))),(61,(vi (↑k))),(62,(vb (decide ((↑k:Int)>0)))),(65,(vs Zc)),(66,(.box 1 5)),(67,Zb),(68,(vi (↑k))),(69,(.d (.ptr [(di Za.k),(ds Za.s),(di Za.n),(di Za.d),(di Za.pos),(.slc 6 Za.kids.length (exG m Za.kids))]))),(70,(.d (ndA m Za))),(71,(vs (fmtE (rdE (ndA m Za))))),(72,(vs (ByteArray.mk #[109,105,110,40]++jT x k++fmtE (rdE (ndA m Za)))))],[(1,[(vi x.k),(vs x.s),(vi x.n),(vi x.d),(vi x.pos),Zb])]⟩))))∧((Zd=false)→AWP Tryz.prog G [cd Tryz.f142 [1,0,1,0,1,1,1,1,1,1,1,1,1,1,1,1,1,0,1,1,1],(.blk 0),cd Tryz.f142 [1,1]] ⟨regs 120 [(1,(.box 1 0)),(5,(vs Zc)),(6,(vi (↑k))),(54,(vi (↑k))),(55,(.box 1 5)),(56,Zb),(57,(vi (↑x.kids.length))),(58,(vb Zd))],[(1,[(vi x.k),(vs x.s),(vi x.n),(vi x.d),(vi x.pos),Zb])]⟩ (Ret Tryz.prog Tryz.f142 (ds (fmtE x)))))) (by kernel_rfl) ?_
    simp only[iTn]
    have hj:=jT_size hs k
    refine⟨fun h=>?_,fun h=>?_⟩
    ·have hk2:k<x.kids.length:=by have:=oDt h;omega
     have hf:=(hs.kid hk2).size
     have ej:=jT_succ hk2
     have hc:FnOK Tryz.prog G 142 [kidA m x k] (ds (fmtE (rdE (kidA m x k)))):=by
      rw[kid_rd hx hk2]
      exact h111 k hk2
     have er:rdE (kidA m x k)=x.kids.getD k ex0:=kid_rd hx hk2
     simp only[er] at hc⊢
     refine⟨fun h0=>⟨?_,⟨⟨by omega,by omega⟩,hc,?_⟩,⟨by omega,by omega⟩,Again.mk (k+1) ?_ hk2 (by omega)⟩,fun h0=>⟨⟨⟨by omega,by omega⟩,hc,?_⟩,⟨by omega,by omega⟩,Again.mk (k+1) ?_ hk2 (by omega)⟩⟩
     ·rw[bSa];show 4+_+2≤_;omega
     ·rw[bSa,bSa];show 4+_+2+_≤_;omega
     ·refine of_eq1 (some [(vi x.k),(vs x.s),(vi x.n),(vi x.d),(vi x.pos),(.d (.slc 6 x.kids.length (lay (exG m) x.kids)))]) (fun Za=>((((.box 1 0):AV)=(.box 1 0)∧((vs (ByteArray.mk #[109,105,110,40]++jT x k++ByteArray.mk #[44,32]++fmtE (x.kids.getD k ex0))):AV)=(vs (ByteArray.mk #[109,105,110,40]++jT x (k+1)))∧((vi (↑k+1)):AV)=(vi (↑(k+1)))∧True)∧(Za:(Option (List AV)))=Za∧True)) (by kernel_rfl) ?_
      refine⟨⟨rfl,?_,rfl,trivial⟩,rfl,trivial⟩
      rw[ej,if_pos (oDt h0),←ByteArray.append_assoc,←ByteArray.append_assoc]
      rfl
     ·rw[bSa];show 4+_+_≤_;omega
     ·refine of_eq1 (some [(vi x.k),(vs x.s),(vi x.n),(vi x.d),(vi x.pos),(.d (.slc 6 x.kids.length (lay (exG m) x.kids)))]) (fun Za=>((((.box 1 0):AV)=(.box 1 0)∧((vs (ByteArray.mk #[109,105,110,40]++jT x k++fmtE (x.kids.getD k ex0))):AV)=(vs (ByteArray.mk #[109,105,110,40]++jT x (k+1)))∧((vi (↑k+1)):AV)=(vi (↑(k+1)))∧True)∧(Za:(Option (List AV)))=Za∧True)) (by kernel_rfl) ?_
      refine⟨⟨rfl,?_,rfl,trivial⟩,rfl,trivial⟩
      rw[ej,if_neg (of_decide_eq_false h0),←ByteArray.append_assoc]
    ·simp only[decide_eq_false_iff_not] at h
     obtain rfl:k=x.kids.length:=by omega
     refine walk (orc:=orcTx) (keep:=[]) (cuts:=[]) (n:=1000) follows ?_
     refine of_eqH (b:=(((ByteArray.mk #[109,105,110,40]++jT x x.kids.length).size+(ByteArray.mk #[41]).size≤9223372036854775807)∧((ds (ByteArray.mk #[109,105,110,40]++jT x x.kids.length++ByteArray.mk #[41])):DV)=(ds (fmtE x)))) (by kernel_rfl) ?_
     have ea:=jT_all x
     rw[ef,if_neg n1,if_neg n2,if_neg n3,if_neg n4,if_neg n5,if_neg n18,if_pos h10,←ea]
     refine⟨?_,rfl⟩
     rw[bSa];show 4+_+1≤_;omega
  ·refine AWP.loop (c:=cAt (bodyOf Tryz.f142) [1,0,1,0,1,1,1,1,1,1,1,1,1,1,1,1,1,0,1,1,0,1,0,0]) (by kernel_rfl) (S111 m x ⟨#[109,97,120,40]⟩) (fun k=>k≤x.kids.length) (fun k=>x.kids.length-k) 0 ?_ (Nat.zero_le _) ?_
   ·refine of_eq1 (some [(vi x.k),(vs x.s),(vi x.n),(vi x.d),(vi x.pos),(.d (.slc 6 x.kids.length (lay (exG m) x.kids)))]) (fun Za=>((((.box 1 0):AV)=(.box 1 0)∧((vs (ByteArray.mk #[109,97,120,40])):AV)=(vs (ByteArray.mk #[109,97,120,40]++jT x 0))∧((vi 0):AV)=(vi 0)∧True)∧(Za:(Option (List AV)))=Za∧True)) (by kernel_rfl) ?_
    refine⟨⟨rfl,?_,rfl,trivial⟩,rfl,trivial⟩
    rw[jT_zero];rfl
   ·intro k hk
    refine walk (orc:=orcTx) (keep:=[]) (cuts:=[]) (n:=1000) follows ?_
    refine of_eqH5 (x.kids.getD (↑k:Int).toNat ex0) ((.d (.slc 6 x.kids.length (lay (exG m) x.kids))):AV) (ByteArray.mk #[109,97,120,40]++jT x k) (decide ((↑k:Int)<↑x.kids.length)) (ByteArray.mk #[109,97,120,40]++jT x k++ByteArray.mk #[44,32]) (fun Za Zb Zc Zd Ze=>(((Zd=true)→((((decide ((↑k:Int)>0))=true)→((Zc.size+(ByteArray.mk #[44,32]).size≤9223372036854775807)∧(((0≤(↑k:Int))∧((↑k:Int)<↑x.kids.length))∧FnOK Tryz.prog G 142 [(ndA m Za)] (ds (fmtE (rdE (ndA m Za))))∧(Ze.size+(fmtE (rdE (ndA m Za))).size≤9223372036854775807))∧(I64 (↑k+1))∧Again (S111 m x (ByteArray.mk #[109,97,120,40])) (fun k=>k≤x.kids.length) (fun k=>x.kids.length-k) k ⟨regs 120 [(1,(.box 1 0)),(5,(vs (ByteArray.mk #[109,97,120,40]++jT x k++ByteArray.mk #[44,32]++fmtE (rdE (ndA m Za))))),(6,(vi (↑k+1))),(54,(vi (↑k))),(55,(.box 1 5)),(56,Zb),(57,(vi (↑x.kids.length))),(58,(vb Zd)),(59,(vi (↑k))),(60,(vi (↑k+1))),(61,(vi (↑k))),(62,(vb (decide ((↑k:Int)>0)))),(63,(vs Zc)),(64,(vs Ze)),(65,(vs Ze)),(66,(.box 1 5)),(67,Zb),(68,(vi (↑k))),(69,(.d (.ptr [(di Za.k),(ds Za.s),(di Za.n),(di Za.d),(di Za.pos),(.slc 6 Za.kids.length (exG m Za.kids))]))),(70,(.d (ndA m Za))),(71,(vs (fmtE (rdE (ndA m Za))))),(72,(vs (ByteArray.mk #[109,97,120,40]++jT x k++ByteArray.mk #[44,32]++fmtE (rdE (ndA m Za)))))],[(1,[(vi x.k),(vs x.s),(vi x.n),(vi x.d),(vi x.pos),Zb])]⟩))∧(((decide ((↑k:Int)>0))=false)→((((0≤(↑k:Int))∧((↑k:Int)<↑x.kids.length))∧FnOK Tryz.prog G 142 [(ndA m Za)] (ds (fmtE (rdE (ndA m Za))))∧(Zc.size+(fmtE (rdE (ndA m Za))).size≤9223372036854775807))∧(I64 (↑k+1))∧Again (S111 m x (ByteArray.mk #[109,97,120,40])) (fun k=>k≤x.kids.length) (fun k=>x.kids.length-k) k ⟨regs 120 [(1,(.box 1 0)),(5,(vs (ByteArray.mk #[109,97,120,40]++jT x k++fmtE (rdE (ndA m Za))))),(6,(vi (↑k+1))),(54,(vi (↑k))),(55,(.box 1 5)),(56,Zb),(57,(vi (↑x.kids.length))),(58,(vb Zd)),(59,(vi (↑k))),(60,(vi (↑k+1))),(61,(vi (↑k))),(62,(vb (decide ((↑k:Int)>0)))),(65,(vs Zc)),(66,(.box 1 5)),(67,Zb),(68,(vi (↑k))),(69,(.d (.ptr [(di Za.k),(ds Za.s),(di Za.n),(di Za.d),(di Za.pos),(.slc 6 Za.kids.length (exG m Za.kids))]))),(70,(.d (ndA m Za))),(71,(vs (fmtE (rdE (ndA m Za))))),(72,(vs (ByteArray.mk #[109,97,120,40]++jT x k++fmtE (rdE (ndA m Za)))))],[(1,[(vi x.k),(vs x.s),(vi x.n),(vi x.d),(vi x.pos),Zb])]⟩))))∧((Zd=false)→AWP Tryz.prog G [cd Tryz.f142 [1,0,1,0,1,1,1,1,1,1,1,1,1,1,1,1,1,0,1,1,1],(.blk 0),cd Tryz.f142 [1,1]] ⟨regs 120 [(1,(.box 1 0)),(5,(vs Zc)),(6,(vi (↑k))),(54,(vi (↑k))),(55,(.box 1 5)),(56,Zb),(57,(vi (↑x.kids.length))),(58,(vb Zd))],[(1,[(vi x.k),(vs x.s),(vi x.n),(vi x.d),(vi x.pos),Zb])]⟩ (Ret Tryz.prog Tryz.f142 (ds (fmtE x)))))) (by kernel_rfl) ?_
    simp only[iTn]
    have hj:=jT_size hs k
    refine⟨fun h=>?_,fun h=>?_⟩
    ·have hk2:k<x.kids.length:=by have:=oDt h;omega
     have hf:=(hs.kid hk2).size
     have ej:=jT_succ hk2
     have hc:FnOK Tryz.prog G 142 [kidA m x k] (ds (fmtE (rdE (kidA m x k)))):=by
      rw[kid_rd hx hk2]
      exact h111 k hk2
     have er:rdE (kidA m x k)=x.kids.getD k ex0:=kid_rd hx hk2
     simp only[er] at hc⊢
     refine⟨fun h0=>⟨?_,⟨⟨by omega,by omega⟩,hc,?_⟩,⟨by omega,by omega⟩,Again.mk (k+1) ?_ hk2 (by omega)⟩,fun h0=>⟨⟨⟨by omega,by omega⟩,hc,?_⟩,⟨by omega,by omega⟩,Again.mk (k+1) ?_ hk2 (by omega)⟩⟩
     ·rw[bSa];show 4+_+2≤_;omega
     ·rw[bSa,bSa];show 4+_+2+_≤_;omega
     ·refine of_eq1 (some [(vi x.k),(vs x.s),(vi x.n),(vi x.d),(vi x.pos),(.d (.slc 6 x.kids.length (lay (exG m) x.kids)))]) (fun Za=>((((.box 1 0):AV)=(.box 1 0)∧((vs (ByteArray.mk #[109,97,120,40]++jT x k++ByteArray.mk #[44,32]++fmtE (x.kids.getD k ex0))):AV)=(vs (ByteArray.mk #[109,97,120,40]++jT x (k+1)))∧((vi (↑k+1)):AV)=(vi (↑(k+1)))∧True)∧(Za:(Option (List AV)))=Za∧True)) (by kernel_rfl) ?_
      refine⟨⟨rfl,?_,rfl,trivial⟩,rfl,trivial⟩
      rw[ej,if_pos (oDt h0),←ByteArray.append_assoc,←ByteArray.append_assoc]
      rfl
     ·rw[bSa];show 4+_+_≤_;omega
     ·refine of_eq1 (some [(vi x.k),(vs x.s),(vi x.n),(vi x.d),(vi x.pos),(.d (.slc 6 x.kids.length (lay (exG m) x.kids)))]) (fun Za=>((((.box 1 0):AV)=(.box 1 0)∧((vs (ByteArray.mk #[109,97,120,40]++jT x k++fmtE (x.kids.getD k ex0))):AV)=(vs (ByteArray.mk #[109,97,120,40]++jT x (k+1)))∧((vi (↑k+1)):AV)=(vi (↑(k+1)))∧True)∧(Za:(Option (List AV)))=Za∧True)) (by kernel_rfl) ?_
      refine⟨⟨rfl,?_,rfl,trivial⟩,rfl,trivial⟩
      rw[ej,if_neg (of_decide_eq_false h0),←ByteArray.append_assoc]
    ·simp only[decide_eq_false_iff_not] at h
     obtain rfl:k=x.kids.length:=by omega
     refine walk (orc:=orcTx) (keep:=[]) (cuts:=[]) (n:=1000) follows ?_
     refine of_eqH (b:=(((ByteArray.mk #[109,97,120,40]++jT x x.kids.length).size+(ByteArray.mk #[41]).size≤9223372036854775807)∧((ds (ByteArray.mk #[109,97,120,40]++jT x x.kids.length++ByteArray.mk #[41])):DV)=(ds (fmtE x)))) (by kernel_rfl) ?_
     have ea:=jT_all x
     rw[ef,if_neg n1,if_neg n2,if_neg n3,if_neg n4,if_neg n5,if_neg n18,if_neg n10,if_pos h11,←ea]
     refine⟨?_,rfl⟩
     rw[bSa];show 4+_+1≤_;omega
  ·obtain ⟨hl2,hob⟩:=snd_two hsn ⟨n1,n2,n3,n4,n5,n18,n10,n11⟩
   have hl0:0<x.kids.length:=by omega
   have hl1:1<x.kids.length:=by omega
   have ef2:fmtE x=wth (fstL x.k) (g0 (fmtL x.kids) 0)++(⟨#[32]⟩:ByteArray)++opS x.k++(⟨#[32]⟩:ByteArray)++wth (lvI x.k+1) (g0 (fmtL x.kids) 1):=by
    rw[ef,if_neg n1,if_neg n2,if_neg n3,if_neg n4,if_neg n5,if_neg n18,if_neg n10,if_neg n11]
   refine⟨f171 m x,f174 _,?_⟩
   have hol:=opsI_len (rkI x.k)
   refine AWP.loop (c:=cAt (bodyOf Tryz.f142) [1,1,1,1,1,0,1,0,0]) (by kernel_rfl) (S111o m x) (fun j=>j≤(opsI (rkI x.k)).length) (fun j=>(opsI (rkI x.k)).length-j) 0 ?_ (Nat.zero_le _) ?_
   ·refine of_eq1 (some [(vi x.k),(vs x.s),(vi x.n),(vi x.d),(vi x.pos),(.d (.slc 6 x.kids.length (lay (exG m) x.kids)))]) (fun Za=>((((.box 1 0):AV)=(.box 1 0)∧((vi (rkI x.k)):AV)=(vi (rkI x.k))∧((.d (.slc 1 (opsT (rkI x.k)).length (stF (opsT (rkI x.k))))):AV)=(.d (.slc 1 (opsT (rkI x.k)).length (stF (opsT (rkI x.k)))))∧((.d (.slc 1 (opsI (rkI x.k)).length (inF (opsI (rkI x.k))))):AV)=(.d (.slc 1 (opsI (rkI x.k)).length (inF (opsI (rkI x.k)))))∧((vs (ByteArray.mk #[])):AV)=(vs (oT x.k 0))∧((vi 0):AV)=(vi 0)∧True)∧(Za:(Option (List AV)))=Za∧True)) (by kernel_rfl) ?_
    exact⟨⟨rfl,rfl,rfl,rfl,rfl,rfl,trivial⟩,rfl,trivial⟩
   ·intro j hj
    refine walk (orc:=orcTx) (keep:=[]) (cuts:=[]) (n:=1000) follows ?_
    refine of_eqH7 ((.d (.slc 1 (opsI (rkI x.k)).length (inF (opsI (rkI x.k))))):AV) (decide ((↑j:Int)<↑(opsI (rkI x.k)).length)) ((.d (.slc 1 (opsT (rkI x.k)).length (stF (opsT (rkI x.k))))):AV) ((opsI (rkI x.k)).getD (↑j:Int).toNat 0==x.k) ((opsI (rkI x.k)).getD (↑j:Int).toNat 0) ((opsT (rkI x.k)).getD (↑j:Int).toNat ByteArray.empty) ((.d (.slc 6 x.kids.length (lay (exG m) x.kids))):AV) (fun Za Zb Zc Zd Ze Zf Zg=>(((Zb=true)→(((0≤(↑j:Int))∧((↑j:Int)<↑(opsI (rkI x.k)).length))∧((Zd=true)→(((0≤(↑j:Int))∧((↑j:Int)<↑(opsT (rkI x.k)).length))∧(I64 (↑j+1))∧Again (S111o m x) (fun j=>j≤(opsI (rkI x.k)).length) (fun j=>(opsI (rkI x.k)).length-j) j ⟨regs 120 [(1,(.box 1 0)),(7,(vi (rkI x.k))),(8,Zc),(9,Za),(10,(vs Zf)),(11,(vi (↑j+1))),(82,(vi (↑j))),(83,Za),(84,(vi (↑(opsI (rkI x.k)).length))),(85,(vb Zb)),(86,(vi (↑j))),(87,(vi (↑j+1))),(88,Za),(89,(vi (↑j))),(90,(.d (.ptr [(di Ze)]))),(91,(vi Ze)),(92,(.box 1 0)),(93,(vi x.k)),(94,(vb Zd)),(95,Zc),(96,(vi (↑j))),(97,(.d (.ptr [(ds Zf)]))),(98,(vs Zf))],[(1,[(vi x.k),(vs x.s),(vi x.n),(vi x.d),(vi x.pos),Zg])]⟩))∧((Zd=false)→((I64 (↑j+1))∧Again (S111o m x) (fun j=>j≤(opsI (rkI x.k)).length) (fun j=>(opsI (rkI x.k)).length-j) j ⟨regs 120 [(1,(.box 1 0)),(7,(vi (rkI x.k))),(8,Zc),(9,Za),(10,(vs (oT x.k j))),(11,(vi (↑j+1))),(82,(vi (↑j))),(83,Za),(84,(vi (↑(opsI (rkI x.k)).length))),(85,(vb Zb)),(86,(vi (↑j))),(87,(vi (↑j+1))),(88,Za),(89,(vi (↑j))),(90,(.d (.ptr [(di Ze)]))),(91,(vi Ze)),(92,(.box 1 0)),(93,(vi x.k)),(94,(vb Zd))],[(1,[(vi x.k),(vs x.s),(vi x.n),(vi x.d),(vi x.pos),Zg])]⟩))))∧((Zb=false)→AWP Tryz.prog G [cd Tryz.f142 [1,1,1,1,1,1]] ⟨regs 120 [(1,(.box 1 0)),(7,(vi (rkI x.k))),(8,Zc),(9,Za),(10,(vs (oT x.k j))),(11,(vi (↑j))),(82,(vi (↑j))),(83,Za),(84,(vi (↑(opsI (rkI x.k)).length))),(85,(vb Zb))],[(1,[(vi x.k),(vs x.s),(vi x.n),(vi x.d),(vi x.pos),Zg])]⟩ (Ret Tryz.prog Tryz.f142 (ds (fmtE x)))))) (by kernel_rfl) ?_
    simp only[iTn]
    refine⟨fun h=>?_,fun h=>?_⟩
    ·have hj2:j<(opsI (rkI x.k)).length:=by have:=oDt h;omega
     have ht:(opsT (rkI x.k)).length=(opsI (rkI x.k)).length:=by unfold opsT;rw[List.length_map]
     refine⟨⟨by omega,by omega⟩,fun h0=>⟨⟨by omega,by omega⟩,⟨by omega,by omega⟩,Again.mk (j+1) ?_ hj2 (by omega)⟩,fun h0=>⟨⟨by omega,by omega⟩,Again.mk (j+1) ?_ hj2 (by omega)⟩⟩
     ·refine of_eq1 (some [(vi x.k),(vs x.s),(vi x.n),(vi x.d),(vi x.pos),(.d (.slc 6 x.kids.length (lay (exG m) x.kids)))]) (fun Za=>((((.box 1 0):AV)=(.box 1 0)∧((vi (rkI x.k)):AV)=(vi (rkI x.k))∧((.d (.slc 1 (opsT (rkI x.k)).length (stF (opsT (rkI x.k))))):AV)=(.d (.slc 1 (opsT (rkI x.k)).length (stF (opsT (rkI x.k)))))∧((.d (.slc 1 (opsI (rkI x.k)).length (inF (opsI (rkI x.k))))):AV)=(.d (.slc 1 (opsI (rkI x.k)).length (inF (opsI (rkI x.k)))))∧((vs ((opsT (rkI x.k)).getD j ByteArray.empty)):AV)=(vs (oT x.k (j+1)))∧((vi (↑j+1)):AV)=(vi (↑(j+1)))∧True)∧(Za:(Option (List AV)))=Za∧True)) (by kernel_rfl) ?_
      refine⟨⟨rfl,rfl,rfl,rfl,?_,rfl,trivial⟩,rfl,trivial⟩
      rw[oT_hit hj2 (by simpa using h0)]
     ·refine AS.leZ [4] [] (b:=((T0∧T0∧T0∧T0∧((vs (oT x.k j)):AV)=(vs (oT x.k (j+1)))∧T0∧True)∧T0∧True)) (by kernel_rfl) (by kernel_rfl) ?_
      refine⟨⟨rfl,rfl,rfl,rfl,?_,rfl,trivial⟩,rfl,trivial⟩
      rw[oT_miss hj2 (by simpa using h0)]
    ·simp only[decide_eq_false_iff_not] at h
     obtain rfl:j=(opsI (rkI x.k)).length:=by omega
     refine walk (orc:=orcTx) (keep:=[]) (cuts:=[]) (n:=1000) follows ?_
     refine of_tr (fun _ _ _ ZK=>(fun Za Zb=>((((rkI x.k==4)=true)→(((((0:Int)≤(0:Int))∧(0<(↑x.kids.length:Int)))∧ZK 173 [(ndA m (x.kids.getD (Int.toNat 0) ex0)),(di 5)] (ds (wth (5-1) Za))∧((wth (5-1) Za).size+(ByteArray.mk #[32]).size≤9223372036854775807)∧((wth (5-1) Za++ByteArray.mk #[32]).size+(oT x.k (opsI (rkI x.k)).length).size≤9223372036854775807)∧((wth (5-1) Za++ByteArray.mk #[32]++oT x.k (opsI (rkI x.k)).length).size+(ByteArray.mk #[32]).size≤9223372036854775807)∧(((0:Int)≤(1:Int))∧(1<(↑x.kids.length:Int)))∧(I64 (rkI x.k+1))∧ZK 173 [(ndA m (x.kids.getD (Int.toNat 1) ex0)),(di (rkI x.k+1))] (ds (wth (rkI x.k+1-1) Zb))∧((wth (5-1) Za++ByteArray.mk #[32]++oT x.k (opsI (rkI x.k)).length++ByteArray.mk #[32]).size+(wth (rkI x.k+1-1) Zb).size≤9223372036854775807))∧((ds (wth (5-1) Za++ByteArray.mk #[32]++oT x.k (opsI (rkI x.k)).length++ByteArray.mk #[32]++wth (rkI x.k+1-1) Zb)):DV)=(ds (fmtE x))))∧(((rkI x.k==4)=false)→(((((0:Int)≤(0:Int))∧(0<(↑x.kids.length:Int)))∧ZK 173 [(ndA m (x.kids.getD (Int.toNat 0) ex0)),(di (rkI x.k))] (ds (wth (rkI x.k-1) Za))∧((wth (rkI x.k-1) Za).size+(ByteArray.mk #[32]).size≤9223372036854775807)∧((wth (rkI x.k-1) Za++ByteArray.mk #[32]).size+(oT x.k (opsI (rkI x.k)).length).size≤9223372036854775807)∧((wth (rkI x.k-1) Za++ByteArray.mk #[32]++oT x.k (opsI (rkI x.k)).length).size+(ByteArray.mk #[32]).size≤9223372036854775807)∧(((0:Int)≤(1:Int))∧(1<(↑x.kids.length:Int)))∧(I64 (rkI x.k+1))∧ZK 173 [(ndA m (x.kids.getD (Int.toNat 1) ex0)),(di (rkI x.k+1))] (ds (wth (rkI x.k+1-1) Zb))∧((wth (rkI x.k-1) Za++ByteArray.mk #[32]++oT x.k (opsI (rkI x.k)).length++ByteArray.mk #[32]).size+(wth (rkI x.k+1-1) Zb).size≤9223372036854775807))∧((ds (wth (rkI x.k-1) Za++ByteArray.mk #[32]++oT x.k (opsI (rkI x.k)).length++ByteArray.mk #[32]++wth (rkI x.k+1-1) Zb)):DV)=(ds (fmtE x)))))) (lvI (rdE (ndA m (x.kids.getD (Int.toNat 0) ex0))).k,fmtE (rdE (ndA m (x.kids.getD (Int.toNat 0) ex0)))) (lvI (rdE (ndA m (x.kids.getD (Int.toNat 1) ex0))).k,fmtE (rdE (ndA m (x.kids.getD (Int.toNat 1) ex0))))) (by kernel_rfl) ?_
     simp only[beq_iff_eq,beq_eq_false_iff_ne,ne_eq,q0 hl0,q1 hl1,oT_all hob]
     have hh0:=h139 0 hl0
     have hh1:=h139 1 hl1
     have w0:=fun v=>wth_size v (g0 (fmtL x.kids) 0)
     have w1:=fun v=>wth_size v (g0 (fmtL x.kids) 1)
     have ht:=tot_get (fmtL x.kids)
     have htt:=hs.tot
     have ho:=opS_size x.k
     have hlr:=lv_rk (snd_rk hsn)
     have hlv:-1≤lvI x.k∧lvI x.k≤8:=lvI_le _
     rw[g0_kid hl0] at hh0 w0 ef2 ht
     rw[g0_kid hl1] at hh1 w1 ef2 ht
     unfold fstL at ef2
     have e1:lvI x.k+1=rkI x.k+1-1:=by omega
     rw[e1] at ef2
     have s1:=w1 (rkI x.k+1-1)
     refine⟨fun h3=>?_,fun h3=>?_⟩
     ·have s0:=w0 (5-1)
      simp only at s0 s1 ht
      rw[if_pos (by omega),h3] at ef2
      have a0:=hh0 5 (by omega)
      have a1:=hh1 (rkI x.k+1) (by omega)
      rw[h3] at a1 s1
      simp only[h3]
      refine⟨⟨⟨by omega,by omega⟩,a0,?_,?_,?_,⟨by omega,by omega⟩,⟨by omega,by omega⟩,a1,?_⟩,?_⟩
      ·show _+1≤_;omega
      ·rw[bSa];show _+1+_≤_;omega
      ·rw[bSa,bSa];show _+1+_+1≤_;omega
      ·rw[bSa,bSa,bSa];show _+1+_+1+_≤_;omega
      ·rw[ef2];rfl
     ·have s0:=w0 (rkI x.k-1)
      simp only at s0 s1 ht
      rw[if_neg (by omega),hlr] at ef2
      have a0:=hh0 (rkI x.k) (by omega)
      have a1:=hh1 (rkI x.k+1) (by omega)
      refine⟨⟨⟨by omega,by omega⟩,a0,?_,?_,?_,⟨by omega,by omega⟩,⟨by omega,by omega⟩,a1,?_⟩,?_⟩
      ·show _+1≤_;omega
      ·rw[bSa];show _+1+_≤_;omega
      ·rw[bSa,bSa];show _+1+_+1≤_;omega
      ·rw[bSa,bSa,bSa];show _+1+_+1+_≤_;omega
      ·rw[ef2]
noncomputable def orcVx:Oracle:=fun f a=>match f,a with
 | 141,[e]=>some (db (sndE (rdE e)))
 | 32,[e]=>some (di ((ht (rdE e):Int)+1))
 | 142,[e]=>some (ds (fmtE (rdE e)))
 | _,_=>none
theorem f84 (hT:Tab G) (m:Nat) (x:Ex) (hx:ht x≤m) (hs:Sm x):FnOK Tryz.prog G 84 [exD m x] (db (fitE x)):=by
 have e:rdE (exV x.k x.s x.n x.d x.pos x.kids.length (lay (exG m) x.kids))=x:=rdE_eq hx
 refine FnOK.walk (orc:=orcVx) (keep:=[]) follows Tryz.func84 rfl Tryz.call84 ?_
 refine of_tr (fun _ _ _ ZK=>((ZK 141 [(ndX m x)] (db (sndE (rdE (ndX m x))))∧(((sndE (rdE (ndX m x)))=true)→ZK 32 [(ndX m x)] (di (↑(ht (rdE (ndX m x)))+1)))∧(((sndE (rdE (ndX m x))&&decide ((↑(ht (rdE (ndX m x))):Int)+1≤32))=true)→ZK 142 [(ndX m x)] (ds (fmtE (rdE (ndX m x))))))∧((db (sndE (rdE (ndX m x))&&decide ((↑(ht (rdE (ndX m x))):Int)+1≤32)&&decide ((↑(fmtE (rdE (ndX m x))).size:Int)≤16384))):DV)=(db (fitE x)))) (by kernel_rfl) ?_
 simp only[e]
 refine⟨⟨f141 hT m x hx hs,fun _=>f32 m x hx hs,fun h=>?_⟩,?_⟩
 ·simp only[bAt] at h
  exact f142 m x hx hs h.1
 ·unfold fitE
  refine congrArg db ?_
  have e2:decide (((fmtE x).size:Int)≤16384)=decide ((fmtE x).size≤16384):=by rw[decide_eq_decide];omega
  rw[e2]
abbrev eN (s:ByteArray):DV:=.agg [di 2,ds s,di 0,di 0,di 0,.con (.slice none 0 0)]
abbrev xN (s:ByteArray):Ex:=.mk 2 s 0 0 0 []
theorem eN_rel {s:ByteArray} (k:IH) (v:Value) (h:DV.rel k (eN s) v):DV.rel k (exD 0 (xN s)) v:=by
 obtain ⟨us,rfl,a,u1,rfl,ha,b,u2,rfl,hb,c,u3,rfl,hc,d,u4,rfl,hd,e,u5,rfl,he,f,u6,rfl,hf,h0⟩:=h
 exact⟨_,rfl,a,_,rfl,ha,b,_,rfl,hb,c,_,rfl,hc,d,_,rfl,hd,e,_,rfl,he,f,_,rfl,nil_slc hf,h0⟩
theorem eN_args {s:ByteArray} (k:IH) (us:List Value) (h:DV.rels k [eN s] us):DV.rels k [exD 0 (xN s)] us:=by
 obtain ⟨v,us',rfl,hv,h0⟩:=h
 exact⟨v,us',rfl,eN_rel k v hv,h0⟩
theorem xN_sm {s:ByteArray} (h:s.size≤1000):Sm (xN s):=⟨by simp[xN,nds,ndsL],by simp only[xN,txE,txL];exact⟨h,trivial⟩⟩
theorem xN_ht (s:ByteArray):ht (xN s)=0:=by simp[xN,ht,htL]
theorem name_size {s:ByteArray} (h:nameB s=true):1≤s.size∧s.size≤16:=by
 unfold nameB at h
 simp only[bAt,dEt] at h
 exact⟨h.1,h.2.1⟩
theorem xN_fit (s:ByteArray):fitE (xN s)=nameB s:=by
 unfold fitE
 rw[xN_ht]
 have e1:sndE (xN s)=nameB s:=by simp[sndE,sndK,xN,sndL]
 have e2:fmtE (xN s)=s:=by simp[fmtE,fmtK,xN,fmtL]
 rw[e1,e2]
 cases h:nameB s with
 | false=>rfl
 | true=>
  have:=name_size h
  rw[decide_eq_true (by omega:s.size≤16384)];rfl
noncomputable def orcNm:Oracle:=fun f a=>match f,a with
 | 72,[.agg [_,.con (.string s),_,_,_,_]]=>some (ds (if nameB s then s else .empty))
 | 84,[.agg [_,.con (.string s),_,_,_,_]]=>some (db (nameB s))
 | _,_=>none
theorem f147 (hT:Tab G) (s:ByteArray) (hs:s.size≤1000):FnOK Tryz.prog G 147 [ds s] (db (nameB s)):=by
 have h40:=(f72 hT (G:=G) 0 (xN s) (by rw[xN_ht];omega) (xN_sm hs)).args eN_args
 have e2:fmtX (xN s)=if nameB s then s else .empty:=by
  unfold fmtX
  rw[xN_fit]
  have e2:fmtE (xN s)=s:=by simp[fmtE,fmtK,xN,fmtL]
  rw[e2]
 rw[e2] at h40
 refine FnOK.walk (orc:=orcNm) (keep:=[]) follows Tryz.func147 rfl Tryz.call147 ?_
 refine of_tr (fun _ _ _ ZK=>(ZK 72 [(.agg [(di 2),(ds s),(di 0),(di 0),(di 0),(.con (.slice none 0 0))])] (ds (if nameB s=true then s else ByteArray.empty))∧((db (!(if nameB s=true then s else ByteArray.empty).toList==(ByteArray.mk #[]).toList)):DV)=(db (nameB s)))) (by kernel_rfl) ?_
 refine⟨h40,?_⟩
 refine congrArg db ?_
 rw[emp_beq]
 cases h:nameB s with
 | false=>rfl
 | true=>
  have:=name_size h
  rw[if_pos rfl,decide_eq_false (by omega)];rfl
theorem f100 (hT:Tab G) (s:ByteArray) (hs:s.size≤1000):FnOK Tryz.prog G 100 [ds s] (db (nameB s)):=by
 have h64:=(f84 hT (G:=G) 0 (xN s) (by rw[xN_ht];omega) (xN_sm hs)).args eN_args
 rw[xN_fit] at h64
 refine FnOK.walk (orc:=orcNm) (keep:=[]) follows Tryz.func100 rfl Tryz.call100 ?_
 refine of_tr (fun _ _ _ ZK=>(ZK 84 [(.agg [(di 2),(ds s),(di 0),(di 0),(di 0),(.con (.slice none 0 0))])] (db (nameB s))∧(ZS ((db (nameB s)):DV)))) (by kernel_rfl) ?_
 exact⟨h64,rfl⟩
def mB (l:List ByteArray):Nat→Value→Bool
 | 0=>fun _=>false
 | k+1=>fun v=>keyEq v (.string (l.getD k .empty))||mB l k v
theorem mB_str {l:List ByteArray} {k:Nat} (hk:k≤l.length) (s:ByteArray):mB l k (.string s)=true↔s∈l.take k:=by
 induction k with
 | zero=>simp[mB]
 | succ k ih=>
  have h:k<l.length:=hk
  have e:keyEq (.string s) (.string (l.getD k .empty))=decide (s=l.getD k .empty):=rfl
  simp only[mB,e,Bool.or_eq_true,ih (by omega)]
  rw[List.take_succ_eq_append_getElem h,List.getD,gEe h]
  simp only[dEt,List.mem_append,List.mem_singleton,Option.getD_some]
  exact⟨fun h=>h.symm,fun h=>h.symm⟩
theorem putF_mB (l:List ByteArray) (k:Nat):putF (.string (l.getD k .empty)) (.con (.bool true)) (fun v=>.con (.bool (mB l k v)))=fun v=>.con (.bool (mB l (k+1) v)):=by
 funext v
 unfold putF
 simp only[mB]
 cases keyEq v (.string (l.getD k .empty))<;>rfl
theorem nodup_step {l:List ByteArray} {k:Nat} (hk:k<l.length) (h:(l.take k).Nodup) (hn:l.getD k .empty∉l.take k):(l.take (k+1)).Nodup:=by
 rw[List.take_succ_eq_append_getElem hk]
 rw[List.getD,gEe hk] at hn
 have hn:l[k]∉l.take k:=hn
 rw[List.nodup_append]
 refine⟨h,by simp,fun a ha b hb=>?_⟩
 rw[List.mem_singleton] at hb
 subst hb
 exact fun e=>hn (e▸ha)
theorem nodup_not {l:List ByteArray} {k:Nat} (hk:k<l.length) (hn:l.getD k .empty∈l.take k):¬l.Nodup:=by
 intro h
 have h2:(l.take (k+1)).Nodup:=h.sublist (List.take_sublist _ _)
 rw[List.take_succ_eq_append_getElem hk,List.nodup_append] at h2
 rw[List.getD,gEe hk] at hn
 exact h2.2.2 _ hn _ (List.mem_singleton.2 rfl) rfl
noncomputable def S48 (l:List ByteArray) (k:Nat):AS:=⟨regs Tryz.f93.ntmps [(3,.mapv 6),(7,.d (.slc 1 l.length (stF l))),(8,vi l.length),(9,vi k)],[(6,[.mp none (fun v=>.con (.bool (mB l k v))) (mB l k)])]⟩
theorem f93 (l:List ByteArray) (hl:l.length≤100000):FnOK Tryz.prog G 93 [.slc 1 l.length (stF l)] (db (decide l.Nodup)):=by
 refine FnOK.walk (orc:=({ d:=fun _ _=>none }:Orc)) (keep:=[]) follows Tryz.func93 rfl Tryz.call93 ?_
 refine of_tr (fun ZT ZW ZQ _=>ZW [cd Tryz.f93 [1,1,0,1,0],(.blk 0),cd Tryz.f93 [1,1,1]] (stS ZT []) ZQ) (by kernel_rfl) ?_
 refine AWP.loop (c:=cAt (bodyOf Tryz.f93) [1,1,0,1,0,0]) (by kernel_rfl) (S48 l) (fun k=>k≤l.length∧(l.take k).Nodup) (fun k=>l.length-k) 0 ?_ ⟨Nat.zero_le _,by simp⟩ ?_
 ·refine AS.leZ [] [0] (b:=((T0∧T0∧T0∧T0∧True)∧((some [(.mp none (fun x=>DV.con (Value.bool false)) (fun x=>false))]):(Option (List AV)))=(some [(.mp none (fun v=>DV.con (Value.bool (mB l 0 v))) (mB l 0))])∧True)) (by kernel_rfl) (by kernel_rfl) ?_
  exact⟨⟨rfl,rfl,rfl,rfl,trivial⟩,rfl,trivial⟩
 ·rintro k ⟨hk,hkn⟩
  refine walk (orc:=({ d:=fun _ _=>none }:Orc)) (keep:=[]) (cuts:=[]) (n:=1000) follows ?_
  refine of_rd (fun ZT ZW ZQ _ ZA _=>(fun Za=>((((decide ((↑k:Int)<↑l.length))=true)→(((0≤(↑k:Int))∧((↑k:Int)<↑l.length))∧((Za=false)→((DV.con (Value.bool false)).imp (DV.con (Value.bool Za))))∧((Za=true)→(((db false):DV)=(db (decide l.Nodup))))∧((Za=false)→((I64 (↑k+1))∧(ZA (stS ZT [0,1]))))))∧(((decide ((↑k:Int)<↑l.length))=false)→ZW [cd Tryz.f93 [1,1,1]] (stS ZT [1]) ZQ))) (mB l k (Value.string (l.getD (↑k:Int).toNat ByteArray.empty)))) (by kernel_rfl) ?_
  simp only[iTn]
  have hm:=mB_str hk (l.getD k .empty)
  refine⟨fun h1=>?_,fun h1=>?_⟩
  ·have hk2:k<l.length:=by have:=oDt h1;omega
   refine⟨⟨by omega,by omega⟩,fun h2=>imp_eq (by rw[h2]),fun h2=>?_,fun h2=>⟨⟨by omega,by omega⟩,Again.mk (k+1) ?_ ⟨hk2,nodup_step hk2 hkn fun hh=>(by rw[hm.2 hh] at h2;cases h2)⟩ (by omega)⟩⟩
   ·rw[decide_eq_false (nodup_not hk2 (hm.1 h2))]
   ·refine AS.leZ [] [0] (b:=((T0∧T0∧T0∧T0∧True)∧((some [(.mp none (putF (Value.string (l.getD (↑k:Int).toNat ByteArray.empty)) (DV.con (Value.bool true)) fun v=>DV.con (Value.bool (mB l k v))) (putH (Value.string (l.getD (↑k:Int).toNat ByteArray.empty)) (mB l k)))]):(Option (List AV)))=(some [(.mp none (fun v=>DV.con (Value.bool (mB l (k+1) v))) (mB l (k+1)))])∧True)) (by kernel_rfl) (by kernel_rfl) ?_
    refine⟨⟨rfl,rfl,rfl,rfl,trivial⟩,?_,trivial⟩
    refine congrArg (fun f=>some [AV.mp none f (mB l (k+1))]) (putF_mB l k)
  ·simp only[decide_eq_false_iff_not] at h1
   obtain rfl:k=l.length:=by omega
   refine walk (orc:=({ d:=fun _ _=>none }:Orc)) (keep:=[]) (cuts:=[]) (n:=1000) follows ?_
   refine of_tr (fun _ _ _ _=>(((db true):DV)=(db (decide l.Nodup)))) (by kernel_rfl) ?_
   rw[List.take_length] at hkn
   rw[decide_eq_true hkn]
/-! Descriptions of facts. -/
structure Fc where
 name:ByteArray
 kind:Int
 ln:Int
 ld:Int
 hn:Int
 hd:Int
 words:List ByteArray
 deriving DecidableEq
abbrev fc0:Fc:=⟨.empty,0,0,0,0,0,[]⟩
abbrev wdD (l:List ByteArray):DV:=.slc 1 l.length (stF l)
abbrev fcD (x:Fc):DV:=.agg [ds x.name,di x.kind,di x.ln,di x.ld,di x.hn,di x.hd,wdD x.words]
def fcF (L:List Fc) (i:Nat):DV:=fcD (L.getD i fc0)
abbrev fcsD (L:List Fc):DV:=.slc 7 L.length (fcF L)
/-! The first element with a property. -/
def idI {α:Type} (p:α→Bool) (l:List α):Int:=if l.any p then ((l.takeWhile fun x=>!p x).length:Int) else -1
theorem idI_hit {α:Type} {x0:α} {p:α→Bool} {L:List α} {k:Nat} (hk:k<L.length) (hno:∀i,i<k→p (L.getD i x0)=false) (h:p (L.getD k x0)=true):L.any p=true∧idI p L=k:=by
 have e:∀i (h:i<L.length),L.getD i x0=L[i]:=fun i h=>by rw[List.getD,gEe h];rfl
 have h1:L.any p=true:=by
  rw[List.any_eq_true]
  exact⟨L[k],List.getElem_mem hk,by rw[←e k hk];exact h⟩
 refine⟨h1,?_⟩
 unfold idI
 rw[if_pos h1]
 have:∀(l:List α) (k:Nat) (hk:k<l.length),(∀i (h:i<l.length),i<k→p l[i]=false)→p l[k]=true→(l.takeWhile fun x=>!p x).length=k:=by
  intro l
  induction l with
  | nil=>intro k hk;simp at hk
  | cons x l ih=>
   intro k hk h2 h3
   cases k with
   | zero=>
    simp only[List.getElem_cons_zero] at h3
    rw[List.takeWhile_cons,h3];simp
   | succ k=>
    have h4:=h2 0 (by simp) (by omega)
    simp only[List.getElem_cons_zero] at h4
    rw[List.takeWhile_cons]
    simp only[h4,Bool.not_false,if_true,List.length_cons]
    rw[ih k (by simpa using hk) (fun i h5 h6=>by
     have:=h2 (i+1) (by simpa using h5) (by omega)
     simpa using this) (by simpa using h3)]
 rw[this L k hk (fun i h5 h6=>by rw[←e i h5];exact hno i h6) (by rw[←e k hk];exact h)]
theorem idI_none {α:Type} {x0:α} {p:α→Bool} {L:List α} (hno:∀i,i<L.length→p (L.getD i x0)=false):L.any p=false∧idI p L = -1:=by
 have h1:L.any p=false:=by
  rw[Bool.eq_false_iff]
  intro h
  obtain ⟨x,hx,hd⟩:=List.any_eq_true.1 h
  obtain ⟨i,hi,rfl⟩:=List.getElem_of_mem hx
  have:=hno i hi
  rw[List.getD,gEe hi] at this
  rw[show p L[i]=false from this] at hd
  cases hd
 refine⟨h1,?_⟩
 unfold idI
 rw[if_neg (by rw[h1];simp)]
theorem idI_ge {α:Type} (p:α→Bool) (L:List α):decide (idI p L≥0)=L.any p:=by
 unfold idI
 cases h:L.any p with
 | true=>rw[if_pos rfl,dEt];omega
 | false=>rfl
def rdS (d:DV):ByteArray:=match d with | .con (.string s)=>s|_=>.empty
def rdW (d:DV):List ByteArray:=match d with | .slc _ n f=>(List.range n).map fun i=>rdS (f i)|_=>[]
theorem rdW_eq (l:List ByteArray):rdW (wdD l)=l:=by
 unfold rdW
 refine List.ext_getElem (by simp) fun i h1 h2=>?_
 rw[List.getElem_map,List.getElem_range]
 unfold stF
 rw[List.getD,gEe h2];rfl
/-! Slices of strings and a test. -/
noncomputable def orcW (p:ByteArray→Bool) (l:List ByteArray):Oracle:=fun f a=>match f,a with
 | 148,[.con (.string s)]=>some (db (p s))
 | 98,[.con (.string s),_]=>some (db (p s))
 | 149,[_,_]=>some (di (idI p l))
 | _,_=>none
noncomputable def S101a (l:List ByteArray) (k:Nat):AS:=⟨regs Tryz.f149.ntmps [(0,.d (wdD l)),(1,.d (.con (.func (.func 148) #[] #[]))),(7,vi l.length),(8,vi k)],[]⟩
theorem f149a (p:ByteArray→Bool) (l:List ByteArray) (hl:l.length≤1000000) (hc:∀i,i<l.length→FnOK Tryz.prog G 148 [ds (l.getD i .empty)] (db (p (l.getD i .empty)))):FnOK Tryz.prog G 149 [wdD l,(.con (.func (.func 148) #[] #[]))] (di (idI p l)):=by
 refine FnOK.walk (orc:=orcW p l) (keep:=[]) follows Tryz.func149 rfl Tryz.call149 ?_
 refine of_tr (fun ZT ZW ZQ _=>ZW [cd Tryz.f149 [1,0,1,0],(.blk 0),cd Tryz.f149 [1,1]] (stS ZT []) ZQ) (by kernel_rfl) ?_
 refine AWP.loop (c:=cAt (bodyOf Tryz.f149) [1,0,1,0,0]) (by kernel_rfl) (S101a l) (fun k=>k≤l.length∧∀i,i<k→p (l.getD i .empty)=false) (fun k=>l.length-k) 0 ?_ ⟨Nat.zero_le _,fun i hi=>by omega⟩ ?_
 ·exact AS.leA (by kernel_rfl)
 ·rintro k ⟨hk,hkd⟩
  refine walk (orc:=orcW p l) (keep:=[]) (cuts:=[]) (n:=1000) follows ?_
  refine of_rd (fun ZT ZW ZQ ZK ZA _=>(fun Za=>((((decide ((↑k:Int)<↑l.length))=true)→((((0≤(↑k:Int))∧((↑k:Int)<↑l.length))∧ZK 148 [(ds Za)] (db (p Za)))∧(((p Za)=true)→(((di (↑k)):DV)=(di (idI p l))))∧(((p Za)=false)→((I64 (↑k+1))∧(ZA (stS ZT [0,1]))))))∧(((decide ((↑k:Int)<↑l.length))=false)→ZW [cd Tryz.f149 [1,1]] (stS ZT [1]) ZQ))) (l.getD (↑k:Int).toNat ByteArray.empty)) (by kernel_rfl) ?_
  simp only[iTn]
  refine⟨fun h=>?_,fun h=>?_⟩
  ·have hk2:k<l.length:=by have:=oDt h;omega
   refine⟨⟨⟨by omega,by omega⟩,hc k hk2⟩,fun h2=>?_,fun h2=>⟨⟨by omega,by omega⟩,Again.mk (k+1) ?_ ⟨hk2,fun i hi=>?_⟩ (by omega)⟩⟩
   ·rw[(idI_hit hk2 hkd h2).2]
   ·exact AS.leA (by kernel_rfl)
   ·rcases Nat.lt_or_ge i k with h4|h4
    ·exact hkd i h4
    ·obtain rfl:i=k:=by omega
     exact h2
  ·simp only[decide_eq_false_iff_not] at h
   have hst:=idI_none (p:=p) (L:=l) (x0:=.empty) fun i hi=>hkd i (by omega)
   refine walk (orc:=orcW p l) (keep:=[]) (cuts:=[]) (n:=1000) follows ?_
   refine of_tr (fun _ _ _ _=>(((di (-1)):DV)=(di (idI p l)))) (by kernel_rfl) ?_
   rw[hst.2]
theorem f97a (p:ByteArray→Bool) (l:List ByteArray) (hl:l.length≤1000000) (hc:∀i,i<l.length→FnOK Tryz.prog G 148 [ds (l.getD i .empty)] (db (p (l.getD i .empty)))):FnOK Tryz.prog G 97 [wdD l,(.con (.func (.func 148) #[] #[]))] (db (l.any p)):=by
 refine FnOK.walk (orc:=orcW p l) (keep:=[]) follows Tryz.func97 rfl Tryz.call97 ?_
 refine of_tr (fun _ _ _ ZK=>(ZK 149 [(.slc 1 l.length (stF l)),(.con (.func (.func 148) ⟨[]⟩ ⟨[]⟩))] (di (idI p l))∧((db (decide (idI p l≥0))):DV)=(db (l.any p)))) (by kernel_rfl) ?_
 refine⟨f149a p l hl hc,?_⟩
 rw[idI_ge]
noncomputable def S101b (l:List ByteArray) (c:DV) (k:Nat):AS:=⟨regs Tryz.f149.ntmps [(0,.d (wdD l)),(1,.d (.clo (.func 98) [] [c])),(7,vi l.length),(8,vi k)],[]⟩
theorem f149b (p:ByteArray→Bool) (l:List ByteArray) (c:DV) (hl:l.length≤1000000) (hc:∀i,i<l.length→FnOK Tryz.prog G 98 [ds (l.getD i .empty),c] (db (p (l.getD i .empty)))):FnOK Tryz.prog G 149 [wdD l,(.clo (.func 98) [] [c])] (di (idI p l)):=by
 refine FnOK.walk (orc:=orcW p l) (keep:=[]) follows Tryz.func149 rfl Tryz.call149 ?_
 refine of_tr (fun ZT ZW ZQ _=>ZW [cd Tryz.f149 [1,0,1,0],(.blk 0),cd Tryz.f149 [1,1]] (stS ZT []) ZQ) (by kernel_rfl) ?_
 refine AWP.loop (c:=cAt (bodyOf Tryz.f149) [1,0,1,0,0]) (by kernel_rfl) (S101b l c) (fun k=>k≤l.length∧∀i,i<k→p (l.getD i .empty)=false) (fun k=>l.length-k) 0 ?_ ⟨Nat.zero_le _,fun i hi=>by omega⟩ ?_
 ·exact AS.leA (by kernel_rfl)
 ·rintro k ⟨hk,hkd⟩
  refine walk (orc:=orcW p l) (keep:=[]) (cuts:=[]) (n:=1000) follows ?_
  refine of_rd (fun ZT ZW ZQ ZK ZA _=>(fun Za=>((((decide ((↑k:Int)<↑l.length))=true)→((((0≤(↑k:Int))∧((↑k:Int)<↑l.length))∧ZK 98 [(ds Za),c] (db (p Za)))∧(((p Za)=true)→(((di (↑k)):DV)=(di (idI p l))))∧(((p Za)=false)→((I64 (↑k+1))∧(ZA (stS ZT [0,1]))))))∧(((decide ((↑k:Int)<↑l.length))=false)→ZW [cd Tryz.f149 [1,1]] (stS ZT [1]) ZQ))) (l.getD (↑k:Int).toNat ByteArray.empty)) (by kernel_rfl) ?_
  simp only[iTn]
  refine⟨fun h=>?_,fun h=>?_⟩
  ·have hk2:k<l.length:=by have:=oDt h;omega
   refine⟨⟨⟨by omega,by omega⟩,hc k hk2⟩,fun h2=>?_,fun h2=>⟨⟨by omega,by omega⟩,Again.mk (k+1) ?_ ⟨hk2,fun i hi=>?_⟩ (by omega)⟩⟩
   ·rw[(idI_hit hk2 hkd h2).2]
   ·exact AS.leA (by kernel_rfl)
   ·rcases Nat.lt_or_ge i k with h4|h4
    ·exact hkd i h4
    ·obtain rfl:i=k:=by omega
     exact h2
  ·simp only[decide_eq_false_iff_not] at h
   have hst:=idI_none (p:=p) (L:=l) (x0:=.empty) fun i hi=>hkd i (by omega)
   refine walk (orc:=orcW p l) (keep:=[]) (cuts:=[]) (n:=1000) follows ?_
   refine of_tr (fun _ _ _ _=>(((di (-1)):DV)=(di (idI p l)))) (by kernel_rfl) ?_
   rw[hst.2]
theorem f97b (p:ByteArray→Bool) (l:List ByteArray) (c:DV) (hl:l.length≤1000000) (hc:∀i,i<l.length→FnOK Tryz.prog G 98 [ds (l.getD i .empty),c] (db (p (l.getD i .empty)))):FnOK Tryz.prog G 97 [wdD l,(.clo (.func 98) [] [c])] (db (l.any p)):=by
 refine FnOK.walk (orc:=orcW p l) (keep:=[]) follows Tryz.func97 rfl Tryz.call97 ?_
 refine of_tr (fun _ _ _ ZK=>(ZK 149 [(.slc 1 l.length (stF l)),(.clo (.func 98) [] [c])] (di (idI p l))∧((db (decide (idI p l≥0))):DV)=(db (l.any p)))) (by kernel_rfl) ?_
 refine⟨f149b p l c hl hc,?_⟩
 rw[idI_ge]
noncomputable def orcF (p:Fc→Bool) (l:List Fc):Oracle:=fun f a=>match f,a with
 | 95,[.agg [.con (.string a),.con (.int .i64 b),.con (.int .i64 c),.con (.int .i64 d),.con (.int .i64 e),.con (.int .i64 f),w],_]=>some (db (p ⟨a,b,c,d,e,f,rdW w⟩))
 | 146,[_,_]=>some (di (idI p l))
 | _,_=>none
noncomputable def S97a (l:List Fc) (c:DV) (k:Nat):AS:=⟨regs Tryz.f146.ntmps [(0,.d (fcsD l)),(1,.d (.clo (.func 95) [] [c])),(7,vi l.length),(8,vi k)],[]⟩
theorem f146a (p:Fc→Bool) (l:List Fc) (c:DV) (hl:l.length≤1000000) (hc:∀i,i<l.length→FnOK Tryz.prog G 95 [fcD (l.getD i fc0),c] (db (p (l.getD i fc0)))):FnOK Tryz.prog G 146 [fcsD l,(.clo (.func 95) [] [c])] (di (idI p l)):=by
 refine FnOK.walk (orc:=orcF p l) (keep:=[]) follows Tryz.func146 rfl Tryz.call146 ?_
 refine of_tr (fun ZT ZW ZQ _=>ZW [cd Tryz.f146 [1,0,1,0],(.blk 0),cd Tryz.f146 [1,1]] (stS ZT []) ZQ) (by kernel_rfl) ?_
 refine AWP.loop (c:=cAt (bodyOf Tryz.f146) [1,0,1,0,0]) (by kernel_rfl) (S97a l c) (fun k=>k≤l.length∧∀i,i<k→p (l.getD i fc0)=false) (fun k=>l.length-k) 0 ?_ ⟨Nat.zero_le _,fun i hi=>by omega⟩ ?_
 ·exact AS.leA (by kernel_rfl)
 ·rintro k ⟨hk,hkd⟩
  refine walk (orc:=orcF p l) (keep:=[]) (cuts:=[]) (n:=1000) follows ?_
  refine of_rd (fun ZT ZW ZQ ZK ZA _=>(fun Za=>((((decide ((↑k:Int)<↑l.length))=true)→((((0≤(↑k:Int))∧((↑k:Int)<↑l.length))∧ZK 95 [(fcD (l.getD (↑k:Int).toNat fc0)),c] (db Za))∧((Za=true)→(((di (↑k)):DV)=(di (idI p l))))∧((Za=false)→((I64 (↑k+1))∧(ZA (stS ZT [0,1]))))))∧(((decide ((↑k:Int)<↑l.length))=false)→ZW [cd Tryz.f146 [1,1]] (stS ZT [1]) ZQ))) (p (Fc.mk (l.getD (↑k:Int).toNat fc0).name (l.getD (↑k:Int).toNat fc0).kind (l.getD (↑k:Int).toNat fc0).ln (l.getD (↑k:Int).toNat fc0).ld (l.getD (↑k:Int).toNat fc0).hn (l.getD (↑k:Int).toNat fc0).hd (rdW (wdD (l.getD (↑k:Int).toNat fc0).words))))) (by kernel_rfl) ?_
  simp only[iTn,rdW_eq]
  refine⟨fun h=>?_,fun h=>?_⟩
  ·have hk2:k<l.length:=by have:=oDt h;omega
   refine⟨⟨⟨by omega,by omega⟩,hc k hk2⟩,fun h2=>?_,fun h2=>⟨⟨by omega,by omega⟩,Again.mk (k+1) ?_ ⟨hk2,fun i hi=>?_⟩ (by omega)⟩⟩
   ·rw[(idI_hit hk2 hkd h2).2]
   ·exact AS.leA (by kernel_rfl)
   ·rcases Nat.lt_or_ge i k with h4|h4
    ·exact hkd i h4
    ·obtain rfl:i=k:=by omega
     exact h2
  ·simp only[decide_eq_false_iff_not] at h
   have hst:=idI_none (p:=p) (L:=l) (x0:=fc0) fun i hi=>hkd i (by omega)
   refine walk (orc:=orcF p l) (keep:=[]) (cuts:=[]) (n:=1000) follows ?_
   refine of_tr (fun _ _ _ _=>(((di (-1)):DV)=(di (idI p l)))) (by kernel_rfl) ?_
   rw[hst.2]
theorem f94a (p:Fc→Bool) (l:List Fc) (c:DV) (hl:l.length≤1000000) (hc:∀i,i<l.length→FnOK Tryz.prog G 95 [fcD (l.getD i fc0),c] (db (p (l.getD i fc0)))):FnOK Tryz.prog G 94 [fcsD l,(.clo (.func 95) [] [c])] (db (l.any p)):=by
 refine FnOK.walk (orc:=orcF p l) (keep:=[]) follows Tryz.func94 rfl Tryz.call94 ?_
 refine of_tr (fun _ _ _ ZK=>(ZK 146 [(.slc 7 l.length (fcF l)),(.clo (.func 95) [] [c])] (di (idI p l))∧((db (decide (idI p l≥0))):DV)=(db (l.any p)))) (by kernel_rfl) ?_
 refine⟨f146a p l c hl hc,?_⟩
 rw[idI_ge]
open Go Go.Ab
set_option maxHeartbeats 1000000
variable {G:IH}
@[match_pattern] abbrev fn (k:Nat):DV:=.con (.func (.func k) #[] #[])
def opr (okk:Bool) (x:Int×Int):FE:=if okk then (if x.2=0 then (0,0,2) else red x.1 x.2) else (0,0,1)
def opF (k:Nat) (a b c d:Int):Int×Int:=match k with
 | 132=>(a*d+c*b,b*d)
 | 134=>(a*c,b*d)
 | 133=>(a*d-c*b,b*d)
 | _=>(a*d,b*c)
def orc2:Oracle
 | 132,[fr a b,fr c d]=>some (.tup [di (opF 132 a b c d).1,di (opF 132 a b c d).2])
 | 134,[fr a b,fr c d]=>some (.tup [di (opF 134 a b c d).1,di (opF 134 a b c d).2])
 | 133,[fr a b,fr c d]=>some (.tup [di (opF 133 a b c d).1,di (opF 133 a b c d).2])
 | 135,[fr a b,fr c d]=>some (.tup [di (opF 135 a b c d).1,di (opF 135 a b c d).2])
 | 131,[fn k]=>some (.clo (.func 166) [] [.ptr [fn k]])
 | 166,[fr a b,fr c d,.ptr [fn k]]=>some (fe (opr (ok a b&&ok c d) (opF k a b c d)))
 | f,l=>orc f l
theorem mb {x y:Int} (A B:Nat) (hx:-(A:Int)≤x∧x≤A) (hy:-(B:Int)≤y∧y≤B):-((A*B:Nat):Int)≤x*y∧x*y≤((A*B:Nat):Int):=by
 have h1:x.natAbs≤A:=by omega
 have h2:y.natAbs≤B:=by omega
 have h3:=Nat.mul_le_mul h1 h2
 rw[←Int.natAbs_mul] at h3
 omega
theorem f131 (k:Nat):FnOK Tryz.prog G 131 [fn k] (.clo (.func 166) [] [.ptr [fn k]]):=by
 refine FnOK.walk (orc:=orc2) (keep:=[]) follows Tryz.func131 rfl Tryz.call131 ?_
 refine of_tr (fun _ _ _ _=>(ZS ((.clo (.func 166) [] [(.ptr [(fn k)])]):DV))) (by kernel_rfl) ?_
 rfl
theorem okb {n d:Int} (h:ok n d=true):(-((1000000000:Nat):Int)≤n∧n≤((1000000000:Nat):Int))∧(-((1000000:Nat):Int)≤d∧d≤((1000000:Nat):Int)):=by
 have:=ok_spec h;omega
theorem f132 (a b c d:Int) (h1:ok a b=true) (h2:ok c d=true):FnOK Tryz.prog G 132 [fr a b,fr c d] (.tup [di (opF 132 a b c d).1,di (opF 132 a b c d).2]):=by
 refine FnOK.walk (orc:=orc2) (keep:=[]) follows Tryz.func132 rfl Tryz.call132 ?_
 refine of_tr (fun _ _ _ _=>(((I64 (a*d))∧(I64 (c*b))∧(I64 (a*d+c*b))∧(I64 (b*d)))∧((.tup [(di (a*d+c*b)),(di (b*d))]):DV)=(.tup [(di (opF 132 a b c d).fst),(di (opF 132 a b c d).snd)]))) (by kernel_rfl) ?_
 have m0:=mb _ _ (okb h1).1 (okb h2).2
 have m1:=mb _ _ (okb h2).1 (okb h1).2
 have m2:=mb _ _ (okb h1).2 (okb h2).2
 exact⟨⟨⟨by omega,by omega⟩,⟨by omega,by omega⟩,⟨by omega,by omega⟩,by omega,by omega⟩,rfl⟩
theorem opR101 {a b c d:Int} (h1:ok a b=true) (h2:ok c d=true):R64 (opF 132 a b c d).1∧R64 (opF 132 a b c d).2:=by
 have m0:=mb _ _ (okb h1).1 (okb h2).2
 have m1:=mb _ _ (okb h2).1 (okb h1).2
 have m2:=mb _ _ (okb h1).2 (okb h2).2
 simp only[opF]
 exact⟨⟨by omega,by omega⟩,by omega,by omega⟩
theorem f166_101 (a b c d:Int):FnOK Tryz.prog G 166 [fr a b,fr c d,.ptr [fn 132]] (fe (opr (ok a b&&ok c d) (opF 132 a b c d))):=by
 refine FnOK.walk (orc:=orc2) (keep:=[]) follows Tryz.func166 rfl Tryz.call166 ?_
 refine of_tr (fun _ _ _ ZK=>(fun Za Zb=>((ZK 137 [(.agg [(di a),(di b)])] (db (ok a b))∧(((!!ok a b)=true)→ZK 137 [(.agg [(di c),(di d)])] (db (ok c d))))∧(((!ok a b||!ok c d)=true)→(((.tup [(.agg [(di 0),(di 0)]),(di 1)]):DV)=Zb))∧(((!ok a b||!ok c d)=false)→(ZK 132 [(.agg [(di a),(di b)]),(.agg [(di c),(di d)])] (.tup [(di (a*d+c*b)),(di (b*d))])∧(((b*d==0)=true)→(((.tup [(.agg [(di 0),(di 0)]),(di 2)]):DV)=Zb))∧(((b*d==0)=false)→(ZK 167 [(di (a*d+c*b)),(di (b*d))] Za∧(Za:DV)=Zb)))))) ((.tup [(.agg [(di (red (a*d+c*b) (b*d)).fst),(di (red (a*d+c*b) (b*d)).snd.fst)]),(di (red (a*d+c*b) (b*d)).snd.snd)]):DV) (fe (opr (ok a b&&ok c d) (opF 132 a b c d)))) (by kernel_rfl) ?_
 refine⟨⟨f137 a b,fun _=>f137 c d⟩,fun h=>?_,fun h=>?_⟩
 ·have h:(ok a b&&ok c d)=false:=by cases ha:ok a b<;>cases hc:ok c d<;>simp_all
  rw[h];rfl
 ·have h1:ok a b=true:=by cases ha:ok a b<;>simp_all
  have h2:ok c d=true:=by cases ha:ok c d<;>simp_all
  rw[h1,h2]
  have hr:=opR101 h1 h2
  refine⟨f132 a b c d h1 h2,fun h=>?_,fun h=>⟨f167 _ _ (by simpa using h) hr.1 hr.2,?_⟩⟩
  ·simp only[opr,opF];rw[if_pos (show (true&&true)=true from rfl),if_pos (by simpa using h)];rfl
  ·simp only[opr,opF];rw[if_pos (show (true&&true)=true from rfl),if_neg (by simpa using h)];rfl
theorem f76 (a b c d:Int):FnOK Tryz.prog G 76 [fr a b,fr c d] (fe (opr (ok a b&&ok c d) (opF 132 a b c d))):=by
 refine FnOK.walk (orc:=orc2) (keep:=[]) follows Tryz.func76 rfl Tryz.call76 ?_
 refine of_tr (fun _ _ _ ZK=>(fun Za Zb=>((ZK 131 [Zb] (.clo (.func 166) [] [(.ptr [Zb])])∧ZK 166 [(.agg [(di a),(di b)]),(.agg [(di c),(di d)]),(.ptr [Zb])] (.tup [(.agg [(di Za.fst),(di Za.snd.fst)]),(di Za.snd.snd)]))∧((.tup [(.agg [(di Za.fst),(di Za.snd.fst)]),(di Za.snd.snd)]):DV)=(fe Za))) (opr (ok a b&&ok c d) (opF 132 a b c d)) ((.con (.func (.func 132) ⟨[]⟩ ⟨[]⟩)):DV)) (by kernel_rfl) ?_
 exact⟨⟨f131 132,f166_101 a b c d⟩,rfl⟩
theorem f134 (a b c d:Int) (h1:ok a b=true) (h2:ok c d=true):FnOK Tryz.prog G 134 [fr a b,fr c d] (.tup [di (opF 134 a b c d).1,di (opF 134 a b c d).2]):=by
 refine FnOK.walk (orc:=orc2) (keep:=[]) follows Tryz.func134 rfl Tryz.call134 ?_
 refine of_tr (fun _ _ _ _=>(((I64 (a*c))∧(I64 (b*d)))∧((.tup [(di (a*c)),(di (b*d))]):DV)=(.tup [(di (opF 134 a b c d).fst),(di (opF 134 a b c d).snd)]))) (by kernel_rfl) ?_
 have m0:=mb _ _ (okb h1).1 (okb h2).1
 have m1:=mb _ _ (okb h1).2 (okb h2).2
 exact⟨⟨⟨by omega,by omega⟩,by omega,by omega⟩,rfl⟩
theorem opR79 {a b c d:Int} (h1:ok a b=true) (h2:ok c d=true):R64 (opF 134 a b c d).1∧R64 (opF 134 a b c d).2:=by
 have m0:=mb _ _ (okb h1).1 (okb h2).1
 have m1:=mb _ _ (okb h1).2 (okb h2).2
 simp only[opF]
 exact⟨⟨by omega,by omega⟩,by omega,by omega⟩
theorem f166_79 (a b c d:Int):FnOK Tryz.prog G 166 [fr a b,fr c d,.ptr [fn 134]] (fe (opr (ok a b&&ok c d) (opF 134 a b c d))):=by
 refine FnOK.walk (orc:=orc2) (keep:=[]) follows Tryz.func166 rfl Tryz.call166 ?_
 refine of_tr (fun _ _ _ ZK=>(fun Za Zb=>((ZK 137 [(.agg [(di a),(di b)])] (db (ok a b))∧(((!!ok a b)=true)→ZK 137 [(.agg [(di c),(di d)])] (db (ok c d))))∧(((!ok a b||!ok c d)=true)→(((.tup [(.agg [(di 0),(di 0)]),(di 1)]):DV)=Zb))∧(((!ok a b||!ok c d)=false)→(ZK 134 [(.agg [(di a),(di b)]),(.agg [(di c),(di d)])] (.tup [(di (a*c)),(di (b*d))])∧(((b*d==0)=true)→(((.tup [(.agg [(di 0),(di 0)]),(di 2)]):DV)=Zb))∧(((b*d==0)=false)→(ZK 167 [(di (a*c)),(di (b*d))] Za∧(Za:DV)=Zb)))))) ((.tup [(.agg [(di (red (a*c) (b*d)).fst),(di (red (a*c) (b*d)).snd.fst)]),(di (red (a*c) (b*d)).snd.snd)]):DV) (fe (opr (ok a b&&ok c d) (opF 134 a b c d)))) (by kernel_rfl) ?_
 refine⟨⟨f137 a b,fun _=>f137 c d⟩,fun h=>?_,fun h=>?_⟩
 ·have h:(ok a b&&ok c d)=false:=by cases ha:ok a b<;>cases hc:ok c d<;>simp_all
  rw[h];rfl
 ·have h1:ok a b=true:=by cases ha:ok a b<;>simp_all
  have h2:ok c d=true:=by cases ha:ok c d<;>simp_all
  rw[h1,h2]
  have hr:=opR79 h1 h2
  refine⟨f134 a b c d h1 h2,fun h=>?_,fun h=>⟨f167 _ _ (by simpa using h) hr.1 hr.2,?_⟩⟩
  ·simp only[opr,opF];rw[if_pos (show (true&&true)=true from rfl),if_pos (by simpa using h)];rfl
  ·simp only[opr,opF];rw[if_pos (show (true&&true)=true from rfl),if_neg (by simpa using h)];rfl
theorem f78 (a b c d:Int):FnOK Tryz.prog G 78 [fr a b,fr c d] (fe (opr (ok a b&&ok c d) (opF 134 a b c d))):=by
 refine FnOK.walk (orc:=orc2) (keep:=[]) follows Tryz.func78 rfl Tryz.call78 ?_
 refine of_tr (fun _ _ _ ZK=>(fun Za Zb=>((ZK 131 [Zb] (.clo (.func 166) [] [(.ptr [Zb])])∧ZK 166 [(.agg [(di a),(di b)]),(.agg [(di c),(di d)]),(.ptr [Zb])] (.tup [(.agg [(di Za.fst),(di Za.snd.fst)]),(di Za.snd.snd)]))∧((.tup [(.agg [(di Za.fst),(di Za.snd.fst)]),(di Za.snd.snd)]):DV)=(fe Za))) (opr (ok a b&&ok c d) (opF 134 a b c d)) ((.con (.func (.func 134) ⟨[]⟩ ⟨[]⟩)):DV)) (by kernel_rfl) ?_
 exact⟨⟨f131 134,f166_79 a b c d⟩,rfl⟩
theorem f133 (a b c d:Int) (h1:ok a b=true) (h2:ok c d=true):FnOK Tryz.prog G 133 [fr a b,fr c d] (.tup [di (opF 133 a b c d).1,di (opF 133 a b c d).2]):=by
 refine FnOK.walk (orc:=orc2) (keep:=[]) follows Tryz.func133 rfl Tryz.call133 ?_
 refine of_tr (fun _ _ _ _=>(((I64 (a*d))∧(I64 (c*b))∧(I64 (a*d-c*b))∧(I64 (b*d)))∧((.tup [(di (a*d-c*b)),(di (b*d))]):DV)=(.tup [(di (opF 133 a b c d).fst),(di (opF 133 a b c d).snd)]))) (by kernel_rfl) ?_
 have m0:=mb _ _ (okb h1).1 (okb h2).2
 have m1:=mb _ _ (okb h2).1 (okb h1).2
 have m2:=mb _ _ (okb h1).2 (okb h2).2
 exact⟨⟨⟨by omega,by omega⟩,⟨by omega,by omega⟩,⟨by omega,by omega⟩,by omega,by omega⟩,rfl⟩
theorem opR89 {a b c d:Int} (h1:ok a b=true) (h2:ok c d=true):R64 (opF 133 a b c d).1∧R64 (opF 133 a b c d).2:=by
 have m0:=mb _ _ (okb h1).1 (okb h2).2
 have m1:=mb _ _ (okb h2).1 (okb h1).2
 have m2:=mb _ _ (okb h1).2 (okb h2).2
 simp only[opF]
 exact⟨⟨by omega,by omega⟩,by omega,by omega⟩
theorem f166_89 (a b c d:Int):FnOK Tryz.prog G 166 [fr a b,fr c d,.ptr [fn 133]] (fe (opr (ok a b&&ok c d) (opF 133 a b c d))):=by
 refine FnOK.walk (orc:=orc2) (keep:=[]) follows Tryz.func166 rfl Tryz.call166 ?_
 refine of_tr (fun _ _ _ ZK=>(fun Za Zb=>((ZK 137 [(.agg [(di a),(di b)])] (db (ok a b))∧(((!!ok a b)=true)→ZK 137 [(.agg [(di c),(di d)])] (db (ok c d))))∧(((!ok a b||!ok c d)=true)→(((.tup [(.agg [(di 0),(di 0)]),(di 1)]):DV)=Zb))∧(((!ok a b||!ok c d)=false)→(ZK 133 [(.agg [(di a),(di b)]),(.agg [(di c),(di d)])] (.tup [(di (a*d-c*b)),(di (b*d))])∧(((b*d==0)=true)→(((.tup [(.agg [(di 0),(di 0)]),(di 2)]):DV)=Zb))∧(((b*d==0)=false)→(ZK 167 [(di (a*d-c*b)),(di (b*d))] Za∧(Za:DV)=Zb)))))) ((.tup [(.agg [(di (red (a*d-c*b) (b*d)).fst),(di (red (a*d-c*b) (b*d)).snd.fst)]),(di (red (a*d-c*b) (b*d)).snd.snd)]):DV) (fe (opr (ok a b&&ok c d) (opF 133 a b c d)))) (by kernel_rfl) ?_
 refine⟨⟨f137 a b,fun _=>f137 c d⟩,fun h=>?_,fun h=>?_⟩
 ·have h:(ok a b&&ok c d)=false:=by cases ha:ok a b<;>cases hc:ok c d<;>simp_all
  rw[h];rfl
 ·have h1:ok a b=true:=by cases ha:ok a b<;>simp_all
  have h2:ok c d=true:=by cases ha:ok c d<;>simp_all
  rw[h1,h2]
  have hr:=opR89 h1 h2
  refine⟨f133 a b c d h1 h2,fun h=>?_,fun h=>⟨f167 _ _ (by simpa using h) hr.1 hr.2,?_⟩⟩
  ·simp only[opr,opF];rw[if_pos (show (true&&true)=true from rfl),if_pos (by simpa using h)];rfl
  ·simp only[opr,opF];rw[if_pos (show (true&&true)=true from rfl),if_neg (by simpa using h)];rfl
theorem f77 (a b c d:Int):FnOK Tryz.prog G 77 [fr a b,fr c d] (fe (opr (ok a b&&ok c d) (opF 133 a b c d))):=by
 refine FnOK.walk (orc:=orc2) (keep:=[]) follows Tryz.func77 rfl Tryz.call77 ?_
 refine of_tr (fun _ _ _ ZK=>(fun Za Zb=>((ZK 131 [Zb] (.clo (.func 166) [] [(.ptr [Zb])])∧ZK 166 [(.agg [(di a),(di b)]),(.agg [(di c),(di d)]),(.ptr [Zb])] (.tup [(.agg [(di Za.fst),(di Za.snd.fst)]),(di Za.snd.snd)]))∧((.tup [(.agg [(di Za.fst),(di Za.snd.fst)]),(di Za.snd.snd)]):DV)=(fe Za))) (opr (ok a b&&ok c d) (opF 133 a b c d)) ((.con (.func (.func 133) ⟨[]⟩ ⟨[]⟩)):DV)) (by kernel_rfl) ?_
 exact⟨⟨f131 133,f166_89 a b c d⟩,rfl⟩
theorem f135 (a b c d:Int) (h1:ok a b=true) (h2:ok c d=true):FnOK Tryz.prog G 135 [fr a b,fr c d] (.tup [di (opF 135 a b c d).1,di (opF 135 a b c d).2]):=by
 refine FnOK.walk (orc:=orc2) (keep:=[]) follows Tryz.func135 rfl Tryz.call135 ?_
 refine of_tr (fun _ _ _ _=>(((I64 (a*d))∧(I64 (b*c)))∧((.tup [(di (a*d)),(di (b*c))]):DV)=(.tup [(di (opF 135 a b c d).fst),(di (opF 135 a b c d).snd)]))) (by kernel_rfl) ?_
 have m0:=mb _ _ (okb h1).1 (okb h2).2
 have m1:=mb _ _ (okb h1).2 (okb h2).1
 exact⟨⟨⟨by omega,by omega⟩,by omega,by omega⟩,rfl⟩
theorem opR133 {a b c d:Int} (h1:ok a b=true) (h2:ok c d=true):R64 (opF 135 a b c d).1∧R64 (opF 135 a b c d).2:=by
 have m0:=mb _ _ (okb h1).1 (okb h2).2
 have m1:=mb _ _ (okb h1).2 (okb h2).1
 simp only[opF]
 exact⟨⟨by omega,by omega⟩,by omega,by omega⟩
theorem f166_133 (a b c d:Int):FnOK Tryz.prog G 166 [fr a b,fr c d,.ptr [fn 135]] (fe (opr (ok a b&&ok c d) (opF 135 a b c d))):=by
 refine FnOK.walk (orc:=orc2) (keep:=[]) follows Tryz.func166 rfl Tryz.call166 ?_
 refine of_tr (fun _ _ _ ZK=>(fun Za Zb=>((ZK 137 [(.agg [(di a),(di b)])] (db (ok a b))∧(((!!ok a b)=true)→ZK 137 [(.agg [(di c),(di d)])] (db (ok c d))))∧(((!ok a b||!ok c d)=true)→(((.tup [(.agg [(di 0),(di 0)]),(di 1)]):DV)=Zb))∧(((!ok a b||!ok c d)=false)→(ZK 135 [(.agg [(di a),(di b)]),(.agg [(di c),(di d)])] (.tup [(di (a*d)),(di (b*c))])∧(((b*c==0)=true)→(((.tup [(.agg [(di 0),(di 0)]),(di 2)]):DV)=Zb))∧(((b*c==0)=false)→(ZK 167 [(di (a*d)),(di (b*c))] Za∧(Za:DV)=Zb)))))) ((.tup [(.agg [(di (red (a*d) (b*c)).fst),(di (red (a*d) (b*c)).snd.fst)]),(di (red (a*d) (b*c)).snd.snd)]):DV) (fe (opr (ok a b&&ok c d) (opF 135 a b c d)))) (by kernel_rfl) ?_
 refine⟨⟨f137 a b,fun _=>f137 c d⟩,fun h=>?_,fun h=>?_⟩
 ·have h:(ok a b&&ok c d)=false:=by cases ha:ok a b<;>cases hc:ok c d<;>simp_all
  rw[h];rfl
 ·have h1:ok a b=true:=by cases ha:ok a b<;>simp_all
  have h2:ok c d=true:=by cases ha:ok c d<;>simp_all
  rw[h1,h2]
  have hr:=opR133 h1 h2
  refine⟨f135 a b c d h1 h2,fun h=>?_,fun h=>⟨f167 _ _ (by simpa using h) hr.1 hr.2,?_⟩⟩
  ·simp only[opr,opF];rw[if_pos (show (true&&true)=true from rfl),if_pos (by simpa using h)];rfl
  ·simp only[opr,opF];rw[if_pos (show (true&&true)=true from rfl),if_neg (by simpa using h)];rfl
theorem f79 (a b c d:Int):FnOK Tryz.prog G 79 [fr a b,fr c d] (fe (opr (ok a b&&ok c d) (opF 135 a b c d))):=by
 refine FnOK.walk (orc:=orc2) (keep:=[]) follows Tryz.func79 rfl Tryz.call79 ?_
 refine of_tr (fun _ _ _ ZK=>(fun Za Zb=>((ZK 131 [Zb] (.clo (.func 166) [] [(.ptr [Zb])])∧ZK 166 [(.agg [(di a),(di b)]),(.agg [(di c),(di d)]),(.ptr [Zb])] (.tup [(.agg [(di Za.fst),(di Za.snd.fst)]),(di Za.snd.snd)]))∧((.tup [(.agg [(di Za.fst),(di Za.snd.fst)]),(di Za.snd.snd)]):DV)=(fe Za))) (opr (ok a b&&ok c d) (opF 135 a b c d)) ((.con (.func (.func 135) ⟨[]⟩ ⟨[]⟩)):DV)) (by kernel_rfl) ?_
 exact⟨⟨f131 135,f166_133 a b c d⟩,rfl⟩
open Go Go.Ab
theorem dvd_cop {q p d:Int} (h:q∣p*d) (g:Int.gcd q p=1):q∣d:=by
 have:=Int.dvd_coe_gcd (a:=q*d) (b:=p*d) (c:=q) ⟨d,rfl⟩ h
 rw[Int.gcd_mul_right,g,Nat.one_mul] at this
 exact Int.dvd_natAbs.1 this
def qv (n d:Int):Rat:=(n:Rat) / (d:Rat)
theorem cast_ne {d:Int} (h:d≠0):(d:Rat)≠0:=by
 intro hh;exact h (by exact_mod_cast hh)
theorem qv_eq {p q n d:Int} (hq:q≠0) (hd:d≠0):qv p q=qv n d↔p*d=n*q:=by
 have h1:=cast_ne hq
 have h2:=cast_ne hd
 unfold qv
 constructor
 ·intro h
  have:(p:Rat)*d=n*q:=by grind
  exact_mod_cast this
 ·intro h
  have:(p:Rat)*d=n*q:=by exact_mod_cast h
  grind
theorem ok_pos {n d:Int} (h:ok n d=true):0<d:=by have:=ok_spec h;omega
theorem ok_uniq {p q n d:Int} (h1:ok p q=true) (h2:ok n d=true) (h:qv p q=qv n d):p=n∧q=d:=by
 have hq:=ok_pos h1
 have hd:=ok_pos h2
 rw[qv_eq (by omega) (by omega)] at h
 have g1:=(ok_spec h1).2.2.2.2
 have g2:=(ok_spec h2).2.2.2.2
 have d1:q∣d:=by
  have:q∣p*d:=⟨n,by rw[h,Int.mul_comm]⟩
  exact dvd_cop this (by rw[Int.gcd_comm];exact g1)
 have d2:d∣q:=by
  have:d∣n*q:=⟨p,by rw[←h,Int.mul_comm]⟩
  exact dvd_cop this (by rw[Int.gcd_comm];exact g2)
 have hqd:q=d:=Int.le_antisymm (Int.le_of_dvd hd d1) (Int.le_of_dvd hq d2)
 subst hqd
 exact⟨Int.eq_of_mul_eq_mul_right (by omega) h,rfl⟩
theorem red1_spec {n d:Int} (hd:0<d):(∀p q,ok p q=true→qv p q=qv n d→red1 n d=(p,q,0))∧((red1 n d).2.2=0→ok (red1 n d).1 (red1 n d).2.1=true∧qv (red1 n d).1 (red1 n d).2.1=qv n d)∧((red1 n d).2.2≠0→red1 n d=(0,0,2)):=by
 have hg:=gcd_pos' (n:=n) hd
 obtain ⟨a,ha⟩:=Int.gcd_dvd_left (a:=n) (b:=d)
 obtain ⟨b,hb⟩:=Int.gcd_dvd_right (a:=n) (b:=d)
 have e1:n.tdiv (Int.gcd n d)=a:=by rw[show n.tdiv (Int.gcd n d)=((Int.gcd n d:Int)*a).tdiv (Int.gcd n d) by rw[←ha]];exact Int.mul_tdiv_cancel_left a (by omega)
 have e2:d.tdiv (Int.gcd n d)=b:=by rw[show d.tdiv (Int.gcd n d)=((Int.gcd n d:Int)*b).tdiv (Int.gcd n d) by rw[←hb]];exact Int.mul_tdiv_cancel_left b (by omega)
 have hb0:0<b:=by
  rcases Int.lt_or_le 0 b with h|h
  ·exact h
  ·have:=Int.mul_nonpos_of_nonneg_of_nonpos (Int.le_of_lt hg) h;omega
 have hv:qv a b=qv n d:=by
  rw[qv_eq (by omega) (by omega)]
  generalize (Int.gcd n d:Int)=g at *
  rw[ha,hb];grind
 have hgab:Int.gcd a b=1:=by
  have h3:Int.gcd (n / (Int.gcd n d)) (d / (Int.gcd n d))=1:=Int.gcd_ediv_gcd_ediv_gcd_of_ne_zero_right (by omega)
  rw[←Int.tdiv_eq_ediv_of_dvd (Int.gcd_dvd_left ..),←Int.tdiv_eq_ediv_of_dvd (Int.gcd_dvd_right ..),e1,e2] at h3
  exact h3
 unfold red1
 rw[e1,e2]
 refine⟨fun p q hok hpq=>?_,?_,?_⟩
 ·have hq:=ok_pos hok
  have h:=hpq.trans hv.symm
  rw[qv_eq (by omega) (by omega)] at h
  have g1:=(ok_spec hok).2.2.2.2
  have d1:q∣b:=by
   have:q∣p*b:=⟨a,by rw[h,Int.mul_comm]⟩
   exact dvd_cop this (by rw[Int.gcd_comm];exact g1)
  have d2:b∣q:=by
   have:b∣a*q:=⟨p,by rw[←h,Int.mul_comm]⟩
   exact dvd_cop this (by rw[Int.gcd_comm];exact hgab)
  have hqd:q=b:=Int.le_antisymm (Int.le_of_dvd hb0 d1) (Int.le_of_dvd hq d2)
  subst hqd
  have:p=a:=Int.eq_of_mul_eq_mul_right (by omega) h
  subst this
  rw[if_pos hok]
 ·intro h0
  split at h0
  ·rename_i hok;rw[if_pos hok];exact⟨hok,hv⟩
  ·simp at h0
 ·intro h0
  split at h0
  ·simp at h0
  ·rename_i hok;rw[if_neg hok]
theorem qv_neg (n d:Int):qv (-n) (-d)=qv n d:=by
 unfold qv;rw[Rat.intCast_neg,Rat.intCast_neg];grind
theorem red_spec {n d:Int} (hd:d≠0):(∀p q,ok p q=true→qv p q=qv n d→red n d=(p,q,0))∧((red n d).2.2=0→ok (red n d).1 (red n d).2.1=true∧qv (red n d).1 (red n d).2.1=qv n d)∧((red n d).2.2≠0→red n d=(0,0,2)):=by
 unfold red
 split
 ·have:=red1_spec (n:=-n) (d:=-d) (by omega)
  rw[qv_neg] at this;exact this
 ·exact red1_spec (by omega)
def cmpI (x y:Int):Int:=if x<y then -1 else if y<x then 1 else 0
def addF (a b c d:Int):FE:=opr (ok a b&&ok c d) (opF 132 a b c d)
def mulF (a b c d:Int):FE:=opr (ok a b&&ok c d) (opF 134 a b c d)
def subF (a b c d:Int):FE:=opr (ok a b&&ok c d) (opF 133 a b c d)
def divF (a b c d:Int):FE:=opr (ok a b&&ok c d) (opF 135 a b c d)
def cmpF (a b c d:Int):Int:=if ok a b&&ok c d then cmpI (a*d) (c*b) else 0
def ok2 (a b c d:Int):Bool:=ok a b&&ok c d
theorem den_ne {n d:Int} (h:ok n d=true):d≠0:=by have:=ok_pos h;omega
theorem brec (x y:Bool):(Bool.rec false x y:Bool)=(y&&x):=by cases y<;>rfl
open Go Go.Ab
variable {G:IH}
abbrev fe' (x:FE):DV:=.tup [fr x.1 x.2.1,di x.2.2]
def orc3:Oracle
 | 170,[di _]=>some (db false)
 | 138,[di x,di y]=>some (di (cmpI x y))
 | 81,[fr a b,fr c d]=>some (.tup [di (cmpF a b c d),db (ok2 a b c d)])
 | 25,[fr a b,fr c d]=>some (.tup [di (cmpF a b c d),db (ok2 a b c d)])
 | 76,[fr a b,fr c d]=>some (fe (addF a b c d))
 | 78,[fr a b,fr c d]=>some (fe (mulF a b c d))
 | 77,[fr a b,fr c d]=>some (fe (subF a b c d))
 | f,l=>orc f l
theorem f76' (a b c d:Int):FnOK Tryz.prog G 76 [fr a b,fr c d] (fe' (addF a b c d)):=f76 a b c d
theorem f78' (a b c d:Int):FnOK Tryz.prog G 78 [fr a b,fr c d] (fe' (mulF a b c d)):=f78 a b c d
theorem f77' (a b c d:Int):FnOK Tryz.prog G 77 [fr a b,fr c d] (fe' (subF a b c d)):=f77 a b c d
theorem f79' (a b c d:Int):FnOK Tryz.prog G 79 [fr a b,fr c d] (fe' (divF a b c d)):=f79 a b c d
theorem f170 (x:Int):FnOK Tryz.prog G 170 [di x] (db false):=by
 refine FnOK.walk (orc:=orc3) (keep:=[]) follows Tryz.func170 rfl Tryz.call170 ?_
 refine of_tr (fun _ _ _ _=>(((db (x != x)):DV)=(db false))) (by kernel_rfl) ?_
 simp
theorem f138 (x y:Int):FnOK Tryz.prog G 138 [di x,di y] (di (cmpI x y)):=by
 refine FnOK.walk (orc:=orc3) (keep:=[]) follows Tryz.func138 rfl Tryz.call138 ?_
 refine of_tr (fun _ _ _ ZK=>(ZK 170 [(di x)] (db false)∧ZK 170 [(di y)] (db false)∧((false=true)→(((false=true)→(((di 0):DV)=(di (cmpI x y))))∧((false=false)→(((di (-1)):DV)=(di (cmpI x y))))))∧((false=false)→(((false=true)→(((di 1):DV)=(di (cmpI x y))))∧((false=false)→((((decide (x<y))=true)→(((di (-1)):DV)=(di (cmpI x y))))∧(((decide (x<y))=false)→((((decide (x>y))=true)→(((di 1):DV)=(di (cmpI x y))))∧(((decide (x>y))=false)→(((di 0):DV)=(di (cmpI x y)))))))))))) (by kernel_rfl) ?_
 simp only[f170,cmpI]
 grind
theorem f81 (a b c d:Int):FnOK Tryz.prog G 81 [fr a b,fr c d] (.tup [di (cmpF a b c d),db (ok2 a b c d)]):=by
 refine FnOK.walk (orc:=orc3) (keep:=[]) follows Tryz.func81 rfl Tryz.call81 ?_
 refine of_tr (fun _ _ _ ZK=>((ZK 137 [(.agg [(di a),(di b)])] (db (ok a b))∧(((!!ok a b)=true)→ZK 137 [(.agg [(di c),(di d)])] (db (ok c d))))∧(((!ok a b||!ok c d)=true)→(((.tup [(di 0),(db false)]):DV)=(.tup [(di (cmpF a b c d)),(db (ok2 a b c d))])))∧(((!ok a b||!ok c d)=false)→(((I64 (a*d))∧(I64 (c*b))∧ZK 138 [(di (a*d)),(di (c*b))] (di (cmpI (a*d) (c*b))))∧((.tup [(di (cmpI (a*d) (c*b))),(db true)]):DV)=(.tup [(di (cmpF a b c d)),(db (ok2 a b c d))]))))) (by kernel_rfl) ?_
 simp only[f137,f138,cmpF,ok2]
 cases h1:ok a b with
 | false=>simp
 | true=>cases h2:ok c d with
  | false=>simp
  | true=>
   have m0:=mb _ _ (okb h1).1 (okb h2).2
   have m1:=mb _ _ (okb h2).1 (okb h1).2
   simp[I64];omega
theorem f25 (a b c d:Int):FnOK Tryz.prog G 25 [fr a b,fr c d] (.tup [di (cmpF a b c d),db (ok2 a b c d)]):=by
 refine FnOK.walk (orc:=orc3) (keep:=[]) follows Tryz.func25 rfl Tryz.call25 ?_
 refine of_tr (fun _ _ _ ZK=>(fun Za=>((ZK 65 [(.agg [(di a),(di b)])] (db (ok a b))∧(((!!ok a b)=true)→ZK 65 [(.agg [(di c),(di d)])] (db (ok c d))))∧(((!ok a b||!ok c d)=true)→(((.tup [(di 0),(db false)]):DV)=Za))∧(((!ok a b||!ok c d)=false)→(((I64 (a*d))∧(I64 (c*b)))∧(((decide (a*d<c*b))=true)→(((.tup [(di (-1)),(db true)]):DV)=Za))∧(((decide (a*d<c*b))=false)→((((decide (a*d>c*b))=true)→(((.tup [(di 1),(db true)]):DV)=Za))∧(((decide (a*d>c*b))=false)→(((.tup [(di 0),(db true)]):DV)=Za)))))))) ((.tup [(di (cmpF a b c d)),(db (ok2 a b c d))]):DV)) (by kernel_rfl) ?_
 simp only[f65,cmpF,ok2]
 cases h1:ok a b with
 | false=>simp
 | true=>cases h2:ok c d with
  | false=>simp
  | true=>
   have m0:=mb _ _ (okb h1).1 (okb h2).2
   have m1:=mb _ _ (okb h2).1 (okb h1).2
   simp[I64,cmpI];grind
set_option maxHeartbeats 4000000
structure FcS (x:Fc):Prop where
 nm:x.name.size≤1000
 ln:x.words.length≤1000
 wd:∀i,i<x.words.length→(x.words.getD i .empty).size≤1000
def zeroB (x:Fc):Bool:=(x.ln==0&&x.ld==0)&&(x.hn==0&&x.hd==0)
def dscB (x:Fc):Bool:=nameB x.name&&(if x.kind=0 then ok2 x.ln x.ld x.hn x.hd&&decide (cmpF x.ln x.ld x.hn x.hd≤0)&&decide (x.words.length=0)
 else if x.kind=1 then zeroB x&&decide (x.words.length=0)
 else if x.kind=2 then zeroB x&&decide (1≤x.words.length)&&decide (x.words.length≤16)&&decide x.words.Nodup&&!x.words.any (fun s=>!nameB s)
 else false)
def ok2O (a b c d:Int):Bool:=ok2 a b c d
def cmpO (a b c d:Int):Int:=cmpF a b c d
def ndB (l:List ByteArray):Bool:=decide l.Nodup
noncomputable def orcDs:Oracle:=fun f a=>match f,a with
 | 147,[.con (.string s)]=>some (db (nameB s))
 | 81,[fr a b,fr c d]=>some (.tup [di (cmpO a b c d),db (ok2O a b c d)])
 | 93,[w]=>some (db (ndB (rdW w)))
 | 97,[w,.con (.func (.func 148) #[] #[])]=>some (db ((rdW w).any fun s=>!nameB s))
 | _,_=>none
theorem f148 (hT:Tab G) (s:ByteArray) (hs:s.size≤1000):FnOK Tryz.prog G 148 [ds s] (db (!nameB s)):=by
 refine FnOK.walk (orc:=orcDs) (keep:=[]) follows Tryz.func148 rfl Tryz.call148 ?_
 refine of_tr (fun _ _ _ ZK=>(ZK 147 [(ds s)] (db (nameB s))∧(ZS ((db !nameB s):DV)))) (by kernel_rfl) ?_
 exact⟨f147 hT s hs,rfl⟩
theorem f96 (hT:Tab G) (x:Fc) (h:FcS x):FnOK Tryz.prog G 96 [fcD x] (db (dscB x)):=by
 refine FnOK.walk (orc:=orcDs) (keep:=[]) follows Tryz.func96 rfl Tryz.call96 ?_
 refine of_tr (fun _ _ _ ZK=>(fun Za=>(ZK 147 [(ds x.name)] (db (nameB x.name))∧(((!nameB x.name)=true)→(((db false):DV)=(db (dscB x))))∧(((!nameB x.name)=false)→((((x.kind==0)=true)→(ZK 81 [(.agg [(di x.ln),(di x.ld)]),(.agg [(di x.hn),(di x.hd)])] (.tup [(di (cmpO x.ln x.ld x.hn x.hd)),(db (ok2O x.ln x.ld x.hn x.hd))])∧((db (ok2O x.ln x.ld x.hn x.hd&&decide (cmpO x.ln x.ld x.hn x.hd≤0)&&(↑x.words.length:Int)==0)):DV)=(db (dscB x))))∧(((x.kind==0)=false)→((((x.kind==1)=true)→(((db (Bool.rec false (x.ld==0) (x.ln==0)&&Bool.rec false (x.hd==0) (x.hn==0)&&(↑x.words.length:Int)==0)):DV)=(db (dscB x))))∧(((x.kind==1)=false)→((((x.kind==2)=true)→(((((Bool.rec false (x.ld==0) (x.ln==0)&&Bool.rec false (x.hd==0) (x.hn==0)&&decide ((↑x.words.length:Int)≥1)&&decide ((↑x.words.length:Int)≤16))=true)→ZK 93 [(.slc 1 x.words.length (stF x.words))] (db (ndB Za)))∧(((Bool.rec false (x.ld==0) (x.ln==0)&&Bool.rec false (x.hd==0) (x.hn==0)&&decide ((↑x.words.length:Int)≥1)&&decide ((↑x.words.length:Int)≤16)&&ndB Za)=true)→ZK 97 [(.slc 1 x.words.length (stF x.words)),(.con (.func (.func 148) ⟨[]⟩ ⟨[]⟩))] (db (Za.any fun s=>!nameB s))))∧((db (Bool.rec false (x.ld==0) (x.ln==0)&&Bool.rec false (x.hd==0) (x.hn==0)&&decide ((↑x.words.length:Int)≥1)&&decide ((↑x.words.length:Int)≤16)&&ndB Za&&!Za.any fun s=>!nameB s)):DV)=(db (dscB x))))∧(((x.kind==2)=false)→(((db false):DV)=(db (dscB x)))))))))))) (rdW (DV.slc 1 x.words.length (stF x.words)))) (by kernel_rfl) ?_
 simp only[rdW_eq]
 have z1:(Bool.rec false (x.ld==0) (x.ln==0):Bool)=(x.ln==0&&x.ld==0):=by cases (x.ln==0)<;>rfl
 have z2:(Bool.rec false (x.hd==0) (x.hn==0):Bool)=(x.hn==0&&x.hd==0):=by cases (x.hn==0)<;>rfl
 have w0:((x.words.length:Int)==0)=decide (x.words.length=0):=by rw[Bool.eq_iff_iff,beq_iff_eq,dEt];omega
 have w1:decide ((x.words.length:Int)≥1)=decide (1≤x.words.length):=by rw[decide_eq_decide];omega
 have w2:decide ((x.words.length:Int)≤16)=decide (x.words.length≤16):=by rw[decide_eq_decide];omega
 rw[z1,z2,w0,w1,w2]
 simp only[beq_iff_eq,beq_eq_false_iff_ne,ne_eq]
 have hl:=h.ln
 unfold dscB zeroB
 refine⟨f147 hT _ h.nm,fun hn=>?_,fun hn=>⟨fun k0=>⟨f81 _ _ _ _,?_⟩,fun k0=>⟨fun k1=>?_,fun k1=>⟨fun k2=>⟨⟨fun _=>f93 _ (by omega),fun _=>f97a (fun s=>!nameB s) x.words (by omega) fun i hi=>f148 hT _ (h.wd i hi)⟩,?_⟩,fun k2=>?_⟩⟩⟩⟩
 ·rw[Bool.not_eq_true'] at hn
  rw[hn];rfl
 ·rw[Bool.not_eq_false'] at hn
  rw[hn,if_pos k0];rfl
 ·rw[Bool.not_eq_false'] at hn
  rw[hn,if_neg k0,if_pos k1];rfl
 ·rw[Bool.not_eq_false'] at hn
  rw[hn,if_neg k0,if_neg k1,if_pos k2];rfl
 ·rw[Bool.not_eq_false'] at hn
  rw[hn,if_neg k0,if_neg k1,if_neg k2];rfl
noncomputable def orcVf:Oracle:=fun f a=>match f,a with
 | 99,[w,.con (.string s)]=>some (db (anyB (rdW w) s))
 | 96,[.agg [.con (.string a),.con (.int .i64 b),.con (.int .i64 c),.con (.int .i64 d),.con (.int .i64 e),.con (.int .i64 f),w]]=>some (db (dscB ⟨a,b,c,d,e,f,rdW w⟩))
 | 97,[w,.clo (.func 98) [] [.ptr [l]]]=>some (db ((rdW w).any fun s=>anyB (rdW l) s))
 | 93,[w]=>some (db (ndB (rdW w)))
 | _,_=>none
theorem f98 (l:List ByteArray) (s:ByteArray) (hl:l.length≤100000):FnOK Tryz.prog G 98 [ds s,.ptr [wdD l]] (db (anyB l s)):=by
 refine FnOK.walk (orc:=orcVf) (keep:=[]) follows Tryz.func98 rfl Tryz.call98 ?_
 refine of_tr (fun _ _ _ ZK=>(ZK 99 [(.slc 1 l.length (stF l)),(ds s)] (db (anyB (rdW (DV.slc 1 l.length (stF l))) s))∧((db (anyB (rdW (DV.slc 1 l.length (stF l))) s)):DV)=(db (anyB l s)))) (by kernel_rfl) ?_
 simp only[rdW_eq]
 exact⟨f99 l s (by omega),trivial⟩
def badB (names:List ByteArray) (x:Fc):Bool:=!dscB x||x.words.any fun s=>anyB names s
theorem f95 (hT:Tab G) (l:List ByteArray) (x:Fc) (h:FcS x) (hl:l.length≤100000):FnOK Tryz.prog G 95 [fcD x,.ptr [wdD l]] (db (badB l x)):=by
 refine FnOK.walk (orc:=orcVf) (keep:=[]) follows Tryz.func95 rfl Tryz.call95 ?_
 refine of_tr (fun _ _ _ ZK=>(fun Za=>((ZK 96 [(fcD x)] (db (dscB (Fc.mk x.name x.kind x.ln x.ld x.hn x.hd Za)))∧(((!!dscB (Fc.mk x.name x.kind x.ln x.ld x.hn x.hd Za))=true)→ZK 97 [(.slc 1 x.words.length (stF x.words)),(.clo (.func 98) [] [(.ptr [(.slc 1 l.length (stF l))])])] (db (Za.any fun s=>anyB (rdW (DV.slc 1 l.length (stF l))) s))))∧((db (!dscB (Fc.mk x.name x.kind x.ln x.ld x.hn x.hd Za)||Za.any fun s=>anyB (rdW (DV.slc 1 l.length (stF l))) s)):DV)=(db (badB l x)))) (rdW (DV.slc 1 x.words.length (stF x.words)))) (by kernel_rfl) ?_
 simp only[rdW_eq]
 have:=h.ln
 exact⟨⟨f96 hT x h,fun _=>f97b (fun s=>anyB l s) x.words (.ptr [wdD l]) (by omega) fun i hi=>f98 l _ hl⟩,rfl⟩
def namesL (L:List Fc):List ByteArray:=L.map (·.name)
def rowNm (L:List Fc):Nat→Nat→DV:=rowRec (fun _=>DV.con undef) false 1 fun j=>[ds (L.getD j fc0).name]
theorem rowNm_get {L:List Fc} {k i:Nat} (h:i<k) (hk:k≤L.length):rowNm L k (0+i)=stF (namesL L) i:=by
 rw[Nat.zero_add]
 unfold rowNm stF namesL
 rw[rowRec_get h,List.getD,List.getD,List.getElem?_map,gEe (by omega)]
 rfl
theorem namesL_len (L:List Fc):(namesL L).length=L.length:=by unfold namesL;rw[List.length_map]
def orc21 (a b:Bool):Oracle:=fun f x=>match f,x with
 | 93,[_]=>some (db a)
 | 94,[_,_]=>some (db b)
 | _,_=>none
noncomputable def S21 (L:List Fc) (k:Nat):AS:=⟨regs Tryz.f51.ntmps [(0,.d (fcsD L)),(3,.box 3 0),(6,.d (fcsD L)),(7,vi L.length),(8,vi k)],[(3,[.vec 900 1 0 k]),(900,[.arr stK 1 (rowNm L k)])]⟩
def vfB (L:List Fc):Bool:=decide (L.length≤32)&&ndB (namesL L)&&!L.any (badB (namesL L))
theorem f51 (hT:Tab G) (L:List Fc) (h:∀i,i<L.length→FcS (L.getD i fc0)) (hl:L.length≤1000):FnOK Tryz.prog G 51 [fcsD L] (db (vfB L)):=by
 refine FnOK.walk (orc:=orc21 (ndB (namesL L)) (L.any (badB (namesL L)))) (keep:=[]) follows Tryz.func51 rfl Tryz.call51 ?_
 refine of_tr (fun ZT ZW ZQ _=>ZW [cd Tryz.f51 [1,1,0,1,0],(.blk 0),cd Tryz.f51 [1,1,1]] (stS ZT []) ZQ) (by kernel_rfl) ?_
 refine AWP.pre (.nilCell _ 3 0 900 1 stK (rowNm L 0) (by kernel_rfl) (by kernel_rfl)) ?_
 refine AWP.loop (c:=cAt (bodyOf Tryz.f51) [1,1,0,1,0,0]) (by kernel_rfl) (S21 L) (fun k=>k≤L.length) (fun k=>L.length-k) 0 ?_ (Nat.zero_le _) ?_
 ·exact AS.leA (by kernel_rfl)
 ·intro k hk
  refine walk (orc:=orc21 (ndB (namesL L)) (L.any (badB (namesL L)))) (keep:=[]) (cuts:=[]) (n:=1000) follows ?_
  refine of_rd (fun ZT ZW ZQ _ ZA _=>((((decide ((↑k:Int)<↑L.length))=true)→(((0≤(↑k:Int))∧((↑k:Int)<↑L.length))∧((((k+1)*16≤1099511627776)∧(k+1≤1099511627776))∧(∀(i:Nat),i<1→elemOK false 1 (elemF false 1 [DV.con (Value.string (L.getD (↑k:Int).toNat fc0).name)] i)=true))∧(I64 (↑k+1))∧(ZA (stS ZT [0]))))∧(((decide ((↑k:Int)<↑L.length))=false)→ZW [cd Tryz.f51 [1,1,1]] (stS ZT [1]) ZQ))) (by kernel_rfl) ?_
  simp only[iTn]
  refine⟨fun h1=>?_,fun h1=>?_⟩
  ·have hk2:k<L.length:=by have:=oDt h1;omega
   refine⟨⟨by omega,by omega⟩,⟨⟨by omega,by omega⟩,fun i hi=>(by obtain rfl:i=0:=(by omega);rfl)⟩,⟨by omega,by omega⟩,Again.mkR [(16,900)] rfl (k+1) ?_ hk2 (by omega)⟩
   refine AS.leZ [] [1] (b:=((T0∧T0∧T0∧T0∧T0∧True)∧T0∧((some [(.arr ⟨false,9,false,none⟩ 1 (fun i=>bif i.blt k then rowNm L k i else elemF false 1 [DV.con (Value.string (L.getD (↑k:Int).toNat fc0).name)] (i-k)))]):(Option (List AV)))=(some [(.arr ⟨false,9,false,none⟩ 1 (rowNm L (k+1)))])∧True)) (by kernel_rfl) (by kernel_rfl) ?_
   exact⟨⟨rfl,rfl,rfl,rfl,rfl,trivial⟩,rfl,rfl,trivial⟩
  ·simp only[decide_eq_false_iff_not] at h1
   obtain rfl:k=L.length:=by omega
   have hdat:∀k v,DV.rel k (.slc 1 L.length fun i=>rowNm L L.length (0+i)) v→DV.rel k (wdD (namesL L)) v:=fun k v hv=>by
    unfold wdD
    rw[namesL_len]
    exact DV.rel_slc_congr (fun i hi=>rowNm_get hi (Nat.le_refl _)) hv
   refine AWP.freeze (agg:=stK) (sz:=1) (f:=rowNm L L.length) 900 (by kernel_rfl) ?_
   refine AWP.freezeB (dl:=[.slc 1 L.length fun i=>rowNm L L.length (0+i)]) 3 (by kernel_rfl) rfl ?_
   refine walk (orc:=orc21 (ndB (namesL L)) (L.any (badB (namesL L)))) (keep:=[]) (cuts:=[]) (n:=1000) follows ?_
   refine of_tr (fun _ _ _ ZK=>((((!decide ((↑L.length:Int)>32))=true)→ZK 93 [(.slc 1 L.length (fun i=>rowNm L L.length (0+i)))] (db (ndB (namesL L))))∧(((decide ((↑L.length:Int)>32)||!ndB (namesL L))=true)→(((db false):DV)=(db (vfB L))))∧(((decide ((↑L.length:Int)>32)||!ndB (namesL L))=false)→(ZK 94 [(.slc 7 L.length (fcF L)),(.clo (.func 95) [] [(.ptr [(.slc 1 L.length (fun i=>rowNm L L.length (0+i)))])])] (db (L.any (badB (namesL L))))∧((db (!L.any (badB (namesL L)))):DV)=(db (vfB L)))))) (by kernel_rfl) ?_
   have hn:(namesL L).length=L.length:=namesL_len L
   have h48:FnOK Tryz.prog G 93 [wdD (namesL L)] (db (ndB (namesL L))):=f93 _ (by omega)
   have h49:=f94a (G:=G) (badB (namesL L)) L (.ptr [wdD (namesL L)]) (by omega) fun i hi=>f95 hT (namesL L) _ (h i hi) (by omega)
   have e32:decide ((L.length:Int)>32) = !decide (L.length≤32):=by rw[←decide_not,decide_eq_decide];omega
   rw[e32]
   unfold vfB
   refine⟨fun _=>h48.args fun k us=>DV.rels_cons (hdat k) (fun _ h=>h) us,fun hh=>?_,fun hh=>⟨h49.args fun k us=>DV.rels_cons (fun _ h=>h) (DV.rels_cons (fun v hv=>?_) fun _ h=>h) us,?_⟩⟩
   ·refine congrArg db ?_
    revert hh
    cases decide (L.length≤32)<;>cases ndB (namesL L)<;>simp
   ·obtain ⟨va,vc,e,ra,rc⟩:=hv
    refine⟨va,vc,e,ra,DV.rels_cons (fun v hv=>?_) (fun _ h=>h) vc rc⟩
    obtain ⟨b,off,e,vs,r,c⟩:=hv
    exact⟨b,off,e,vs,DV.rels_cons (hdat k) (fun _ h=>h) vs r,c⟩
   ·refine congrArg db ?_
    revert hh
    cases decide (L.length≤32)<;>cases ndB (namesL L)<;>simp
def noO:Oracle:=fun _ _=>none
def isN (s:ByteArray) (x:Fc):Bool:=decide (x.name=s)
def fndI (L:List Fc) (s:ByteArray):Int:=idI (isN s) L
noncomputable def S55 (L:List Fc) (s:ByteArray) (k:Nat):AS:=⟨regs Tryz.f101.ntmps [(0,.d (fcsD L)),(1,.d (ds s)),(5,vi k)],[]⟩
theorem f101 (L:List Fc) (s:ByteArray) (hl:L.length≤100000):FnOK Tryz.prog G 101 [fcsD L,ds s] (di (fndI L s)):=by
 refine FnOK.walk (orc:=noO) (keep:=[]) follows Tryz.func101 rfl Tryz.call101 ?_
 refine of_tr (fun ZT ZW ZQ _=>ZW [cd Tryz.f101 [1,0,1,0],(.blk 0),cd Tryz.f101 [1,1]] (stS ZT []) ZQ) (by kernel_rfl) ?_
 refine AWP.loop (c:=cAt (bodyOf Tryz.f101) [1,0,1,0,0]) (by kernel_rfl) (S55 L s) (fun k=>k≤L.length∧∀i,i<k→isN s (L.getD i fc0)=false) (fun k=>L.length-k) 0 ?_ ⟨Nat.zero_le _,fun i hi=>absurd hi (Nat.not_lt_zero _)⟩ ?_
 ·exact AS.leA (by kernel_rfl)
 ·rintro k ⟨hk,hkd⟩
  refine walk (orc:=noO) (keep:=[]) (cuts:=[]) (n:=1000) follows ?_
  refine of_rd (fun ZT ZW ZQ _ ZA _=>((((decide ((↑k:Int)<↑L.length))=true)→(((0≤(↑k:Int))∧((↑k:Int)<↑L.length))∧((((L.getD (↑k:Int).toNat fc0).name.toList==s.toList)=true)→(((di (↑k)):DV)=(di (fndI L s))))∧((((L.getD (↑k:Int).toNat fc0).name.toList==s.toList)=false)→((I64 (↑k+1))∧(ZA (stS ZT [0,1]))))))∧(((decide ((↑k:Int)<↑L.length))=false)→ZW [cd Tryz.f101 [1,1]] (stS ZT [1]) ZQ))) (by kernel_rfl) ?_
  simp only[iTn,toList_beq]
  refine⟨fun h=>?_,fun h=>?_⟩
  ·have hk2:k<L.length:=by have:=oDt h;omega
   refine⟨⟨by omega,by omega⟩,fun h2=>?_,fun h2=>⟨⟨by omega,by omega⟩,Again.mk (k+1) ?_ ⟨hk2,fun i hi=>?_⟩ (by omega)⟩⟩
   ·unfold fndI
    rw[(idI_hit hk2 hkd h2).2]
   ·exact AS.leA (by kernel_rfl)
   ·rcases Nat.lt_or_ge i k with h4|h4
    ·exact hkd i h4
    ·obtain rfl:i=k:=by omega
     exact h2
  ·simp only[decide_eq_false_iff_not] at h
   have hst:=idI_none (p:=isN s) (L:=L) (x0:=fc0) fun i hi=>hkd i (by omega)
   refine walk (orc:=noO) (keep:=[]) (cuts:=[]) (n:=1000) follows ?_
   refine of_tr (fun _ _ _ _=>(((di (-1)):DV)=(di (fndI L s)))) (by kernel_rfl) ?_
   unfold fndI
   rw[hst.2]
/-! Equal slices of strings. -/
theorem getD_ext {α:Type} {x0:α} {a b:List α} (hl:a.length=b.length) (h:∀i,i<a.length→a.getD i x0=b.getD i x0):a=b:=by
 refine List.ext_getElem hl fun i h1 h2=>?_
 have:=h i h1
 rw[List.getD,List.getD,gEe h1,gEe h2] at this
 exact this
def smF (x:Fc):Bool:=decide (x.name.size≤40)&&decide (x.words.length≤20)&&x.words.all fun s=>decide (s.size≤40)
def fewF (L:List Fc):Bool:=L.all smF&&decide (L.length≤16)
structure FcW (x:Fc):Prop where
 nm:x.name.size≤9223372036854775807
 ln:x.words.length≤9223372036854775807
 wd:∀i,i<x.words.length→(x.words.getD i .empty).size≤9223372036854775807
theorem all_getD {α:Type} {x0:α} {p:α→Bool} {L:List α} (h:∀i,i<L.length→p (L.getD i x0)=true):L.all p=true:=by
 rw[List.all_eq_true]
 intro x hx
 obtain ⟨i,hi,rfl⟩:=List.getElem_of_mem hx
 have:=h i hi
 rw[List.getD,gEe hi] at this
 exact this
theorem all_miss {α:Type} {x0:α} {p:α→Bool} {L:List α} {i:Nat} (hi:i<L.length) (h:p (L.getD i x0)=false):L.all p=false:=by
 rw[Bool.eq_false_iff]
 intro hh
 have:=List.all_eq_true.1 hh (L.getD i x0) (by rw[List.getD,gEe hi];exact List.getElem_mem hi)
 rw[h] at this;cases this
noncomputable def S20 (L:List Fc) (k:Nat):AS:=⟨regs Tryz.f27.ntmps [(0,.d (fcsD L)),(3,vi k)],[]⟩
noncomputable def S20i (L:List Fc) (k j:Nat):AS:=⟨regs Tryz.f27.ntmps [(0,.d (fcsD L)),(3,vi k),(4,vi j)],[]⟩
theorem f27 (L:List Fc) (hl:L.length≤9223372036854775807) (hw:∀i,i<L.length→FcW (L.getD i fc0)):FnOK Tryz.prog G 27 [fcsD L] (db (fewF L)):=by
 refine FnOK.walk (orc:=noO) (keep:=[]) follows Tryz.func27 rfl Tryz.call27 ?_
 refine of_tr (fun ZT ZW ZQ _=>ZW [cd Tryz.f27 [1,0,1,0],(.blk 0),cd Tryz.f27 [1,1]] (stS ZT []) ZQ) (by kernel_rfl) ?_
 refine AWP.loop (c:=cAt (bodyOf Tryz.f27) [1,0,1,0,0]) (by kernel_rfl) (S20 L) (fun k=>k≤L.length∧∀i,i<k→smF (L.getD i fc0)=true) (fun k=>L.length-k) 0 ?_ ⟨Nat.zero_le _,fun i hi=>absurd hi (Nat.not_lt_zero _)⟩ ?_
 ·exact AS.leA (by kernel_rfl)
 ·rintro k ⟨hk,hkd⟩
  refine walk (orc:=noO) (keep:=[]) (cuts:=[]) (n:=1000) follows ?_
  refine of_rd (fun ZT ZW ZQ _ _ ZR=>(fun Za=>((((decide ((↑k:Int)<↑L.length))=true)→((((0≤(↑k:Int))∧((↑k:Int)<↑L.length))∧(((!decide ((↑(L.getD (↑k:Int).toNat fc0).name.size:Int)>40))=true)→((0≤(↑k:Int))∧((↑k:Int)<↑L.length))))∧((Za=true)→(((db false):DV)=(db (fewF L))))∧((Za=false)→ZW [cd Tryz.f27 [1,0,1,0,0,1,0,0,1,1,0],(.blk 2),(.blk 1),cd Tryz.f27 [1,0,1,0,0,1,1]] (stS ZT [0,1]) ZR)))∧(((decide ((↑k:Int)<↑L.length))=false)→ZW [cd Tryz.f27 [1,1]] (stS ZT [1]) ZQ))) (decide ((↑(L.getD (↑k:Int).toNat fc0).name.size:Int)>40)||decide ((↑(L.getD (↑k:Int).toNat fc0).words.length:Int)>20))) (by kernel_rfl) ?_
  simp only[iTn]
  refine⟨fun h=>?_,fun h=>?_⟩
  ·have hk2:k<L.length:=by have:=oDt h;omega
   have hwk:=hw k hk2
   have hw1:=hwk.nm
   have hw2:=hwk.ln
   refine⟨⟨⟨by omega,by omega⟩,fun _=>⟨by omega,by omega⟩⟩,fun h2=>?_,fun h2=>?_⟩
   ·unfold fewF
    rw[all_miss (x0:=fc0) hk2]
    ·rfl
    ·unfold smF
     simp only[Bool.or_eq_true,dEt] at h2
     rcases h2 with h2|h2
     ·rw[decide_eq_false (by omega)];rfl
     ·rw[decide_eq_false (by omega:¬_≤20),Bool.and_false];rfl
   ·simp only[Bool.or_eq_false_iff,decide_eq_false_iff_not] at h2
    refine AWP.loop (c:=cAt (bodyOf Tryz.f27) [1,0,1,0,0,1,0,0,1,1,0,0]) (by kernel_rfl) (S20i L k) (fun j=>j≤(L.getD k fc0).words.length∧∀i,i<j→((L.getD k fc0).words.getD i .empty).size≤40) (fun j=>(L.getD k fc0).words.length-j) 0 ?_ ⟨Nat.zero_le _,fun i hi=>absurd hi (Nat.not_lt_zero _)⟩ ?_
    ·exact AS.leA (by kernel_rfl)
    ·rintro j ⟨hj,hjd⟩
     refine walk (orc:=noO) (keep:=[]) (cuts:=[]) (n:=1000) follows ?_
     refine of_rd (fun ZT ZW ZQ _ ZA _=>(fun Za=>(((0≤(↑k:Int))∧((↑k:Int)<↑L.length))∧(((decide ((↑j:Int)<↑(L.getD (↑k:Int).toNat fc0).words.length))=true)→((((0≤(↑k:Int))∧((↑k:Int)<↑L.length))∧(0≤(↑j:Int))∧((↑j:Int)<↑(L.getD (↑k:Int).toNat fc0).words.length))∧((Za=true)→(((db false):DV)=(db (fewF L))))∧((Za=false)→((I64 (↑j+1))∧(ZA (stS ZT [0,1]))))))∧(((decide ((↑j:Int)<↑(L.getD (↑k:Int).toNat fc0).words.length))=false)→ZW [(.blk 1),cd Tryz.f27 [1,0,1,0,0,1,1]] (stS ZT [1]) ZQ))) (decide ((↑((L.getD (↑k:Int).toNat fc0).words.getD (↑j:Int).toNat ByteArray.empty).size:Int)>40))) (by kernel_rfl) ?_
     simp only[iTn]
     refine⟨⟨by omega,by omega⟩,fun h3=>?_,fun h3=>?_⟩
     ·have hj2:j<(L.getD k fc0).words.length:=by have:=oDt h3;omega
      have hw3:=hwk.wd j hj2
      refine⟨⟨⟨by omega,by omega⟩,⟨by omega,by omega⟩⟩,fun h4=>?_,fun h4=>⟨⟨by omega,by omega⟩,Again.mk (j+1) ?_ ⟨hj2,fun i hi=>?_⟩ (by omega)⟩⟩
      ·have h4:=oDt h4
       unfold fewF
       rw[all_miss (x0:=fc0) hk2]
       ·rfl
       ·unfold smF
        rw[all_miss (x0:=ByteArray.empty) hj2 (decide_eq_false (by omega)),Bool.and_false]
      ·exact AS.leA (by kernel_rfl)
      ·rcases Nat.lt_or_ge i j with h5|h5
       ·exact hjd i h5
       ·obtain rfl:i=j:=by omega
        have h4:=of_decide_eq_false h4
        omega
     ·have h3:=of_decide_eq_false h3
      refine walk (orc:=noO) (keep:=[]) (cuts:=[]) (n:=1000) follows ?_
      refine of_rd (fun ZT _ _ _ ZA _=>((I64 (↑k+1))∧(ZA (stS ZT [])))) (by kernel_rfl) ?_
      refine⟨⟨by omega,by omega⟩,Again.mk (k+1) ?_ ⟨hk2,fun i hi=>?_⟩ (by omega)⟩
      ·exact AS.leA (by kernel_rfl)
      ·rcases Nat.lt_or_ge i k with h5|h5
       ·exact hkd i h5
       ·obtain rfl:i=k:=by omega
        unfold smF
        rw[decide_eq_true (by omega),decide_eq_true (by omega:_≤20),all_getD (x0:=ByteArray.empty) fun i hi=>decide_eq_true (hjd i (by omega))];rfl
  ·simp only[decide_eq_false_iff_not] at h
   refine walk (orc:=noO) (keep:=[]) (cuts:=[]) (n:=1000) follows ?_
   refine of_tr (fun _ _ _ _=>(((db (decide ((↑L.length:Int)≤16))):DV)=(db (fewF L)))) (by kernel_rfl) ?_
   unfold fewF
   rw[all_getD (x0:=fc0) fun i hi=>hkd i (by omega),Bool.true_and]
   refine congrArg db ?_
   rw[decide_eq_decide];omega
def eqW (a b:List ByteArray):Bool:=decide (a=b)
theorem rec_and (x y:Bool):(Bool.rec false y x:Bool)=(x&&y):=by cases x<;>rfl
theorem fc_rel {k:IH} {a:ByteArray} {b c d e f:Int} {l:List ByteArray} {w:DV} (hw:∀v,DV.rel k w v→DV.rel k (wdD l) v) {v:Value} (h:DV.rel k (.agg [ds a,di b,di c,di d,di e,di f,w]) v):DV.rel k (fcD ⟨a,b,c,d,e,f,l⟩) v:=by
 obtain ⟨vs,e,r⟩:=h
 refine⟨vs,e,?_⟩
 obtain ⟨v1,u1,e1,r1,v2,u2,e2,r2,v3,u3,e3,r3,v4,u4,e4,r4,v5,u5,e5,r5,v6,u6,e6,r6,v7,u7,e7,r7,h0⟩:=r
 exact⟨v1,u1,e1,r1,v2,u2,e2,r2,v3,u3,e3,r3,v4,u4,e4,r4,v5,u5,e5,r5,v6,u6,e6,r6,v7,u7,e7,hw _ r7,h0⟩
theorem fc_nil {k:IH} {a:ByteArray} {b c d e f:Int} {v:Value} (h:DV.rel k (.agg [ds a,di b,di c,di d,di e,di f,.con (.slice none 0 0)]) v):DV.rel k (fcD ⟨a,b,c,d,e,f,[]⟩) v:=
 fc_rel (fun _ h=>nil_slc h) h
end Go.Proofs
