import Derived.Test.YtellpkieoccljaaGreatDoorAcD
import Derived.Test.YtellpkieoccljaaGreatDoorG3
import Derived.Test.YtellpkieoccljaaGreatDoorG0
set_option autoImplicit false
namespace Go.Proofs
open Go Go.Ab Go.RowKit
set_option maxHeartbeats 4000000
set_option maxRecDepth 100000
variable {G:IH}
/-! Bounds. -/
structure Bd where
 a:Int
 b:Int
 c:Int
 d:Int
 deriving DecidableEq
abbrev iG (x:Bd):DV:=.agg [di x.a,di x.b,di x.c,di x.d]
def xX (a b c d:Int):Int:=if dM a b c d>0 then c else a
def xZ (a b c d:Int):Int:=if dM a b c d>0 then d else b
def x9 (a b c d:Int):Int:=if dM a b c d<0 then c else a
def xY (a b c d:Int):Int:=if dM a b c d<0 then d else b
noncomputable def nH:aZ:=fun f a=>match f,a with
 | 81,[fr a b,fr c d]=>some (.au [di (dM a b c d),db (iF a b c d)])
 | 76,[fr a b,fr c d]=>some (lF (dG a b c d))
 | 78,[fr a b,fr c d]=>some (lF (bY a b c d))
 | 77,[fr a b,fr c d]=>some (lF (bD a b c d))
 | 79,[fr a b,fr c d]=>some (lF (dD a b c d))
 | 107,[fr a b,fr c d]=>some (fr (xX a b c d) (xZ a b c d))
 | 108,[fr a b,fr c d]=>some (fr (x9 a b c d) (xY a b c d))
 | _,_=>none
theorem f107 (a b c d:Int):aj Tryz.prog G 107 [fr a b,fr c d] (fr (xX a b c d) (xZ a b c d)):=by
 refine aj.walk (ay:=nH) (keep:=[]) follows Tryz.func107 rfl Tryz.call107 ?_
 refine aA (fun _ _ _ ZK=>(ZK 81 [(.agg [(di a),(di b)]),(.agg [(di c),(di d)])] (.au [(di (dM a b c d)),(db (iF a b c d))])∧(((decide (dM a b c d>0))=true)→(((.agg [(di c),(di d)]):DV)=(fr (xX a b c d) (xZ a b c d))))∧(((decide (dM a b c d>0))=false)→(((.agg [(di a),(di b)]):DV)=(fr (xX a b c d) (xZ a b c d)))))) (by kernel_rfl) ?_
 simp only[decide_eq_true_eq,decide_eq_false_iff_not]
 unfold xX xZ
 refine⟨f81 _ _ _ _,fun h=>?_,fun h=>?_⟩
 ·rw[if_pos h,if_pos h]
 ·rw[if_neg h,if_neg h]
theorem f108 (a b c d:Int):aj Tryz.prog G 108 [fr a b,fr c d] (fr (x9 a b c d) (xY a b c d)):=by
 refine aj.walk (ay:=nH) (keep:=[]) follows Tryz.func108 rfl Tryz.call108 ?_
 refine aA (fun _ _ _ ZK=>(ZK 81 [(.agg [(di a),(di b)]),(.agg [(di c),(di d)])] (.au [(di (dM a b c d)),(db (iF a b c d))])∧(((decide (dM a b c d<0))=true)→(((.agg [(di c),(di d)]):DV)=(fr (x9 a b c d) (xY a b c d))))∧(((decide (dM a b c d<0))=false)→(((.agg [(di a),(di b)]):DV)=(fr (x9 a b c d) (xY a b c d)))))) (by kernel_rfl) ?_
 simp only[decide_eq_true_eq,decide_eq_false_iff_not]
 unfold x9 xY
 refine⟨f81 _ _ _ _,fun h=>?_,fun h=>?_⟩
 ·rw[if_pos h,if_pos h]
 ·rw[if_neg h,if_neg h]
def Iw (p q:FE):Bd:=⟨p.1,p.2.1,q.1,q.2.1⟩
def yc (p q:FE):Bool:=p.2.2==0&&q.2.2==0
theorem aeG (x y:Bd):aj Tryz.prog G 105 [iG x,iG y,.con (.func (.func 76) #[] #[])] (.au [iG (Iw (dG x.a x.b y.a y.b) (dG x.c x.d y.c y.d)),db (yc (dG x.a x.b y.a y.b) (dG x.c x.d y.c y.d))]):=by
 refine aj.walk (ay:=nH) (keep:=[]) follows Tryz.func105 rfl Tryz.call105 ?_
 refine aA (fun _ _ _ ZK=>(ZK 76 [(.agg [(di x.a),(di x.b)]),(.agg [(di y.a),(di y.b)])] (.au [(.agg [(di (dG x.a x.b y.a y.b).fst),(di (dG x.a x.b y.a y.b).snd.fst)]),(di (dG x.a x.b y.a y.b).snd.snd)])∧ZK 76 [(.agg [(di x.c),(di x.d)]),(.agg [(di y.c),(di y.d)])] (.au [(.agg [(di (dG x.c x.d y.c y.d).fst),(di (dG x.c x.d y.c y.d).snd.fst)]),(di (dG x.c x.d y.c y.d).snd.snd)])∧((.au [(.agg [(di (dG x.a x.b y.a y.b).fst),(di (dG x.a x.b y.a y.b).snd.fst),(di (dG x.c x.d y.c y.d).fst),(di (dG x.c x.d y.c y.d).snd.fst)]),(db ((dG x.a x.b y.a y.b).snd.snd==0&&(dG x.c x.d y.c y.d).snd.snd==0))]):DV)=(.au [(iG (Iw (dG x.a x.b y.a y.b) (dG x.c x.d y.c y.d))),(db (yc (dG x.a x.b y.a y.b) (dG x.c x.d y.c y.d)))]))) (by kernel_rfl) ?_
 exact⟨Y0 _ _ _ _,Y0 _ _ _ _,rfl⟩
theorem aeJ (x y:Bd):aj Tryz.prog G 105 [iG x,iG y,.con (.func (.func 77) #[] #[])] (.au [iG (Iw (bD x.a x.b y.a y.b) (bD x.c x.d y.c y.d)),db (yc (bD x.a x.b y.a y.b) (bD x.c x.d y.c y.d))]):=by
 refine aj.walk (ay:=nH) (keep:=[]) follows Tryz.func105 rfl Tryz.call105 ?_
 refine aA (fun _ _ _ ZK=>(ZK 77 [(.agg [(di x.a),(di x.b)]),(.agg [(di y.a),(di y.b)])] (.au [(.agg [(di (bD x.a x.b y.a y.b).fst),(di (bD x.a x.b y.a y.b).snd.fst)]),(di (bD x.a x.b y.a y.b).snd.snd)])∧ZK 77 [(.agg [(di x.c),(di x.d)]),(.agg [(di y.c),(di y.d)])] (.au [(.agg [(di (bD x.c x.d y.c y.d).fst),(di (bD x.c x.d y.c y.d).snd.fst)]),(di (bD x.c x.d y.c y.d).snd.snd)])∧((.au [(.agg [(di (bD x.a x.b y.a y.b).fst),(di (bD x.a x.b y.a y.b).snd.fst),(di (bD x.c x.d y.c y.d).fst),(di (bD x.c x.d y.c y.d).snd.fst)]),(db ((bD x.a x.b y.a y.b).snd.snd==0&&(bD x.c x.d y.c y.d).snd.snd==0))]):DV)=(.au [(iG (Iw (bD x.a x.b y.a y.b) (bD x.c x.d y.c y.d))),(db (yc (bD x.a x.b y.a y.b) (bD x.c x.d y.c y.d)))]))) (by kernel_rfl) ?_
 exact⟨Ws _ _ _ _,Ws _ _ _ _,rfl⟩
/-! aaT. -/
abbrev gY:=Int×Int
def nT (l:List gY) (i:Nat):DV:=fr (l.getD i (0,0)).1 (l.getD i (0,0)).2
abbrev nZ (l:List gY):DV:=.slc 2 l.length (nT l)
theorem FK {p q:gY} {h:IH} {v:Value} (hv:DV.rel h (.slc 2 2 (aN true 2 [di p.1,di p.2,di q.1,di q.2])) v):DV.rel h (nZ [p,q]) v:=by
 refine DV.dJ (fun i hi=>?_) hv
 have hi:i<2:=hi
 rcases i with _|_|i
 ·rfl
 ·rfl
 ·omega
abbrev fD (x:Bd):List gY:=[(x.a,x.b),(x.c,x.d)]
def iy (op:Int→Int→Int→Int→FE) (x y:Bd) (n:Nat):FE:=op ((fD x).getD (n / 2) (0,0)).1 ((fD x).getD (n / 2) (0,0)).2 ((fD y).getD (n % 2) (0,0)).1 ((fD y).getD (n % 2) (0,0)).2
abbrev EN:RK:=⟨true,23,false,none⟩
def jL (op:Int→Int→Int→Int→FE) (x y:Bd):Nat→Nat→DV:=um (fun _=>DV.con undef) true 2 fun n=>[di (iy op x y n).1,di (iy op x y n).2.1]
abbrev ZV (x:Bd):List AV:=[vi x.a,vi x.b,vi x.c,vi x.d]
noncomputable def RQ (f:Nat) (op:Int→Int→Int→Int→FE) (x y:Bd) (k:Nat):AS:=⟨regs Tryz.f104.ntmps [(2,.d (.con (.func (.func f) #[] #[]))),(3,.box 3 0),(4,.box 4 0),(6,.box 6 0),(8,.vec 900 2 0 (2*k)),(22,.d (nZ (fD x))),(23,vi 2),(24,vi k)],[(3,ZV x),(4,ZV y),(6,[vi 0,vi 0,vi 0,vi 0]),(900,[.arr EN 2 (jL op x y (2*k))])]⟩
noncomputable def TN (f:Nat) (op:Int→Int→Int→Int→FE) (x y:Bd) (k j:Nat):AS:=⟨regs Tryz.f104.ntmps [(2,.d (.con (.func (.func f) #[] #[]))),(3,.box 3 0),(4,.box 4 0),(6,.box 6 0),(8,.vec 900 2 0 (2*k+j)),(10,.box 10 0),(22,.d (nZ (fD x))),(23,vi 2),(24,vi k),(32,.d (nZ (fD y))),(33,vi 2),(34,vi j)],[(3,ZV x),(4,ZV y),(6,[vi 0,vi 0,vi 0,vi 0]),(10,[vi ((fD x).getD k (0,0)).1,vi ((fD x).getD k (0,0)).2]),(900,[.arr EN 2 (jL op x y (2*k+j))])]⟩
theorem YX (op:Int→Int→Int→Int→FE) (x y:Bd) {k j:Nat} (hj:j<2):op ((fD x).getD k (0,0)).1 ((fD x).getD k (0,0)).2 ((fD y).getD j (0,0)).1 ((fD y).getD j (0,0)).2=iy op x y (2*k+j):=by
 unfold iy
 rw[show (2*k+j) / 2=k by omega,show (2*k+j) % 2=j by omega]
def jm (op:Int→Int→Int→Int→FE) (x y:Bd):Bool:=(List.range 4).any fun n=>(iy op x y n).2.2 != 0
def zD (op:Int→Int→Int→Int→FE) (x y:Bd):Nat→Bd
 | 0=>⟨(iy op x y 0).1,(iy op x y 0).2.1,(iy op x y 0).1,(iy op x y 0).2.1⟩
 | n+1=>⟨xX (zD op x y n).a (zD op x y n).b (iy op x y n).1 (iy op x y n).2.1,xZ (zD op x y n).a (zD op x y n).b (iy op x y n).1 (iy op x y n).2.1,x9 (zD op x y n).c (zD op x y n).d (iy op x y n).1 (iy op x y n).2.1,xY (zD op x y n).c (zD op x y n).d (iy op x y n).1 (iy op x y n).2.1⟩
def oN (op:Int→Int→Int→Int→FE) (x y:Bd):Bd:=if jm op x y then ⟨0,0,0,0⟩ else zD op x y 4
theorem SG {op:Int→Int→Int→Int→FE} {x y:Bd} {n:Nat} (hn:n<4) (h:(iy op x y n).2.2≠0):jm op x y=true:=by
 unfold jm
 rw[List.any_eq_true]
 exact⟨n,List.mem_range.2 hn,by simpa using h⟩
theorem TU {op:Int→Int→Int→Int→FE} {x y:Bd} (h:∀n,n<4→(iy op x y n).2.2=0):jm op x y=false:=by
 unfold jm
 rw[List.any_eq_false]
 intro n hn
 rw[h n (List.mem_range.1 hn)];decide
theorem Mc {op:Int→Int→Int→Int→FE} {x y:Bd} (k:Nat) {p q:Int} (hp:p=(iy op x y k).1) (hq:q=(iy op x y k).2.1):(fun i=>bif Nat.blt i k then jL op x y k i else aN true 2 [di p,di q] (i-k))=jL op x y (k+1):=by
 subst hp;subst hq;rfl
def Yn (op:Int→Int→Int→Int→FE) (x y:Bd) (n:Nat):DV:=fr (iy op x y n).1 (iy op x y n).2.1
theorem Pn {op:Int→Int→Int→Int→FE} {x y:Bd} {i:Nat} (h:i<4):jL op x y 4 (0+i)=Yn op x y i:=by
 rw[Nat.zero_add]
 unfold jL Yn
 rw[nD h];rfl
noncomputable def aa3 (op:Int→Int→Int→Int→FE) (x y:Bd) (M:Nat→Bd) (n:Nat):AS:=⟨regs Tryz.f104.ntmps [(6,.box 6 0),(15,.box 15 0),(61,.d (.slc 2 4 (Yn op x y))),(62,vi 4),(63,vi n)],[(6,[vi 0,vi 0,vi 0,vi 0]),(15,ZV (M n))]⟩
theorem aeN (x y:Bd):aj Tryz.prog G 104 [iG x,iG y,.con (.func (.func 78) #[] #[])] (.au [iG (oN bY x y),db (!jm bY x y)]):=by
 refine aj.walk (ay:=nH) (keep:=[]) follows Tryz.func104 rfl Tryz.call104 ?_
 refine vk (b:=aC Tryz.prog G [cd Tryz.f104 [1,1,0,1,0],(.blk 0),cd Tryz.f104 [1,1,1]] ⟨regs 78 [(0,(.d (iG x))),(1,(.d (iG y))),(2,(.d (.con (.func (.func 78) ⟨[]⟩ ⟨[]⟩)))),(3,(.box 3 0)),(4,(.box 4 0)),(6,(.box 6 0)),(7,(vb false)),(8,(.d (.con (.slice none 0 0)))),(18,(.box 3 0)),(19,(.d (.agg [(di x.a),(di x.b)]))),(20,(.box 3 2)),(21,(.d (.agg [(di x.c),(di x.d)]))),(22,(.d (.slc 2 2 (aN true 2 [(di x.a),(di x.b),(di x.c),(di x.d)])))),(23,(vi 2)),(24,(vi 0))],[(6,[(vi 0),(vi 0),(vi 0),(vi 0)]),(4,[(vi y.a),(vi y.b),(vi y.c),(vi y.d)]),(3,[(vi x.a),(vi x.b),(vi x.c),(vi x.d)])]⟩ (fF Tryz.prog Tryz.f104 (DV.au [iG (oN bY x y),db !jm bY x y]))) (by kernel_rfl) ?_
 refine aC.pre (.nilRow _ 8 900 2 EN (jL bY x y 0) (by kernel_rfl) (by kernel_rfl)) ?_
 refine aC.pre (.reg _ 22 (.d (nZ (fD x))) fun β h v hv=>FK (p:=(x.a,x.b)) (q:=(x.c,x.d)) hv) ?_
 refine aC.loop (c:=dR (aQ Tryz.f104) [1,1,0,1,0,0]) (by kernel_rfl) (RQ 78 bY x y) (fun k=>k≤2∧∀n,n<2*k→(iy bY x y n).2.2=0) (fun k=>2-k) 0 ?_ ⟨Nat.zero_le _,fun n hn=>by omega⟩ ?_
 ·exact AS.dB (by kernel_rfl)
 ·rintro k ⟨hk,hkd⟩
  refine walk (ay:=nH) (keep:=[]) (cuts:=[]) (n:=1000) follows ?_
  refine rV ((fD x).getD (↑k:Int).toNat (0,0)) (fF Tryz.prog Tryz.f104 (DV.au [iG (oN bY x y),db !jm bY x y])) (fun Za Zb=>((((decide ((↑k:Int)<2))=true)→(((0≤(↑k:Int))∧((↑k:Int)<↑2))∧aC Tryz.prog G [cd Tryz.f104 [1,1,0,1,0,0,1,1,0,0,1,1,0],(.blk 2),(.blk 1),cd Tryz.f104 [1,1,0,1,0,0,1,1,1]] ⟨regs 78 [(2,(.d (.con (.func (.func 78) ⟨[]⟩ ⟨[]⟩)))),(3,(.box 3 0)),(4,(.box 4 0)),(6,(.box 6 0)),(8,(.vec 900 2 0 (2*k))),(10,(.box 10 0)),(22,(.d (.slc 2 2 (nT (fD x))))),(23,(vi 2)),(24,(vi (↑k))),(25,(vb (decide ((↑k:Int)<2)))),(26,(.d (.ptr [(di Za.fst),(di Za.snd)]))),(27,(.d (.agg [(di Za.fst),(di Za.snd)]))),(28,(.box 4 0)),(29,(.d (.agg [(di y.a),(di y.b)]))),(30,(.box 4 2)),(31,(.d (.agg [(di y.c),(di y.d)]))),(32,(.d (.slc 2 2 (aN true 2 [(di y.a),(di y.b),(di y.c),(di y.d)])))),(33,(vi 2)),(34,(vi 0))],[(10,[(vi Za.fst),(vi Za.snd)]),(3,[(vi x.a),(vi x.b),(vi x.c),(vi x.d)]),(4,[(vi y.a),(vi y.b),(vi y.c),(vi y.d)]),(6,[(vi 0),(vi 0),(vi 0),(vi 0)]),(900,[(.arr ⟨true,23,false,none⟩ 2 (jL bY x y (2*k)))])]⟩ (nR Tryz.prog G [(.blk 0),cd Tryz.f104 [1,1,1]] Zb (RQ 78 bY x y) (fun k=>k≤2∧∀(n:Nat),n<2*k→(iy bY x y n).snd.snd=0) (fun k=>2-k) k)))∧(((decide ((↑k:Int)<2))=false)→aC Tryz.prog G [cd Tryz.f104 [1,1,1]] ⟨regs 78 [(2,(.d (.con (.func (.func 78) ⟨[]⟩ ⟨[]⟩)))),(3,(.box 3 0)),(4,(.box 4 0)),(6,(.box 6 0)),(8,(.vec 900 2 0 (2*k))),(22,(.d (.slc 2 2 (nT (fD x))))),(23,(vi 2)),(24,(vi (↑k))),(25,(vb (decide ((↑k:Int)<2))))],[(3,[(vi x.a),(vi x.b),(vi x.c),(vi x.d)]),(4,[(vi y.a),(vi y.b),(vi y.c),(vi y.d)]),(6,[(vi 0),(vi 0),(vi 0),(vi 0)]),(900,[(.arr ⟨true,23,false,none⟩ 2 (jL bY x y (2*k)))])]⟩ Zb))) (by kernel_rfl) ?_
  simp only[Int.toNat_natCast]
  refine⟨fun h1=>?_,fun h1=>?_⟩
  ·have hk2:k<2:=by have:=of_decide_eq_true h1;omega
   refine⟨⟨by omega,by show (k:Int)<2;omega⟩,?_⟩
   refine aC.pre (.reg _ 32 (.d (nZ (fD y))) fun β h v hv=>FK (p:=(y.a,y.b)) (q:=(y.c,y.d)) hv) ?_
   refine aC.loop (c:=dR (aQ Tryz.f104) [1,1,0,1,0,0,1,1,0,0,1,1,0,0]) (by kernel_rfl) (TN 78 bY x y k) (fun j=>j≤2∧∀n,n<2*k+j→(iy bY x y n).2.2=0) (fun j=>2-j) 0 ?_ ⟨Nat.zero_le _,hkd⟩ ?_
   ·refine AS.leZ [4] [4] (b:=((T0∧T0∧T0∧T0∧((.vec 900 2 0 (2*k)):AV)=(.vec 900 2 0 (2*k+0))∧T0∧T0∧T0∧T0∧T0∧T0∧T0∧True)∧T0∧T0∧T0∧T0∧((some [(.arr ⟨true,23,false,none⟩ 2 (jL bY x y (2*k)))]):(Option (List AV)))=(some [(.arr ⟨true,23,false,none⟩ 2 (jL bY x y (2*k+0)))])∧True)) (by kernel_rfl) (by kernel_rfl) ?_
    exact⟨⟨rfl,rfl,rfl,rfl,rfl,rfl,rfl,rfl,rfl,rfl,rfl,rfl,trivial⟩,rfl,rfl,rfl,rfl,rfl,trivial⟩
   ·rintro j ⟨hj,hjd⟩
    refine walk (ay:=nH) (keep:=[]) (cuts:=[]) (n:=1000) follows ?_
    refine BQ (bY ((fD x).getD k (0,0)).fst ((fD x).getD k (0,0)).snd ((fD y).getD (↑j:Int).toNat (0,0)).fst ((fD y).getD (↑j:Int).toNat (0,0)).snd) ((fD y).getD (↑j:Int).toNat (0,0)) ((.d (.con (.func (.func 78) ⟨[]⟩ ⟨[]⟩))):AV) ((.agg [(di ((fD x).getD k (0,0)).fst),(di ((fD x).getD k (0,0)).snd)]):DV) (fun Za Zb Zc Zd=>((((decide ((↑j:Int)<2))=true)→(((0≤(↑j:Int))∧((↑j:Int)<↑2))∧aj Tryz.prog G 78 [Zd,(.agg [(di Zb.fst),(di Zb.snd)])] (.au [(.agg [(di Za.fst),(di Za.snd.fst)]),(di Za.snd.snd)])∧(((Za.snd.snd != 0)=true)→(((.au [(.agg [(di 0),(di 0),(di 0),(di 0)]),(db false)]):DV)=(.au [(iG (oN bY x y)),(db !jm bY x y)])))∧(((Za.snd.snd != 0)=false)→(((((2*k+j+1)*16≤1099511627776)∧(2*k+j+1≤1099511627776))∧(∀(i:Nat),i<1→jW true 2 (aN true 2 [di Za.fst,di Za.snd.fst] i)=true))∧(I64 (↑j+1))∧Again (TN 78 bY x y k) (fun j=>j≤2∧∀(n:Nat),n<2*k+j→(iy bY x y n).snd.snd=0) (fun j=>2-j) j ⟨regs 78 [(2,Zc),(3,(.box 3 0)),(4,(.box 4 0)),(6,(.box 6 0)),(8,(.vec 51 2 0 (2*k+j+1))),(10,(.box 10 0)),(12,(.box 12 0)),(13,(.box 13 0)),(14,(vi Za.snd.snd)),(22,(.d (.slc 2 2 (nT (fD x))))),(23,(vi 2)),(24,(vi (↑k))),(32,(.d (.slc 2 2 (nT (fD y))))),(33,(vi 2)),(34,(vi (↑j+1))),(35,(vb (decide ((↑j:Int)<2)))),(36,(.d (.ptr [(di Zb.fst),(di Zb.snd)]))),(37,(.d (.agg [(di Zb.fst),(di Zb.snd)]))),(38,(.d (.au [(.agg [(di Za.fst),(di Za.snd.fst)]),(di Za.snd.snd)]))),(39,Zc),(40,(.d Zd)),(41,(.d (.agg [(di Zb.fst),(di Zb.snd)]))),(42,(.d (.au [(.agg [(di Za.fst),(di Za.snd.fst)]),(di Za.snd.snd)]))),(43,(.d (.agg [(di Za.fst),(di Za.snd.fst)]))),(44,(vi Za.snd.snd)),(45,(vi Za.snd.snd)),(46,(vb (Za.snd.snd != 0))),(48,(.vec 900 2 0 (2*k+j))),(49,(.d (.agg [(di Za.fst),(di Za.snd.fst)]))),(50,(.d (.slc 2 1 (aN true 2 [(di Za.fst),(di Za.snd.fst)])))),(51,(.vec 51 2 0 (2*k+j+1))),(52,(vi (↑j+1)))],[(51,[(.arr ⟨true,23,false,none⟩ 2 (fun i=>bif i.blt (2*k+j) then jL bY x y (2*k+j) i else aN true 2 [di Za.fst,di Za.snd.fst] (i-(2*k+j))))]),(13,[(vi Za.fst),(vi Za.snd.fst)]),(12,[(vi Zb.fst),(vi Zb.snd)]),(3,[(vi x.a),(vi x.b),(vi x.c),(vi x.d)]),(4,[(vi y.a),(vi y.b),(vi y.c),(vi y.d)]),(6,[(vi 0),(vi 0),(vi 0),(vi 0)]),(10,[(vi ((fD x).getD k (0,0)).fst),(vi ((fD x).getD k (0,0)).snd)]),(900,[.dead])]⟩))))∧(((decide ((↑j:Int)<2))=false)→aC Tryz.prog G [(.blk 1),cd Tryz.f104 [1,1,0,1,0,0,1,1,1]] ⟨regs 78 [(2,Zc),(3,(.box 3 0)),(4,(.box 4 0)),(6,(.box 6 0)),(8,(.vec 900 2 0 (2*k+j))),(10,(.box 10 0)),(22,(.d (.slc 2 2 (nT (fD x))))),(23,(vi 2)),(24,(vi (↑k))),(32,(.d (.slc 2 2 (nT (fD y))))),(33,(vi 2)),(34,(vi (↑j))),(35,(vb (decide ((↑j:Int)<2))))],[(3,[(vi x.a),(vi x.b),(vi x.c),(vi x.d)]),(4,[(vi y.a),(vi y.b),(vi y.c),(vi y.d)]),(6,[(vi 0),(vi 0),(vi 0),(vi 0)]),(10,[(vi ((fD x).getD k (0,0)).fst),(vi ((fD x).getD k (0,0)).snd)]),(900,[(.arr ⟨true,23,false,none⟩ 2 (jL bY x y (2*k+j)))])]⟩ (nR Tryz.prog G [(.blk 0),cd Tryz.f104 [1,1,1]] (fF Tryz.prog Tryz.f104 (DV.au [iG (oN bY x y),db !jm bY x y])) (RQ 78 bY x y) (fun k=>k≤2∧∀(n:Nat),n<2*k→(iy bY x y n).snd.snd=0) (fun k=>2-k) k)))) (by kernel_rfl) ?_
    simp only[Int.toNat_natCast]
    refine⟨fun h2=>?_,fun h2=>?_⟩
    ·have hj2:j<2:=by have:=of_decide_eq_true h2;omega
     have ec:=YX bY x y (k:=k) hj2
     refine⟨⟨by omega,by show (j:Int)<2;omega⟩,aa4 _ _ _ _,fun h3=>?_,fun h3=>⟨⟨⟨by omega,by omega⟩,fun i hi=>(by obtain rfl:i=0:=(by omega);rfl)⟩,⟨by omega,by omega⟩,Again.Iq [(51,900)] rfl (j+1) ?_ ⟨hj2,fun n hn=>?_⟩ (by omega)⟩⟩
     ·rw[ec] at h3
      unfold oN
      rw[SG (n:=2*k+j) (by omega) (by simpa using h3)]
      rfl
     ·refine Vf (bY ((fD x).getD k (0,0)).fst ((fD x).getD k (0,0)).snd ((fD y).getD j (0,0)).fst ((fD y).getD j (0,0)).snd) (some [(vi ((fD x).getD k (0,0)).fst),(vi ((fD x).getD k (0,0)).snd)]) (fun Za Zb=>((((.d (.con (.func (.func 78) ⟨[]⟩ ⟨[]⟩))):AV)=(.d (.con (.func (.func 78) ⟨[]⟩ ⟨[]⟩)))∧((.box 3 0):AV)=(.box 3 0)∧((.box 4 0):AV)=(.box 4 0)∧((.box 6 0):AV)=(.box 6 0)∧((.vec 900 2 0 (2*k+j+1)):AV)=(.vec 900 2 0 (2*k+(j+1)))∧((.box 10 0):AV)=(.box 10 0)∧((.d (.slc 2 2 (nT (fD x)))):AV)=(.d (.slc 2 2 (nT (fD x))))∧((vi 2):AV)=(vi 2)∧((vi (↑k)):AV)=(vi (↑k))∧((.d (.slc 2 2 (nT (fD y)))):AV)=(.d (.slc 2 2 (nT (fD y))))∧((vi 2):AV)=(vi 2)∧((vi (↑j+1)):AV)=(vi (↑(j+1)))∧True)∧((some [(vi x.a),(vi x.b),(vi x.c),(vi x.d)]):(Option (List AV)))=(some [(vi x.a),(vi x.b),(vi x.c),(vi x.d)])∧((some [(vi y.a),(vi y.b),(vi y.c),(vi y.d)]):(Option (List AV)))=(some [(vi y.a),(vi y.b),(vi y.c),(vi y.d)])∧((some [(vi 0),(vi 0),(vi 0),(vi 0)]):(Option (List AV)))=(some [(vi 0),(vi 0),(vi 0),(vi 0)])∧(Zb:(Option (List AV)))=Zb∧((some [(.arr ⟨true,23,false,none⟩ 2 (fun i=>bif i.blt (2*k+j) then jL bY x y (2*k+j) i else aN true 2 [di Za.fst,di Za.snd.fst] (i-(2*k+j))))]):(Option (List AV)))=(some [(.arr ⟨true,23,false,none⟩ 2 (jL bY x y (2*k+(j+1))))])∧True)) (by kernel_rfl) ?_
      refine⟨⟨rfl,rfl,rfl,rfl,rfl,rfl,rfl,rfl,rfl,rfl,rfl,rfl,trivial⟩,rfl,rfl,rfl,rfl,?_,trivial⟩
      exact congrArg (fun f=>some [AV.arr EN 2 f]) (Mc (2*k+j) (by rw[ec]) (by rw[ec]))
     ·rcases Nat.lt_or_ge n (2*k+j) with h4|h4
      ·exact hjd n h4
      ·obtain rfl:n=2*k+j:=by omega
       rw[ec] at h3
       simpa using h3
    ·have h2:=of_decide_eq_false h2
     obtain rfl:j=2:=by omega
     refine walk (ay:=nH) (keep:=[]) (cuts:=[]) (n:=1000) follows ?_
     refine bW (fun ZT _ _ _ ZA _=>((I64 (↑k+1))∧(ZA (aI ZT [])))) (by kernel_rfl) ?_
     refine⟨⟨by omega,by omega⟩,Again.mk (k+1) ?_ ⟨hk2,fun n hn=>hjd n (by omega)⟩ (by omega)⟩
     refine AS.leZ [4] [3] (b:=((T0∧T0∧T0∧T0∧((.vec 900 2 0 (2*k+2)):AV)=(.vec 900 2 0 (2*(k+1)))∧T0∧T0∧T0∧True)∧T0∧T0∧T0∧((some [(.arr ⟨true,23,false,none⟩ 2 (jL bY x y (2*k+2)))]):(Option (List AV)))=(some [(.arr ⟨true,23,false,none⟩ 2 (jL bY x y (2*(k+1))))])∧True)) (by kernel_rfl) (by kernel_rfl) ?_
     exact⟨⟨rfl,rfl,rfl,rfl,rfl,rfl,rfl,rfl,trivial⟩,rfl,rfl,rfl,rfl,trivial⟩
  ·have h1:=of_decide_eq_false h1
   obtain rfl:k=2:=by omega
   have hg:=TU (op:=bY) (x:=x) (y:=y) fun n hn=>hkd n hn
   unfold oN
   rw[hg]
   refine aC.freeze (agg:=EN) (sz:=2) (f:=jL bY x y 4) 900 (by kernel_rfl) ?_
   refine aC.pre (.reg _ 8 (.d (.slc 2 4 (Yn bY x y))) fun β h v hv=>DV.dJ (f:=fun i=>jL bY x y 4 (0+i)) (fun i hi=>Pn hi) hv) ?_
   refine walk (ay:=nH) (keep:=[]) (cuts:=[]) (n:=1000) follows ?_
   refine aA (fun ZT ZW ZQ _=>(((((0:Int)≤(0:Int))∧(0<(↑4:Int)))∧((0:Int)≤(0:Int))∧(0<(↑4:Int)))∧ZW [cd Tryz.f104 [1,1,1,1,0,1,0],(.blk 4),cd Tryz.f104 [1,1,1,1,1]] (aI ZT []) ZQ)) (by kernel_rfl) ?_
   refine⟨⟨⟨by omega,by show (0:Int)<4;omega⟩,⟨by omega,by show (0:Int)<4;omega⟩⟩,?_⟩
   obtain ⟨M,hM⟩:∃M,M=zD bY x y:=⟨_,rfl⟩
   refine aC.loop (c:=dR (aQ Tryz.f104) [1,1,1,1,0,1,0,0]) (by kernel_rfl) (aa3 bY x y M) (fun n=>n≤4) (fun n=>4-n) 0 ?_ (Nat.zero_le _) ?_
   ·refine AS.leZ [] [1] (b:=((T0∧T0∧T0∧T0∧T0∧True)∧T0∧((some [(vi (iy bY x y (Int.toNat 0)).fst),(vi (iy bY x y (Int.toNat 0)).snd.fst),(vi (iy bY x y (Int.toNat 0)).fst),(vi (iy bY x y (Int.toNat 0)).snd.fst)]):(Option (List AV)))=(some [(vi (M 0).a),(vi (M 0).b),(vi (M 0).c),(vi (M 0).d)])∧True)) (by kernel_rfl) (by kernel_rfl) ?_
    refine⟨⟨rfl,rfl,rfl,rfl,rfl,trivial⟩,rfl,?_,trivial⟩
    rw[hM];rfl
   ·intro n hn
    refine walk (ay:=nH) (keep:=[]) (cuts:=[]) (n:=1000) follows ?_
    refine bW (fun ZT ZW ZQ ZK ZA _=>(fun Za=>((((decide ((↑n:Int)<4))=true)→(((0≤(↑n:Int))∧((↑n:Int)<↑4))∧(ZK 107 [(.agg [(di (M n).a),(di (M n).b)]),(.agg [(di Za.fst),(di Za.snd.fst)])] (.agg [(di (xX (M n).a (M n).b Za.fst Za.snd.fst)),(di (xZ (M n).a (M n).b Za.fst Za.snd.fst))])∧ZK 108 [(.agg [(di (M n).c),(di (M n).d)]),(.agg [(di Za.fst),(di Za.snd.fst)])] (.agg [(di (x9 (M n).c (M n).d Za.fst Za.snd.fst)),(di (xY (M n).c (M n).d Za.fst Za.snd.fst))]))∧(I64 (↑n+1))∧(ZA (aI ZT [0]))))∧(((decide ((↑n:Int)<4))=false)→ZW [cd Tryz.f104 [1,1,1,1,1]] (aI ZT [1]) ZQ))) (iy bY x y (↑n:Int).toNat)) (by kernel_rfl) ?_
    simp only[Int.toNat_natCast]
    refine⟨fun h2=>?_,fun h2=>?_⟩
    ·have hn2:n<4:=by have:=of_decide_eq_true h2;omega
     refine⟨⟨by omega,by show (n:Int)<4;omega⟩,⟨f107 _ _ _ _,f108 _ _ _ _⟩,⟨by omega,by omega⟩,Again.mk (n+1) ?_ hn2 (by omega)⟩
     refine AS.leZ [] [1] (b:=((T0∧T0∧T0∧T0∧T0∧True)∧T0∧((some [(vi (xX (M n).a (M n).b (iy bY x y (↑n:Int).toNat).fst (iy bY x y (↑n:Int).toNat).snd.fst)),(vi (xZ (M n).a (M n).b (iy bY x y (↑n:Int).toNat).fst (iy bY x y (↑n:Int).toNat).snd.fst)),(vi (x9 (M n).c (M n).d (iy bY x y (↑n:Int).toNat).fst (iy bY x y (↑n:Int).toNat).snd.fst)),(vi (xY (M n).c (M n).d (iy bY x y (↑n:Int).toNat).fst (iy bY x y (↑n:Int).toNat).snd.fst))]):(Option (List AV)))=(some [(vi (M (n+1)).a),(vi (M (n+1)).b),(vi (M (n+1)).c),(vi (M (n+1)).d)])∧True)) (by kernel_rfl) (by kernel_rfl) ?_
     refine⟨⟨rfl,rfl,rfl,rfl,rfl,trivial⟩,rfl,?_,trivial⟩
     rw[hM];rfl
    ·have h2:=of_decide_eq_false h2
     obtain rfl:n=4:=by omega
     refine walk (ay:=nH) (keep:=[]) (cuts:=[]) (n:=1000) follows ?_
     refine aA (fun _ _ _ _=>(((.au [(iG (M 4)),(db true)]):DV)=(.au [(iG (if false=true then Bd.mk 0 0 0 0 else zD bY x y 4)),(db !false)]))) (by kernel_rfl) ?_
     rw[hM];rfl
theorem aeF (x y:Bd):aj Tryz.prog G 104 [iG x,iG y,.con (.func (.func 77) #[] #[])] (.au [iG (oN bD x y),db (!jm bD x y)]):=by
 refine aj.walk (ay:=nH) (keep:=[]) follows Tryz.func104 rfl Tryz.call104 ?_
 refine vk (b:=aC Tryz.prog G [cd Tryz.f104 [1,1,0,1,0],(.blk 0),cd Tryz.f104 [1,1,1]] ⟨regs 78 [(0,(.d (iG x))),(1,(.d (iG y))),(2,(.d (.con (.func (.func 77) ⟨[]⟩ ⟨[]⟩)))),(3,(.box 3 0)),(4,(.box 4 0)),(6,(.box 6 0)),(7,(vb false)),(8,(.d (.con (.slice none 0 0)))),(18,(.box 3 0)),(19,(.d (.agg [(di x.a),(di x.b)]))),(20,(.box 3 2)),(21,(.d (.agg [(di x.c),(di x.d)]))),(22,(.d (.slc 2 2 (aN true 2 [(di x.a),(di x.b),(di x.c),(di x.d)])))),(23,(vi 2)),(24,(vi 0))],[(6,[(vi 0),(vi 0),(vi 0),(vi 0)]),(4,[(vi y.a),(vi y.b),(vi y.c),(vi y.d)]),(3,[(vi x.a),(vi x.b),(vi x.c),(vi x.d)])]⟩ (fF Tryz.prog Tryz.f104 (DV.au [iG (oN bD x y),db !jm bD x y]))) (by kernel_rfl) ?_
 refine aC.pre (.nilRow _ 8 900 2 EN (jL bD x y 0) (by kernel_rfl) (by kernel_rfl)) ?_
 refine aC.pre (.reg _ 22 (.d (nZ (fD x))) fun β h v hv=>FK (p:=(x.a,x.b)) (q:=(x.c,x.d)) hv) ?_
 refine aC.loop (c:=dR (aQ Tryz.f104) [1,1,0,1,0,0]) (by kernel_rfl) (RQ 77 bD x y) (fun k=>k≤2∧∀n,n<2*k→(iy bD x y n).2.2=0) (fun k=>2-k) 0 ?_ ⟨Nat.zero_le _,fun n hn=>by omega⟩ ?_
 ·exact AS.dB (by kernel_rfl)
 ·rintro k ⟨hk,hkd⟩
  refine walk (ay:=nH) (keep:=[]) (cuts:=[]) (n:=1000) follows ?_
  refine rV ((fD x).getD (↑k:Int).toNat (0,0)) (fF Tryz.prog Tryz.f104 (DV.au [iG (oN bD x y),db !jm bD x y])) (fun Za Zb=>((((decide ((↑k:Int)<2))=true)→(((0≤(↑k:Int))∧((↑k:Int)<↑2))∧aC Tryz.prog G [cd Tryz.f104 [1,1,0,1,0,0,1,1,0,0,1,1,0],(.blk 2),(.blk 1),cd Tryz.f104 [1,1,0,1,0,0,1,1,1]] ⟨regs 78 [(2,(.d (.con (.func (.func 77) ⟨[]⟩ ⟨[]⟩)))),(3,(.box 3 0)),(4,(.box 4 0)),(6,(.box 6 0)),(8,(.vec 900 2 0 (2*k))),(10,(.box 10 0)),(22,(.d (.slc 2 2 (nT (fD x))))),(23,(vi 2)),(24,(vi (↑k))),(25,(vb (decide ((↑k:Int)<2)))),(26,(.d (.ptr [(di Za.fst),(di Za.snd)]))),(27,(.d (.agg [(di Za.fst),(di Za.snd)]))),(28,(.box 4 0)),(29,(.d (.agg [(di y.a),(di y.b)]))),(30,(.box 4 2)),(31,(.d (.agg [(di y.c),(di y.d)]))),(32,(.d (.slc 2 2 (aN true 2 [(di y.a),(di y.b),(di y.c),(di y.d)])))),(33,(vi 2)),(34,(vi 0))],[(10,[(vi Za.fst),(vi Za.snd)]),(3,[(vi x.a),(vi x.b),(vi x.c),(vi x.d)]),(4,[(vi y.a),(vi y.b),(vi y.c),(vi y.d)]),(6,[(vi 0),(vi 0),(vi 0),(vi 0)]),(900,[(.arr ⟨true,23,false,none⟩ 2 (jL bD x y (2*k)))])]⟩ (nR Tryz.prog G [(.blk 0),cd Tryz.f104 [1,1,1]] Zb (RQ 77 bD x y) (fun k=>k≤2∧∀(n:Nat),n<2*k→(iy bD x y n).snd.snd=0) (fun k=>2-k) k)))∧(((decide ((↑k:Int)<2))=false)→aC Tryz.prog G [cd Tryz.f104 [1,1,1]] ⟨regs 78 [(2,(.d (.con (.func (.func 77) ⟨[]⟩ ⟨[]⟩)))),(3,(.box 3 0)),(4,(.box 4 0)),(6,(.box 6 0)),(8,(.vec 900 2 0 (2*k))),(22,(.d (.slc 2 2 (nT (fD x))))),(23,(vi 2)),(24,(vi (↑k))),(25,(vb (decide ((↑k:Int)<2))))],[(3,[(vi x.a),(vi x.b),(vi x.c),(vi x.d)]),(4,[(vi y.a),(vi y.b),(vi y.c),(vi y.d)]),(6,[(vi 0),(vi 0),(vi 0),(vi 0)]),(900,[(.arr ⟨true,23,false,none⟩ 2 (jL bD x y (2*k)))])]⟩ Zb))) (by kernel_rfl) ?_
  simp only[Int.toNat_natCast]
  refine⟨fun h1=>?_,fun h1=>?_⟩
  ·have hk2:k<2:=by have:=of_decide_eq_true h1;omega
   refine⟨⟨by omega,by show (k:Int)<2;omega⟩,?_⟩
   refine aC.pre (.reg _ 32 (.d (nZ (fD y))) fun β h v hv=>FK (p:=(y.a,y.b)) (q:=(y.c,y.d)) hv) ?_
   refine aC.loop (c:=dR (aQ Tryz.f104) [1,1,0,1,0,0,1,1,0,0,1,1,0,0]) (by kernel_rfl) (TN 77 bD x y k) (fun j=>j≤2∧∀n,n<2*k+j→(iy bD x y n).2.2=0) (fun j=>2-j) 0 ?_ ⟨Nat.zero_le _,hkd⟩ ?_
   ·refine AS.leZ [4] [4] (b:=((T0∧T0∧T0∧T0∧((.vec 900 2 0 (2*k)):AV)=(.vec 900 2 0 (2*k+0))∧T0∧T0∧T0∧T0∧T0∧T0∧T0∧True)∧T0∧T0∧T0∧T0∧((some [(.arr ⟨true,23,false,none⟩ 2 (jL bD x y (2*k)))]):(Option (List AV)))=(some [(.arr ⟨true,23,false,none⟩ 2 (jL bD x y (2*k+0)))])∧True)) (by kernel_rfl) (by kernel_rfl) ?_
    exact⟨⟨rfl,rfl,rfl,rfl,rfl,rfl,rfl,rfl,rfl,rfl,rfl,rfl,trivial⟩,rfl,rfl,rfl,rfl,rfl,trivial⟩
   ·rintro j ⟨hj,hjd⟩
    refine walk (ay:=nH) (keep:=[]) (cuts:=[]) (n:=1000) follows ?_
    refine BQ (bD ((fD x).getD k (0,0)).fst ((fD x).getD k (0,0)).snd ((fD y).getD (↑j:Int).toNat (0,0)).fst ((fD y).getD (↑j:Int).toNat (0,0)).snd) ((fD y).getD (↑j:Int).toNat (0,0)) ((.d (.con (.func (.func 77) ⟨[]⟩ ⟨[]⟩))):AV) ((.agg [(di ((fD x).getD k (0,0)).fst),(di ((fD x).getD k (0,0)).snd)]):DV) (fun Za Zb Zc Zd=>((((decide ((↑j:Int)<2))=true)→(((0≤(↑j:Int))∧((↑j:Int)<↑2))∧aj Tryz.prog G 77 [Zd,(.agg [(di Zb.fst),(di Zb.snd)])] (.au [(.agg [(di Za.fst),(di Za.snd.fst)]),(di Za.snd.snd)])∧(((Za.snd.snd != 0)=true)→(((.au [(.agg [(di 0),(di 0),(di 0),(di 0)]),(db false)]):DV)=(.au [(iG (oN bD x y)),(db !jm bD x y)])))∧(((Za.snd.snd != 0)=false)→(((((2*k+j+1)*16≤1099511627776)∧(2*k+j+1≤1099511627776))∧(∀(i:Nat),i<1→jW true 2 (aN true 2 [di Za.fst,di Za.snd.fst] i)=true))∧(I64 (↑j+1))∧Again (TN 77 bD x y k) (fun j=>j≤2∧∀(n:Nat),n<2*k+j→(iy bD x y n).snd.snd=0) (fun j=>2-j) j ⟨regs 78 [(2,Zc),(3,(.box 3 0)),(4,(.box 4 0)),(6,(.box 6 0)),(8,(.vec 51 2 0 (2*k+j+1))),(10,(.box 10 0)),(12,(.box 12 0)),(13,(.box 13 0)),(14,(vi Za.snd.snd)),(22,(.d (.slc 2 2 (nT (fD x))))),(23,(vi 2)),(24,(vi (↑k))),(32,(.d (.slc 2 2 (nT (fD y))))),(33,(vi 2)),(34,(vi (↑j+1))),(35,(vb (decide ((↑j:Int)<2)))),(36,(.d (.ptr [(di Zb.fst),(di Zb.snd)]))),(37,(.d (.agg [(di Zb.fst),(di Zb.snd)]))),(38,(.d (.au [(.agg [(di Za.fst),(di Za.snd.fst)]),(di Za.snd.snd)]))),(39,Zc),(40,(.d Zd)),(41,(.d (.agg [(di Zb.fst),(di Zb.snd)]))),(42,(.d (.au [(.agg [(di Za.fst),(di Za.snd.fst)]),(di Za.snd.snd)]))),(43,(.d (.agg [(di Za.fst),(di Za.snd.fst)]))),(44,(vi Za.snd.snd)),(45,(vi Za.snd.snd)),(46,(vb (Za.snd.snd != 0))),(48,(.vec 900 2 0 (2*k+j))),(49,(.d (.agg [(di Za.fst),(di Za.snd.fst)]))),(50,(.d (.slc 2 1 (aN true 2 [(di Za.fst),(di Za.snd.fst)])))),(51,(.vec 51 2 0 (2*k+j+1))),(52,(vi (↑j+1)))],[(51,[(.arr ⟨true,23,false,none⟩ 2 (fun i=>bif i.blt (2*k+j) then jL bD x y (2*k+j) i else aN true 2 [di Za.fst,di Za.snd.fst] (i-(2*k+j))))]),(13,[(vi Za.fst),(vi Za.snd.fst)]),(12,[(vi Zb.fst),(vi Zb.snd)]),(3,[(vi x.a),(vi x.b),(vi x.c),(vi x.d)]),(4,[(vi y.a),(vi y.b),(vi y.c),(vi y.d)]),(6,[(vi 0),(vi 0),(vi 0),(vi 0)]),(10,[(vi ((fD x).getD k (0,0)).fst),(vi ((fD x).getD k (0,0)).snd)]),(900,[.dead])]⟩))))∧(((decide ((↑j:Int)<2))=false)→aC Tryz.prog G [(.blk 1),cd Tryz.f104 [1,1,0,1,0,0,1,1,1]] ⟨regs 78 [(2,Zc),(3,(.box 3 0)),(4,(.box 4 0)),(6,(.box 6 0)),(8,(.vec 900 2 0 (2*k+j))),(10,(.box 10 0)),(22,(.d (.slc 2 2 (nT (fD x))))),(23,(vi 2)),(24,(vi (↑k))),(32,(.d (.slc 2 2 (nT (fD y))))),(33,(vi 2)),(34,(vi (↑j))),(35,(vb (decide ((↑j:Int)<2))))],[(3,[(vi x.a),(vi x.b),(vi x.c),(vi x.d)]),(4,[(vi y.a),(vi y.b),(vi y.c),(vi y.d)]),(6,[(vi 0),(vi 0),(vi 0),(vi 0)]),(10,[(vi ((fD x).getD k (0,0)).fst),(vi ((fD x).getD k (0,0)).snd)]),(900,[(.arr ⟨true,23,false,none⟩ 2 (jL bD x y (2*k+j)))])]⟩ (nR Tryz.prog G [(.blk 0),cd Tryz.f104 [1,1,1]] (fF Tryz.prog Tryz.f104 (DV.au [iG (oN bD x y),db !jm bD x y])) (RQ 77 bD x y) (fun k=>k≤2∧∀(n:Nat),n<2*k→(iy bD x y n).snd.snd=0) (fun k=>2-k) k)))) (by kernel_rfl) ?_
    simp only[Int.toNat_natCast]
    refine⟨fun h2=>?_,fun h2=>?_⟩
    ·have hj2:j<2:=by have:=of_decide_eq_true h2;omega
     have ec:=YX bD x y (k:=k) hj2
     refine⟨⟨by omega,by show (j:Int)<2;omega⟩,Ws _ _ _ _,fun h3=>?_,fun h3=>⟨⟨⟨by omega,by omega⟩,fun i hi=>(by obtain rfl:i=0:=(by omega);rfl)⟩,⟨by omega,by omega⟩,Again.Iq [(51,900)] rfl (j+1) ?_ ⟨hj2,fun n hn=>?_⟩ (by omega)⟩⟩
     ·rw[ec] at h3
      unfold oN
      rw[SG (n:=2*k+j) (by omega) (by simpa using h3)]
      rfl
     ·refine Vf (bD ((fD x).getD k (0,0)).fst ((fD x).getD k (0,0)).snd ((fD y).getD j (0,0)).fst ((fD y).getD j (0,0)).snd) (some [(vi ((fD x).getD k (0,0)).fst),(vi ((fD x).getD k (0,0)).snd)]) (fun Za Zb=>((((.d (.con (.func (.func 77) ⟨[]⟩ ⟨[]⟩))):AV)=(.d (.con (.func (.func 77) ⟨[]⟩ ⟨[]⟩)))∧((.box 3 0):AV)=(.box 3 0)∧((.box 4 0):AV)=(.box 4 0)∧((.box 6 0):AV)=(.box 6 0)∧((.vec 900 2 0 (2*k+j+1)):AV)=(.vec 900 2 0 (2*k+(j+1)))∧((.box 10 0):AV)=(.box 10 0)∧((.d (.slc 2 2 (nT (fD x)))):AV)=(.d (.slc 2 2 (nT (fD x))))∧((vi 2):AV)=(vi 2)∧((vi (↑k)):AV)=(vi (↑k))∧((.d (.slc 2 2 (nT (fD y)))):AV)=(.d (.slc 2 2 (nT (fD y))))∧((vi 2):AV)=(vi 2)∧((vi (↑j+1)):AV)=(vi (↑(j+1)))∧True)∧((some [(vi x.a),(vi x.b),(vi x.c),(vi x.d)]):(Option (List AV)))=(some [(vi x.a),(vi x.b),(vi x.c),(vi x.d)])∧((some [(vi y.a),(vi y.b),(vi y.c),(vi y.d)]):(Option (List AV)))=(some [(vi y.a),(vi y.b),(vi y.c),(vi y.d)])∧((some [(vi 0),(vi 0),(vi 0),(vi 0)]):(Option (List AV)))=(some [(vi 0),(vi 0),(vi 0),(vi 0)])∧(Zb:(Option (List AV)))=Zb∧((some [(.arr ⟨true,23,false,none⟩ 2 (fun i=>bif i.blt (2*k+j) then jL bD x y (2*k+j) i else aN true 2 [di Za.fst,di Za.snd.fst] (i-(2*k+j))))]):(Option (List AV)))=(some [(.arr ⟨true,23,false,none⟩ 2 (jL bD x y (2*k+(j+1))))])∧True)) (by kernel_rfl) ?_
      refine⟨⟨rfl,rfl,rfl,rfl,rfl,rfl,rfl,rfl,rfl,rfl,rfl,rfl,trivial⟩,rfl,rfl,rfl,rfl,?_,trivial⟩
      exact congrArg (fun f=>some [AV.arr EN 2 f]) (Mc (2*k+j) (by rw[ec]) (by rw[ec]))
     ·rcases Nat.lt_or_ge n (2*k+j) with h4|h4
      ·exact hjd n h4
      ·obtain rfl:n=2*k+j:=by omega
       rw[ec] at h3
       simpa using h3
    ·have h2:=of_decide_eq_false h2
     obtain rfl:j=2:=by omega
     refine walk (ay:=nH) (keep:=[]) (cuts:=[]) (n:=1000) follows ?_
     refine bW (fun ZT _ _ _ ZA _=>((I64 (↑k+1))∧(ZA (aI ZT [])))) (by kernel_rfl) ?_
     refine⟨⟨by omega,by omega⟩,Again.mk (k+1) ?_ ⟨hk2,fun n hn=>hjd n (by omega)⟩ (by omega)⟩
     refine AS.leZ [4] [3] (b:=((T0∧T0∧T0∧T0∧((.vec 900 2 0 (2*k+2)):AV)=(.vec 900 2 0 (2*(k+1)))∧T0∧T0∧T0∧True)∧T0∧T0∧T0∧((some [(.arr ⟨true,23,false,none⟩ 2 (jL bD x y (2*k+2)))]):(Option (List AV)))=(some [(.arr ⟨true,23,false,none⟩ 2 (jL bD x y (2*(k+1))))])∧True)) (by kernel_rfl) (by kernel_rfl) ?_
     exact⟨⟨rfl,rfl,rfl,rfl,rfl,rfl,rfl,rfl,trivial⟩,rfl,rfl,rfl,rfl,trivial⟩
  ·have h1:=of_decide_eq_false h1
   obtain rfl:k=2:=by omega
   have hg:=TU (op:=bD) (x:=x) (y:=y) fun n hn=>hkd n hn
   unfold oN
   rw[hg]
   refine aC.freeze (agg:=EN) (sz:=2) (f:=jL bD x y 4) 900 (by kernel_rfl) ?_
   refine aC.pre (.reg _ 8 (.d (.slc 2 4 (Yn bD x y))) fun β h v hv=>DV.dJ (f:=fun i=>jL bD x y 4 (0+i)) (fun i hi=>Pn hi) hv) ?_
   refine walk (ay:=nH) (keep:=[]) (cuts:=[]) (n:=1000) follows ?_
   refine aA (fun ZT ZW ZQ _=>(((((0:Int)≤(0:Int))∧(0<(↑4:Int)))∧((0:Int)≤(0:Int))∧(0<(↑4:Int)))∧ZW [cd Tryz.f104 [1,1,1,1,0,1,0],(.blk 4),cd Tryz.f104 [1,1,1,1,1]] (aI ZT []) ZQ)) (by kernel_rfl) ?_
   refine⟨⟨⟨by omega,by show (0:Int)<4;omega⟩,⟨by omega,by show (0:Int)<4;omega⟩⟩,?_⟩
   obtain ⟨M,hM⟩:∃M,M=zD bD x y:=⟨_,rfl⟩
   refine aC.loop (c:=dR (aQ Tryz.f104) [1,1,1,1,0,1,0,0]) (by kernel_rfl) (aa3 bD x y M) (fun n=>n≤4) (fun n=>4-n) 0 ?_ (Nat.zero_le _) ?_
   ·refine AS.leZ [] [1] (b:=((T0∧T0∧T0∧T0∧T0∧True)∧T0∧((some [(vi (iy bD x y (Int.toNat 0)).fst),(vi (iy bD x y (Int.toNat 0)).snd.fst),(vi (iy bD x y (Int.toNat 0)).fst),(vi (iy bD x y (Int.toNat 0)).snd.fst)]):(Option (List AV)))=(some [(vi (M 0).a),(vi (M 0).b),(vi (M 0).c),(vi (M 0).d)])∧True)) (by kernel_rfl) (by kernel_rfl) ?_
    refine⟨⟨rfl,rfl,rfl,rfl,rfl,trivial⟩,rfl,?_,trivial⟩
    rw[hM];rfl
   ·intro n hn
    refine walk (ay:=nH) (keep:=[]) (cuts:=[]) (n:=1000) follows ?_
    refine bW (fun ZT ZW ZQ ZK ZA _=>(fun Za=>((((decide ((↑n:Int)<4))=true)→(((0≤(↑n:Int))∧((↑n:Int)<↑4))∧(ZK 107 [(.agg [(di (M n).a),(di (M n).b)]),(.agg [(di Za.fst),(di Za.snd.fst)])] (.agg [(di (xX (M n).a (M n).b Za.fst Za.snd.fst)),(di (xZ (M n).a (M n).b Za.fst Za.snd.fst))])∧ZK 108 [(.agg [(di (M n).c),(di (M n).d)]),(.agg [(di Za.fst),(di Za.snd.fst)])] (.agg [(di (x9 (M n).c (M n).d Za.fst Za.snd.fst)),(di (xY (M n).c (M n).d Za.fst Za.snd.fst))]))∧(I64 (↑n+1))∧(ZA (aI ZT [0]))))∧(((decide ((↑n:Int)<4))=false)→ZW [cd Tryz.f104 [1,1,1,1,1]] (aI ZT [1]) ZQ))) (iy bD x y (↑n:Int).toNat)) (by kernel_rfl) ?_
    simp only[Int.toNat_natCast]
    refine⟨fun h2=>?_,fun h2=>?_⟩
    ·have hn2:n<4:=by have:=of_decide_eq_true h2;omega
     refine⟨⟨by omega,by show (n:Int)<4;omega⟩,⟨f107 _ _ _ _,f108 _ _ _ _⟩,⟨by omega,by omega⟩,Again.mk (n+1) ?_ hn2 (by omega)⟩
     refine AS.leZ [] [1] (b:=((T0∧T0∧T0∧T0∧T0∧True)∧T0∧((some [(vi (xX (M n).a (M n).b (iy bD x y (↑n:Int).toNat).fst (iy bD x y (↑n:Int).toNat).snd.fst)),(vi (xZ (M n).a (M n).b (iy bD x y (↑n:Int).toNat).fst (iy bD x y (↑n:Int).toNat).snd.fst)),(vi (x9 (M n).c (M n).d (iy bD x y (↑n:Int).toNat).fst (iy bD x y (↑n:Int).toNat).snd.fst)),(vi (xY (M n).c (M n).d (iy bD x y (↑n:Int).toNat).fst (iy bD x y (↑n:Int).toNat).snd.fst))]):(Option (List AV)))=(some [(vi (M (n+1)).a),(vi (M (n+1)).b),(vi (M (n+1)).c),(vi (M (n+1)).d)])∧True)) (by kernel_rfl) (by kernel_rfl) ?_
     refine⟨⟨rfl,rfl,rfl,rfl,rfl,trivial⟩,rfl,?_,trivial⟩
     rw[hM];rfl
    ·have h2:=of_decide_eq_false h2
     obtain rfl:n=4:=by omega
     refine walk (ay:=nH) (keep:=[]) (cuts:=[]) (n:=1000) follows ?_
     refine aA (fun _ _ _ _=>(((.au [(iG (M 4)),(db true)]):DV)=(.au [(iG (if false=true then Bd.mk 0 0 0 0 else zD bD x y 4)),(db !false)]))) (by kernel_rfl) ?_
     rw[hM];rfl
theorem aeO (x y:Bd):aj Tryz.prog G 104 [iG x,iG y,.con (.func (.func 79) #[] #[])] (.au [iG (oN dD x y),db (!jm dD x y)]):=by
 refine aj.walk (ay:=nH) (keep:=[]) follows Tryz.func104 rfl Tryz.call104 ?_
 refine vk (b:=aC Tryz.prog G [cd Tryz.f104 [1,1,0,1,0],(.blk 0),cd Tryz.f104 [1,1,1]] ⟨regs 78 [(0,(.d (iG x))),(1,(.d (iG y))),(2,(.d (.con (.func (.func 79) ⟨[]⟩ ⟨[]⟩)))),(3,(.box 3 0)),(4,(.box 4 0)),(6,(.box 6 0)),(7,(vb false)),(8,(.d (.con (.slice none 0 0)))),(18,(.box 3 0)),(19,(.d (.agg [(di x.a),(di x.b)]))),(20,(.box 3 2)),(21,(.d (.agg [(di x.c),(di x.d)]))),(22,(.d (.slc 2 2 (aN true 2 [(di x.a),(di x.b),(di x.c),(di x.d)])))),(23,(vi 2)),(24,(vi 0))],[(6,[(vi 0),(vi 0),(vi 0),(vi 0)]),(4,[(vi y.a),(vi y.b),(vi y.c),(vi y.d)]),(3,[(vi x.a),(vi x.b),(vi x.c),(vi x.d)])]⟩ (fF Tryz.prog Tryz.f104 (DV.au [iG (oN dD x y),db !jm dD x y]))) (by kernel_rfl) ?_
 refine aC.pre (.nilRow _ 8 900 2 EN (jL dD x y 0) (by kernel_rfl) (by kernel_rfl)) ?_
 refine aC.pre (.reg _ 22 (.d (nZ (fD x))) fun β h v hv=>FK (p:=(x.a,x.b)) (q:=(x.c,x.d)) hv) ?_
 refine aC.loop (c:=dR (aQ Tryz.f104) [1,1,0,1,0,0]) (by kernel_rfl) (RQ 79 dD x y) (fun k=>k≤2∧∀n,n<2*k→(iy dD x y n).2.2=0) (fun k=>2-k) 0 ?_ ⟨Nat.zero_le _,fun n hn=>by omega⟩ ?_
 ·exact AS.dB (by kernel_rfl)
 ·rintro k ⟨hk,hkd⟩
  refine walk (ay:=nH) (keep:=[]) (cuts:=[]) (n:=1000) follows ?_
  refine rV ((fD x).getD (↑k:Int).toNat (0,0)) (fF Tryz.prog Tryz.f104 (DV.au [iG (oN dD x y),db !jm dD x y])) (fun Za Zb=>((((decide ((↑k:Int)<2))=true)→(((0≤(↑k:Int))∧((↑k:Int)<↑2))∧aC Tryz.prog G [cd Tryz.f104 [1,1,0,1,0,0,1,1,0,0,1,1,0],(.blk 2),(.blk 1),cd Tryz.f104 [1,1,0,1,0,0,1,1,1]] ⟨regs 78 [(2,(.d (.con (.func (.func 79) ⟨[]⟩ ⟨[]⟩)))),(3,(.box 3 0)),(4,(.box 4 0)),(6,(.box 6 0)),(8,(.vec 900 2 0 (2*k))),(10,(.box 10 0)),(22,(.d (.slc 2 2 (nT (fD x))))),(23,(vi 2)),(24,(vi (↑k))),(25,(vb (decide ((↑k:Int)<2)))),(26,(.d (.ptr [(di Za.fst),(di Za.snd)]))),(27,(.d (.agg [(di Za.fst),(di Za.snd)]))),(28,(.box 4 0)),(29,(.d (.agg [(di y.a),(di y.b)]))),(30,(.box 4 2)),(31,(.d (.agg [(di y.c),(di y.d)]))),(32,(.d (.slc 2 2 (aN true 2 [(di y.a),(di y.b),(di y.c),(di y.d)])))),(33,(vi 2)),(34,(vi 0))],[(10,[(vi Za.fst),(vi Za.snd)]),(3,[(vi x.a),(vi x.b),(vi x.c),(vi x.d)]),(4,[(vi y.a),(vi y.b),(vi y.c),(vi y.d)]),(6,[(vi 0),(vi 0),(vi 0),(vi 0)]),(900,[(.arr ⟨true,23,false,none⟩ 2 (jL dD x y (2*k)))])]⟩ (nR Tryz.prog G [(.blk 0),cd Tryz.f104 [1,1,1]] Zb (RQ 79 dD x y) (fun k=>k≤2∧∀(n:Nat),n<2*k→(iy dD x y n).snd.snd=0) (fun k=>2-k) k)))∧(((decide ((↑k:Int)<2))=false)→aC Tryz.prog G [cd Tryz.f104 [1,1,1]] ⟨regs 78 [(2,(.d (.con (.func (.func 79) ⟨[]⟩ ⟨[]⟩)))),(3,(.box 3 0)),(4,(.box 4 0)),(6,(.box 6 0)),(8,(.vec 900 2 0 (2*k))),(22,(.d (.slc 2 2 (nT (fD x))))),(23,(vi 2)),(24,(vi (↑k))),(25,(vb (decide ((↑k:Int)<2))))],[(3,[(vi x.a),(vi x.b),(vi x.c),(vi x.d)]),(4,[(vi y.a),(vi y.b),(vi y.c),(vi y.d)]),(6,[(vi 0),(vi 0),(vi 0),(vi 0)]),(900,[(.arr ⟨true,23,false,none⟩ 2 (jL dD x y (2*k)))])]⟩ Zb))) (by kernel_rfl) ?_
  simp only[Int.toNat_natCast]
  refine⟨fun h1=>?_,fun h1=>?_⟩
  ·have hk2:k<2:=by have:=of_decide_eq_true h1;omega
   refine⟨⟨by omega,by show (k:Int)<2;omega⟩,?_⟩
   refine aC.pre (.reg _ 32 (.d (nZ (fD y))) fun β h v hv=>FK (p:=(y.a,y.b)) (q:=(y.c,y.d)) hv) ?_
   refine aC.loop (c:=dR (aQ Tryz.f104) [1,1,0,1,0,0,1,1,0,0,1,1,0,0]) (by kernel_rfl) (TN 79 dD x y k) (fun j=>j≤2∧∀n,n<2*k+j→(iy dD x y n).2.2=0) (fun j=>2-j) 0 ?_ ⟨Nat.zero_le _,hkd⟩ ?_
   ·refine AS.leZ [4] [4] (b:=((T0∧T0∧T0∧T0∧((.vec 900 2 0 (2*k)):AV)=(.vec 900 2 0 (2*k+0))∧T0∧T0∧T0∧T0∧T0∧T0∧T0∧True)∧T0∧T0∧T0∧T0∧((some [(.arr ⟨true,23,false,none⟩ 2 (jL dD x y (2*k)))]):(Option (List AV)))=(some [(.arr ⟨true,23,false,none⟩ 2 (jL dD x y (2*k+0)))])∧True)) (by kernel_rfl) (by kernel_rfl) ?_
    exact⟨⟨rfl,rfl,rfl,rfl,rfl,rfl,rfl,rfl,rfl,rfl,rfl,rfl,trivial⟩,rfl,rfl,rfl,rfl,rfl,trivial⟩
   ·rintro j ⟨hj,hjd⟩
    refine walk (ay:=nH) (keep:=[]) (cuts:=[]) (n:=1000) follows ?_
    refine BQ (dD ((fD x).getD k (0,0)).fst ((fD x).getD k (0,0)).snd ((fD y).getD (↑j:Int).toNat (0,0)).fst ((fD y).getD (↑j:Int).toNat (0,0)).snd) ((fD y).getD (↑j:Int).toNat (0,0)) ((.d (.con (.func (.func 79) ⟨[]⟩ ⟨[]⟩))):AV) ((.agg [(di ((fD x).getD k (0,0)).fst),(di ((fD x).getD k (0,0)).snd)]):DV) (fun Za Zb Zc Zd=>((((decide ((↑j:Int)<2))=true)→(((0≤(↑j:Int))∧((↑j:Int)<↑2))∧aj Tryz.prog G 79 [Zd,(.agg [(di Zb.fst),(di Zb.snd)])] (.au [(.agg [(di Za.fst),(di Za.snd.fst)]),(di Za.snd.snd)])∧(((Za.snd.snd != 0)=true)→(((.au [(.agg [(di 0),(di 0),(di 0),(di 0)]),(db false)]):DV)=(.au [(iG (oN dD x y)),(db !jm dD x y)])))∧(((Za.snd.snd != 0)=false)→(((((2*k+j+1)*16≤1099511627776)∧(2*k+j+1≤1099511627776))∧(∀(i:Nat),i<1→jW true 2 (aN true 2 [di Za.fst,di Za.snd.fst] i)=true))∧(I64 (↑j+1))∧Again (TN 79 dD x y k) (fun j=>j≤2∧∀(n:Nat),n<2*k+j→(iy dD x y n).snd.snd=0) (fun j=>2-j) j ⟨regs 78 [(2,Zc),(3,(.box 3 0)),(4,(.box 4 0)),(6,(.box 6 0)),(8,(.vec 51 2 0 (2*k+j+1))),(10,(.box 10 0)),(12,(.box 12 0)),(13,(.box 13 0)),(14,(vi Za.snd.snd)),(22,(.d (.slc 2 2 (nT (fD x))))),(23,(vi 2)),(24,(vi (↑k))),(32,(.d (.slc 2 2 (nT (fD y))))),(33,(vi 2)),(34,(vi (↑j+1))),(35,(vb (decide ((↑j:Int)<2)))),(36,(.d (.ptr [(di Zb.fst),(di Zb.snd)]))),(37,(.d (.agg [(di Zb.fst),(di Zb.snd)]))),(38,(.d (.au [(.agg [(di Za.fst),(di Za.snd.fst)]),(di Za.snd.snd)]))),(39,Zc),(40,(.d Zd)),(41,(.d (.agg [(di Zb.fst),(di Zb.snd)]))),(42,(.d (.au [(.agg [(di Za.fst),(di Za.snd.fst)]),(di Za.snd.snd)]))),(43,(.d (.agg [(di Za.fst),(di Za.snd.fst)]))),(44,(vi Za.snd.snd)),(45,(vi Za.snd.snd)),(46,(vb (Za.snd.snd != 0))),(48,(.vec 900 2 0 (2*k+j))),(49,(.d (.agg [(di Za.fst),(di Za.snd.fst)]))),(50,(.d (.slc 2 1 (aN true 2 [(di Za.fst),(di Za.snd.fst)])))),(51,(.vec 51 2 0 (2*k+j+1))),(52,(vi (↑j+1)))],[(51,[(.arr ⟨true,23,false,none⟩ 2 (fun i=>bif i.blt (2*k+j) then jL dD x y (2*k+j) i else aN true 2 [di Za.fst,di Za.snd.fst] (i-(2*k+j))))]),(13,[(vi Za.fst),(vi Za.snd.fst)]),(12,[(vi Zb.fst),(vi Zb.snd)]),(3,[(vi x.a),(vi x.b),(vi x.c),(vi x.d)]),(4,[(vi y.a),(vi y.b),(vi y.c),(vi y.d)]),(6,[(vi 0),(vi 0),(vi 0),(vi 0)]),(10,[(vi ((fD x).getD k (0,0)).fst),(vi ((fD x).getD k (0,0)).snd)]),(900,[.dead])]⟩))))∧(((decide ((↑j:Int)<2))=false)→aC Tryz.prog G [(.blk 1),cd Tryz.f104 [1,1,0,1,0,0,1,1,1]] ⟨regs 78 [(2,Zc),(3,(.box 3 0)),(4,(.box 4 0)),(6,(.box 6 0)),(8,(.vec 900 2 0 (2*k+j))),(10,(.box 10 0)),(22,(.d (.slc 2 2 (nT (fD x))))),(23,(vi 2)),(24,(vi (↑k))),(32,(.d (.slc 2 2 (nT (fD y))))),(33,(vi 2)),(34,(vi (↑j))),(35,(vb (decide ((↑j:Int)<2))))],[(3,[(vi x.a),(vi x.b),(vi x.c),(vi x.d)]),(4,[(vi y.a),(vi y.b),(vi y.c),(vi y.d)]),(6,[(vi 0),(vi 0),(vi 0),(vi 0)]),(10,[(vi ((fD x).getD k (0,0)).fst),(vi ((fD x).getD k (0,0)).snd)]),(900,[(.arr ⟨true,23,false,none⟩ 2 (jL dD x y (2*k+j)))])]⟩ (nR Tryz.prog G [(.blk 0),cd Tryz.f104 [1,1,1]] (fF Tryz.prog Tryz.f104 (DV.au [iG (oN dD x y),db !jm dD x y])) (RQ 79 dD x y) (fun k=>k≤2∧∀(n:Nat),n<2*k→(iy dD x y n).snd.snd=0) (fun k=>2-k) k)))) (by kernel_rfl) ?_
    simp only[Int.toNat_natCast]
    refine⟨fun h2=>?_,fun h2=>?_⟩
    ·have hj2:j<2:=by have:=of_decide_eq_true h2;omega
     have ec:=YX dD x y (k:=k) hj2
     refine⟨⟨by omega,by show (j:Int)<2;omega⟩,aa2 _ _ _ _,fun h3=>?_,fun h3=>⟨⟨⟨by omega,by omega⟩,fun i hi=>(by obtain rfl:i=0:=(by omega);rfl)⟩,⟨by omega,by omega⟩,Again.Iq [(51,900)] rfl (j+1) ?_ ⟨hj2,fun n hn=>?_⟩ (by omega)⟩⟩
     ·rw[ec] at h3
      unfold oN
      rw[SG (n:=2*k+j) (by omega) (by simpa using h3)]
      rfl
     ·refine Vf (dD ((fD x).getD k (0,0)).fst ((fD x).getD k (0,0)).snd ((fD y).getD j (0,0)).fst ((fD y).getD j (0,0)).snd) (some [(vi ((fD x).getD k (0,0)).fst),(vi ((fD x).getD k (0,0)).snd)]) (fun Za Zb=>((((.d (.con (.func (.func 79) ⟨[]⟩ ⟨[]⟩))):AV)=(.d (.con (.func (.func 79) ⟨[]⟩ ⟨[]⟩)))∧((.box 3 0):AV)=(.box 3 0)∧((.box 4 0):AV)=(.box 4 0)∧((.box 6 0):AV)=(.box 6 0)∧((.vec 900 2 0 (2*k+j+1)):AV)=(.vec 900 2 0 (2*k+(j+1)))∧((.box 10 0):AV)=(.box 10 0)∧((.d (.slc 2 2 (nT (fD x)))):AV)=(.d (.slc 2 2 (nT (fD x))))∧((vi 2):AV)=(vi 2)∧((vi (↑k)):AV)=(vi (↑k))∧((.d (.slc 2 2 (nT (fD y)))):AV)=(.d (.slc 2 2 (nT (fD y))))∧((vi 2):AV)=(vi 2)∧((vi (↑j+1)):AV)=(vi (↑(j+1)))∧True)∧((some [(vi x.a),(vi x.b),(vi x.c),(vi x.d)]):(Option (List AV)))=(some [(vi x.a),(vi x.b),(vi x.c),(vi x.d)])∧((some [(vi y.a),(vi y.b),(vi y.c),(vi y.d)]):(Option (List AV)))=(some [(vi y.a),(vi y.b),(vi y.c),(vi y.d)])∧((some [(vi 0),(vi 0),(vi 0),(vi 0)]):(Option (List AV)))=(some [(vi 0),(vi 0),(vi 0),(vi 0)])∧(Zb:(Option (List AV)))=Zb∧((some [(.arr ⟨true,23,false,none⟩ 2 (fun i=>bif i.blt (2*k+j) then jL dD x y (2*k+j) i else aN true 2 [di Za.fst,di Za.snd.fst] (i-(2*k+j))))]):(Option (List AV)))=(some [(.arr ⟨true,23,false,none⟩ 2 (jL dD x y (2*k+(j+1))))])∧True)) (by kernel_rfl) ?_
      refine⟨⟨rfl,rfl,rfl,rfl,rfl,rfl,rfl,rfl,rfl,rfl,rfl,rfl,trivial⟩,rfl,rfl,rfl,rfl,?_,trivial⟩
      exact congrArg (fun f=>some [AV.arr EN 2 f]) (Mc (2*k+j) (by rw[ec]) (by rw[ec]))
     ·rcases Nat.lt_or_ge n (2*k+j) with h4|h4
      ·exact hjd n h4
      ·obtain rfl:n=2*k+j:=by omega
       rw[ec] at h3
       simpa using h3
    ·have h2:=of_decide_eq_false h2
     obtain rfl:j=2:=by omega
     refine walk (ay:=nH) (keep:=[]) (cuts:=[]) (n:=1000) follows ?_
     refine bW (fun ZT _ _ _ ZA _=>((I64 (↑k+1))∧(ZA (aI ZT [])))) (by kernel_rfl) ?_
     refine⟨⟨by omega,by omega⟩,Again.mk (k+1) ?_ ⟨hk2,fun n hn=>hjd n (by omega)⟩ (by omega)⟩
     refine AS.leZ [4] [3] (b:=((T0∧T0∧T0∧T0∧((.vec 900 2 0 (2*k+2)):AV)=(.vec 900 2 0 (2*(k+1)))∧T0∧T0∧T0∧True)∧T0∧T0∧T0∧((some [(.arr ⟨true,23,false,none⟩ 2 (jL dD x y (2*k+2)))]):(Option (List AV)))=(some [(.arr ⟨true,23,false,none⟩ 2 (jL dD x y (2*(k+1))))])∧True)) (by kernel_rfl) (by kernel_rfl) ?_
     exact⟨⟨rfl,rfl,rfl,rfl,rfl,rfl,rfl,rfl,trivial⟩,rfl,rfl,rfl,rfl,trivial⟩
  ·have h1:=of_decide_eq_false h1
   obtain rfl:k=2:=by omega
   have hg:=TU (op:=dD) (x:=x) (y:=y) fun n hn=>hkd n hn
   unfold oN
   rw[hg]
   refine aC.freeze (agg:=EN) (sz:=2) (f:=jL dD x y 4) 900 (by kernel_rfl) ?_
   refine aC.pre (.reg _ 8 (.d (.slc 2 4 (Yn dD x y))) fun β h v hv=>DV.dJ (f:=fun i=>jL dD x y 4 (0+i)) (fun i hi=>Pn hi) hv) ?_
   refine walk (ay:=nH) (keep:=[]) (cuts:=[]) (n:=1000) follows ?_
   refine aA (fun ZT ZW ZQ _=>(((((0:Int)≤(0:Int))∧(0<(↑4:Int)))∧((0:Int)≤(0:Int))∧(0<(↑4:Int)))∧ZW [cd Tryz.f104 [1,1,1,1,0,1,0],(.blk 4),cd Tryz.f104 [1,1,1,1,1]] (aI ZT []) ZQ)) (by kernel_rfl) ?_
   refine⟨⟨⟨by omega,by show (0:Int)<4;omega⟩,⟨by omega,by show (0:Int)<4;omega⟩⟩,?_⟩
   obtain ⟨M,hM⟩:∃M,M=zD dD x y:=⟨_,rfl⟩
   refine aC.loop (c:=dR (aQ Tryz.f104) [1,1,1,1,0,1,0,0]) (by kernel_rfl) (aa3 dD x y M) (fun n=>n≤4) (fun n=>4-n) 0 ?_ (Nat.zero_le _) ?_
   ·refine AS.leZ [] [1] (b:=((T0∧T0∧T0∧T0∧T0∧True)∧T0∧((some [(vi (iy dD x y (Int.toNat 0)).fst),(vi (iy dD x y (Int.toNat 0)).snd.fst),(vi (iy dD x y (Int.toNat 0)).fst),(vi (iy dD x y (Int.toNat 0)).snd.fst)]):(Option (List AV)))=(some [(vi (M 0).a),(vi (M 0).b),(vi (M 0).c),(vi (M 0).d)])∧True)) (by kernel_rfl) (by kernel_rfl) ?_
    refine⟨⟨rfl,rfl,rfl,rfl,rfl,trivial⟩,rfl,?_,trivial⟩
    rw[hM];rfl
   ·intro n hn
    refine walk (ay:=nH) (keep:=[]) (cuts:=[]) (n:=1000) follows ?_
    refine bW (fun ZT ZW ZQ ZK ZA _=>(fun Za=>((((decide ((↑n:Int)<4))=true)→(((0≤(↑n:Int))∧((↑n:Int)<↑4))∧(ZK 107 [(.agg [(di (M n).a),(di (M n).b)]),(.agg [(di Za.fst),(di Za.snd.fst)])] (.agg [(di (xX (M n).a (M n).b Za.fst Za.snd.fst)),(di (xZ (M n).a (M n).b Za.fst Za.snd.fst))])∧ZK 108 [(.agg [(di (M n).c),(di (M n).d)]),(.agg [(di Za.fst),(di Za.snd.fst)])] (.agg [(di (x9 (M n).c (M n).d Za.fst Za.snd.fst)),(di (xY (M n).c (M n).d Za.fst Za.snd.fst))]))∧(I64 (↑n+1))∧(ZA (aI ZT [0]))))∧(((decide ((↑n:Int)<4))=false)→ZW [cd Tryz.f104 [1,1,1,1,1]] (aI ZT [1]) ZQ))) (iy dD x y (↑n:Int).toNat)) (by kernel_rfl) ?_
    simp only[Int.toNat_natCast]
    refine⟨fun h2=>?_,fun h2=>?_⟩
    ·have hn2:n<4:=by have:=of_decide_eq_true h2;omega
     refine⟨⟨by omega,by show (n:Int)<4;omega⟩,⟨f107 _ _ _ _,f108 _ _ _ _⟩,⟨by omega,by omega⟩,Again.mk (n+1) ?_ hn2 (by omega)⟩
     refine AS.leZ [] [1] (b:=((T0∧T0∧T0∧T0∧T0∧True)∧T0∧((some [(vi (xX (M n).a (M n).b (iy dD x y (↑n:Int).toNat).fst (iy dD x y (↑n:Int).toNat).snd.fst)),(vi (xZ (M n).a (M n).b (iy dD x y (↑n:Int).toNat).fst (iy dD x y (↑n:Int).toNat).snd.fst)),(vi (x9 (M n).c (M n).d (iy dD x y (↑n:Int).toNat).fst (iy dD x y (↑n:Int).toNat).snd.fst)),(vi (xY (M n).c (M n).d (iy dD x y (↑n:Int).toNat).fst (iy dD x y (↑n:Int).toNat).snd.fst))]):(Option (List AV)))=(some [(vi (M (n+1)).a),(vi (M (n+1)).b),(vi (M (n+1)).c),(vi (M (n+1)).d)])∧True)) (by kernel_rfl) (by kernel_rfl) ?_
     refine⟨⟨rfl,rfl,rfl,rfl,rfl,trivial⟩,rfl,?_,trivial⟩
     rw[hM];rfl
    ·have h2:=of_decide_eq_false h2
     obtain rfl:n=4:=by omega
     refine walk (ay:=nH) (keep:=[]) (cuts:=[]) (n:=1000) follows ?_
     refine aA (fun _ _ _ _=>(((.au [(iG (M 4)),(db true)]):DV)=(.au [(iG (if false=true then Bd.mk 0 0 0 0 else zD dD x y 4)),(db !false)]))) (by kernel_rfl) ?_
     rw[hM];rfl
/-! The greatest of some ac2. -/
def okO (a b:Int):Bool:=ok a b
noncomputable def Rj:aZ:=fun f a=>match f,a with
 | 137,[fr a b]=>some (db (okO a b))
 | _,_=>none
def nU (l:List gY):Bool:=l.all fun p=>okO p.1 p.2
noncomputable def adM (l:List gY) (k:Nat):AS:=⟨regs Tryz.f136.ntmps [(5,.d (nZ l)),(6,vi l.length),(7,vi k)],[]⟩
theorem f136 (l:List gY) (hl:l.length≤1000000):aj Tryz.prog G 136 [nZ l] (db (nU l)):=by
 refine aj.aK (ay:=Rj) (keep:=[]) follows Tryz.func136 rfl Tryz.call136 ?_
 refine aA (fun ZT ZW ZQ _=>ZW [cd Tryz.f136 [1,0,1,0],(.blk 0),cd Tryz.f136 [1,1]] (aI ZT []) ZQ) (by kernel_rfl) ?_
 refine aC.loop (c:=dR (aQ Tryz.f136) [1,0,1,0,0]) (by kernel_rfl) (adM l) (fun k=>k≤l.length∧∀i,i<k→okO (l.getD i (0,0)).1 (l.getD i (0,0)).2=true) (fun k=>l.length-k) 0 ?_ ⟨Nat.zero_le _,fun i hi=>by omega⟩ ?_
 ·exact AS.dB (by kernel_rfl)
 ·rintro k ⟨hk,hkd⟩
  refine aK (ay:=Rj) (keep:=[]) (cuts:=[]) (n:=1000) follows ?_
  refine bW (fun ZT ZW ZQ ZK ZA _=>(fun Za=>((((decide ((↑k:Int)<↑l.length))=true)→(((0≤(↑k:Int))∧((↑k:Int)<↑l.length))∧ZK 137 [(.agg [(di Za.fst),(di Za.snd)])] (db (okO Za.fst Za.snd))∧(((!okO Za.fst Za.snd)=true)→(((db false):DV)=(db (nU l))))∧(((!okO Za.fst Za.snd)=false)→((I64 (↑k+1))∧(ZA (aI ZT [0,1]))))))∧(((decide ((↑k:Int)<↑l.length))=false)→ZW [cd Tryz.f136 [1,1]] (aI ZT [1]) ZQ))) (l.getD (↑k:Int).toNat (0,0))) (by kernel_rfl) ?_
  refine⟨fun h=>?_,fun h=>?_⟩
  ·have hk2:k<l.length:=by have:=of_decide_eq_true h;omega
   simp only[Int.toNat_natCast]
   refine⟨⟨by omega,by omega⟩,f137 _ _,fun h2=>?_,fun h2=>⟨⟨by omega,by omega⟩,Again.mk (k+1) ?_ ⟨hk2,fun i hi=>?_⟩ (by omega)⟩⟩
   ·have:nU l=false:=by
     unfold nU
     rw[List.all_eq_false]
     refine⟨l.getD k (0,0),?_,?_⟩
     ·rw[List.getD,bQ hk2];exact List.getElem_mem hk2
     ·have h2:okO (l.getD k (0,0)).1 (l.getD k (0,0)).2=false:=by simpa using h2
      rw[h2];decide
    rw[this]
   ·exact AS.dB (by kernel_rfl)
   ·rcases Nat.lt_or_ge i k with h4|h4
    ·exact hkd i h4
    ·obtain rfl:i=k:=by omega
     simpa using h2
  ·have h:=of_decide_eq_false h
   refine aK (ay:=Rj) (keep:=[]) (cuts:=[]) (n:=1000) follows ?_
   refine aA (fun _ _ _ _=>(((db true):DV)=(db (nU l)))) (by kernel_rfl) ?_
   have:nU l=true:=by
    unfold nU
    rw[List.all_eq_true]
    intro p hp
    obtain ⟨i,hi,rfl⟩:=List.getElem_of_mem hp
    have:=hkd i (by omega)
    rwa [List.getD,bQ hi] at this
   rw[this]
def dZ (l:List gY):Nat→Int
 | 0=>-1
 | k+1=>if dZ l k≥0∧dM (l.getD k (0,0)).1 (l.getD k (0,0)).2 (l.getD (dZ l k).toNat (0,0)).1 (l.getD (dZ l k).toNat (0,0)).2≤0 then dZ l k else k
theorem pK (l:List gY) (k:Nat):dZ l (k+1)=if dZ l k≥0∧dM (l.getD k (0,0)).1 (l.getD k (0,0)).2 (l.getD (dZ l k).toNat (0,0)).1 (l.getD (dZ l k).toNat (0,0)).2≤0 then dZ l k else k:=rfl
def jM (l:List gY):Int:=if nU l then dZ l l.length else -1
theorem uw (l:List gY):∀k,-1≤dZ l k∧dZ l k<k
 | 0=>by simp[dZ]
 | k+1=>by
  have:=uw l k
  unfold dZ
  split<;>omega
noncomputable def Nc (l:List gY):aZ:=fun f a=>match f,a with
 | 136,[_]=>some (db (nU l))
 | 81,[fr a b,fr c d]=>some (.au [di (dM a b c d),db (iF a b c d)])
 | _,_=>none
noncomputable def S80 (l:List gY) (k:Nat):AS:=⟨regs Tryz.f80.ntmps [(0,.d (nZ l)),(3,.d (di (dZ l k))),(11,.d (nZ l)),(12,vi l.length),(13,vi k)],[]⟩
theorem f80 (l:List gY) (hl:l.length≤1000000):aj Tryz.prog G 80 [nZ l] (di (jM l)):=by
 refine aj.aK (ay:=Nc l) (keep:=[]) follows Tryz.func80 rfl Tryz.call80 ?_
 refine aA (fun ZT ZW ZQ ZK=>(ZK 136 [(.slc 2 l.length (nT l))] (db (nU l))∧(((!nU l)=true)→(((di (-1)):DV)=(di (jM l))))∧(((!nU l)=false)→ZW [cd Tryz.f80 [1,1,1,0,1,0],(.blk 0),cd Tryz.f80 [1,1,1,1]] (aI ZT [1]) ZQ))) (by kernel_rfl) ?_
 refine⟨f136 l hl,fun h=>?_,fun h=>?_⟩
 ·have h:nU l=false:=by simpa using h
  unfold jM
  rw[h];rfl
 have hA:nU l=true:=by simpa using h
 refine aC.loop (c:=dR (aQ Tryz.f80) [1,1,1,0,1,0,0]) (by kernel_rfl) (S80 l) (fun k=>k≤l.length) (fun k=>l.length-k) 0 ?_ (Nat.zero_le _) ?_
 ·refine AS.leZ [1] [] (b:=((T0∧((vi (-1)):AV)=(vi (dZ l 0))∧T0∧T0∧T0∧True)∧True)) (by kernel_rfl) (by kernel_rfl) ?_
  exact⟨⟨rfl,rfl,rfl,rfl,rfl,trivial⟩,trivial⟩
 ·intro k hk
  refine aK (ay:=Nc l) (keep:=[]) (cuts:=[]) (n:=1000) follows ?_
  refine bW (fun ZT ZW ZQ ZK ZA _=>(fun Za Zb=>((((decide ((↑k:Int)<↑l.length))=true)→(((0≤(↑k:Int))∧((↑k:Int)<↑l.length))∧(((decide (dZ l k≥0))=true)→((((0≤dZ l k)∧(dZ l k<↑l.length))∧ZK 81 [(.agg [(di Za.fst),(di Za.snd)]),(.agg [(di Zb.fst),(di Zb.snd)])] (.au [(di (dM Za.fst Za.snd Zb.fst Zb.snd)),(db (iF Za.fst Za.snd Zb.fst Zb.snd))]))∧(((decide (dM Za.fst Za.snd Zb.fst Zb.snd≤0))=true)→((I64 (↑k+1))∧(ZA (aI ZT [0,0,0]))))∧(((decide (dM Za.fst Za.snd Zb.fst Zb.snd≤0))=false)→((I64 (↑k+1))∧(ZA (aI ZT [0,0,1]))))))∧(((decide (dZ l k≥0))=false)→((I64 (↑k+1))∧(ZA (aI ZT [0,1]))))))∧(((decide ((↑k:Int)<↑l.length))=false)→ZW [cd Tryz.f80 [1,1,1,1]] (aI ZT [1]) ZQ))) (l.getD (↑k:Int).toNat (0,0)) (l.getD (dZ l k).toNat (0,0))) (by kernel_rfl) ?_
  refine⟨fun h=>?_,fun h=>?_⟩
  ·have hk2:k<l.length:=by have:=of_decide_eq_true h;omega
   have hb:=uw l k
   simp only[Int.toNat_natCast]
   have st1:∀c:Int,dZ l (k+1)=c→S80 l (k+1)=⟨regs Tryz.f80.ntmps [(0,.d (nZ l)),(3,.d (di c)),(11,.d (nZ l)),(12,vi l.length),(13,vi (k+1:Nat))],[]⟩:=fun c h=>by unfold S80;rw[h]
   refine⟨⟨by omega,by omega⟩,fun h1=>⟨⟨⟨by have:=of_decide_eq_true h1;omega,by omega⟩,f81 _ _ _ _⟩,fun h2=>⟨⟨by omega,by omega⟩,Again.mk (k+1) ?_ hk2 (by omega)⟩,fun h2=>⟨⟨by omega,by omega⟩,Again.mk (k+1) ?_ hk2 (by omega)⟩⟩,fun h1=>⟨⟨by omega,by omega⟩,Again.mk (k+1) ?_ hk2 (by omega)⟩⟩
   ·rw[st1 (dZ l k) (by rw[pK,if_pos ⟨of_decide_eq_true h1,of_decide_eq_true h2⟩])]
    exact AS.dB (by kernel_rfl)
   ·rw[st1 (k:Int) (by rw[pK,if_neg (fun hh=>of_decide_eq_false h2 hh.2)])]
    exact AS.dB (by kernel_rfl)
   ·rw[st1 (k:Int) (by rw[pK,if_neg (fun hh=>of_decide_eq_false h1 hh.1)])]
    exact AS.dB (by kernel_rfl)
  ·have h:=of_decide_eq_false h
   obtain rfl:k=l.length:=by omega
   refine aK (ay:=Nc l) (keep:=[]) (cuts:=[]) (n:=1000) follows ?_
   refine aA (fun _ _ _ _=>(((di (dZ l l.length)):DV)=(di (jM l)))) (by kernel_rfl) ?_
   unfold jM
   rw[hA];rfl
end Go.Proofs
/- Kinds of nodes,plain. -/
namespace Go.Proofs
open Go Go.Ab Go.RowKit
set_option maxHeartbeats 4000000
set_option maxRecDepth 100000
variable {G:IH}
/-! Nodes of a number's kind. -/
theorem rZ {x:Ex} (h:aV x=true) (hk:x.k=10∨x.k=11):1≤x.kids.length:=by
 rw[og] at h
 unfold qO at h
 rw[if_neg (by omega),if_neg (by omega),if_neg (by omega),if_neg (by omega),if_pos hk] at h
 unfold zJ at h
 simp only[aT,decide_eq_true_eq] at h
 omega
theorem KE {x:Ex} (h:aV x=true) (hk:x.k≤4):x.kids=[]:=by
 have hl:x.kids.length=0:=by
  rw[og] at h
  unfold qO zJ at h
  revert h
  repeat' split
  all_goals (intro h;simp only[aT,decide_eq_true_eq] at h)
  all_goals first|omega|(exfalso;have:=h.1;unfold gU at this;simp at this;omega)
 exact List.eq_nil_of_length_eq_zero hl
theorem TT {x:Ex} (h:aV x=true) (hk:x.k=2):nameB x.s=true:=by
 rw[og] at h
 unfold qO at h
 rw[if_neg (by omega),if_pos hk] at h
 simp only[aT] at h
 exact h.1.1
theorem Lj {x:Ex} (h:aV x=true) (hk:x.k=1):ru x.n x.d=true:=by
 rw[og] at h
 unfold qO at h
 rw[if_pos hk] at h
 simp only[aT] at h
 exact h.1.1
mutual
def vN:Ex→Bool
 | .mk k _ _ _ _ l=>decide (k=1∨k=2∨(5≤k∧k≤11))&&Lm l
def Lm:List Ex→Bool
 | []=>true
 | x :: l=>vN x&&Lm l
end
theorem W9:∀{l:List Ex} {i:Nat},Lm l=true→i<l.length→vN (l.getD i ak)=true
 | x :: l,i,h,hi=>by
  simp only[Lm,aT] at h
  cases i with
  | zero=>exact h.1
  | succ i=>exact W9 (i:=i) h.2 (by simpa using hi)
theorem aa5 {x:Ex} (h:vN x=true) {i:Nat} (hi:i<x.kids.length):vN (x.kids.getD i ak)=true:=by
 cases x
 simp only[vN,aT] at h
 exact W9 h.2 hi
theorem IX {x:Ex} (h:vN x=true):x.k=1∨x.k=2∨(5≤x.k∧x.k≤11):=by
 cases x
 simp only[vN,aT,decide_eq_true_eq] at h
 exact h.1
theorem J7:∀{R:List KR},badR R=none→∀r∈R,r.2.2=0
 | [],_,r,h=>by simp at h
 | r :: R,h,y,hy=>by
  unfold badR at h
  split at h
  ·cases h
  ·rcases List.mem_cons.1 hy with rfl|hy
   ·omega
   ·exact J7 h y hy
theorem ig {l:List Fc} {ws:List ByteArray} {x:Ex} (h:(bZ l ws x).2.2=0) :
  (∀i,i<x.kids.length→(bZ l ws (x.kids.getD i ak)).2.2=0)∧bZ l ws x=((fO l ws x.k x.s ((jJ l ws x.kids).map (·.1)) (x.kids.getD 0 ak).s (x.kids.getD 1 ak).s).1,x.pos,0)∧(fO l ws x.k x.s ((jJ l ws x.kids).map (·.1)) (x.kids.getD 0 ak).s (x.kids.getD 1 ak).s).2=0:=by
 have e:=EM l ws x
 unfold EP at e
 cases hb:badR (jJ l ws x.kids) with
 | some p=>
  exfalso
  rw[hb] at e
  rw[e] at h
  have:∀{R:List KR} {p:Int×Int},badR R=some p→p.2≠0:=by
   intro R
   induction R with
   | nil=>intro p h;cases h
   | cons r R ih=>
    intro p h
    unfold badR at h
    split at h
    ·obtain rfl:=Option.some.inj h;assumption
    ·exact ih h
  exact this hb h
 | none=>
  rw[hb] at e
  refine⟨fun i hi=>?_,?_,?_⟩
  ·refine J7 hb _ ?_
   rw[lg]
   exact List.mem_map_of_mem (zy hi)
  ·rw[e] at h⊢
   rw[show (fO l ws x.k x.s ((jJ l ws x.kids).map (·.1)) (x.kids.getD 0 ak).s (x.kids.getD 1 ak).s).2=0 from h]
  ·rw[e] at h;exact h
theorem Gu {l:List Int} {v:Int} (h:lT l v=true) {i:Nat} (hi:i<l.length):l.getD i 0=v:=by
 unfold lT at h
 rw[Bool.not_eq_true',List.any_eq_false] at h
 have:=h (l.getD i 0) (by rw[List.getD,bQ hi];exact List.getElem_mem hi)
 simpa using this
theorem zH {l:List Int} {a:Int} (h:ji l a=0):lT l a=true:=by
 unfold ji at h
 split at h
 ·assumption
 ·omega
theorem yU {l:List Fc} {ws:List ByteArray} {r:List Ex} {i:Nat} (hi:i<r.length):((jJ l ws r).map (·.1)).getD i 0=(bZ l ws (r.getD i ak)).1:=by
 rw[lg,List.map_map,List.getD,List.getD,List.getElem?_map,bQ hi];rfl
theorem OI {l:List Fc} {ws:List ByteArray} {r:List Ex}:((jJ l ws r).map (·.1)).length=r.length:=by rw[lg,List.length_map,List.length_map]
theorem qC {x:Ex} (h:aV x=true):1≤x.k∧x.k≤20:=by
 have hrk:=GX h
 refine Classical.byContradiction fun hn=>hrk ?_
 unfold aU
 repeat' split
 all_goals omega
theorem F8 {l:List Fc} {ws:List ByteArray} {k:Int} {s:ByteArray} {ks:List Int} {n0 n1:ByteArray} :
  (5≤k∧k≤11→fO l ws k s ks n0 n1=(iW ks 0 0,ji ks 0))∧(14≤k∧k≤17→fO l ws k s ks n0 n1=(iW ks 0 1,ji ks 0))∧(18≤k→fO l ws k s ks n0 n1=(iW ks 1 1,ji ks 1))
   ∧(k=12∨k=13→fO l ws k s ks n0 n1=(if cmK l n0 n1 (ks.getD 0 0) (ks.getD 1 0) then 1 else 0,if cmK l n0 n1 (ks.getD 0 0) (ks.getD 1 0) then 0 else 5)):=by
 refine⟨fun h=>?_,fun h=>?_,fun h=>?_,fun h=>?_⟩
 ·unfold fO
  rw[if_neg (by omega),if_neg (by omega),if_neg (by omega),if_neg (by omega),if_neg (by omega),if_pos (by omega)]
 ·unfold fO
  rw[if_neg (by omega),if_neg (by omega),if_neg (by omega),if_neg (by omega),if_neg (by omega),if_neg (by omega),if_pos (by omega)]
 ·unfold fO
  rw[if_neg (by omega),if_neg (by omega),if_neg (by omega),if_neg (by omega),if_neg (by omega),if_neg (by omega),if_neg (by omega)]
 ·unfold fO
  rw[if_neg (by omega),if_neg (by omega),if_neg (by omega),if_neg (by omega),if_pos h]
theorem iw {l:List Fc} {ws:List ByteArray} {x:Ex} (h:(bZ l ws x).2.2=0) :
  (5≤x.k∧x.k≤11∨14≤x.k∧x.k≤17→∀i,i<x.kids.length→(bZ l ws (x.kids.getD i ak)).1=0)∧(18≤x.k→∀i,i<x.kids.length→(bZ l ws (x.kids.getD i ak)).1=1):=by
 obtain ⟨h1,h2,h3⟩:=ig h
 obtain ⟨a1,a2,a3,a4⟩:=@F8 l ws x.k x.s ((jJ l ws x.kids).map (·.1)) (x.kids.getD 0 ak).s (x.kids.getD 1 ak).s
 refine⟨fun hk i hi=>?_,fun hk i hi=>?_⟩
 ·have h4:ji ((jJ l ws x.kids).map (·.1)) 0=0:=by
   rcases hk with hk|hk
   ·rw[a1 hk] at h3;exact h3
   ·rw[a2 hk] at h3;exact h3
  have:=Gu (zH h4) (i:=i) (by rw[OI];exact hi)
  rw[yU hi] at this;exact this
 ·rw[a3 hk] at h3
  have:=Gu (zH h3) (i:=i) (by rw[OI];exact hi)
  rw[yU hi] at this;exact this
theorem nJ {l:List Fc} {ws:List ByteArray} {x:Ex} (hs:aV x=true) (h:(bZ l ws x).2.2=0) :
  (x.k=1∨(5≤x.k∧x.k≤11)→(bZ l ws x).1=0)∧(x.k=3∨x.k=4∨12≤x.k→(bZ l ws x).1=1)∧(x.k=2→(bZ l ws x).1=(lN l ws x.s).1∧(lN l ws x.s).2=0):=by
 obtain ⟨h1,h2,h3⟩:=ig h
 have hk:=qC hs
 obtain ⟨a1,a2,a3,a4⟩:=@F8 l ws x.k x.s ((jJ l ws x.kids).map (·.1)) (x.kids.getD 0 ak).s (x.kids.getD 1 ak).s
 rw[h2]
 refine⟨fun hh=>?_,fun hh=>?_,fun hh=>?_⟩
 ·rcases hh with hh|hh
  ·unfold fO;rw[if_pos hh]
  ·rw[a1 hh] at h3⊢
   have h3:=zH h3
   show iW _ 0 0=0
   unfold iW;rw[if_pos h3]
 ·by_cases e3:x.k=3
  ·unfold fO;rw[if_neg (by omega),if_pos e3]
  by_cases e4:x.k=4
  ·unfold fO;rw[if_neg (by omega),if_neg e3,if_pos e4]
  by_cases e12:x.k=12∨x.k=13
  ·rw[a4 e12] at h3⊢
   simp only at h3⊢
   split at h3
   ·rename_i hc;rw[if_pos hc]
   ·omega
  by_cases e18:18≤x.k
  ·rw[a3 e18] at h3⊢
   have h3:=zH h3
   show iW _ 1 1=1
   unfold iW;rw[if_pos h3]
  ·rw[a2 (by omega)] at h3⊢
   have h3:=zH h3
   show iW _ 0 1=1
   unfold iW;rw[if_pos h3]
 ·have e:fO l ws x.k x.s ((jJ l ws x.kids).map (·.1)) (x.kids.getD 0 ak).s (x.kids.getD 1 ak).s=lN l ws x.s:=by
   unfold fO;rw[if_neg (by omega),if_neg (by omega),if_neg (by omega),if_pos hh]
  rw[e] at h3⊢
  exact⟨rfl,h3⟩
theorem YK {l:List Ex} (h:∀i,i<l.length→vN (l.getD i ak)=true):Lm l=true:=by
 induction l with
 | nil=>rfl
 | cons x l ih=>
  simp only[Lm,aT]
  exact⟨h 0 (by simp),ih fun i hi=>by simpa using h (i+1) (by simpa using hi)⟩
theorem IJ {l:List Fc} {ws:List ByteArray} (n:Nat):∀x:Ex,ht x≤n→aV x=true→(bZ l ws x).2.2=0→(bZ l ws x).1=0→vN x=true:=by
 induction n using Nat.strongRecOn with
 | _ n ih=>
 intro x hx hs h2 h1
 have hk:=qC hs
 obtain ⟨t1,t2,t3⟩:=nJ hs h2
 have hc:x.k=1∨x.k=2∨(5≤x.k∧x.k≤11):=by
  refine Classical.byContradiction fun hn=>?_
  rw[t2 (by omega)] at h1;omega
 have hkids:∀i,i<x.kids.length→vN (x.kids.getD i ak)=true:=fun i hi=>by
  have hh:=iC hi
  by_cases h5:5≤x.k∧x.k≤11
  ·exact ih (n-1) (by omega) _ (by omega) (dO hs hi) ((ig h2).1 i hi) ((iw h2).1 (.inl h5) i hi)
  ·exfalso
   have:=@KE x hs (by omega)
   rw[this] at hi;simp at hi
 have:vN (Ex.mk x.k x.s x.n x.d x.pos x.kids)=true:=by
  simp only[vN,aT,decide_eq_true_eq]
  exact⟨hc,YK hkids⟩
 rwa [Ex.eta] at this
/-! Values of expressions. -/
def zW (k:Int) (a b c d:Int):FE:=if k=6 then dG a b c d else if k=7 then bD a b c d else if k=8 then bY a b c d else dD a b c d
def iL (l:List gY):Nat→gY
 | 0=>l.getD 0 (0,0)
 | k+1=>if dM (l.getD k (0,0)).1 (l.getD k (0,0)).2 (iL l k).1 (iL l k).2<0 then l.getD k (0,0) else iL l k
def jv (k:Int) (l:List gY):FE:=zW k (l.getD 0 (0,0)).1 (l.getD 0 (0,0)).2 (l.getD 1 (0,0)).1 (l.getD 1 (0,0)).2
def vM (k:Int) (l:List gY):Option gY:=
 if k=5 then some (-(l.getD 0 (0,0)).1,(l.getD 0 (0,0)).2)
 else if k=11 then some (l.getD (jM l).toNat (0,0))
 else if k=10 then some (iL l l.length)
 else if (jv k l).2.2=0 then some ((jv k l).1,(jv k l).2.1) else none
def Gy (F:List Ft) (k:Int) (s:ByteArray) (n d:Int) (r:Option (List gY)):Option gY:=
 if k=1 then some (n,d) else if k=2 then some ((tM F (.string s)).n,(tM F (.string s)).d) else match r with
  | none=>none
  | some l=>vM k l
mutual
def gX (F:List Ft):Ex→Option gY
 | .mk k s n d _ kids=>Gy F k s n d (vZ F kids)
def vZ (F:List Ft):List Ex→Option (List gY)
 | []=>some []
 | x :: l=>match gX F x,vZ F l with
  | some p,some q=>some (p :: q)
  | _,_=>none
end
theorem vU (F:List Ft) (x:Ex):gX F x=Gy F x.k x.s x.n x.d (vZ F x.kids):=by cases x;simp only[gX,Ex.k,Ex.s,Ex.n,Ex.d,Ex.kids]
def fB (F:List Ft) (x:Ex):gY:=(gX F x).getD (0,0)
theorem yh {F:List Ft}:∀{l:List Ex},(∀i,i<l.length→gX F (l.getD i ak)≠none)→vZ F l=some (l.map (fB F))
 | [],_=>rfl
 | x :: l,h=>by
  have h0:gX F x≠none:=h 0 (by simp)
  have ih:=yh (F:=F) (l:=l) fun i hi=>by simpa using h (i+1) (by simpa using hi)
  simp only[vZ,ih,List.map_cons]
  cases hx:gX F x with
  | none=>exact absurd hx h0
  | some p=>simp only[fB,hx];rfl
theorem yg {F:List Ft}:∀{l:List Ex} {i:Nat},i<l.length→gX F (l.getD i ak)=none→vZ F l=none
 | [],_,h,_=>by simp at h
 | x :: l,0,_,h=>by
  have h:gX F x=none:=h
  simp only[vZ,h]
 | x :: l,i+1,hi,h=>by
  have:=yg (F:=F) (l:=l) (i:=i) (by simpa using hi) (by simpa using h)
  simp only[vZ,this]
  cases gX F x<;>rfl
theorem yV {F:List Ft} {l:List Ex} {r:List gY} (h:vZ F l=some r):r=l.map (fB F)∧∀i,i<l.length→gX F (l.getD i ak)=some (fB F (l.getD i ak)):=by
 have hh:∀i,i<l.length→gX F (l.getD i ak)≠none:=fun i hi hn=>by rw[yg hi hn] at h;cases h
 refine⟨?_,fun i hi=>?_⟩
 ·rw[yh hh] at h;exact(Option.some.inj h).symm
 ·have:=hh i hi
  unfold fB
  cases hx:gX F (l.getD i ak) with
  | none=>exact absurd hx this
  | some p=>rfl
def VR (F:List Ft) (l:List Fc):Prop:=∀s,fH l (.string s)=true→(fM l (.string s)).kind=0→ok (tM F (.string s)).n (tM F (.string s)).d=true
/-! Numbers. -/
def rdP (d:DV):gY:=match d with
 | .agg [.con (.int _ a),.con (.int _ b)]=>(a,b)
 | _=>(0,0)
def Oe (d:DV):List gY:=match d with
 | .slc _ n f=>(List.range n).map fun i=>rdP (f i)
 | _=>[]
noncomputable def mG (F:List Ft):aZ:=fun f a=>match f,a with
 | 46,[_,e]=>some (fr (fB F (ah e)).1 (fB F (ah e)).2)
 | 80,[w]=>some (di (jM (Oe w)))
 | 81,[fr a b,fr c d]=>some (.au [di (dM a b c d),db (iF a b c d)])
 | 76,[fr a b,fr c d]=>some (lF (dG a b c d))
 | 77,[fr a b,fr c d]=>some (lF (bD a b c d))
 | 78,[fr a b,fr c d]=>some (lF (bY a b c d))
 | 79,[fr a b,fr c d]=>some (lF (dD a b c d))
 | _,_=>none
def FX (F:List Ft) (x:Ex):Nat→Nat→DV:=um (fun _=>DV.con undef) true 2 fun j=>[di (fB F (x.kids.getD j ak)).1,di (fB F (x.kids.getD j ak)).2]
noncomputable def QL (F:List Ft) (m:Nat) (x:Ex) (k:Nat):AS:=⟨regs Tryz.f46.ntmps [(0,.d (gI F)),(3,.box 3 0),(4,.box 4 0),(5,.vec 900 2 0 k),(33,.d (.slc 6 x.kids.length (lay (bJ m) x.kids))),(34,vi x.kids.length),(35,vi k)],[(3,l7 m x),(4,[vi 0,vi 0]),(900,[.arr EN 2 (FX F x k)])]⟩
theorem IU (F:List Ft) (Q:Exit→AS→Prop) (m:Nat) (x:Ex) (hx:ht x≤m) (hs:Sm x) (hk:5≤x.k∧x.k≤11)
  (h46:∀i,i<x.kids.length→(gX F (x.kids.getD i ak)≠none→aj Tryz.prog G 46 [gI F,aS m x i] (fr (fB F (x.kids.getD i ak)).1 (fB F (x.kids.getD i ak)).2))∧(gX F (x.kids.getD i ak)=none→jy Tryz.prog G 46 [gI F,aS m x i] dY))
  (hp:vZ F x.kids=none→∀st,Q (.panic (oC dY)) st)
  (ht:vZ F x.kids≠none→aC Tryz.prog G [cd Tryz.f46 [1,1,1,1]] (QL F m x x.kids.length) Q):aC Tryz.prog G [.code (aQ Tryz.f46)] (entry [gI F,bG m x] Tryz.f46.ntmps) Q:=by
 have hlen:=hs.len.1
 refine aK (ay:=mG F) (keep:=[]) (cuts:=[3,5]) (n:=1000) follows ?_
 refine aA (fun ZT ZW ZQ _=>((((x.k==1)=true)→ZW [cd Tryz.f46 [1,0,1,0,1,0],(.blk 0),cd Tryz.f46 [1,1]] (aI ZT [0]) ZQ)∧(((x.k==1)=false)→((((x.k==2)=true)→ZW [cd Tryz.f46 [1,0,1,0,1,1,1,0],(.blk 0),cd Tryz.f46 [1,1]] (aI ZT [1,0]) ZQ)∧(((x.k==2)=false)→ZW [cd Tryz.f46 [1,1,1,0,1,0],(.blk 1),cd Tryz.f46 [1,1,1,1]] (aI ZT [1,1]) ZQ))))) (by kernel_rfl) ?_
 refine⟨fun h=>absurd (eq_of_beq h) (by omega),fun _=>⟨fun h=>absurd (eq_of_beq h) (by omega),fun _=>?_⟩⟩
 refine aC.pre (.nilRow _ 5 900 2 EN (FX F x 0) (by kernel_rfl) (by kernel_rfl)) ?_
 refine aC.loop (c:=dR (aQ Tryz.f46) [1,1,1,0,1,0,0]) (by kernel_rfl) (QL F m x) (fun k=>k≤x.kids.length∧∀i,i<k→gX F (x.kids.getD i ak)≠none) (fun k=>x.kids.length-k) 0 ?_ ⟨Nat.zero_le _,fun i hi=>by omega⟩ ?_
 ·exact AS.dB (by kernel_rfl)
 ·rintro k ⟨hk,hkd⟩
  by_cases hk2:k<x.kids.length
  ·have er:ah (aS m x k)=x.kids.getD k ak:=dL hx hk2
   obtain ⟨h1,h2⟩:=h46 k hk2
   by_cases hv:gX F (x.kids.getD k ak)=none
   ·refine aK (ay:=mG F) (keep:=[]) (cuts:=[10]) (n:=1000) follows ?_
    refine bW (fun ZT ZW _ _ _ ZR=>((((decide ((↑k:Int)<↑x.kids.length))=true)→(((0≤(↑k:Int))∧((↑k:Int)<↑x.kids.length))∧ZW [cd Tryz.f46 [1,1,1,0,1,0,0,1,1,0,0,1],(.blk 2),cd Tryz.f46 [1,1,1,0,1,0,0,1,1,1]] (aI ZT [0]) ZR))∧(((decide ((↑k:Int)<↑x.kids.length))=false)→ZW [cd Tryz.f46 [1,1,1,1]] (aI ZT [1]) Q))) (by kernel_rfl) ?_
    refine⟨fun _=>⟨⟨by omega,by omega⟩,?_⟩,fun h=>absurd (of_decide_eq_false h) (by omega)⟩
    refine aC.panic follows (mG F) 3 (pv:=dY) ?_ ?_
    ·refine aA (fun _ _ _ _=>(jy Tryz.prog G 46 [(.ptr [(.mp none (tV F) (tH F))]),(aY m (x.kids.getD (↑k:Int).toNat ak))] dY∧True)) (by kernel_rfl) ?_
     exact⟨h2 hv,trivial⟩
    ·exact hp (yg hk2 hv) _
   ·refine aK (ay:=mG F) (keep:=[]) (cuts:=[]) (n:=1000) follows ?_
    refine bW (fun ZT ZW _ ZK ZA _=>(fun Za=>((((decide ((↑k:Int)<↑x.kids.length))=true)→(((0≤(↑k:Int))∧((↑k:Int)<↑x.kids.length))∧(ZK 46 [(.ptr [(.mp none (tV F) (tH F))]),Za] (.agg [(di (fB F (ah Za)).fst),(di (fB F (ah Za)).snd)])∧(((k+1)*16≤1099511627776)∧(k+1≤1099511627776))∧(∀(i:Nat),i<1→jW true 2 (aN true 2 [DV.con (Value.int IntKind.i64 (fB F (ah Za)).fst),DV.con (Value.int IntKind.i64 (fB F (ah Za)).snd)] i)=true))∧(I64 (↑k+1))∧(ZA (aI ZT [0]))))∧(((decide ((↑k:Int)<↑x.kids.length))=false)→ZW [cd Tryz.f46 [1,1,1,1]] (aI ZT [1]) Q))) (aY m (x.kids.getD (↑k:Int).toNat ak))) (by kernel_rfl) ?_
    simp only[Int.toNat_natCast,er]
    refine⟨fun _=>⟨⟨by omega,by omega⟩,⟨h1 hv,⟨by omega,by omega⟩,fun i hi=>(by obtain rfl:i=0:=(by omega);rfl)⟩,⟨by omega,by omega⟩,Again.Iq [(44,900)] rfl (k+1) ?_ ⟨hk2,fun i hi=>?_⟩ (by omega)⟩,fun h=>absurd (of_decide_eq_false h) (by omega)⟩
    ·refine AS.leZ [] [2] (b:=((T0∧T0∧T0∧T0∧T0∧T0∧T0∧True)∧T0∧T0∧((some [(.arr ⟨true,23,false,none⟩ 2 (fun i=>bif i.blt k then FX F x k i else aN true 2 [DV.con (Value.int IntKind.i64 (fB F (ah (aY m (x.kids.getD (↑k:Int).toNat ak)))).fst),DV.con (Value.int IntKind.i64 (fB F (ah (aY m (x.kids.getD (↑k:Int).toNat ak)))).snd)] (i-k)))]):(Option (List AV)))=(some [(.arr ⟨true,23,false,none⟩ 2 (FX F x (k+1)))])∧True)) (by kernel_rfl) (by kernel_rfl) ?_
     refine⟨⟨rfl,rfl,rfl,rfl,rfl,rfl,rfl,trivial⟩,rfl,rfl,?_,trivial⟩
     simp only[Int.toNat_natCast,er]
     rfl
    ·rcases Nat.lt_or_ge i k with h4|h4
     ·exact hkd i h4
     ·obtain rfl:i=k:=by omega
      exact hv
  ·obtain rfl:k=x.kids.length:=by omega
   refine aK (ay:=mG F) (keep:=[]) (cuts:=[12]) (n:=1000) follows ?_
   refine bW (fun ZT ZW _ ZK ZA _=>(fun Za=>((((decide ((↑x.kids.length:Int)<↑x.kids.length))=true)→(((0≤(↑x.kids.length:Int))∧((↑x.kids.length:Int)<↑x.kids.length))∧(ZK 46 [(.ptr [(.mp none (tV F) (tH F))]),Za] (.agg [(di (fB F (ah Za)).fst),(di (fB F (ah Za)).snd)])∧(((x.kids.length+1)*16≤1099511627776)∧(x.kids.length+1≤1099511627776))∧(∀(i:Nat),i<1→jW true 2 (aN true 2 [DV.con (Value.int IntKind.i64 (fB F (ah Za)).fst),DV.con (Value.int IntKind.i64 (fB F (ah Za)).snd)] i)=true))∧(I64 (↑x.kids.length+1))∧(ZA (aI ZT [0]))))∧(((decide ((↑x.kids.length:Int)<↑x.kids.length))=false)→ZW [cd Tryz.f46 [1,1,1,1]] (aI ZT [1]) Q))) (aY m (x.kids.getD (↑x.kids.length:Int).toNat ak))) (by kernel_rfl) ?_
   refine⟨fun h=>absurd (of_decide_eq_true h) (by omega),fun _=>?_⟩
   refine aC.weaken ?_ (ht (by rw[yh fun i hi=>hkd i hi];exact fun h=>by cases h))
   exact AS.dB (by kernel_rfl)
noncomputable def FW (m:Nat) (x:Ex) (l:List gY):AS:=⟨regs Tryz.f46.ntmps [(3,.box 3 0),(4,.box 4 0),(5,.d (nZ l))],[(3,l7 m x),(4,[vi 0,vi 0])]⟩
theorem PD {F:List Ft} {m:Nat} {x:Ex} {k:List It} {Q:Exit→AS→Prop} (h:aC Tryz.prog G k (FW m x (x.kids.map (fB F))) Q):aC Tryz.prog G k (QL F m x x.kids.length) Q:=by
 refine aC.freeze (agg:=EN) (sz:=2) (f:=FX F x x.kids.length) 900 (by kernel_rfl) ?_
 refine aC.pre (.adL _ 5 (.slc 2 x.kids.length fun i=>FX F x x.kids.length (0+i)) (nZ (x.kids.map (fB F))) (by kernel_rfl) fun h v hv=>?_) (aC.weaken ?_ h)
 ·unfold nZ
  rw[List.length_map]
  refine DV.dJ (fun i hi=>?_) hv
  rw[Nat.zero_add]
  unfold FX nT
  rw[nD hi,List.getD,List.getD,List.getElem?_map,bQ hi]
  rfl
 ·exact AS.dB (by kernel_rfl)
theorem YC (l:List gY):Oe (nZ l)=l:=by
 unfold Oe
 refine List.ext_getElem (by simp) fun i h1 h2=>?_
 rw[List.getElem_map,List.getElem_range]
 unfold nT
 rw[List.getD,bQ h2];rfl
noncomputable def Nl (m:Nat) (x:Ex) (a b:Int):AS:=⟨regs Tryz.f46.ntmps [(3,.box 3 0),(4,.box 4 0),(14,.box 14 0)],[(14,[vi a,vi b]),(3,l7 m x),(4,[vi 0,vi 0])]⟩
theorem z46 (m:Nat) (x:Ex) (a b:Int):aC Tryz.prog G [cd Tryz.f46 [1,1,1,1,1,1,1,1]] (Nl m x a b) (fF Tryz.prog Tryz.f46 (fr a b)):=by
 refine aK (ay:=mG []) (keep:=[]) (cuts:=[]) (n:=1000) follows ?_
 refine aA (fun _ _ _ _=>(ZS ((fr a b):DV))) (by kernel_rfl) ?_
 rfl
theorem XF {Q:Exit→AS→Prop} (m:Nat) (x:Ex) (l:List gY) (hl:2≤l.length) (hk:x.k=6) (h0:(jv 6 l).2.2=0→aC Tryz.prog G [cd Tryz.f46 [1,1,1,1,1,1,1,1]] (Nl m x (jv 6 l).1 (jv 6 l).2.1) Q) (h1:(jv 6 l).2.2≠0→∀st,Q (.panic (oC dY)) st):aC Tryz.prog G [cd Tryz.f46 [1,1,1,1]] (FW m x l) Q:=by
 obtain ⟨k,s,n,d,pos,kids⟩:=x
 obtain rfl:k=6:=hk
 refine aK (ay:=mG []) (keep:=[]) (cuts:=[15,18,20,31,32]) (n:=1000) follows ?_
 refine aA (fun ZT ZW ZQ ZK=>(fun Za=>(((((Ex.mk 6 s n d pos kids).k==5)=true)→ZW [cd Tryz.f46 [1,1,1,1,1,0,1,0,1,0],(.blk 3),cd Tryz.f46 [1,1,1,1,1,1]] (aI ZT [0]) ZQ)∧((((Ex.mk 6 s n d pos kids).k==5)=false)→(((((Ex.mk 6 s n d pos kids).k==11)=true)→ZW [cd Tryz.f46 [1,1,1,1,1,0,1,0,1,1,1,0],(.blk 3),cd Tryz.f46 [1,1,1,1,1,1]] (aI ZT [1,0]) ZQ)∧((((Ex.mk 6 s n d pos kids).k==11)=false)→(((((Ex.mk 6 s n d pos kids).k==10)=true)→ZW [cd Tryz.f46 [1,1,1,1,1,0,1,0,1,1,1,1,1,0],(.blk 3),cd Tryz.f46 [1,1,1,1,1,1]] (aI ZT [1,1,0]) ZQ)∧((((Ex.mk 6 s n d pos kids).k==10)=false)→(((((bT (Value.int IntKind.i64 9) (bT (Value.int IntKind.i64 8) (bT (Value.int IntKind.i64 7) (bT (Value.int IntKind.i64 6) fun x=>false))) (Value.int IntKind.i64 (Ex.mk 6 s n d pos kids).k))=false)→((DV.con Value.nilFunc).imp (bV (Value.int IntKind.i64 9) (DV.con (Value.func (Fn.func 79) #[] #[])) (bV (Value.int IntKind.i64 8) (DV.con (Value.func (Fn.func 78) #[] #[])) (bV (Value.int IntKind.i64 7) (DV.con (Value.func (Fn.func 77) #[] #[])) (bV (Value.int IntKind.i64 6) (DV.con (Value.func (Fn.func 76) #[] #[])) fun x=>DV.con Value.nilFunc))) (Value.int IntKind.i64 (Ex.mk 6 s n d pos kids).k))))∧(((0:Int)≤(0:Int))∧(0<(↑l.length:Int)))∧(((0:Int)≤(1:Int))∧(1<(↑l.length:Int)))∧ZK 76 [(.agg [(di (l.getD (Int.toNat 0) (0,0)).fst),(di (l.getD (Int.toNat 0) (0,0)).snd)]),(.agg [(di (l.getD (Int.toNat 1) (0,0)).fst),(di (l.getD (Int.toNat 1) (0,0)).snd)])] (.au [(.agg [(di Za.fst),(di Za.snd.fst)]),(di Za.snd.snd)]))∧(((Za.snd.snd != 0)=true)→ZW [cd Tryz.f46 [1,1,1,1,1,1,1,0,1,0],cd Tryz.f46 [1,1,1,1,1,1,1,1]] (aI ZT [1,1,1,0]) ZQ)∧(((Za.snd.snd != 0)=false)→ZW [cd Tryz.f46 [1,1,1,1,1,1,1,1]] (aI ZT [1,1,1,1]) ZQ))))))))) (dG (l.getD (Int.toNat 0) (0,0)).fst (l.getD (Int.toNat 0) (0,0)).snd (l.getD (Int.toNat 1) (0,0)).fst (l.getD (Int.toNat 1) (0,0)).snd)) (by kernel_rfl) ?_
 refine⟨fun h=>absurd (eq_of_beq h) (by show ¬(6:Int)=5;decide),fun _=>⟨fun h=>absurd (eq_of_beq h) (by show ¬(6:Int)=11;decide),fun _=>⟨fun h=>absurd (eq_of_beq h) (by show ¬(6:Int)=10;decide),fun _=>⟨⟨fun h=>absurd h (by show ¬(true=false);decide),⟨by omega,by omega⟩,⟨by omega,by omega⟩,Y0 _ _ _ _⟩,fun h=>?_,fun h=>?_⟩⟩⟩⟩
 ·refine aC.giveUp (d:=108) (e:=109) rfl ⟨⟨rfl,rfl,rfl⟩,⟨rfl,rfl,rfl⟩,rfl,rfl⟩ ⟨of_decide_eq_true (by kernel_rfl),of_decide_eq_true (by kernel_rfl)⟩ (h1 (bne_iff_ne.1 h) _)
 ·refine aC.weaken ?_ (h0 ?_)
  ·refine AS.leZ [] [0] (b:=((T0∧T0∧T0∧True)∧((some [(vi (dG (l.getD (Int.toNat 0) (0,0)).fst (l.getD (Int.toNat 0) (0,0)).snd (l.getD (Int.toNat 1) (0,0)).fst (l.getD (Int.toNat 1) (0,0)).snd).fst),(vi (dG (l.getD (Int.toNat 0) (0,0)).fst (l.getD (Int.toNat 0) (0,0)).snd (l.getD (Int.toNat 1) (0,0)).fst (l.getD (Int.toNat 1) (0,0)).snd).snd.fst)]):(Option (List AV)))=(some [(vi (jv 6 l).fst),(vi (jv 6 l).snd.fst)])∧T0∧T0∧True)) (by kernel_rfl) (by kernel_rfl) ?_
   exact⟨⟨rfl,rfl,rfl,trivial⟩,rfl,rfl,rfl,trivial⟩
  ·exact bne_eq_false_iff_eq.1 h
theorem XG {Q:Exit→AS→Prop} (m:Nat) (x:Ex) (l:List gY) (hl:2≤l.length) (hk:x.k=7) (h0:(jv 7 l).2.2=0→aC Tryz.prog G [cd Tryz.f46 [1,1,1,1,1,1,1,1]] (Nl m x (jv 7 l).1 (jv 7 l).2.1) Q) (h1:(jv 7 l).2.2≠0→∀st,Q (.panic (oC dY)) st):aC Tryz.prog G [cd Tryz.f46 [1,1,1,1]] (FW m x l) Q:=by
 obtain ⟨k,s,n,d,pos,kids⟩:=x
 obtain rfl:k=7:=hk
 refine aK (ay:=mG []) (keep:=[]) (cuts:=[15,18,20,31,32]) (n:=1000) follows ?_
 refine aA (fun ZT ZW ZQ ZK=>(fun Za=>(((((Ex.mk 7 s n d pos kids).k==5)=true)→ZW [cd Tryz.f46 [1,1,1,1,1,0,1,0,1,0],(.blk 3),cd Tryz.f46 [1,1,1,1,1,1]] (aI ZT [0]) ZQ)∧((((Ex.mk 7 s n d pos kids).k==5)=false)→(((((Ex.mk 7 s n d pos kids).k==11)=true)→ZW [cd Tryz.f46 [1,1,1,1,1,0,1,0,1,1,1,0],(.blk 3),cd Tryz.f46 [1,1,1,1,1,1]] (aI ZT [1,0]) ZQ)∧((((Ex.mk 7 s n d pos kids).k==11)=false)→(((((Ex.mk 7 s n d pos kids).k==10)=true)→ZW [cd Tryz.f46 [1,1,1,1,1,0,1,0,1,1,1,1,1,0],(.blk 3),cd Tryz.f46 [1,1,1,1,1,1]] (aI ZT [1,1,0]) ZQ)∧((((Ex.mk 7 s n d pos kids).k==10)=false)→(((((bT (Value.int IntKind.i64 9) (bT (Value.int IntKind.i64 8) (bT (Value.int IntKind.i64 7) (bT (Value.int IntKind.i64 6) fun x=>false))) (Value.int IntKind.i64 (Ex.mk 7 s n d pos kids).k))=false)→((DV.con Value.nilFunc).imp (bV (Value.int IntKind.i64 9) (DV.con (Value.func (Fn.func 79) #[] #[])) (bV (Value.int IntKind.i64 8) (DV.con (Value.func (Fn.func 78) #[] #[])) (bV (Value.int IntKind.i64 7) (DV.con (Value.func (Fn.func 77) #[] #[])) (bV (Value.int IntKind.i64 6) (DV.con (Value.func (Fn.func 76) #[] #[])) fun x=>DV.con Value.nilFunc))) (Value.int IntKind.i64 (Ex.mk 7 s n d pos kids).k))))∧(((0:Int)≤(0:Int))∧(0<(↑l.length:Int)))∧(((0:Int)≤(1:Int))∧(1<(↑l.length:Int)))∧ZK 77 [(.agg [(di (l.getD (Int.toNat 0) (0,0)).fst),(di (l.getD (Int.toNat 0) (0,0)).snd)]),(.agg [(di (l.getD (Int.toNat 1) (0,0)).fst),(di (l.getD (Int.toNat 1) (0,0)).snd)])] (.au [(.agg [(di Za.fst),(di Za.snd.fst)]),(di Za.snd.snd)]))∧(((Za.snd.snd != 0)=true)→ZW [cd Tryz.f46 [1,1,1,1,1,1,1,0,1,0],cd Tryz.f46 [1,1,1,1,1,1,1,1]] (aI ZT [1,1,1,0]) ZQ)∧(((Za.snd.snd != 0)=false)→ZW [cd Tryz.f46 [1,1,1,1,1,1,1,1]] (aI ZT [1,1,1,1]) ZQ))))))))) (bD (l.getD (Int.toNat 0) (0,0)).fst (l.getD (Int.toNat 0) (0,0)).snd (l.getD (Int.toNat 1) (0,0)).fst (l.getD (Int.toNat 1) (0,0)).snd)) (by kernel_rfl) ?_
 refine⟨fun h=>absurd (eq_of_beq h) (by show ¬(7:Int)=5;decide),fun _=>⟨fun h=>absurd (eq_of_beq h) (by show ¬(7:Int)=11;decide),fun _=>⟨fun h=>absurd (eq_of_beq h) (by show ¬(7:Int)=10;decide),fun _=>⟨⟨fun h=>absurd h (by show ¬(true=false);decide),⟨by omega,by omega⟩,⟨by omega,by omega⟩,Ws _ _ _ _⟩,fun h=>?_,fun h=>?_⟩⟩⟩⟩
 ·refine aC.giveUp (d:=108) (e:=109) rfl ⟨⟨rfl,rfl,rfl⟩,⟨rfl,rfl,rfl⟩,rfl,rfl⟩ ⟨of_decide_eq_true (by kernel_rfl),of_decide_eq_true (by kernel_rfl)⟩ (h1 (bne_iff_ne.1 h) _)
 ·refine aC.weaken ?_ (h0 ?_)
  ·refine AS.leZ [] [0] (b:=((T0∧T0∧T0∧True)∧((some [(vi (bD (l.getD (Int.toNat 0) (0,0)).fst (l.getD (Int.toNat 0) (0,0)).snd (l.getD (Int.toNat 1) (0,0)).fst (l.getD (Int.toNat 1) (0,0)).snd).fst),(vi (bD (l.getD (Int.toNat 0) (0,0)).fst (l.getD (Int.toNat 0) (0,0)).snd (l.getD (Int.toNat 1) (0,0)).fst (l.getD (Int.toNat 1) (0,0)).snd).snd.fst)]):(Option (List AV)))=(some [(vi (jv 7 l).fst),(vi (jv 7 l).snd.fst)])∧T0∧T0∧True)) (by kernel_rfl) (by kernel_rfl) ?_
   exact⟨⟨rfl,rfl,rfl,trivial⟩,rfl,rfl,rfl,trivial⟩
  ·exact bne_eq_false_iff_eq.1 h
theorem Xt {Q:Exit→AS→Prop} (m:Nat) (x:Ex) (l:List gY) (hl:2≤l.length) (hk:x.k=8) (h0:(jv 8 l).2.2=0→aC Tryz.prog G [cd Tryz.f46 [1,1,1,1,1,1,1,1]] (Nl m x (jv 8 l).1 (jv 8 l).2.1) Q) (h1:(jv 8 l).2.2≠0→∀st,Q (.panic (oC dY)) st):aC Tryz.prog G [cd Tryz.f46 [1,1,1,1]] (FW m x l) Q:=by
 obtain ⟨k,s,n,d,pos,kids⟩:=x
 obtain rfl:k=8:=hk
 refine aK (ay:=mG []) (keep:=[]) (cuts:=[15,18,20,31,32]) (n:=1000) follows ?_
 refine aA (fun ZT ZW ZQ ZK=>(fun Za=>(((((Ex.mk 8 s n d pos kids).k==5)=true)→ZW [cd Tryz.f46 [1,1,1,1,1,0,1,0,1,0],(.blk 3),cd Tryz.f46 [1,1,1,1,1,1]] (aI ZT [0]) ZQ)∧((((Ex.mk 8 s n d pos kids).k==5)=false)→(((((Ex.mk 8 s n d pos kids).k==11)=true)→ZW [cd Tryz.f46 [1,1,1,1,1,0,1,0,1,1,1,0],(.blk 3),cd Tryz.f46 [1,1,1,1,1,1]] (aI ZT [1,0]) ZQ)∧((((Ex.mk 8 s n d pos kids).k==11)=false)→(((((Ex.mk 8 s n d pos kids).k==10)=true)→ZW [cd Tryz.f46 [1,1,1,1,1,0,1,0,1,1,1,1,1,0],(.blk 3),cd Tryz.f46 [1,1,1,1,1,1]] (aI ZT [1,1,0]) ZQ)∧((((Ex.mk 8 s n d pos kids).k==10)=false)→(((((bT (Value.int IntKind.i64 9) (bT (Value.int IntKind.i64 8) (bT (Value.int IntKind.i64 7) (bT (Value.int IntKind.i64 6) fun x=>false))) (Value.int IntKind.i64 (Ex.mk 8 s n d pos kids).k))=false)→((DV.con Value.nilFunc).imp (bV (Value.int IntKind.i64 9) (DV.con (Value.func (Fn.func 79) #[] #[])) (bV (Value.int IntKind.i64 8) (DV.con (Value.func (Fn.func 78) #[] #[])) (bV (Value.int IntKind.i64 7) (DV.con (Value.func (Fn.func 77) #[] #[])) (bV (Value.int IntKind.i64 6) (DV.con (Value.func (Fn.func 76) #[] #[])) fun x=>DV.con Value.nilFunc))) (Value.int IntKind.i64 (Ex.mk 8 s n d pos kids).k))))∧(((0:Int)≤(0:Int))∧(0<(↑l.length:Int)))∧(((0:Int)≤(1:Int))∧(1<(↑l.length:Int)))∧ZK 78 [(.agg [(di (l.getD (Int.toNat 0) (0,0)).fst),(di (l.getD (Int.toNat 0) (0,0)).snd)]),(.agg [(di (l.getD (Int.toNat 1) (0,0)).fst),(di (l.getD (Int.toNat 1) (0,0)).snd)])] (.au [(.agg [(di Za.fst),(di Za.snd.fst)]),(di Za.snd.snd)]))∧(((Za.snd.snd != 0)=true)→ZW [cd Tryz.f46 [1,1,1,1,1,1,1,0,1,0],cd Tryz.f46 [1,1,1,1,1,1,1,1]] (aI ZT [1,1,1,0]) ZQ)∧(((Za.snd.snd != 0)=false)→ZW [cd Tryz.f46 [1,1,1,1,1,1,1,1]] (aI ZT [1,1,1,1]) ZQ))))))))) (bY (l.getD (Int.toNat 0) (0,0)).fst (l.getD (Int.toNat 0) (0,0)).snd (l.getD (Int.toNat 1) (0,0)).fst (l.getD (Int.toNat 1) (0,0)).snd)) (by kernel_rfl) ?_
 refine⟨fun h=>absurd (eq_of_beq h) (by show ¬(8:Int)=5;decide),fun _=>⟨fun h=>absurd (eq_of_beq h) (by show ¬(8:Int)=11;decide),fun _=>⟨fun h=>absurd (eq_of_beq h) (by show ¬(8:Int)=10;decide),fun _=>⟨⟨fun h=>absurd h (by show ¬(true=false);decide),⟨by omega,by omega⟩,⟨by omega,by omega⟩,aa4 _ _ _ _⟩,fun h=>?_,fun h=>?_⟩⟩⟩⟩
 ·refine aC.giveUp (d:=108) (e:=109) rfl ⟨⟨rfl,rfl,rfl⟩,⟨rfl,rfl,rfl⟩,rfl,rfl⟩ ⟨of_decide_eq_true (by kernel_rfl),of_decide_eq_true (by kernel_rfl)⟩ (h1 (bne_iff_ne.1 h) _)
 ·refine aC.weaken ?_ (h0 ?_)
  ·refine AS.leZ [] [0] (b:=((T0∧T0∧T0∧True)∧((some [(vi (bY (l.getD (Int.toNat 0) (0,0)).fst (l.getD (Int.toNat 0) (0,0)).snd (l.getD (Int.toNat 1) (0,0)).fst (l.getD (Int.toNat 1) (0,0)).snd).fst),(vi (bY (l.getD (Int.toNat 0) (0,0)).fst (l.getD (Int.toNat 0) (0,0)).snd (l.getD (Int.toNat 1) (0,0)).fst (l.getD (Int.toNat 1) (0,0)).snd).snd.fst)]):(Option (List AV)))=(some [(vi (jv 8 l).fst),(vi (jv 8 l).snd.fst)])∧T0∧T0∧True)) (by kernel_rfl) (by kernel_rfl) ?_
   exact⟨⟨rfl,rfl,rfl,trivial⟩,rfl,rfl,rfl,trivial⟩
  ·exact bne_eq_false_iff_eq.1 h
theorem Xc {Q:Exit→AS→Prop} (m:Nat) (x:Ex) (l:List gY) (hl:2≤l.length) (hk:x.k=9) (h0:(jv 9 l).2.2=0→aC Tryz.prog G [cd Tryz.f46 [1,1,1,1,1,1,1,1]] (Nl m x (jv 9 l).1 (jv 9 l).2.1) Q) (h1:(jv 9 l).2.2≠0→∀st,Q (.panic (oC dY)) st):aC Tryz.prog G [cd Tryz.f46 [1,1,1,1]] (FW m x l) Q:=by
 obtain ⟨k,s,n,d,pos,kids⟩:=x
 obtain rfl:k=9:=hk
 refine aK (ay:=mG []) (keep:=[]) (cuts:=[15,18,20,31,32]) (n:=1000) follows ?_
 refine aA (fun ZT ZW ZQ ZK=>(fun Za=>(((((Ex.mk 9 s n d pos kids).k==5)=true)→ZW [cd Tryz.f46 [1,1,1,1,1,0,1,0,1,0],(.blk 3),cd Tryz.f46 [1,1,1,1,1,1]] (aI ZT [0]) ZQ)∧((((Ex.mk 9 s n d pos kids).k==5)=false)→(((((Ex.mk 9 s n d pos kids).k==11)=true)→ZW [cd Tryz.f46 [1,1,1,1,1,0,1,0,1,1,1,0],(.blk 3),cd Tryz.f46 [1,1,1,1,1,1]] (aI ZT [1,0]) ZQ)∧((((Ex.mk 9 s n d pos kids).k==11)=false)→(((((Ex.mk 9 s n d pos kids).k==10)=true)→ZW [cd Tryz.f46 [1,1,1,1,1,0,1,0,1,1,1,1,1,0],(.blk 3),cd Tryz.f46 [1,1,1,1,1,1]] (aI ZT [1,1,0]) ZQ)∧((((Ex.mk 9 s n d pos kids).k==10)=false)→(((((bT (Value.int IntKind.i64 9) (bT (Value.int IntKind.i64 8) (bT (Value.int IntKind.i64 7) (bT (Value.int IntKind.i64 6) fun x=>false))) (Value.int IntKind.i64 (Ex.mk 9 s n d pos kids).k))=false)→((DV.con Value.nilFunc).imp (bV (Value.int IntKind.i64 9) (DV.con (Value.func (Fn.func 79) #[] #[])) (bV (Value.int IntKind.i64 8) (DV.con (Value.func (Fn.func 78) #[] #[])) (bV (Value.int IntKind.i64 7) (DV.con (Value.func (Fn.func 77) #[] #[])) (bV (Value.int IntKind.i64 6) (DV.con (Value.func (Fn.func 76) #[] #[])) fun x=>DV.con Value.nilFunc))) (Value.int IntKind.i64 (Ex.mk 9 s n d pos kids).k))))∧(((0:Int)≤(0:Int))∧(0<(↑l.length:Int)))∧(((0:Int)≤(1:Int))∧(1<(↑l.length:Int)))∧ZK 79 [(.agg [(di (l.getD (Int.toNat 0) (0,0)).fst),(di (l.getD (Int.toNat 0) (0,0)).snd)]),(.agg [(di (l.getD (Int.toNat 1) (0,0)).fst),(di (l.getD (Int.toNat 1) (0,0)).snd)])] (.au [(.agg [(di Za.fst),(di Za.snd.fst)]),(di Za.snd.snd)]))∧(((Za.snd.snd != 0)=true)→ZW [cd Tryz.f46 [1,1,1,1,1,1,1,0,1,0],cd Tryz.f46 [1,1,1,1,1,1,1,1]] (aI ZT [1,1,1,0]) ZQ)∧(((Za.snd.snd != 0)=false)→ZW [cd Tryz.f46 [1,1,1,1,1,1,1,1]] (aI ZT [1,1,1,1]) ZQ))))))))) (dD (l.getD (Int.toNat 0) (0,0)).fst (l.getD (Int.toNat 0) (0,0)).snd (l.getD (Int.toNat 1) (0,0)).fst (l.getD (Int.toNat 1) (0,0)).snd)) (by kernel_rfl) ?_
 refine⟨fun h=>absurd (eq_of_beq h) (by show ¬(9:Int)=5;decide),fun _=>⟨fun h=>absurd (eq_of_beq h) (by show ¬(9:Int)=11;decide),fun _=>⟨fun h=>absurd (eq_of_beq h) (by show ¬(9:Int)=10;decide),fun _=>⟨⟨fun h=>absurd h (by show ¬(true=false);decide),⟨by omega,by omega⟩,⟨by omega,by omega⟩,aa2 _ _ _ _⟩,fun h=>?_,fun h=>?_⟩⟩⟩⟩
 ·refine aC.giveUp (d:=108) (e:=109) rfl ⟨⟨rfl,rfl,rfl⟩,⟨rfl,rfl,rfl⟩,rfl,rfl⟩ ⟨of_decide_eq_true (by kernel_rfl),of_decide_eq_true (by kernel_rfl)⟩ (h1 (bne_iff_ne.1 h) _)
 ·refine aC.weaken ?_ (h0 ?_)
  ·refine AS.leZ [] [0] (b:=((T0∧T0∧T0∧True)∧((some [(vi (dD (l.getD (Int.toNat 0) (0,0)).fst (l.getD (Int.toNat 0) (0,0)).snd (l.getD (Int.toNat 1) (0,0)).fst (l.getD (Int.toNat 1) (0,0)).snd).fst),(vi (dD (l.getD (Int.toNat 0) (0,0)).fst (l.getD (Int.toNat 0) (0,0)).snd (l.getD (Int.toNat 1) (0,0)).fst (l.getD (Int.toNat 1) (0,0)).snd).snd.fst)]):(Option (List AV)))=(some [(vi (jv 9 l).fst),(vi (jv 9 l).snd.fst)])∧T0∧T0∧True)) (by kernel_rfl) (by kernel_rfl) ?_
   exact⟨⟨rfl,rfl,rfl,trivial⟩,rfl,rfl,rfl,trivial⟩
  ·exact bne_eq_false_iff_eq.1 h
/-! Numbers: the other operations. -/
theorem abd (F:List Ft) (m:Nat) (x:Ex) (hl:x.kids.length=1) (hk:x.k=5) (hr:iO (fB F (x.kids.getD 0 ak)).1):aC Tryz.prog G [cd Tryz.f46 [1,1,1,1]] (QL F m x x.kids.length) (fF Tryz.prog Tryz.f46 (fr (-(fB F (x.kids.getD 0 ak)).1) (fB F (x.kids.getD 0 ak)).2)):=by
 obtain ⟨k,s,n,d,pos,kids⟩:=x
 obtain rfl:k=5:=hk
 match kids,hl with
 | [y],_=>
  refine aK (ay:=mG F) (keep:=[]) (cuts:=[17,29]) (n:=1000) follows ?_
  refine aA (fun ZT ZW ZQ _=>(fun Za=>(((((Ex.mk 5 s n d pos [y]).k==5)=true)→(((((0:Int)≤(0:Int))∧(0<(↑1:Int)))∧(iO Za.fst)∧((0:Int)≤(0:Int))∧(0<(↑1:Int)))∧(((0:Int)≤(0:Int))∧(0<(↑1:Int)))∧(ZS ((fr (-Za.fst) Za.snd):DV))))∧((((Ex.mk 5 s n d pos [y]).k==5)=false)→ZW [cd Tryz.f46 [1,1,1,1,1,0,1,0,1,1],(.blk 3),cd Tryz.f46 [1,1,1,1,1,1]] (aI ZT [1]) ZQ))) (fB F ((Ex.mk 5 s n d pos [y]).kids.getD 0 ak))) (by kernel_rfl) ?_
  exact⟨fun _=>⟨⟨⟨by omega,by omega⟩,hr,by omega,by omega⟩,⟨by omega,by omega⟩,rfl⟩,fun h=>absurd (show ((5:Int)==5)=false from h) (by decide)⟩
theorem aav (m:Nat) (x:Ex) (l:List gY) (hb:0≤jM l) (hl:l.length≤1000000) (hk:x.k=11):aC Tryz.prog G [cd Tryz.f46 [1,1,1,1]] (FW m x l) (fF Tryz.prog Tryz.f46 (fr (l.getD (jM l).toNat (0,0)).1 (l.getD (jM l).toNat (0,0)).2)):=by
 obtain ⟨k,s,n,d,pos,kids⟩:=x
 obtain rfl:k=11:=hk
 have e:Oe (.slc 2 l.length (nT l))=l:=YC l
 have hlt:=(uw l l.length).2
 have hbl:jM l<l.length:=by
  unfold jM
  split
  ·exact hlt
  ·omega
 refine aK (ay:=mG []) (keep:=[]) (cuts:=[15,20,29]) (n:=1000) follows ?_
 refine aA (fun ZT ZW ZQ ZK=>(fun Za=>(((((Ex.mk 11 s n d pos kids).k==5)=true)→ZW [cd Tryz.f46 [1,1,1,1,1,0,1,0,1,0],(.blk 3),cd Tryz.f46 [1,1,1,1,1,1]] (aI ZT [0]) ZQ)∧((((Ex.mk 11 s n d pos kids).k==5)=false)→(((((Ex.mk 11 s n d pos kids).k==11)=true)→((ZK 80 [(.slc 2 l.length (nT l))] (di (jM Za))∧(0≤jM Za)∧(jM Za<↑l.length))∧((.agg [(di (l.getD (jM Za).toNat (0,0)).fst),(di (l.getD (jM Za).toNat (0,0)).snd)]):DV)=(fr (l.getD (jM l).toNat (0,0)).fst (l.getD (jM l).toNat (0,0)).snd)))∧((((Ex.mk 11 s n d pos kids).k==11)=false)→(((((Ex.mk 11 s n d pos kids).k==10)=true)→ZW [cd Tryz.f46 [1,1,1,1,1,0,1,0,1,1,1,1,1,0],(.blk 3),cd Tryz.f46 [1,1,1,1,1,1]] (aI ZT [1,1,0]) ZQ)∧((((Ex.mk 11 s n d pos kids).k==10)=false)→ZW [cd Tryz.f46 [1,1,1,1,1,1]] (aI ZT [1,1,1]) ZQ))))))) (Oe (DV.slc 2 l.length (nT l)))) (by kernel_rfl) ?_
 simp only[e]
 exact⟨fun h=>absurd (eq_of_beq h) (by show ¬(11:Int)=5;decide),fun _=>⟨fun _=>⟨⟨f80 l hl,hb,hbl⟩,trivial⟩,fun h=>absurd (show ((11:Int)==11)=false from h) (by decide)⟩⟩
theorem DK (l:List gY) (k:Nat):iL l (k+1)=if dM (l.getD k (0,0)).1 (l.getD k (0,0)).2 (iL l k).1 (iL l k).2<0 then l.getD k (0,0) else iL l k:=rfl
noncomputable def V7 (m:Nat) (x:Ex) (l:List gY) (k:Nat):AS:=⟨regs Tryz.f46.ntmps [(3,.box 3 0),(4,.box 4 0),(9,.box 9 0),(75,.d (nZ l)),(76,vi l.length),(77,vi k)],[(3,l7 m x),(4,[vi 0,vi 0]),(9,[vi (iL l k).1,vi (iL l k).2])]⟩
theorem Y8 (m:Nat) (x:Ex) (l:List gY) (h1:1≤l.length) (hl:l.length≤1000000) (hk:x.k=10):aC Tryz.prog G [cd Tryz.f46 [1,1,1,1]] (FW m x l) (fF Tryz.prog Tryz.f46 (fr (iL l l.length).1 (iL l l.length).2)):=by
 obtain ⟨k,s,n,d,pos,kids⟩:=x
 obtain rfl:k=10:=hk
 refine aK (ay:=mG []) (keep:=[]) (cuts:=[15,18,29]) (n:=1000) follows ?_
 refine aA (fun ZT ZW ZQ _=>(((((Ex.mk 10 s n d pos kids).k==5)=true)→ZW [cd Tryz.f46 [1,1,1,1,1,0,1,0,1,0],(.blk 3),cd Tryz.f46 [1,1,1,1,1,1]] (aI ZT [0]) ZQ)∧((((Ex.mk 10 s n d pos kids).k==5)=false)→(((((Ex.mk 10 s n d pos kids).k==11)=true)→ZW [cd Tryz.f46 [1,1,1,1,1,0,1,0,1,1,1,0],(.blk 3),cd Tryz.f46 [1,1,1,1,1,1]] (aI ZT [1,0]) ZQ)∧((((Ex.mk 10 s n d pos kids).k==11)=false)→(((((Ex.mk 10 s n d pos kids).k==10)=true)→((((0:Int)≤(0:Int))∧(0<(↑l.length:Int)))∧ZW [cd Tryz.f46 [1,1,1,1,1,0,1,0,1,1,1,1,1,0,1,0,1,0],(.blk 4),cd Tryz.f46 [1,1,1,1,1,0,1,0,1,1,1,1,1,0,1,1],(.blk 3),cd Tryz.f46 [1,1,1,1,1,1]] (aI ZT [1,1,0]) ZQ))∧((((Ex.mk 10 s n d pos kids).k==10)=false)→ZW [cd Tryz.f46 [1,1,1,1,1,1]] (aI ZT [1,1,1]) ZQ))))))) (by kernel_rfl) ?_
 refine⟨fun h=>absurd (eq_of_beq h) (by show ¬(10:Int)=5;decide),fun _=>⟨fun h=>absurd (eq_of_beq h) (by show ¬(10:Int)=11;decide),fun _=>⟨fun _=>⟨⟨by omega,by omega⟩,?_⟩,fun h=>absurd (show ((10:Int)==10)=false from h) (by decide)⟩⟩⟩
 refine aC.loop (c:=dR (aQ Tryz.f46) [1,1,1,1,1,0,1,0,1,1,1,1,1,0,1,0,1,0,0]) (by kernel_rfl) (V7 m (.mk 10 s n d pos kids) l) (fun k=>k≤l.length) (fun k=>l.length-k) 0 ?_ (Nat.zero_le _) ?_
 ·refine AS.leZ [] [2] (b:=((T0∧T0∧T0∧T0∧T0∧T0∧True)∧T0∧T0∧((some [(vi (l.getD (Int.toNat 0) (0,0)).fst),(vi (l.getD (Int.toNat 0) (0,0)).snd)]):(Option (List AV)))=(some [(vi (iL l 0).fst),(vi (iL l 0).snd)])∧True)) (by kernel_rfl) (by kernel_rfl) ?_
  exact⟨⟨rfl,rfl,rfl,rfl,rfl,rfl,trivial⟩,rfl,rfl,rfl,trivial⟩
 ·intro k hk
  refine aK (ay:=mG []) (keep:=[]) (cuts:=[]) (n:=1000) follows ?_
  refine bW (fun ZT ZW ZQ ZK ZA _=>(fun Za=>((((decide ((↑k:Int)<↑l.length))=true)→(((0≤(↑k:Int))∧((↑k:Int)<↑l.length))∧ZK 81 [(.agg [(di Za.fst),(di Za.snd)]),(.agg [(di (iL l k).fst),(di (iL l k).snd)])] (.au [(di (dM Za.fst Za.snd (iL l k).fst (iL l k).snd)),(db (iF Za.fst Za.snd (iL l k).fst (iL l k).snd))])∧(((decide (dM Za.fst Za.snd (iL l k).fst (iL l k).snd<0))=true)→((I64 (↑k+1))∧(ZA (aI ZT [0,0]))))∧(((decide (dM Za.fst Za.snd (iL l k).fst (iL l k).snd<0))=false)→((I64 (↑k+1))∧(ZA (aI ZT [0,1]))))))∧(((decide ((↑k:Int)<↑l.length))=false)→ZW [cd Tryz.f46 [1,1,1,1,1,0,1,0,1,1,1,1,1,0,1,1],(.blk 3),cd Tryz.f46 [1,1,1,1,1,1]] (aI ZT [1]) ZQ))) (l.getD (↑k:Int).toNat (0,0))) (by kernel_rfl) ?_
  simp only[Int.toNat_natCast]
  refine⟨fun h=>?_,fun h=>?_⟩
  ·have hk2:k<l.length:=by have:=of_decide_eq_true h;omega
   have st1:∀c:gY,iL l (k+1)=c→V7 m (.mk 10 s n d pos kids) l (k+1)=⟨regs Tryz.f46.ntmps [(3,.box 3 0),(4,.box 4 0),(9,.box 9 0),(75,.d (nZ l)),(76,vi l.length),(77,vi (k+1:Nat))],[(3,l7 m (.mk 10 s n d pos kids)),(4,[vi 0,vi 0]),(9,[vi c.1,vi c.2])]⟩:=fun c h=>by unfold V7;rw[h]
   refine⟨⟨by omega,by omega⟩,f81 _ _ _ _,fun h2=>⟨⟨by omega,by omega⟩,Again.mk (k+1) ?_ hk2 (by omega)⟩,fun h2=>⟨⟨by omega,by omega⟩,Again.mk (k+1) ?_ hk2 (by omega)⟩⟩
   ·rw[st1 (l.getD k (0,0)) (by rw[DK,if_pos (of_decide_eq_true h2)])]
    refine AS.leZ [] [2] (b:=((T0∧T0∧T0∧T0∧T0∧T0∧True)∧T0∧T0∧((some [(vi (l.getD (↑k:Int).toNat (0,0)).fst),(vi (l.getD (↑k:Int).toNat (0,0)).snd)]):(Option (List AV)))=(some [(vi (l.getD k (0,0)).fst),(vi (l.getD k (0,0)).snd)])∧True)) (by kernel_rfl) (by kernel_rfl) ?_
    exact⟨⟨rfl,rfl,rfl,rfl,rfl,rfl,trivial⟩,rfl,rfl,rfl,trivial⟩
   ·rw[st1 (iL l k) (by rw[DK,if_neg (of_decide_eq_false h2)])]
    exact AS.dB (by kernel_rfl)
  ·have h:=of_decide_eq_false h
   obtain rfl:k=l.length:=by omega
   refine aK (ay:=mG []) (keep:=[]) (cuts:=[]) (n:=1000) follows ?_
   refine aA (fun _ _ _ _=>(ZS ((fr (iL l l.length).fst (iL l l.length).snd):DV))) (by kernel_rfl) ?_
   rfl
theorem Ew {b:Bool} {x:Int×Int} (h:(jc b x).2.2=0):ok (jc b x).1 (jc b x).2.1=true:=by
 unfold jc at h⊢
 split at h
 ·rename_i hb
  rw[if_pos hb]
  split at h
  ·cases h
  ·rename_i hd
   rw[if_neg hd]
   exact((Po hd).2.1 h).1
 ·cases h
theorem Zu {k a b c d:Int} (h:(zW k a b c d).2.2=0):ok (zW k a b c d).1 (zW k a b c d).2.1=true:=by
 unfold zW at h⊢
 split at h
 ·rename_i hk;rw[if_pos hk];exact Ew h
 ·rename_i hk
  rw[if_neg hk]
  split at h
  ·rename_i hk;rw[if_pos hk];exact Ew h
  ·rename_i hk
   rw[if_neg hk]
   split at h
   ·rename_i hk;rw[if_pos hk];exact Ew h
   ·rename_i hk;rw[if_neg hk];exact Ew h
theorem Zj {k:Int} {l:List gY} {p:gY} (h1:1≤l.length) (hl:∀i,i<l.length→ok (l.getD i (0,0)).1 (l.getD i (0,0)).2=true) (h:vM k l=some p):ok p.1 p.2=true:=by
 have h0:=hl 0 (by omega)
 unfold vM at h
 split at h
 ·simp only[aH] at h;subst h
  revert h0
  unfold ok
  simp only[decide_eq_true_eq]
  rintro ⟨a,b,c,d,e⟩
  refine⟨a,b,by show -1000000000≤-(l.getD 0 (0,0)).1;omega,by show -(l.getD 0 (0,0)).1≤1000000000;omega,by show Int.gcd (-(l.getD 0 (0,0)).1) _=1;rw[Int.neg_gcd];exact e⟩
 split at h
 ·simp only[aH] at h;subst h
  have:=uw l l.length
  unfold jM
  split
  ·rcases (by omega:dZ l l.length<0∨0≤dZ l l.length) with h2|h2
   ·have:(dZ l l.length).toNat=0:=by omega
    rw[this];exact h0
   ·exact hl _ (by omega)
  ·exact h0
 split at h
 ·simp only[aH] at h;subst h
  have:∀k,k≤l.length→ok (iL l k).1 (iL l k).2=true:=by
   intro k
   induction k with
   | zero=>intro _;exact h0
   | succ k ih=>
    intro hk
    rw[DK]
    split
    ·exact hl k hk
    ·exact ih (by omega)
  exact this _ (Nat.le_refl _)
 split at h
 ·rename_i hz
  simp only[aH] at h;subst h
  exact Zu hz
 ·cases h
end Go.Proofs
