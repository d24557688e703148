import Derived.Test.YtellpkieoccljaaGreatDoorAcD
import Derived.Test.YtellpkieoccljaaGreatDoorG0
import Derived.Shelf.Strings.OnBuilder
import Derived.Shelf.Small.Wraps
import Derived.Shelf.LaysM
import Derived.Test.YtellpkieoccljaaGreatDoorProg
set_option autoImplicit false
namespace Go.Proofs
open Go Go.Ab Go.RowKit
set_option maxHeartbeats 2000000
set_option maxRecDepth 100000
variable {G:IH}
def IE:ByteArray:=⟨#[46]⟩
def ru (n d:Int):Bool:=(nI n d).2&&decide (n≥0)&&decide (((cD IE (str (nI n d).1)).size:Int)≤9)
def mY (n d:Int):ByteArray:=str (nI n d).1
theorem JH {d:Nat}:∀(k r:Nat),r<d→(oG d k r).length≤k
 | 0,r,_=>by simp[oG]
 | k+1,r,h=>by
  unfold oG
  split
  ·simp
  ·have h1:10*r / d<10:=by rw[Nat.div_lt_iff_lt_mul (by omega)];omega
   have h2:=JH k (10*r % d) (Nat.mod_lt _ (by omega))
   rw[Lib.decDigits,dif_pos h1,List.length_append,List.length_singleton];omega
theorem Vy (n d:Int):(mY n d).size≤100:=by
 unfold mY
 rw[pY,Ef]
 unfold jG
 split
 ·rename_i h
  have hk:=kR h.1
  have h1:n.natAbs / d.toNat<10 ^ (18+1):=by
   have:=Nat.div_le_self n.natAbs d.toNat
   have e:(10:Nat) ^ (18+1)=10000000000000000000:=by decide
   rw[e];omega
  have h2:=vS 18 _ h1
  have h3:=JH (d:=d.toNat) 7 (n.natAbs % d.toNat) (Nat.mod_lt _ (by omega))
  have h4:(sg n).length≤1:=by unfold sg;split<;>simp
  simp only[List.length_append]
  split
  ·simp;omega
  ·simp only[List.length_cons];omega
 ·simp
noncomputable def abT:aZ:=fun f a=>match f,a with
 | 185,[fr n d]=>some (.au [ds (mY n d),db (nI n d).2])
 | 186,[.con (.string s),.con (.string p)]=>some (.au [ds (cD p s),ds (cR p s),db (cB p s)])
 | _,_=>none
theorem f156 (hT:Tab G) (n d:Int):aj Tryz.prog G 156 [fr n d] (.au [ds (mY n d),db (ru n d)]):=by
 have hs:=Vy n d
 refine aj.walk (ay:=abT) (keep:=[]) follows Tryz.func156 rfl Tryz.call156 ?_
 refine aA (fun _ _ _ ZK=>(ZK 185 [(.agg [(di n),(di d)])] (.au [(ds (mY n d)),(db (nI n d).snd)])∧ZK 186 [(ds (mY n d)),(ds (ByteArray.mk #[46]))] (.au [(ds (cD (ByteArray.mk #[46]) (mY n d))),(ds (cR (ByteArray.mk #[46]) (mY n d))),(db (cB (ByteArray.mk #[46]) (mY n d)))])∧((.au [(ds (mY n d)),(db ((nI n d).snd&&decide (n≥0)&&decide ((↑(cD (ByteArray.mk #[46]) (mY n d)).size:Int)≤9)))]):DV)=(.au [(ds (mY n d)),(db (ru n d))]))) (by kernel_rfl) ?_
 exact⟨f185 hT n d,f186 _ 46 (by omega),rfl⟩
def C9:List UInt8:=[49,48,48,48,48,48,48,48,48,48]
def bigS:ByteArray:=⟨#[49,48,48,48,48,48,48,48,48,48]⟩
theorem Wh:Lib.decDigits 1000000000=C9:=by
 have h:=KT (l:=C9) (by decide) (by intro c hc;simp only[C9,List.mem_cons,List.not_mem_nil,or_false] at hc;unfold Vk;rcases hc with rfl|rfl|rfl|rfl|rfl|rfl|rfl|rfl|rfl|rfl<;>decide) (fun _ c hc=>by
  simp only[C9,List.head?_cons,aH] at hc
  subst hc;decide)
 have e:uM C9=1000000000:=by decide
 rwa [e] at h
theorem Ye {D T:List UInt8} (hD:∀c∈D,c≠46) (hT:T=[]∨∃t,T=46 :: t):(cD IE (str (D++T))).size=D.length:=by
 have e1:(str (D++T)).data.toList=D++T:=by simp[str]
 have hc:cI IE (str (D++T))=Lib.indexByte (D++T) 46:=by
  unfold cI
  rw[e1];rfl
 unfold cD
 rcases hT with rfl|⟨t,rfl⟩
 ·have hn:¬0≤cI IE (str (D++[])):=by
   intro h
   obtain ⟨o,ho⟩:=Int.eq_ofNat_of_zero_le h
   rw[hc,List.append_nil] at ho
   obtain ⟨h1,_⟩:=Lib.indexByte_some ho
   exact hD 46 (List.mem_of_getElem? h1) rfl
  rw[if_neg hn,pY,List.append_nil]
 ·have h0:0≤cI IE (str (D++46 :: t)):=by
   refine Classical.byContradiction fun h=>?_
   have h2:=Lib.indexByte_ge (D++46 :: t) 46
   rw[←hc] at h2
   have h3:cI IE (str (D++46 :: t)) = -1:=by omega
   rw[hc] at h3
   exact Lib.indexByte_none h3 D.length (by simp)
  obtain ⟨o,ho⟩:=Int.eq_ofNat_of_zero_le h0
  have ho':=ho
  rw[hc] at ho'
  obtain ⟨h1,h2⟩:=Lib.indexByte_some ho'
  have h3:o=D.length:=by
   rcases Nat.lt_trichotomy o D.length with h|h|h
   ·rw[List.getElem?_append_left h] at h1
    exact absurd rfl (hD 46 (List.mem_of_getElem? h1))
   ·exact h
   ·exact absurd (by simp) (h2 D.length h)
  rw[if_pos h0,ho,Int.toNat_natCast,h3,ByteArray.size_extract]
  have:(str (D++46 :: t)).size=(D++46 :: t).length:=pY _
  rw[this,List.length_append,List.length_cons];omega
theorem Zm {u:Nat}:∀c∈Lib.decDigits u,c≠46:=by
 intro c hc h
 have:=(KP u).1 c hc
 subst h
 unfold Vk at this
 revert this
 decide
theorem XT (n d:Int):ru n d=((jG n d).2&&decide (n≥0)&&!decide (str (jG n d).1=bigS)):=by
 unfold ru
 rw[Ef]
 by_cases hk:ok n d=true∧(1000000:Int).tmod d=0
 ·by_cases hn:n≥0
  ·have hok:=kR hk.1
   have hs:sg n=[]:=by unfold sg;rw[if_neg (by omega)]
   unfold jG
   rw[if_pos hk,hs]
   simp only[List.nil_append,decide_eq_true hn,Bool.true_and,Bool.and_true]
   have hT:(if n.natAbs % d.toNat=0 then [] else 46 :: oG d.toNat 7 (n.natAbs % d.toNat))=([]:List UInt8)∨∃t,(if n.natAbs % d.toNat=0 then [] else 46 :: oG d.toNat 7 (n.natAbs % d.toNat))=(46:UInt8) :: t:=by
    split
    ·exact .inl rfl
    ·exact .inr ⟨_,rfl⟩
   have hA:=Ye Zm hT (D:=Lib.decDigits (n.natAbs / d.toNat))
   simp only[hA]
   have hq:n.natAbs / d.toNat≤n.natAbs:=Nat.div_le_self _ _
   by_cases hb:n.natAbs / d.toNat<10 ^ (8+1)
   ·have h1:=vS 8 _ hb
    rw[decide_eq_true (by omega),decide_eq_false,Bool.not_false]
    intro hh
    have e:(Lib.decDigits (n.natAbs / d.toNat)++(if n.natAbs % d.toNat=0 then [] else 46 :: oG d.toNat 7 (n.natAbs % d.toNat)))=C9:=by
     have:=congrArg (fun x:ByteArray=>x.data.toList) hh
     simpa [str,bigS,C9] using this
    rcases hT with h2|⟨t,h2⟩
    ·rw[h2,List.append_nil] at e
     rw[e] at h1
     exact absurd h1 (by decide)
    ·rw[h2] at e
     have:(46:UInt8)∈C9:=by rw[←e];simp
     exact absurd this (by decide)
   ·have e9:(10:Nat) ^ (8+1)=1000000000:=by decide
    rw[e9] at hb
    have hd1:d.toNat=1:=by
     refine Classical.byContradiction fun h=>?_
     have h2:2≤d.toNat:=by omega
     have:n.natAbs / d.toNat≤n.natAbs / 2:=Nat.div_le_div_left h2 (by decide)
     omega
    rw[hd1,Nat.div_one,Nat.mod_one,if_pos rfl,List.append_nil]
    rw[hd1,Nat.div_one] at hb
    have e2:n.natAbs=1000000000:=by omega
    rw[e2,Wh]
    decide
  ·simp[hn]
 ·unfold jG
  rw[if_neg hk]
  simp
def zJ (n d:Int) (s:ByteArray) (len:Nat) (all:Bool) (a b:Int):Bool:=decide (s.size=0)&&(n==0&&d==0)&&decide ((len:Int)≥a)&&decide ((len:Int)≤b)&&all
def qO (k n d:Int) (s:ByteArray) (len:Nat) (all:Bool):Bool:=
 if k=1 then ru n d&&decide (s.size=0)&&decide (len=0)
 else if k=2 then nameB s&&(n==0&&d==0)&&decide (len=0)
 else if k=3∨k=4 then zJ n d s len all 0 0
 else if k=5∨k=18 then zJ n d s len all 1 1
 else if k=10∨k=11 then zJ n d s len all 1 len
 else gU k&&zJ n d s len all 2 2
mutual
def aV:Ex→Bool
 | .mk k s n d _ l=>qO k n d s l.length (qH l)
def qH:List Ex→Bool
 | []=>true
 | x :: l=>aV x&&qH l
end
theorem og (x:Ex):aV x=qO x.k x.n x.d x.s x.kids.length (qH x.kids):=by cases x;simp only[aV,Ex.k,Ex.n,Ex.d,Ex.s,Ex.kids]
theorem N8:∀l:List Ex,(l.any fun y=>!aV y) = !qH l
 | []=>rfl
 | x :: l=>by simp only[List.any_cons,qH,N8 l,Bool.not_and]
abbrev jH (x:Ex) (a b:Int):Bool:=zJ x.n x.d x.s x.kids.length (qH x.kids) a b
noncomputable def Ti (x:Ex):aZ:=fun f a=>match f,a with
 | 122,[e]=>some (db (aV (ah e)))
 | 156,[fr n d]=>some (.au [ds (mY n d),db (ru n d)])
 | 157,[.con (.string s)]=>some (db (nameB s))
 | 158,[_,.con (.int .i64 a),.con (.int .i64 b)]=>some (db (jH x a b))
 | 159,[]=>some Sj
 | 116,[_,_]=>some (db (x.kids.any fun y=>!aV y))
 | _,_=>none
theorem X6 {m:Nat} {y:Ex} (hy:ht y≤m) (h:aj Tryz.prog G 122 [bG m y] (db (aV y))):aj Tryz.prog G 191 [bG m y] (db (!aV y)):=by
 refine aj.walk (ay:=Ti y) (keep:=[]) follows Tryz.func191 rfl Tryz.call191 ?_
 refine aA (fun _ _ _ ZK=>(ZK 122 [(aB m y)] (db (aV (ah (aB m y))))∧((db (!aV (ah (aB m y)))):DV)=(db !aV y))) (by kernel_rfl) ?_
 show aj Tryz.prog G 122 [bG m y] (db (aV (ah (bG m y))))∧db (!aV (ah (bG m y)))=_
 rw[fU hy]
 exact⟨h,rfl⟩
theorem Yi {m:Nat} {x:Ex} (hx:ht x≤m) (hs:Sm x) (hc:∀i,i<x.kids.length→aj Tryz.prog G 191 [aS m x i] (db (!aV (x.kids.getD i ak)))) (a b:Int):aj Tryz.prog G 158 [bG m x,di a,di b] (db (jH x a b)):=by
 refine aj.walk (ay:=Ti x) (keep:=[]) follows Tryz.func158 rfl Tryz.call158 ?_
 refine aA (fun _ _ _ ZK=>((((x.s.toList==(ByteArray.mk #[]).toList&&Bool.rec false (x.d==0) (x.n==0)&&decide (↑x.kids.length≥a)&&decide (↑x.kids.length≤b))=true)→ZK 116 [(.slc 6 x.kids.length (lay (bJ m) x.kids)),(.con (.func (.func 191) ⟨[]⟩ ⟨[]⟩))] (db (x.kids.any fun y=>!aV y)))∧((db (x.s.toList==(ByteArray.mk #[]).toList&&Bool.rec false (x.d==0) (x.n==0)&&decide (↑x.kids.length≥a)&&decide (↑x.kids.length≤b)&&!x.kids.any fun y=>!aV y)):DV)=(db (jH x a b)))) (by kernel_rfl) ?_
 refine⟨fun _=>f116 (fun y=>!aV y) m x hx hs hc,?_⟩
 refine congrArg db ?_
 rw[N8,uz]
 unfold jH zJ
 have e:(Bool.rec false (x.d==0) (x.n==0):Bool)=(x.n==0&&x.d==0):=by cases (x.n==0)<;>rfl
 rw[e,Bool.not_not]
theorem imp_eq {a b:DV} (h:b=a):DV.imp a b:=fun _ _ hv=>h▸hv
theorem Nw {k:Int} (h:gU k=false):gq k=.empty:=by
 have h:=of_decide_eq_false h
 have q:∀j:Int,(6≤j∧j≤9∨12≤j∧j≤17∨19≤j∧j≤20)→decide (k=j)=false:=fun j hj=>decide_eq_false fun e=>h (e▸hj)
 unfold gq
 simp only[q 20 (by omega),q 19 (by omega),q 17 (by omega),q 16 (by omega),q 15 (by omega),q 14 (by omega),q 13 (by omega),q 12 (by omega),q 9 (by omega),q 8 (by omega),q 7 (by omega),q 6 (by omega),cond_false]
theorem f122 (hT:Tab G) (m:Nat):∀(x:Ex),ht x≤m→Sm x→aj Tryz.prog G 122 [bG m x] (db (aV x)):=by
 induction m using Nat.strongRecOn with
 | _ m ih=>
 intro x hx hs
 have hc:∀i,i<x.kids.length→aj Tryz.prog G 191 [aS m x i] (db (!aV (x.kids.getD i ak))):=fun i hi=>
  jD (Q:=fun d=>aj Tryz.prog G 191 [d] _) hx hi fun m' h1 h2=>X6 h2 (ih m' h1 _ h2 (hs.kid hi))
 have adS:=fun a b=>Yi hx hs hc a b
 refine aj.walk (ay:=Ti x) (keep:=[]) follows Tryz.func122 rfl Tryz.call122 ?_
 refine aA (fun _ _ _ ZK=>(fun Za Zb Zc=>((((x.k==1)=true)→(ZK 156 [(.agg [(di x.n),(di x.d)])] (.au [(ds (mY x.n x.d)),(db (ru x.n x.d))])∧((db (ru x.n x.d&&x.s.toList==(ByteArray.mk #[]).toList&&(↑x.kids.length:Int)==0)):DV)=(db (aV x))))∧(((x.k==1)=false)→((((x.k==2)=true)→(ZK 157 [(ds x.s)] (db (nameB x.s))∧((db (nameB x.s&&Bool.rec false (x.d==0) (x.n==0)&&(↑x.kids.length:Int)==0)):DV)=(db (aV x))))∧(((x.k==2)=false)→((((x.k==3)=true)→((((x.k==3)=true)→(ZK 158 [(aB m x),(di 0),(di 0)] (db (jH x 0 0))∧((db (jH x 0 0)):DV)=(db (aV x))))∧(((x.k==3)=false)→((((x.k==5)=true)→((((x.k==5)=true)→(ZK 158 [(aB m x),(di 1),(di 1)] (db (jH x 1 1))∧((db (jH x 1 1)):DV)=(db (aV x))))∧(((x.k==5)=false)→((((x.k==10)=true)→((((x.k==10)=true)→(ZK 158 [(aB m x),(di 1),(di (↑x.kids.length))] (db (jH x 1 ↑x.kids.length))∧Zc=(db (aV x))))∧(((x.k==10)=false)→((ZK 159 [] (.mp (some .i64) (fun v=>DV.con (Value.string (gq (iV v)))) (fun v=>gU (iV v)))∧(((gU Za)=false)→(Zb.imp (DV.con (Value.string (gq Za))))))∧(((gU Za)=true)→ZK 158 [(aB m x),(di 2),(di 2)] (db (jH x 2 2)))∧((db (gU Za&&jH x 2 2)):DV)=(db (aV x))))))∧(((x.k==10)=false)→((((x.k==11)=true)→(ZK 158 [(aB m x),(di 1),(di (↑x.kids.length))] (db (jH x 1 ↑x.kids.length))∧Zc=(db (aV x))))∧(((x.k==11)=false)→((ZK 159 [] (.mp (some .i64) (fun v=>DV.con (Value.string (gq (iV v)))) (fun v=>gU (iV v)))∧(((gU Za)=false)→(Zb.imp (DV.con (Value.string (gq Za))))))∧(((gU Za)=true)→ZK 158 [(aB m x),(di 2),(di 2)] (db (jH x 2 2)))∧((db (gU Za&&jH x 2 2)):DV)=(db (aV x))))))))))∧(((x.k==5)=false)→((((x.k==18)=true)→(ZK 158 [(aB m x),(di 1),(di 1)] (db (jH x 1 1))∧((db (jH x 1 1)):DV)=(db (aV x))))∧(((x.k==18)=false)→((((x.k==10)=true)→((((x.k==10)=true)→(ZK 158 [(aB m x),(di 1),(di (↑x.kids.length))] (db (jH x 1 ↑x.kids.length))∧Zc=(db (aV x))))∧(((x.k==10)=false)→((ZK 159 [] (.mp (some .i64) (fun v=>DV.con (Value.string (gq (iV v)))) (fun v=>gU (iV v)))∧(((gU Za)=false)→(Zb.imp (DV.con (Value.string (gq Za))))))∧(((gU Za)=true)→ZK 158 [(aB m x),(di 2),(di 2)] (db (jH x 2 2)))∧((db (gU Za&&jH x 2 2)):DV)=(db (aV x))))))∧(((x.k==10)=false)→((((x.k==11)=true)→(ZK 158 [(aB m x),(di 1),(di (↑x.kids.length))] (db (jH x 1 ↑x.kids.length))∧Zc=(db (aV x))))∧(((x.k==11)=false)→((ZK 159 [] (.mp (some .i64) (fun v=>DV.con (Value.string (gq (iV v)))) (fun v=>gU (iV v)))∧(((gU Za)=false)→(Zb.imp (DV.con (Value.string (gq Za))))))∧(((gU Za)=true)→ZK 158 [(aB m x),(di 2),(di 2)] (db (jH x 2 2)))∧((db (gU Za&&jH x 2 2)):DV)=(db (aV x))))))))))))))∧(((x.k==3)=false)→((((x.k==4)=true)→(ZK 158 [(aB m x),(di 0),(di 0)] (db (jH x 0 0))∧((db (jH x 0 0)):DV)=(db (aV x))))∧(((x.k==4)=false)→((((x.k==5)=true)→((((x.k==5)=true)→(ZK 158 [(aB m x),(di 1),(di 1)] (db (jH x 1 1))∧((db (jH x 1 1)):DV)=(db (aV x))))∧(((x.k==5)=false)→((((x.k==10)=true)→((((x.k==10)=true)→(ZK 158 [(aB m x),(di 1),(di (↑x.kids.length))] (db (jH x 1 ↑x.kids.length))∧Zc=(db (aV x))))∧(((x.k==10)=false)→((ZK 159 [] (.mp (some .i64) (fun v=>DV.con (Value.string (gq (iV v)))) (fun v=>gU (iV v)))∧(((gU Za)=false)→(Zb.imp (DV.con (Value.string (gq Za))))))∧(((gU Za)=true)→ZK 158 [(aB m x),(di 2),(di 2)] (db (jH x 2 2)))∧((db (gU Za&&jH x 2 2)):DV)=(db (aV x))))))∧(((x.k==10)=false)→((((x.k==11)=true)→(ZK 158 [(aB m x),(di 1),(di (↑x.kids.length))] (db (jH x 1 ↑x.kids.length))∧Zc=(db (aV x))))∧(((x.k==11)=false)→((ZK 159 [] (.mp (some .i64) (fun v=>DV.con (Value.string (gq (iV v)))) (fun v=>gU (iV v)))∧(((gU Za)=false)→(Zb.imp (DV.con (Value.string (gq Za))))))∧(((gU Za)=true)→ZK 158 [(aB m x),(di 2),(di 2)] (db (jH x 2 2)))∧((db (gU Za&&jH x 2 2)):DV)=(db (aV x))))))))))∧(((x.k==5)=false)→((((x.k==18)=true)→(ZK 158 [(aB m x),(di 1),(di 1)] (db (jH x 1 1))∧((db (jH x 1 1)):DV)=(db (aV x))))∧(((x.k==18)=false)→((((x.k==10)=true)→((((x.k==10)=true)→(ZK 158 [(aB m x),(di 1),(di (↑x.kids.length))] (db (jH x 1 ↑x.kids.length))∧Zc=(db (aV x))))∧(((x.k==10)=false)→((ZK 159 [] (.mp (some .i64) (fun v=>DV.con (Value.string (gq (iV v)))) (fun v=>gU (iV v)))∧(((gU Za)=false)→(Zb.imp (DV.con (Value.string (gq Za))))))∧(((gU Za)=true)→ZK 158 [(aB m x),(di 2),(di 2)] (db (jH x 2 2)))∧((db (gU Za&&jH x 2 2)):DV)=(db (aV x))))))∧(((x.k==10)=false)→((((x.k==11)=true)→(ZK 158 [(aB m x),(di 1),(di (↑x.kids.length))] (db (jH x 1 ↑x.kids.length))∧Zc=(db (aV x))))∧(((x.k==11)=false)→((ZK 159 [] (.mp (some .i64) (fun v=>DV.con (Value.string (gq (iV v)))) (fun v=>gU (iV v)))∧(((gU Za)=false)→(Zb.imp (DV.con (Value.string (gq Za))))))∧(((gU Za)=true)→ZK 158 [(aB m x),(di 2),(di 2)] (db (jH x 2 2)))∧((db (gU Za&&jH x 2 2)):DV)=(db (aV x)))))))))))))))))))) (iV (Value.int IntKind.i64 x.k)) (ds (ByteArray.mk #[])) ((db (jH x 1 ↑x.kids.length)):DV)) (by kernel_rfl) ?_
 have hkz:(Bool.rec false (x.d==0) (x.n==0):Bool)=(x.n==0&&x.d==0):=by cases (x.n==0)<;>rfl
 have hlen:((x.kids.length:Int)==0)=decide (x.kids.length=0):=by
  rw[Bool.eq_iff_iff,beq_iff_eq,decide_eq_true_eq];omega
 have hs2:=hs.len.2
 have e:∀k,x.k=k→aV x=qO k x.n x.d x.s x.kids.length (qH x.kids):=fun k hk=>by rw[←hk];exact og x
 have e':=og x
 have hke:(x.s.toList==ByteArray.toList { data:=#[] })=decide (x.s.size=0):=uz _
 repeat' (first|(with_reducible refine And.intro ?_ ?_)|(with_reducible intro _))
 all_goals (try simp only[beq_iff_eq,beq_eq_false_iff_ne,ne_eq] at *)
 all_goals first
  | exact f156 hT _ _
  | exact f157 _ (by omega)
  | exact adS _ _
  | exact f159
  | contradiction
  | exact imp_eq (congrArg ds (Nw (by assumption)))
  | (refine congrArg db ?_;rw[e 1 (by assumption),hke,hlen];rfl)
  | (refine congrArg db ?_;rw[e 2 (by assumption),hkz,hlen];rfl)
  | (refine congrArg db ?_;rw[e 3 (by assumption)];rfl)
  | (refine congrArg db ?_;rw[e 4 (by assumption)];rfl)
  | (refine congrArg db ?_;rw[e 5 (by assumption)];rfl)
  | (refine congrArg db ?_;rw[e 18 (by assumption)];rfl)
  | (refine congrArg db ?_;rw[e 10 (by assumption)];rfl)
  | (refine congrArg db ?_;rw[e 11 (by assumption)];rfl)
  | (refine congrArg db ?_;rw[e'];unfold qO;simp only[*,or_self,if_false];rfl)
end Go.Proofs
/-
 DERIVED: THE SHELF's CONTRACTS AT THIS DUMP,IN PLAIN WORDS (tools/lay-plain.mjs out of 'Ux.lean',which tools/lay-shelf.mjs wrote): THE SAME Og UNDER THE SAME NAMES: 'import','QW,'open','adh,'theorem' AND NOTHING ELSE: no command of the shelf's: FOR A HAND-IN. Each laying: the table of numbers ('..abV) and one theorem,a field a fact of the dump's own or the kernel's comparison;each contract: ONE APPLICATION.
-/
namespace Go.Proofs
open Go.Shelf
def Tryz.lays156_ren:Go.Shelf.Ren:=⟨fun|156=>161|165=>192|166=>177|169=>180|240=>203|241=>209|276=>210|277=>213|n=>n,fun|31=>71|9=>9|3=>3|4=>4|0=>0|20=>20|72=>184|76=>187|70=>181|37=>182|75=>186|127=>205|164=>207|5=>5|80=>190|n=>n,fun|n=>n⟩
theorem Tryz.lays156:Go.Proofs.Lays.n156 Tryz.prog Tryz.lays156_ren:={
 mixed:=by kernel_rfl
 f156:=Tryz.func161.trans (congrArg some (by kernel_rfl))
 f165:=Tryz.func192.trans (congrArg some (by kernel_rfl))
 f166:=Tryz.func177.trans (congrArg some (by kernel_rfl))
 f169:=Tryz.func180.trans (congrArg some (by kernel_rfl))
 f240:=Tryz.func203.trans (congrArg some (by kernel_rfl))
 f241:=Tryz.func209.trans (congrArg some (by kernel_rfl))
 f276:=Tryz.func210.trans (congrArg some (by kernel_rfl))
 f277:=Tryz.func213.trans (congrArg some (by kernel_rfl))
 t0:=Tryz.underlying0
 a0:=Tryz.isAgg0
 z0:=Tryz.sizeOf0
 v0:=Tryz.zeroValue0
 t3:=Tryz.underlying3
 a3:=Tryz.isAgg3
 z3:=Tryz.sizeOf3
 v3:=Tryz.zeroValue3
 t4:=Tryz.underlying4
 a4:=Tryz.isAgg4
 z4:=Tryz.sizeOf4
 v4:=Tryz.zeroValue4
 t9:=Tryz.underlying9
 a9:=Tryz.isAgg9
 z9:=Tryz.sizeOf9
 v9:=Tryz.zeroValue9
 t20:=Tryz.underlying20
 a20:=Tryz.isAgg20
 z20:=Tryz.sizeOf20
 v20:=Tryz.zeroValue20
 t31:=Tryz.underlying71
 a31:=Tryz.isAgg71
 z31:=Tryz.sizeOf71
 v31:=Tryz.zeroValue71
 t37:=Tryz.underlying182
 a37:=Tryz.isAgg182
 z37:=Tryz.sizeOf182
 v37:=Tryz.zeroValue182
 t70:=Tryz.underlying181
 a70:=Tryz.isAgg181
 z70:=Tryz.sizeOf181
 v70:=Tryz.zeroValue181
 t72:=Tryz.underlying184
 a72:=Tryz.isAgg184
 z72:=Tryz.sizeOf184
 v72:=Tryz.zeroValue184
 t75:=Tryz.underlying186
 a75:=Tryz.isAgg186
 z75:=Tryz.sizeOf186
 v75:=Tryz.zeroValue186
 t76:=Tryz.underlying187
 a76:=Tryz.isAgg187
 z76:=Tryz.sizeOf187
 v76:=Tryz.zeroValue187
 t127:=Tryz.underlying205
 a127:=Tryz.isAgg205
 z127:=Tryz.sizeOf205
 v127:=Tryz.zeroValue205
 t164:=Tryz.underlying207
 a164:=Tryz.isAgg207
 z164:=Tryz.sizeOf207
 v164:=Tryz.zeroValue207 }
theorem Tryz.Builder_Extra_156:Builder.Extra Tryz.prog Tryz.lays156_ren:={
 sizeBuilder:=by kernel_rfl
 liesBuilder:=by kernel_rfl
 t5:=Tryz.underlying5
 a5:=Tryz.isAgg5
 z5:=Tryz.sizeOf5
 v5:=Tryz.zeroValue5
 infoByte:=by kernel_rfl
 cellsByte:=by kernel_rfl
 sizeByte:=by kernel_rfl
 neB5:=by decide }
open Go.RowKit in
theorem Tryz.strings_Join_none (a:Option Addr) (c:Nat) (sep:ByteArray) (w:World) :
  Calls Tryz.prog 161 #[.slice a 0 c,.string sep] w fun e w'=>e=.returned (.string ⟨#[]⟩)∧w'=w:=Any.strings_Join_none Tryz.lays156 Tryz.Builder_Extra_156 a c sep w
open Go.RowKit in
theorem Tryz.strings_Join (bk o c:Nat) (xs:List ByteArray) (sep:ByteArray) (w:World) (hcells:∀(j:Nat) x,xs[j]?=some x→w.cell? ⟨bk,o+j,none⟩=some (.string x)) (hbk:bk<w.heap.size) (hN:xs.length≤140737488355328) (hcap:xs.length≤c) (hlen:(Lib.join (xs.map (·.data.toList)) sep.data.toList).length≤140737488355328) :
  Calls Tryz.prog 161 #[.slice (some ⟨bk,o,none⟩) xs.length c,.string sep] w fun e w'=>e=.returned (.string ⟨(Lib.join (xs.map (·.data.toList)) sep.data.toList).toArray⟩)∧Below w.heap.size w w':=Any.strings_Join Tryz.lays156 Tryz.Builder_Extra_156 bk o c xs sep w hcells hbk hN hcap hlen
set_option maxHeartbeats 2000000
set_option maxRecDepth 100000
open Go Go.Ab Go.RowKit
variable {G:IH}
theorem su {k:IH} {sz:Nat} {f:Nat→DV} {v:Value} (h:DV.rel k (.con (.slice none 0 0)) v):DV.rel k (.slc sz 0 f) v:=by
 have h:v=.slice none 0 0:=h
 exact⟨none,0,h,Nat.le_refl _,.inl rfl⟩
def fJ (l:List ByteArray) (sep:ByteArray):ByteArray:=⟨(Lib.join (l.map (·.data.toList)) sep.data.toList).toArray⟩
theorem f161 (l:List ByteArray) (sep:ByteArray) (hN:l.length≤140737488355328) (hlen:(Lib.join (l.map (·.data.toList)) sep.data.toList).length≤140737488355328):aj Tryz.prog G 161 [.slc 1 l.length (dX l),ds sep] (ds (fJ l sep)):=by
 refine⟨Tryz.call161,fun w k us hG hw hvs=>?_⟩
 obtain ⟨v,us',rfl,hv,v2,zo,rfl,hv2,h0⟩:=hvs
 have h0:zo=[]:=h0
 have hv2:v2=.string sep:=hv2
 subst h0;subst hv2
 obtain ⟨p,cap,rfl,hc,hrest⟩:=hv
 have key:∀{e:Ending} {w':World},e=.returned (.string ⟨(Lib.join (l.map (·.data.toList)) sep.data.toList).toArray⟩)→Below w.heap.size w w'→
   ∃v h',e=.returned v∧DV.rel h' (ds (fJ l sep)) v∧k.le h'∧h'.holds w'∧Kept (fun _=>False) w w'∧∀b,b<w.heap.size→(∀o,h'.cell b o=k.cell b o)∧h'.obj b=k.obj b:=fun he hb=>
  ⟨_,k,he,rfl,IH.le.refl _,Fa hw hb,⟨hb.os,hb.tape,hb.output,hb.size,fun i hi _=>hb.block i hi⟩,fun _ _=>⟨fun _=>rfl,rfl⟩⟩
 rcases Nat.eq_zero_or_pos l.length with hz|hz
 ·have e:l=[]:=List.eq_nil_of_length_eq_zero hz
  subst e
  exact(Tryz.strings_Join_none p cap sep w).mono fun e w' ⟨he,hb⟩=>key he (hb▸Below.refl _ _)
 ·rcases hrest with h|⟨b,off,rfl,hel⟩
  ·omega
  have hcell:∀(j:Nat) x,l[j]?=some x→w.cell? ⟨b,off+j,none⟩=some (.string x):=by
   intro j x hx
   have hj:=(List.getElem?_eq_some_iff.1 hx).1
   obtain ⟨v,hr,hs,hc⟩:=hel j hj
   have e:dX l j=ds x:=by unfold dX;rw[List.getD,hx];rfl
   rw[e] at hr
   have hr:v=.string x:=hr
   subst hr
   have:=hc 0 (by decide)
   have h1:=hw.1 b (off+j*1+0) (.string x) this
   simpa using h1
  have hb:b<w.heap.size:=by
   have h1:=hcell 0 _ (bQ hz)
   simp only[World.cell?] at h1
   split at h1
   ·rename_i hh;exact lt_of_heap hh
   ·cases h1
  exact(Tryz.strings_Join b off cap l sep w hcell hb hN hc hlen).mono fun e w' ⟨he,hb⟩=>key he hb
/-! Operators. -/
def dV (l:List Int) (i:Nat):DV:=di (l.getD i 0)
def bU (v:Int):List Int:=if v=1 then [20] else if v=2 then [19] else if v=4 then [12,13,14,15,16,17] else if v=5 then [6,7] else if v=6 then [8,9] else []
def opsT (v:Int):List ByteArray:=(bU v).map gq
abbrev IZ (v:Int):DV:=.au [.slc 1 (opsT v).length (dX (opsT v)),.slc 1 (bU v).length (dV (bU v))]
theorem Aa {n m n' m':Nat} {f f' g g':Nat→DV} (h1:n=n') (h2:m=m') (hf:∀i,i<n→f i=f' i) (hg:∀i,i<m→g i=g' i) (k:IH) (v:Value) (hv:DV.rel k (.au [.slc 1 n f,.slc 1 m g]) v):DV.rel k (.au [.slc 1 n' f',.slc 1 m' g']) v:=by
 subst h1;subst h2
 obtain ⟨us,rfl,a,us1,rfl,ha,b,zo,rfl,hb,h0⟩:=hv
 exact⟨_,rfl,_,_,rfl,DV.dJ hf ha,_,_,rfl,DV.dJ hg hb,h0⟩
theorem f174 (v:Int):aj Tryz.prog G 174 [di v] (IZ v):=by
 have key:∀r:DV,(∀k x,DV.rel k r x→DV.rel k (IZ v) x)→((v=1→r=.au [.slc 1 1 (aN false 1 [ds ⟨#[111,114]⟩]),.slc 1 1 (aN false 1 [di 20])])∧(v=2→r=.au [.slc 1 1 (aN false 1 [ds ⟨#[97,110,100]⟩]),.slc 1 1 (aN false 1 [di 19])])∧
   (v=4→r=.au [.slc 1 6 (aN false 1 [ds ⟨#[61,61]⟩,ds ⟨#[33,61]⟩,ds ⟨#[60]⟩,ds ⟨#[60,61]⟩,ds ⟨#[62]⟩,ds ⟨#[62,61]⟩]),.slc 1 6 (aN false 1 [di 12,di 13,di 14,di 15,di 16,di 17])])∧
   (v=5→r=.au [.slc 1 2 (aN false 1 [ds ⟨#[43]⟩,ds ⟨#[45]⟩]),.slc 1 2 (aN false 1 [di 6,di 7])])∧(v=6→r=.au [.slc 1 2 (aN false 1 [ds ⟨#[42]⟩,ds ⟨#[47]⟩]),.slc 1 2 (aN false 1 [di 8,di 9])])∧
   (¬v=1→¬v=2→¬v=4→¬v=5→¬v=6→r=.au [.con (.slice none 0 0),.con (.slice none 0 0)]))→aj Tryz.prog G 174 [di v] (IZ v):=by
  intro r hr ⟨h1,h2,h4,h5,h6,h0⟩
  refine Jm (r:=r) (aj.walk (ay:=({ d:=fun _ _=>none }:iq)) (keep:=[]) follows Tryz.func174 rfl Tryz.call174 ?_) hr
  refine aA (fun _ _ _ _=>((((v==1)=true)→(((.au [(.slc 1 1 (aN false 1 [(ds (ByteArray.mk #[111,114]))])),(.slc 1 1 (aN false 1 [(di 20)]))]):DV)=r))∧(((v==1)=false)→((((v==2)=true)→(((.au [(.slc 1 1 (aN false 1 [(ds (ByteArray.mk #[97,110,100]))])),(.slc 1 1 (aN false 1 [(di 19)]))]):DV)=r))∧(((v==2)=false)→((((v==4)=true)→(((.au [(.slc 1 6 (aN false 1 [(ds (ByteArray.mk #[61,61])),(ds (ByteArray.mk #[33,61])),(ds (ByteArray.mk #[60])),(ds (ByteArray.mk #[60,61])),(ds (ByteArray.mk #[62])),(ds (ByteArray.mk #[62,61]))])),(.slc 1 6 (aN false 1 [(di 12),(di 13),(di 14),(di 15),(di 16),(di 17)]))]):DV)=r))∧(((v==4)=false)→((((v==5)=true)→(((.au [(.slc 1 2 (aN false 1 [(ds (ByteArray.mk #[43])),(ds (ByteArray.mk #[45]))])),(.slc 1 2 (aN false 1 [(di 6),(di 7)]))]):DV)=r))∧(((v==5)=false)→((((v==6)=true)→(((.au [(.slc 1 2 (aN false 1 [(ds (ByteArray.mk #[42])),(ds (ByteArray.mk #[47]))])),(.slc 1 2 (aN false 1 [(di 8),(di 9)]))]):DV)=r))∧(((v==6)=false)→(((.au [(.con (.slice none 0 0)),(.con (.slice none 0 0))]):DV)=r)))))))))))) (by kernel_rfl) ?_
  simp only[beq_iff_eq,beq_eq_false_iff_ne,ne_eq]
  refine⟨fun e=>(h1 e).symm,fun n1=>⟨fun e=>(h2 e).symm,fun n2=>⟨fun e=>(h4 e).symm,fun n4=>⟨fun e=>(h5 e).symm,fun n5=>⟨fun e=>(h6 e).symm,fun n6=>(h0 n1 n2 n4 n5 n6).symm⟩⟩⟩⟩⟩
 by_cases h1:v=1
 ·subst h1
  refine key _ (Aa rfl rfl ?_ ?_) ⟨fun _=>rfl,fun h=>(by omega),fun h=>(by omega),fun h=>(by omega),fun h=>(by omega),fun h=>(by omega)⟩
  ·intro i hi;have hi:i<1:=hi;rcases i with _|i<;>first|rfl|omega
  ·intro i hi;have hi:i<1:=hi;rcases i with _|i<;>first|rfl|omega
 by_cases h2:v=2
 ·subst h2
  refine key _ (Aa rfl rfl ?_ ?_) ⟨fun h=>(by omega),fun _=>rfl,fun h=>(by omega),fun h=>(by omega),fun h=>(by omega),fun h=>(by omega)⟩
  ·intro i hi;have hi:i<1:=hi;rcases i with _|i<;>first|rfl|omega
  ·intro i hi;have hi:i<1:=hi;rcases i with _|i<;>first|rfl|omega
 by_cases h4:v=4
 ·subst h4
  refine key _ (Aa rfl rfl ?_ ?_) ⟨fun h=>(by omega),fun h=>(by omega),fun _=>rfl,fun h=>(by omega),fun h=>(by omega),fun h=>(by omega)⟩
  ·intro i hi;have hi:i<6:=hi;rcases i with _|_|_|_|_|_|i<;>first|rfl|omega
  ·intro i hi;have hi:i<6:=hi;rcases i with _|_|_|_|_|_|i<;>first|rfl|omega
 by_cases h5:v=5
 ·subst h5
  refine key _ (Aa rfl rfl ?_ ?_) ⟨fun h=>(by omega),fun h=>(by omega),fun h=>(by omega),fun _=>rfl,fun h=>(by omega),fun h=>(by omega)⟩
  ·intro i hi;have hi:i<2:=hi;rcases i with _|_|i<;>first|rfl|omega
  ·intro i hi;have hi:i<2:=hi;rcases i with _|_|i<;>first|rfl|omega
 by_cases h6:v=6
 ·subst h6
  refine key _ (Aa rfl rfl ?_ ?_) ⟨fun h=>(by omega),fun h=>(by omega),fun h=>(by omega),fun h=>(by omega),fun _=>rfl,fun h=>(by omega)⟩
  ·intro i hi;have hi:i<2:=hi;rcases i with _|_|i<;>first|rfl|omega
  ·intro i hi;have hi:i<2:=hi;rcases i with _|_|i<;>first|rfl|omega
 have e:bU v=[]:=by unfold bU;rw[if_neg h1,if_neg h2,if_neg h4,if_neg h5,if_neg h6]
 refine key _ (fun k x hx=>?_) ⟨fun h=>absurd h h1,fun h=>absurd h h2,fun h=>absurd h h4,fun h=>absurd h h5,fun h=>absurd h h6,fun _ _ _ _ _=>rfl⟩
 unfold IZ opsT
 rw[e]
 obtain ⟨us,rfl,a,us1,rfl,ha,b,zo,rfl,hb,h0⟩:=hx
 exact⟨_,rfl,_,_,rfl,su ha,_,_,rfl,su hb,h0⟩
def aU (k:Int):Int:=if k=20 then 1 else if k=19 then 2 else if 12≤k∧k≤17 then 4 else if k=6∨k=7 then 5 else if k=8∨k=9 then 6 else if k=18 then 3 else if k=5 then 7 else if k=1∨k=2∨k=3∨k=4∨k=10∨k=11 then 8 else 0
theorem ZU {k v:Int} (hv:1≤v∧v≤6) (h:k∈bU v):aU k=v:=by
 have hc:v=1∨v=2∨v=3∨v=4∨v=5∨v=6:=by omega
 have q:(v=1∧k=20)∨(v=2∧k=19)∨(v=4∧12≤k∧k≤17)∨(v=5∧(k=6∨k=7))∨(v=6∧(k=8∨k=9)):=by
  rcases hc with rfl|rfl|rfl|rfl|rfl|rfl<;>simp[bU] at h<;>omega
 clear h
 unfold aU
 rcases q with ⟨rfl,h⟩|⟨rfl,h⟩|⟨rfl,h⟩|⟨rfl,h⟩|⟨rfl,h⟩
 ·rw[if_pos h]
 ·rw[if_neg (by omega),if_pos h]
 ·rw[if_neg (by omega),if_neg (by omega),if_pos h]
 ·rw[if_neg (by omega),if_neg (by omega),if_neg (by omega),if_pos h]
 ·rw[if_neg (by omega),if_neg (by omega),if_neg (by omega),if_neg (by omega),if_pos h]
theorem X0 {k:Int} (h:∀v:Int,1≤v→v≤6→k∉bU v):aU k=if k=18 then 3 else if k=5 then 7 else if k=1∨k=2∨k=3∨k=4∨k=10∨k=11 then 8 else 0:=by
 have h1:=h 1 (by omega) (by omega)
 have h2:=h 2 (by omega) (by omega)
 have h4:=h 4 (by omega) (by omega)
 have h5:=h 5 (by omega) (by omega)
 have h6:=h 6 (by omega) (by omega)
 simp only[bU,if_true,List.mem_cons,List.not_mem_nil,or_false,reduceCtorEq,Int.reduceEq,if_false,not_or] at h1 h2 h4 h5 h6
 unfold aU
 rw[if_neg h1,if_neg h2,if_neg (by omega),if_neg (by omega),if_neg (by omega)]
noncomputable def GN:aZ:=fun f a=>match f,a with
 | 174,[.con (.int .i64 v)]=>some (IZ v)
 | _,_=>none
noncomputable def adg (m:Nat) (x:Ex) (i:Nat):AS:=⟨regs Tryz.f171.ntmps [(1,.box 1 0),(3,vi i)],[(1,l7 m x)]⟩
noncomputable def acg (m:Nat) (x:Ex) (i j:Nat):AS:=⟨regs Tryz.f171.ntmps [(1,.box 1 0),(3,vi i),(5,.d (.slc 1 (bU i).length (dV (bU i)))),(6,vi j)],[(1,l7 m x)]⟩
theorem NI (v:Int):(bU v).length≤6:=by
 unfold bU
 split
 ·decide
 split
 ·decide
 split
 ·decide
 split
 ·decide
 split
 ·decide
 ·decide
theorem f171 (m:Nat) (x:Ex):aj Tryz.prog G 171 [bG m x] (di (aU x.k)):=by
 refine aj.walk (ay:=GN) (keep:=[]) follows Tryz.func171 rfl Tryz.call171 ?_
 refine aA (fun ZT ZW ZQ _=>ZW [cd Tryz.f171 [1,0,1,0],(.blk 0),cd Tryz.f171 [1,1]] (aI ZT []) ZQ) (by kernel_rfl) ?_
 refine aC.loop (c:=dR (aQ Tryz.f171) [1,0,1,0,0]) (by kernel_rfl) (adg m x) (fun i=>1≤i∧i≤7∧∀v:Int,1≤v→v<i→x.k∉bU v) (fun i=>7-i) 1 ?_ ⟨by omega,by omega,fun v h1 h2=>by omega⟩ ?_
 ·exact AS.dB (by kernel_rfl)
 ·rintro i ⟨h1,h2,hn⟩
  refine walk (ay:=GN) (keep:=[]) (cuts:=[]) (n:=1000) follows ?_
  refine bW (fun ZT ZW ZQ ZK _ ZR=>((((decide ((↑i:Int)≤6))=true)→(ZK 174 [(di (↑i))] (.au [(.slc 1 (opsT ↑i).length (dX (opsT ↑i))),(.slc 1 (bU ↑i).length (dV (bU ↑i)))])∧ZW [cd Tryz.f171 [1,0,1,0,0,1,0,0,1,1,0],(.blk 2),(.blk 1),cd Tryz.f171 [1,0,1,0,0,1,1]] (aI ZT [0]) ZR))∧(((decide ((↑i:Int)≤6))=false)→ZW [cd Tryz.f171 [1,1]] (aI ZT [1]) ZQ))) (by kernel_rfl) ?_
  refine⟨fun h=>⟨f174 _,?_⟩,fun h=>?_⟩
  ·have hi6:i≤6:=by have:=of_decide_eq_true h;omega
   have hl6:=NI (i:Int)
   refine aC.loop (c:=dR (aQ Tryz.f171) [1,0,1,0,0,1,0,0,1,1,0,0]) (by kernel_rfl) (acg m x i) (fun j=>j≤(bU i).length∧∀p,p<j→(bU i).getD p 0≠x.k) (fun j=>(bU i).length-j) 0 ?_ ⟨Nat.zero_le _,fun p hp=>absurd hp (Nat.not_lt_zero _)⟩ ?_
   ·exact AS.dB (by kernel_rfl)
   ·rintro j ⟨hj,hjn⟩
    refine walk (ay:=GN) (keep:=[]) (cuts:=[]) (n:=1000) follows ?_
    refine bW (fun ZT ZW ZQ _ ZA _=>((((decide ((↑j:Int)<↑(bU ↑i).length))=true)→(((0≤(↑j:Int))∧((↑j:Int)<↑(bU ↑i).length))∧((((bU ↑i).getD (↑j:Int).toNat 0==x.k)=true)→(((di (↑i)):DV)=(di (aU x.k))))∧((((bU ↑i).getD (↑j:Int).toNat 0==x.k)=false)→((I64 (↑j+1))∧(ZA (aI ZT [0,1]))))))∧(((decide ((↑j:Int)<↑(bU ↑i).length))=false)→ZW [(.blk 1),cd Tryz.f171 [1,0,1,0,0,1,1]] (aI ZT [1]) ZQ))) (by kernel_rfl) ?_
    simp only[Int.toNat_natCast]
    refine⟨fun h1=>?_,fun h1=>?_⟩
    ·have hj2:j<(bU i).length:=by have:=of_decide_eq_true h1;omega
     refine⟨⟨by omega,by omega⟩,fun h3=>?_,fun h3=>⟨⟨by omega,by omega⟩,Again.mk (j+1) ?_ ⟨hj2,fun p hp=>?_⟩ (by omega)⟩⟩
     ·have h3:(bU i).getD j 0=x.k:=by simpa using h3
      rw[ZU (v:=i) (by omega) (by
       rw[←h3,List.getD,bQ hj2]
       exact List.getElem_mem hj2)]
     ·exact AS.dB (by kernel_rfl)
     ·rcases Nat.lt_or_ge p j with h4|h4
      ·exact hjn p h4
      ·obtain rfl:p=j:=by omega
       simpa using h3
    ·simp only[decide_eq_false_iff_not] at h1
     have hj2:j=(bU i).length:=by omega
     refine walk (ay:=GN) (keep:=[]) (cuts:=[]) (n:=1000) follows ?_
     refine bW (fun ZT _ _ _ ZA _=>((I64 (↑i+1))∧(ZA (aI ZT [])))) (by kernel_rfl) ?_
     refine⟨⟨by omega,by omega⟩,Again.mk (i+1) ?_ ⟨by omega,by omega,fun v v1 v2 hm=>?_⟩ (by omega)⟩
     ·exact AS.dB (by kernel_rfl)
     ·by_cases hv:v=i
      ·subst hv
       obtain ⟨p,hp,hpe⟩:=List.getElem_of_mem hm
       refine hjn p (by omega) ?_
       rw[List.getD,bQ hp];exact hpe
      ·exact hn v v1 (by omega) hm
  ·simp only[decide_eq_false_iff_not] at h
   refine walk (ay:=GN) (keep:=[]) (cuts:=[]) (n:=1000) follows ?_
   refine aA (fun _ _ _ _=>((((x.k==18)=true)→(((di 3):DV)=(di (aU x.k))))∧(((x.k==18)=false)→((((x.k==5)=true)→(((di 7):DV)=(di (aU x.k))))∧(((x.k==5)=false)→((((x.k==1)=true)→((((x.k==1)=true)→(((di 8):DV)=(di (aU x.k))))∧(((x.k==1)=false)→(((di 0):DV)=(di (aU x.k))))))∧(((x.k==1)=false)→((((x.k==2)=true)→((((x.k==2)=true)→(((di 8):DV)=(di (aU x.k))))∧(((x.k==2)=false)→(((di 0):DV)=(di (aU x.k))))))∧(((x.k==2)=false)→((((x.k==3)=true)→((((x.k==3)=true)→(((di 8):DV)=(di (aU x.k))))∧(((x.k==3)=false)→(((di 0):DV)=(di (aU x.k))))))∧(((x.k==3)=false)→((((x.k==4)=true)→((((x.k==4)=true)→(((di 8):DV)=(di (aU x.k))))∧(((x.k==4)=false)→(((di 0):DV)=(di (aU x.k))))))∧(((x.k==4)=false)→((((x.k==10)=true)→((((x.k==10)=true)→(((di 8):DV)=(di (aU x.k))))∧(((x.k==10)=false)→(((di 0):DV)=(di (aU x.k))))))∧(((x.k==10)=false)→((((x.k==11)=true)→(((di 8):DV)=(di (aU x.k))))∧(((x.k==11)=false)→(((di 0):DV)=(di (aU x.k)))))))))))))))))))) (by kernel_rfl) ?_
   rw[X0 (fun v v1 v2=>hn v v1 (by omega))]
   repeat' (first|(with_reducible refine And.intro ?_ ?_)|(with_reducible intro _))
   all_goals (try simp only[beq_iff_eq,beq_eq_false_iff_ne,ne_eq] at *)
   all_goals first
    | contradiction
    | (refine congrArg di ?_;simp[*];done)
theorem jI {k:IH} {sz n:Nat} {f g:Nat→DV} (hfg:∀i,i<n→∀v,DV.rel k (f i) v→DV.rel k (g i) v) {v:Value} (hr:DV.rel k (.slc sz n f) v):DV.rel k (.slc sz n g) v:=by
 obtain ⟨p,cap,e,hc,r⟩:=hr
 exact⟨p,cap,e,hc,r.imp id fun ⟨b,off,hp,r⟩=>⟨b,off,hp,fun i hi=>let ⟨v,hv,hs,hj⟩:=r i hi;⟨v,hfg i hi v hv,hs,hj⟩⟩⟩
def qJ:List (List ByteArray):=[[⟨#[111,114]⟩],[⟨#[97,110,100]⟩],[],[⟨#[61,61]⟩,⟨#[33,61]⟩,⟨#[60]⟩,⟨#[60,61]⟩,⟨#[62]⟩,⟨#[62,61]⟩],[⟨#[43]⟩,⟨#[45]⟩],[⟨#[42]⟩,⟨#[47]⟩]]
def lvF (i:Nat):DV:=.slc 1 (qJ.getD i []).length (dX (qJ.getD i []))
abbrev Xn:DV:=.slc 1 6 lvF
def st1 (l:List ByteArray):DV:=.slc 1 l.length (aN false 1 (l.map fun s=>ds s))
theorem zF {l:List ByteArray} {k:IH} {v:Value} (h:DV.rel k (st1 l) v):DV.rel k (.slc 1 l.length (dX l)) v:=by
 refine DV.dJ (fun i hi=>?_) h
 unfold aN dX
 simp[List.getD,bQ hi]
def lvR (i:Nat):DV:=aN false 1 [st1 [⟨#[111,114]⟩],st1 [⟨#[97,110,100]⟩],.con (.slice none 0 0),st1 [⟨#[61,61]⟩,⟨#[33,61]⟩,⟨#[60]⟩,⟨#[60,61]⟩,⟨#[62]⟩,⟨#[62,61]⟩],st1 [⟨#[43]⟩,⟨#[45]⟩],st1 [⟨#[42]⟩,⟨#[47]⟩]] i
theorem f194:aj Tryz.prog G 194 [] Xn:=by
 refine Jm (r:=.slc 1 6 lvR) (aj.walk (ay:=({ d:=fun _ _=>none }:iq)) (keep:=[]) follows Tryz.func194 rfl Tryz.call194 ?_) fun k v hv=>?_
 ·refine aA (fun _ _ _ _=>(((.slc 1 6 (aN false 1 [(.slc 1 1 (aN false 1 [(ds (ByteArray.mk #[111,114]))])),(.slc 1 1 (aN false 1 [(ds (ByteArray.mk #[97,110,100]))])),(.con (.slice none 0 0)),(.slc 1 6 (aN false 1 [(ds (ByteArray.mk #[61,61])),(ds (ByteArray.mk #[33,61])),(ds (ByteArray.mk #[60])),(ds (ByteArray.mk #[60,61])),(ds (ByteArray.mk #[62])),(ds (ByteArray.mk #[62,61]))])),(.slc 1 2 (aN false 1 [(ds (ByteArray.mk #[43])),(ds (ByteArray.mk #[45]))])),(.slc 1 2 (aN false 1 [(ds (ByteArray.mk #[42])),(ds (ByteArray.mk #[47]))]))])):DV)=(.slc 1 6 lvR))) (by kernel_rfl) ?_
  rfl
 ·refine jI (fun i hi v hv=>?_) hv
  rcases i with _|_|_|_|_|_|i
  ·exact zF hv
  ·exact zF hv
  ·exact su hv
  ·exact zF hv
  ·exact zF hv
  ·exact zF hv
  ·omega
abbrev bn:AV:=.box 1000000 0
def qQ (s:ByteArray) (l:List ByteArray):Bool:=cu l s
def yu (s:ByteArray):Int:=if qJ.any (qQ s) then ((qJ.takeWhile fun l=>!qQ s l).length:Int) else -1
def abo (r:Bool):aZ:=fun f a=>match f,a with
 | 99,[_,_]=>some (db r)
 | _,_=>none
def abh:aZ:=fun f a=>match f,a with
 | 159,[]=>some Sj
 | 194,[]=>some Xn
 | _,_=>none
theorem f195 (l:List ByteArray) (s:ByteArray) (hl:l.length≤1000000):cZ Tryz.prog G 195 [.d (.slc 1 l.length (dX l)),bn] [(1000000,[vs s])] (.d (db (qQ s l))) [(1000000,[vs s])]:=by
 refine cZ.walk (ay:=abo (cu l s)) (keep:=[]) [] follows (by kernel_rfl) Tryz.func195 rfl Tryz.call195 ?_
 refine aA (fun _ _ _ ZK=>(ZK 99 [(.slc 1 l.length (dX l)),(ds s)] (db (cu l s))∧((vb (cu l s)):AV)=(vb (qQ s l))∧((some [(vs s)]):(Option (List AV)))=(some [(vs s)])∧True)) (by kernel_rfl) ?_
 exact⟨f99 l s hl,rfl,rfl,trivial⟩
noncomputable def mL (s:ByteArray) (i:Nat) (f:FuncId) (a:List AV) (pre:List (Nat×List AV)):Option (AV×List (Nat×List AV)):=match f with
 | 195=>some (.d (db (qQ s (qJ.getD i []))),pre)
 | 193=>some (.d (di (yu s)),pre)
 | _=>none
noncomputable def QG (s:ByteArray) (i:Nat):iq:={ d:=abh,m:=mL s i }
noncomputable def aee (s:ByteArray) (k:Nat):AS:=⟨regs Tryz.f193.ntmps [(0,.d Xn),(1,.clo (.func 195) [] [bn]),(7,vi (6:Nat)),(8,vi k)],[(1000000,[vs s])]⟩
theorem aae {s:ByteArray} {k:Nat} (hk:k<6) (hno:∀i,i<k→qQ s (qJ.getD i [])=false) (h:qQ s (qJ.getD k [])=true):yu s=k:=by
 have h1:qJ.any (qQ s)=true:=List.any_eq_true.2 ⟨qJ.getD k [],by rw[List.getD,bQ (show k<qJ.length from hk)];exact List.getElem_mem _,h⟩
 unfold yu
 rw[if_pos h1]
 have:∀(l:List (List ByteArray)) (k:Nat) (hk:k<l.length),(∀i,i<k→qQ s (l.getD i [])=false)→qQ s (l.getD k [])=true→(l.takeWhile fun x=>!qQ s x).length=k:=by
  intro l
  induction l with
  | nil=>intro k hk;simp at hk
  | cons x l ih=>
   intro k hk h2 h3
   cases k with
   | zero=>
    have h3:qQ s x=true:=h3
    rw[List.takeWhile_cons,h3];simp
   | succ k=>
    have h4:qQ s x=false:=h2 0 (by omega)
    rw[List.takeWhile_cons]
    simp only[h4,Bool.not_false,if_true,List.length_cons]
    rw[ih k (by simpa using hk) (fun i h5=>h2 (i+1) (by omega)) h3]
 rw[this qJ k hk hno h]
theorem XU {s:ByteArray} (hno:∀i,i<6→qQ s (qJ.getD i [])=false):yu s = -1:=by
 have h1:qJ.any (qQ s)=false:=by
  rw[Bool.eq_false_iff]
  intro h
  obtain ⟨x,hx,hd⟩:=List.any_eq_true.1 h
  obtain ⟨i,hi,rfl⟩:=List.getElem_of_mem hx
  have:=hno i hi
  rw[List.getD,bQ hi] at this
  rw[show qQ s qJ[i]=false from this] at hd
  cases hd
 unfold yu
 rw[h1];rfl
theorem f193 (s:ByteArray):cZ Tryz.prog G 193 [.d Xn,.clo (.func 195) [] [bn]] [(1000000,[vs s])] (.d (di (yu s))) [(1000000,[vs s])]:=by
 refine cZ.walk (ay:=QG s 0) (keep:=[]) [] follows (by kernel_rfl) Tryz.func193 rfl Tryz.call193 ?_
 refine aA (fun ZT ZW ZQ _=>ZW [cd Tryz.f193 [1,0,1,0],(.blk 0),cd Tryz.f193 [1,1]] (aI ZT []) ZQ) (by kernel_rfl) ?_
 refine aC.loop (c:=dR (aQ Tryz.f193) [1,0,1,0,0]) (by kernel_rfl) (aee s) (fun k=>k≤6∧∀i,i<k→qQ s (qJ.getD i [])=false) (fun k=>6-k) 0 ?_ ⟨Nat.zero_le _,fun i hi=>by omega⟩ ?_
 ·exact AS.dB (by kernel_rfl)
 ·rintro k ⟨hk,hkd⟩
  refine walk (ay:=QG s k) (keep:=[]) (cuts:=[]) (n:=1000) follows ?_
  refine bW (fun ZT ZW ZQ _ ZA _=>((((decide ((↑k:Int)<6))=true)→((((0≤(↑k:Int))∧((↑k:Int)<↑6))∧cZ Tryz.prog G 195 [(.d (.slc 1 (qJ.getD (↑k:Int).toNat []).length (dX (qJ.getD (↑k:Int).toNat [])))),(.box 1000000 0)] [(1000000,[(vs s)])] (vb (qQ s (qJ.getD k []))) [(1000000,[(vs s)])])∧(((qQ s (qJ.getD k []))=true)→(((vi (↑k)):AV)=(vi (yu s))∧((some [(vs s)]):(Option (List AV)))=(some [(vs s)])∧True))∧(((qQ s (qJ.getD k []))=false)→((I64 (↑k+1))∧(ZA (aI ZT [0,1]))))))∧(((decide ((↑k:Int)<6))=false)→ZW [cd Tryz.f193 [1,1]] (aI ZT [1]) ZQ))) (by kernel_rfl) ?_
  simp only[Int.toNat_natCast]
  refine⟨fun h=>?_,fun h=>?_⟩
  ·have hk2:k<6:=by have:=of_decide_eq_true h;omega
   have hl:(qJ.getD k []).length≤1000000:=by
    rcases k with _|_|_|_|_|_|k<;>first|decide|omega
   refine⟨⟨⟨by omega,by omega⟩,f195 _ s hl⟩,fun h2=>?_,fun h2=>⟨⟨by omega,by omega⟩,Again.mk (k+1) ?_ ⟨hk2,fun i hi=>?_⟩ (by omega)⟩⟩
   ·rw[aae hk2 hkd h2]
    first|exact⟨rfl,rfl,trivial⟩|exact⟨rfl,trivial⟩|simp
   ·exact AS.dB (by kernel_rfl)
   ·rcases Nat.lt_or_ge i k with h1|h1
    ·exact hkd i h1
    ·obtain rfl:i=k:=by omega
     exact h2
  ·simp only[decide_eq_false_iff_not] at h
   refine walk (ay:=QG s k) (keep:=[]) (cuts:=[]) (n:=1000) follows ?_
   refine aA (fun _ _ _ _=>(((vi (-1)):AV)=(vi (yu s))∧((some [(vs s)]):(Option (List AV)))=(some [(vs s)])∧True)) (by kernel_rfl) ?_
   rw[XU (fun i hi=>hkd i (by omega))]
   first|exact⟨rfl,rfl,trivial⟩|exact⟨rfl,trivial⟩|simp
def dh (k:Int):Int:=if k=18 then 2 else if k=5 then 6 else if gU k then yu (gq k) else 7
theorem f162 (m:Nat) (x:Ex):aj Tryz.prog G 162 [bG m x] (di (dh x.k)):=by
 refine aj.walk (ay:=QG (gq x.k) 0) (keep:=[]) follows Tryz.func162 rfl Tryz.call162 ?_
 refine aA (fun _ _ _ ZK=>(fun Za=>((((x.k==18)=true)→(((di 2):DV)=(di (dh x.k))))∧(((x.k==18)=false)→((((x.k==5)=true)→(((di 6):DV)=(di (dh x.k))))∧(((x.k==5)=false)→((ZK 159 [] (.mp (some .i64) (fun v=>DV.con (Value.string (gq (iV v)))) (fun v=>gU (iV v)))∧(((gU Za)=false)→((ds (ByteArray.mk #[])).imp (DV.con (Value.string (gq Za))))))∧(((gU Za)=true)→((ZK 194 [] (.slc 1 6 lvF)∧cZ Tryz.prog G 193 [(.d (.slc 1 6 lvF)),(.clo (.func 195) [] [(.box 1000000 0)])] [(1000000,[(vs (gq Za))])] (vi (yu (gq x.k))) [(1000000,[(vs (gq Za))])])∧((di (yu (gq x.k))):DV)=(di (dh x.k))))∧(((gU Za)=false)→(((di 7):DV)=(di (dh x.k)))))))))) (iV (Value.int IntKind.i64 x.k))) (by kernel_rfl) ?_
 unfold dh
 repeat' (first|(with_reducible refine And.intro ?_ ?_)|(with_reducible intro _))
 all_goals (try simp only[beq_iff_eq,beq_eq_false_iff_ne,ne_eq] at *)
 all_goals first
  | exact f159
  | exact f194
  | exact f193 _
  | contradiction
  | exact imp_eq (congrArg ds (Nw (by assumption)))
  | (refine congrArg di ?_;simp[*];done)
  | (refine congrArg di ?_;rw[if_neg (by assumption),if_neg (by assumption),if_pos (by assumption)])
  | (refine congrArg di ?_;rw[if_neg (by assumption),if_neg (by assumption),if_neg (by rw[show gU x.k=false by assumption];decide)])
set_option maxHeartbeats 4000000
/-! The text of an expression. -/
def dK (least:Int) (p:Int×ByteArray):ByteArray:=if p.1<least then (⟨#[40]⟩:ByteArray)++p.2++(⟨#[41]⟩:ByteArray) else p.2
def g0 (l:List (Int×ByteArray)) (i:Nat):Int×ByteArray:=l.getD i (0,.empty)
def Iz (k:Int):Int:=if dh k=3 then dh k+1 else dh k
def iM:ByteArray:=⟨#[44,32]⟩
def zn (k:Int) (s:ByteArray) (n d:Int) (fl:List (Int×ByteArray)):ByteArray:=
 if k=1 then mY n d else if k=2 then s else if k=3 then ⟨#[116,114,117,101]⟩ else if k=4 then ⟨#[102,97,108,115,101]⟩
 else if k=5 then (⟨#[45]⟩:ByteArray)++dK 6 (g0 fl 0) else if k=18 then (⟨#[110,111,116,32]⟩:ByteArray)++dK 2 (g0 fl 0)
 else if k=10 then (⟨#[109,105,110,40]⟩:ByteArray)++fJ (fl.map (·.2)) iM++(⟨#[41]⟩:ByteArray)
 else if k=11 then (⟨#[109,97,120,40]⟩:ByteArray)++fJ (fl.map (·.2)) iM++(⟨#[41]⟩:ByteArray)
 else dK (Iz k) (g0 fl 0)++(⟨#[32]⟩:ByteArray)++gq k++(⟨#[32]⟩:ByteArray)++dK (dh k+1) (g0 fl 1)
mutual
def aO:Ex→ByteArray
 | .mk k s n d _ l=>zn k s n d (gW l)
def gW:List Ex→List (Int×ByteArray)
 | []=>[]
 | x :: l=>(dh x.k,aO x) :: gW l
end
theorem GK (x:Ex):aO x=zn x.k x.s x.n x.d (gW x.kids):=by cases x;simp only[aO,Ex.k,Ex.s,Ex.n,Ex.d,Ex.kids]
theorem Gx:∀l:List Ex,gW l=l.map fun y=>(dh y.k,aO y)
 | []=>rfl
 | x :: l=>by simp only[gW,List.map_cons,Gx l]
theorem qR {l:List Ex} {i:Nat} (hi:i<l.length):g0 (gW l) i=(dh (l.getD i ak).k,aO (l.getD i ak)):=by
 unfold g0
 rw[Gx,List.getD,List.getD,List.getElem?_map,bQ hi];rfl
def ni:List (Int×ByteArray)→Nat
 | []=>0
 | p :: l=>p.2.size+4+ni l
theorem jZ (v:Int) (p:Int×ByteArray):(dK v p).size≤p.2.size+2:=by
 unfold dK
 split
 ·rw[ByteArray.size_append,ByteArray.size_append]
  show 1+p.2.size+1≤_
  omega
 ·omega
theorem BU:∀(l:List (Int×ByteArray)),(g0 l 0).2.size+(g0 l 1).2.size≤ni l
 | []=>Nat.zero_le _
 | [p]=>by show p.2.size+0≤_;simp only[ni];omega
 | p :: q :: l=>by show p.2.size+q.2.size≤_;simp only[ni];omega
theorem Ub (l:List (Int×ByteArray)):(g0 l 0).2.size≤ni l:=by have:=BU l;omega
theorem Ob:∀(l:List ByteArray),(Lib.join (l.map (·.data.toList)) iM.data.toList).length≤(l.map fun s=>s.size+2).sum
 | []=>by simp[Lib.join_nil]
 | [s]=>by
  simp only[List.map_cons,List.map_nil,Lib.join_one,List.sum_cons,List.sum_nil]
  rw[Di];omega
 | s :: t :: l=>by
  have ih:=Ob (t :: l)
  have e:Lib.join ((s :: t :: l).map (·.data.toList)) iM.data.toList=s.data.toList++(iM.data.toList++Lib.join ((t :: l).map (·.data.toList)) iM.data.toList):=by
   simp[Lib.join,List.intercalate,List.intersperse]
  rw[e,List.length_append,List.length_append,Di]
  have:iM.data.toList.length=2:=rfl
  simp only[List.map_cons,List.sum_cons] at ih⊢
  omega
theorem zk (l:List (Int×ByteArray)):(fJ (l.map (·.2)) iM).size≤ni l:=by
 have h:=Ob (l.map (·.2))
 have e:∀l:List (Int×ByteArray),((l.map (·.2)).map fun s=>s.size+2).sum≤ni l:=by
  intro l
  induction l with
  | nil=>simp[ni]
  | cons p l ih=>simp only[List.map_cons,List.sum_cons,ni];omega
 have:=e l
 unfold fJ
 show (Array.mk _).size≤_
 simp only[List.size_toArray] at *
 omega
theorem EI (k:Int):(gq k).size≤3:=by
 have h:∀(c:Bool) (a b:ByteArray),a.size≤3→b.size≤3→(bif c then a else b).size≤3:=fun c a b h1 h2=>by cases c<;>assumption
 unfold gq
 repeat (refine h _ _ _ (by decide) ?_)
 decide
theorem Ul (k:Int) (s:ByteArray) (n d:Int) (fl:List (Int×ByteArray)) (hs:s.size≤1000):(zn k s n d fl).size≤1010+ni fl:=by
 have h1:=Vy n d
 have t1:=BU fl
 have t0:=Ub fl
 have j:=zk fl
 have o:=EI k
 have w1:=jZ 6 (g0 fl 0)
 have w2:=jZ 2 (g0 fl 0)
 have w3:=jZ (Iz k) (g0 fl 0)
 have w4:=jZ (dh k+1) (g0 fl 1)
 unfold zn
 repeat' split
 all_goals (try simp only[ByteArray.size_append])
 ·omega
 ·omega
 ·show 4≤_;omega
 ·show 5≤_;omega
 ·show 1+_≤_;omega
 ·show 4+_≤_;omega
 ·show 4+_+1≤_;omega
 ·show 4+_+1≤_;omega
 ·show _+1+_+1+_≤_;omega
mutual
theorem JW:∀x:Ex,xU x→(aO x).size+4≤1100*jV x
 | .mk k s n d a l,h=>by
  simp only[xU] at h
  have h1:=Ul k s n d (gW l) h.1
  have h2:=BX l h.2
  simp only[aO,jV];omega
theorem BX:∀l:List Ex,zC l→ni (gW l)≤1100*iK l
 | [],_=>by simp[gW,ni]
 | x :: l,h=>by
  simp only[zC] at h
  have h1:=JW x h.1
  have h2:=BX l h.2
  simp only[gW,ni,iK];omega
end
theorem Sm.size {x:Ex} (h:Sm x):(aO x).size≤1100000:=by
 have:=JW x h.tx
 have:=h.nd
 omega
noncomputable def zA (j:ByteArray):aZ:=fun f a=>match f,a with
 | 156,[fr n d]=>some (.au [ds (mY n d),db (ru n d)])
 | 160,[e,.con (.int .i64 v)]=>some (ds (dK v (dh (ah e).k,aO (ah e))))
 | 123,[e]=>some (ds (aO (ah e)))
 | 162,[e]=>some (di (dh (ah e).k))
 | 159,[]=>some Sj
 | 161,[_,_]=>some (ds j)
 | _,_=>none
theorem YQ {m:Nat} {y:Ex} (hy:ht y≤m) (hsz:(aO y).size≤10000000) (h:aj Tryz.prog G 123 [bG m y] (ds (aO y))) (v:Int):aj Tryz.prog G 160 [bG m y,di v] (ds (dK v (dh y.k,aO y))):=by
 have e:ah (exV y.k y.s y.n y.d y.pos y.kids.length (lay (bJ m) y.kids))=y:=fU hy
 refine aj.walk (ay:=zA .empty) (keep:=[]) follows Tryz.func160 rfl Tryz.call160 ?_
 refine aA (fun _ _ _ ZK=>(ZK 162 [(aB m y)] (di (dh (ah (aB m y)).k))∧(((decide (dh (ah (aB m y)).k<v))=true)→((ZK 123 [(aB m y)] (ds (aO (ah (aB m y))))∧((ByteArray.mk #[40]).size+(aO (ah (aB m y))).size≤9223372036854775807)∧((ByteArray.mk #[40]++aO (ah (aB m y))).size+(ByteArray.mk #[41]).size≤9223372036854775807))∧((ds (ByteArray.mk #[40]++aO (ah (aB m y))++ByteArray.mk #[41])):DV)=(ds (dK v (dh y.k,aO y)))))∧(((decide (dh (ah (aB m y)).k<v))=false)→(ZK 123 [(aB m y)] (ds (aO (ah (aB m y))))∧((ds (aO (ah (aB m y)))):DV)=(ds (dK v (dh y.k,aO y))))))) (by kernel_rfl) ?_
 simp only[e]
 unfold dK
 refine⟨f162 m y,fun h1=>⟨⟨h,?_,?_⟩,?_⟩,fun h1=>⟨h,?_⟩⟩
 ·show 1+_≤_;omega
 ·rw[ByteArray.size_append];show 1+_+1≤_;omega
 ·rw[if_pos (of_decide_eq_true h1)]
 ·rw[if_neg (of_decide_eq_false h1)]
abbrev Kt:RK:=⟨false,9,false,none⟩
def um (f0:Nat→DV) (agg:Bool) (sz:Nat) (g:Nat→List DV):Nat→Nat→DV
 | 0=>f0
 | k+1=>fun i=>bif Nat.blt i k then um f0 agg sz g k i else aN agg sz (g k) (i-k)
theorem nD {f0:Nat→DV} {agg:Bool} {sz:Nat} {g:Nat→List DV}:∀{k i:Nat},i<k→um f0 agg sz g k i=aN agg sz (g i) 0
 | k+1,i,h=>by
  show (bif Nat.blt i k then um f0 agg sz g k i else aN agg sz (g k) (i-k))=_
  cases hb:Nat.blt i k with
  | true=>rw[Nat.blt_eq] at hb;exact nD hb
  | false=>
   have hb:¬i<k:=by rw[←Nat.blt_eq,hb];decide
   obtain rfl:i=k:=by omega
   rw[Nat.sub_self];rfl
def vW (x:Ex):Nat→Nat→DV:=um (fun _=>DV.con undef) false 1 fun j=>[ds (aO (x.kids.getD j ak))]
noncomputable def S74 (m:Nat) (x:Ex) (k:Nat):AS:=⟨regs Tryz.f123.ntmps [(1,.box 1 0),(5,.vec 900 1 0 k),(49,.d (.slc 6 x.kids.length (lay (bJ m) x.kids))),(50,vi x.kids.length),(51,vi k)],[(1,l7 m x),(900,[.arr Kt 1 (vW x k)])]⟩
theorem kG {x:Ex} (h:aV x=true) (hk:x.k=5∨x.k=18):x.kids.length=1:=by
 rw[og] at h
 unfold qO at h
 rw[if_neg (by omega),if_neg (by omega),if_neg (by omega),if_pos hk] at h
 unfold zJ at h
 simp only[aT,decide_eq_true_eq] at h
 omega
theorem kH {x:Ex} (h:aV x=true) (hk:¬x.k=1∧¬x.k=2∧¬x.k=3∧¬x.k=4∧¬x.k=5∧¬x.k=18∧¬x.k=10∧¬x.k=11):x.kids.length=2∧gU x.k=true:=by
 obtain ⟨h1,h2,h3,h4,h5,h6,h7,h8⟩:=hk
 rw[og] at h
 unfold qO at h
 rw[if_neg h1,if_neg h2,if_neg (by omega),if_neg (by omega),if_neg (by omega)] at h
 unfold zJ at h
 simp only[aT,decide_eq_true_eq] at h
 exact⟨by omega,h.1⟩
theorem Gf:∀{l:List Ex} {i:Nat},qH l=true→i<l.length→aV (l.getD i ak)=true
 | x :: l,i,h,hi=>by
  simp only[qH,aT] at h
  cases i with
  | zero=>exact h.1
  | succ i=>exact Gf (i:=i) h.2 (by simpa using hi)
theorem dO {x:Ex} (h:aV x=true) {i:Nat} (hi:i<x.kids.length):aV (x.kids.getD i ak)=true:=by
 refine Gf ?_ hi
 rw[og] at h
 unfold qO zJ at h
 revert h
 repeat' split
 ·intro h;simp only[aT,decide_eq_true_eq] at h;omega
 ·intro h;simp only[aT,decide_eq_true_eq] at h;omega
 all_goals (intro h;simp only[aT] at h)
 ·exact h.2
 ·exact h.2
 ·exact h.2
 ·exact h.2.2
theorem Ot {x:Ex} (k:Nat) {d:DV} (h:d=ds (aO (x.kids.getD k ak))):(fun i=>bif Nat.blt i k then vW x k i else aN false 1 [d] (i-k))=vW x (k+1):=by
 subst h;rfl
theorem Sm.tot {x:Ex} (h:Sm x):ni (gW x.kids)≤1100000:=by
 have h1:=h.nd
 have h2:=h.tx
 cases x
 simp only[xU] at h2
 have:=BX _ h2.2
 simp only[Ex.kids,jV] at *
 omega
theorem Bf (l:List Ex):(gW l).map (·.2)=l.map aO:=by
 rw[Gx,List.map_map];rfl
theorem Yx (x:Ex) (hl:x.kids.length≤1000) (hs:(fJ ((gW x.kids).map (·.2)) iM).size≤10000000):aj Tryz.prog G 161 [.slc 1 x.kids.length fun i=>vW x x.kids.length (0+i),ds iM] (ds (fJ ((gW x.kids).map (·.2)) iM)):=by
 have hlen:((gW x.kids).map (·.2)).length=x.kids.length:=by rw[Bf,List.length_map]
 refine(f161 ((gW x.kids).map (·.2)) iM (by omega) ?_).args fun k us h=>?_
 ·unfold fJ at hs
  have hs:(Array.mk _).size≤_:=hs
  simp only[List.size_toArray] at hs
  omega
 ·obtain ⟨v,us',rfl,hv,hr⟩:=h
  refine⟨v,us',rfl,?_,hr⟩
  rw[hlen]
  refine DV.dJ (fun i hi=>?_) hv
  rw[Nat.zero_add]
  unfold vW dX
  rw[nD hi,Bf]
  show ds (aO (x.kids.getD i ak))=ds ((x.kids.map aO).getD i .empty)
  rw[List.getD,bQ hi,List.getD,List.getElem?_map,bQ hi]
  rfl
theorem aan (s:ByteArray):-1≤yu s∧yu s≤6:=by
 unfold yu
 have:(qJ.takeWhile fun l=>!qQ s l).length≤6:=(List.takeWhile_sublist _).length_le
 split<;>omega
theorem Vp (k:Int):-1≤dh k∧dh k≤8:=by
 have:=aan (gq k)
 unfold dh
 repeat' split
 all_goals omega
theorem f123 (hT:Tab G) (m:Nat):∀(x:Ex),ht x≤m→Sm x→aV x=true→aj Tryz.prog G 123 [bG m x] (ds (aO x)):=by
 induction m using Nat.strongRecOn with
 | _ m ih=>
 intro x hx hs hsn
 have hl:=hs.len.1
 have e:ah (exV x.k x.s x.n x.d x.pos x.kids.length (lay (bJ m) x.kids))=x:=fU hx
 have h74:∀i,i<x.kids.length→aj Tryz.prog G 123 [aS m x i] (ds (aO (x.kids.getD i ak))):=fun i hi=>
  jD (Q:=fun d=>aj Tryz.prog G 123 [d] _) hx hi fun m' h1 h2=>ih m' h1 _ h2 (hs.kid hi) (dO hsn hi)
 have h122:∀i,i<x.kids.length→∀v,aj Tryz.prog G 160 [aS m x i,di v] (ds (dK v (g0 (gW x.kids) i))):=fun i hi v=>by
  rw[qR hi]
  exact jD (Q:=fun d=>aj Tryz.prog G 160 [d,di v] _) hx hi fun m' h1 h2=>YQ h2 (by have:=(hs.kid hi).size;omega) (ih m' h1 _ h2 (hs.kid hi) (dO hsn hi)) v
 refine aj.walk (ay:=zA (fJ ((gW x.kids).map (·.2)) iM)) (keep:=[]) follows Tryz.func123 rfl Tryz.call123 ?_
 refine aA (fun ZT ZW ZQ ZK=>(fun Za Zb Zc Zd Ze Zf Zg Zh=>((((x.k==1)=true)→(ZK 156 [(.agg [(di x.n),(di x.d)])] (.au [(ds (mY x.n x.d)),(db (ru x.n x.d))])∧((ds (mY x.n x.d)):DV)=(ds (aO x))))∧(((x.k==1)=false)→((((x.k==2)=true)→(((ds x.s):DV)=(ds (aO x))))∧(((x.k==2)=false)→((((x.k==3)=true)→(((ds (ByteArray.mk #[116,114,117,101])):DV)=(ds (aO x))))∧(((x.k==3)=false)→((((x.k==4)=true)→(((ds (ByteArray.mk #[102,97,108,115,101])):DV)=(ds (aO x))))∧(((x.k==4)=false)→((((x.k==5)=true)→(((((0:Int)≤(0:Int))∧(0<(↑x.kids.length:Int)))∧ZK 160 [Zd,(di 6)] (ds (dK 6 Za))∧((ByteArray.mk #[45]).size+(dK 6 Za).size≤9223372036854775807))∧((ds (ByteArray.mk #[45]++dK 6 Za)):DV)=(ds (aO x))))∧(((x.k==5)=false)→((((x.k==18)=true)→(((((0:Int)≤(0:Int))∧(0<(↑x.kids.length:Int)))∧ZK 160 [Zd,(di 2)] (ds (dK 2 Za))∧((ByteArray.mk #[110,111,116,32]).size+(dK 2 Za).size≤9223372036854775807))∧((ds (ByteArray.mk #[110,111,116,32]++dK 2 Za)):DV)=(ds (aO x))))∧(((x.k==18)=false)→((((x.k==10)=true)→((((x.k==10)=true)→ZW [cd Tryz.f123 [1,0,1,0,1,1,1,1,1,1,1,1,1,1,1,1,1,0,1,0,1,0],(.blk 1),cd Tryz.f123 [1,0,1,0,1,1,1,1,1,1,1,1,1,1,1,1,1,0,1,1],(.blk 0),cd Tryz.f123 [1,1]] (aI ZT [1,1,1,1,1,1,0,0]) ZQ)∧(((x.k==10)=false)→(ZK 162 [(aB m x)] (di (dh (ah (aB m x)).k))∧(((dh (ah (aB m x)).k==3)=true)→(Ze∧((((0:Int)≤(0:Int))∧(0<(↑x.kids.length:Int)))∧ZK 160 [Zd,Zf] (ds (dK (dh (ah (aB m x)).k+1) Za))∧((dK (dh (ah (aB m x)).k+1) Za).size+(ByteArray.mk #[32]).size≤9223372036854775807)∧ZK 159 [] (.mp (some .i64) (fun v=>DV.con (Value.string (gq (iV v)))) (fun v=>gU (iV v)))∧(((gU Zc)=false)→(Zg.imp (DV.con (Value.string (gq Zc)))))∧((dK (dh (ah (aB m x)).k+1) Za++ByteArray.mk #[32]).size+(gq Zc).size≤9223372036854775807)∧((dK (dh (ah (aB m x)).k+1) Za++ByteArray.mk #[32]++gq Zc).size+(ByteArray.mk #[32]).size≤9223372036854775807)∧(((0:Int)≤(1:Int))∧(1<(↑x.kids.length:Int)))∧Ze∧ZK 160 [Zh,Zf] (ds (dK (dh (ah (aB m x)).k+1) Zb))∧((dK (dh (ah (aB m x)).k+1) Za++ByteArray.mk #[32]++gq Zc++ByteArray.mk #[32]).size+(dK (dh (ah (aB m x)).k+1) Zb).size≤9223372036854775807))∧((ds (dK (dh (ah (aB m x)).k+1) Za++ByteArray.mk #[32]++gq Zc++ByteArray.mk #[32]++dK (dh (ah (aB m x)).k+1) Zb)):DV)=(ds (aO x))))∧(((dh (ah (aB m x)).k==3)=false)→(((((0:Int)≤(0:Int))∧(0<(↑x.kids.length:Int)))∧ZK 160 [Zd,(di (dh (ah (aB m x)).k))] (ds (dK (dh (ah (aB m x)).k) Za))∧((dK (dh (ah (aB m x)).k) Za).size+(ByteArray.mk #[32]).size≤9223372036854775807)∧ZK 159 [] (.mp (some .i64) (fun v=>DV.con (Value.string (gq (iV v)))) (fun v=>gU (iV v)))∧(((gU Zc)=false)→(Zg.imp (DV.con (Value.string (gq Zc)))))∧((dK (dh (ah (aB m x)).k) Za++ByteArray.mk #[32]).size+(gq Zc).size≤9223372036854775807)∧((dK (dh (ah (aB m x)).k) Za++ByteArray.mk #[32]++gq Zc).size+(ByteArray.mk #[32]).size≤9223372036854775807)∧(((0:Int)≤(1:Int))∧(1<(↑x.kids.length:Int)))∧Ze∧ZK 160 [Zh,Zf] (ds (dK (dh (ah (aB m x)).k+1) Zb))∧((dK (dh (ah (aB m x)).k) Za++ByteArray.mk #[32]++gq Zc++ByteArray.mk #[32]).size+(dK (dh (ah (aB m x)).k+1) Zb).size≤9223372036854775807))∧((ds (dK (dh (ah (aB m x)).k) Za++ByteArray.mk #[32]++gq Zc++ByteArray.mk #[32]++dK (dh (ah (aB m x)).k+1) Zb)):DV)=(ds (aO x))))))))∧(((x.k==10)=false)→((((x.k==11)=true)→ZW [cd Tryz.f123 [1,0,1,0,1,1,1,1,1,1,1,1,1,1,1,1,1,0,1,0,1,0],(.blk 1),cd Tryz.f123 [1,0,1,0,1,1,1,1,1,1,1,1,1,1,1,1,1,0,1,1],(.blk 0),cd Tryz.f123 [1,1]] (aI ZT [1,1,1,1,1,1,1,0]) ZQ)∧(((x.k==11)=false)→(ZK 162 [(aB m x)] (di (dh (ah (aB m x)).k))∧(((dh (ah (aB m x)).k==3)=true)→(Ze∧((((0:Int)≤(0:Int))∧(0<(↑x.kids.length:Int)))∧ZK 160 [Zd,Zf] (ds (dK (dh (ah (aB m x)).k+1) Za))∧((dK (dh (ah (aB m x)).k+1) Za).size+(ByteArray.mk #[32]).size≤9223372036854775807)∧ZK 159 [] (.mp (some .i64) (fun v=>DV.con (Value.string (gq (iV v)))) (fun v=>gU (iV v)))∧(((gU Zc)=false)→(Zg.imp (DV.con (Value.string (gq Zc)))))∧((dK (dh (ah (aB m x)).k+1) Za++ByteArray.mk #[32]).size+(gq Zc).size≤9223372036854775807)∧((dK (dh (ah (aB m x)).k+1) Za++ByteArray.mk #[32]++gq Zc).size+(ByteArray.mk #[32]).size≤9223372036854775807)∧(((0:Int)≤(1:Int))∧(1<(↑x.kids.length:Int)))∧Ze∧ZK 160 [Zh,Zf] (ds (dK (dh (ah (aB m x)).k+1) Zb))∧((dK (dh (ah (aB m x)).k+1) Za++ByteArray.mk #[32]++gq Zc++ByteArray.mk #[32]).size+(dK (dh (ah (aB m x)).k+1) Zb).size≤9223372036854775807))∧((ds (dK (dh (ah (aB m x)).k+1) Za++ByteArray.mk #[32]++gq Zc++ByteArray.mk #[32]++dK (dh (ah (aB m x)).k+1) Zb)):DV)=(ds (aO x))))∧(((dh (ah (aB m x)).k==3)=false)→(((((0:Int)≤(0:Int))∧(0<(↑x.kids.length:Int)))∧ZK 160 [Zd,(di (dh (ah (aB m x)).k))] (ds (dK (dh (ah (aB m x)).k) Za))∧((dK (dh (ah (aB m x)).k) Za).size+(ByteArray.mk #[32]).size≤9223372036854775807)∧ZK 159 [] (.mp (some .i64) (fun v=>DV.con (Value.string (gq (iV v)))) (fun v=>gU (iV v)))∧(((gU Zc)=false)→(Zg.imp (DV.con (Value.string (gq Zc)))))∧((dK (dh (ah (aB m x)).k) Za++ByteArray.mk #[32]).size+(gq Zc).size≤9223372036854775807)∧((dK (dh (ah (aB m x)).k) Za++ByteArray.mk #[32]++gq Zc).size+(ByteArray.mk #[32]).size≤9223372036854775807)∧(((0:Int)≤(1:Int))∧(1<(↑x.kids.length:Int)))∧Ze∧ZK 160 [Zh,Zf] (ds (dK (dh (ah (aB m x)).k+1) Zb))∧((dK (dh (ah (aB m x)).k) Za++ByteArray.mk #[32]++gq Zc++ByteArray.mk #[32]).size+(dK (dh (ah (aB m x)).k+1) Zb).size≤9223372036854775807))∧((ds (dK (dh (ah (aB m x)).k) Za++ByteArray.mk #[32]++gq Zc++ByteArray.mk #[32]++dK (dh (ah (aB m x)).k+1) Zb)):DV)=(ds (aO x)))))))))))))))))))))) (dh (ah (aY m (x.kids.getD (Int.toNat 0) ak))).k,aO (ah (aY m (x.kids.getD (Int.toNat 0) ak)))) (dh (ah (aY m (x.kids.getD (Int.toNat 1) ak))).k,aO (ah (aY m (x.kids.getD (Int.toNat 1) ak)))) (iV (Value.int IntKind.i64 x.k)) (aY m (x.kids.getD (Int.toNat 0) ak)) (I64 (dh (ah (aB m x)).k+1)) (di (dh (ah (aB m x)).k+1)) (ds (ByteArray.mk #[])) (aY m (x.kids.getD (Int.toNat 1) ak))) (by kernel_rfl) ?_
 simp only[e]
 have ef:=GK x
 unfold zn at ef
 simp only[beq_iff_eq,beq_eq_false_iff_ne,ne_eq]
 have q0:∀(_:0<x.kids.length),ah (aS m x (Int.toNat (0:Int)))=x.kids.getD 0 ak:=fun h=>dL hx h
 have q1:∀(_:1<x.kids.length),ah (aS m x (Int.toNat (1:Int)))=x.kids.getD 1 ak:=fun h=>dL hx h
 refine⟨fun h1=>⟨f156 hT _ _,?_⟩,fun n1=>⟨fun h2=>?_,fun n2=>⟨fun h3=>?_,fun n3=>⟨fun h4=>?_,fun n4=>⟨fun h5=>?_,fun n5=>⟨fun h18=>?_,fun n18=>?_⟩⟩⟩⟩⟩⟩
 ·rw[ef,if_pos h1]
 ·rw[ef,if_neg n1,if_pos h2]
 ·rw[ef,if_neg n1,if_neg n2,if_pos h3]
 ·rw[ef,if_neg n1,if_neg n2,if_neg n3,if_pos h4]
 ·have hl1:=kG hsn (.inl h5)
  have hl0:0<x.kids.length:=by omega
  simp only[q0 hl0]
  rw[ef,if_neg n1,if_neg n2,if_neg n3,if_neg n4,if_pos h5]
  have hh:=h122 0 hl0 6
  rw[qR hl0] at hh⊢
  have w:=jZ 6 (dh (x.kids.getD 0 ak).k,aO (x.kids.getD 0 ak))
  have:=(hs.kid hl0).size
  refine⟨⟨⟨by omega,by omega⟩,hh,?_⟩,rfl⟩
  show 1+_≤_
  simp only at w
  omega
 ·have hl1:=kG hsn (.inr h18)
  have hl0:0<x.kids.length:=by omega
  simp only[q0 hl0]
  rw[ef,if_neg n1,if_neg n2,if_neg n3,if_neg n4,if_neg n5,if_pos h18]
  have hh:=h122 0 hl0 2
  rw[qR hl0] at hh⊢
  have w:=jZ 2 (dh (x.kids.getD 0 ak).k,aO (x.kids.getD 0 ak))
  have:=(hs.kid hl0).size
  refine⟨⟨⟨by omega,by omega⟩,hh,?_⟩,rfl⟩
  show 4+_≤_
  simp only at w
  omega
 ·have htot:=hs.tot
  have hjs:=zk (gW x.kids)
  have Z7:aj Tryz.prog G 161 [.slc 1 x.kids.length fun i=>vW x x.kids.length (0+i),ds iM] (ds (fJ ((gW x.kids).map (·.2)) iM)):=Yx x hl (by omega)
  refine⟨fun h10=>⟨fun _=>?_,fun hn=>absurd h10 hn⟩,fun n10=>⟨fun h11=>?_,fun n11=>?_⟩⟩
  ·refine aC.pre (.nilRow _ 5 900 1 Kt (vW x 0) (by kernel_rfl) (by kernel_rfl)) ?_
   refine aC.loop (c:=dR (aQ Tryz.f123) [1,0,1,0,1,1,1,1,1,1,1,1,1,1,1,1,1,0,1,0,1,0,0]) (by kernel_rfl) (S74 m x) (fun k=>k≤x.kids.length) (fun k=>x.kids.length-k) 0 ?_ (Nat.zero_le _) ?_
   ·exact AS.dB (by kernel_rfl)
   ·intro k hk
    refine walk (ay:=zA (fJ ((gW x.kids).map (·.2)) iM)) (keep:=[]) (cuts:=[]) (n:=1000) follows ?_
    refine bW (fun ZT ZW ZQ ZK ZA _=>(fun Za=>((((decide ((↑k:Int)<↑x.kids.length))=true)→(((0≤(↑k:Int))∧((↑k:Int)<↑x.kids.length))∧(ZK 123 [Za] (ds (aO (ah Za)))∧(((k+1)*16≤1099511627776)∧(k+1≤1099511627776))∧(∀(i:Nat),i<1→jW false 1 (aN false 1 [DV.con (Value.string (aO (ah Za)))] i)=true))∧(I64 (↑k+1))∧(ZA (aI ZT [0]))))∧(((decide ((↑k:Int)<↑x.kids.length))=false)→ZW [cd Tryz.f123 [1,0,1,0,1,1,1,1,1,1,1,1,1,1,1,1,1,0,1,1],(.blk 0),cd Tryz.f123 [1,1]] (aI ZT [1]) ZQ))) (aY m (x.kids.getD (↑k:Int).toNat ak))) (by kernel_rfl) ?_
    simp only[Int.toNat_natCast]
    refine⟨fun h=>?_,fun h=>?_⟩
    ·have hk2:k<x.kids.length:=by have:=of_decide_eq_true h;omega
     refine⟨⟨by omega,by omega⟩,⟨?_,⟨by omega,by omega⟩,fun i hi=>(by obtain rfl:i=0:=(by omega);rfl)⟩,⟨by omega,by omega⟩,Again.Iq [(59,900)] rfl (k+1) ?_ hk2 (by omega)⟩
     ·show aj Tryz.prog G 123 [aS m x k] (ds (aO (ah (aS m x k))))
      rw[dL hx hk2]
      exact h74 k hk2
     ·refine AS.leZ [] [1] (b:=((T0∧T0∧T0∧T0∧T0∧True)∧T0∧((some [(.arr ⟨false,9,false,none⟩ 1 (fun i=>bif i.blt k then vW x k i else aN false 1 [DV.con (Value.string (aO (ah (aY m (x.kids.getD (↑k:Int).toNat ak)))))] (i-k)))]):(Option (List AV)))=(some [(.arr ⟨false,9,false,none⟩ 1 (vW x (k+1)))])∧True)) (by kernel_rfl) (by kernel_rfl) ?_
      refine⟨⟨rfl,rfl,rfl,rfl,rfl,trivial⟩,rfl,?_,trivial⟩
      refine congrArg (fun f=>some [AV.arr Kt 1 f]) (Ot k ?_)
      show ds (aO (ah (aS m x k)))=_
      rw[dL hx hk2]
    ·simp only[decide_eq_false_iff_not] at h
     obtain rfl:k=x.kids.length:=by omega
     refine walk (ay:=zA (fJ ((gW x.kids).map (·.2)) iM)) (keep:=[]) (cuts:=[]) (n:=1000) follows ?_
     refine aA (fun _ _ _ ZK=>(fun Za=>((((x.k==10)=true)→((ZK 161 [(.slc 1 x.kids.length (fun i=>vW x x.kids.length (0+i))),(ds (ByteArray.mk #[44,32]))] (ds (fJ Za iM))∧((ByteArray.mk #[109,105,110,40]).size+(fJ Za iM).size≤9223372036854775807)∧((ByteArray.mk #[109,105,110,40]++fJ Za iM).size+(ByteArray.mk #[41]).size≤9223372036854775807))∧((ds (ByteArray.mk #[109,105,110,40]++fJ Za iM++ByteArray.mk #[41])):DV)=(ds (aO x))))∧(((x.k==10)=false)→((ZK 161 [(.slc 1 x.kids.length (fun i=>vW x x.kids.length (0+i))),(ds (ByteArray.mk #[44,32]))] (ds (fJ Za iM))∧((ByteArray.mk #[109,97,120,40]).size+(fJ Za iM).size≤9223372036854775807)∧((ByteArray.mk #[109,97,120,40]++fJ Za iM).size+(ByteArray.mk #[41]).size≤9223372036854775807))∧((ds (ByteArray.mk #[109,97,120,40]++fJ Za iM++ByteArray.mk #[41])):DV)=(ds (aO x)))))) (List.map (fun x=>x.snd) (gW x.kids))) (by kernel_rfl) ?_
     simp only[beq_iff_eq,beq_eq_false_iff_ne,ne_eq]
     refine⟨fun _=>⟨⟨Z7,?_,?_⟩,?_⟩,fun hn=>absurd h10 hn⟩
     ·show 4+_≤_;omega
     ·rw[ByteArray.size_append];show 4+_+1≤_;omega
     ·rw[ef,if_neg n1,if_neg n2,if_neg n3,if_neg n4,if_neg n5,if_neg n18,if_pos h10]
  ·refine aC.pre (.nilRow _ 5 900 1 Kt (vW x 0) (by kernel_rfl) (by kernel_rfl)) ?_
   refine aC.loop (c:=dR (aQ Tryz.f123) [1,0,1,0,1,1,1,1,1,1,1,1,1,1,1,1,1,0,1,0,1,0,0]) (by kernel_rfl) (S74 m x) (fun k=>k≤x.kids.length) (fun k=>x.kids.length-k) 0 ?_ (Nat.zero_le _) ?_
   ·exact AS.dB (by kernel_rfl)
   ·intro k hk
    refine walk (ay:=zA (fJ ((gW x.kids).map (·.2)) iM)) (keep:=[]) (cuts:=[]) (n:=1000) follows ?_
    refine bW (fun ZT ZW ZQ ZK ZA _=>(fun Za=>((((decide ((↑k:Int)<↑x.kids.length))=true)→(((0≤(↑k:Int))∧((↑k:Int)<↑x.kids.length))∧(ZK 123 [Za] (ds (aO (ah Za)))∧(((k+1)*16≤1099511627776)∧(k+1≤1099511627776))∧(∀(i:Nat),i<1→jW false 1 (aN false 1 [DV.con (Value.string (aO (ah Za)))] i)=true))∧(I64 (↑k+1))∧(ZA (aI ZT [0]))))∧(((decide ((↑k:Int)<↑x.kids.length))=false)→ZW [cd Tryz.f123 [1,0,1,0,1,1,1,1,1,1,1,1,1,1,1,1,1,0,1,1],(.blk 0),cd Tryz.f123 [1,1]] (aI ZT [1]) ZQ))) (aY m (x.kids.getD (↑k:Int).toNat ak))) (by kernel_rfl) ?_
    simp only[Int.toNat_natCast]
    refine⟨fun h=>?_,fun h=>?_⟩
    ·have hk2:k<x.kids.length:=by have:=of_decide_eq_true h;omega
     refine⟨⟨by omega,by omega⟩,⟨?_,⟨by omega,by omega⟩,fun i hi=>(by obtain rfl:i=0:=(by omega);rfl)⟩,⟨by omega,by omega⟩,Again.Iq [(59,900)] rfl (k+1) ?_ hk2 (by omega)⟩
     ·show aj Tryz.prog G 123 [aS m x k] (ds (aO (ah (aS m x k))))
      rw[dL hx hk2]
      exact h74 k hk2
     ·refine AS.leZ [] [1] (b:=((T0∧T0∧T0∧T0∧T0∧True)∧T0∧((some [(.arr ⟨false,9,false,none⟩ 1 (fun i=>bif i.blt k then vW x k i else aN false 1 [DV.con (Value.string (aO (ah (aY m (x.kids.getD (↑k:Int).toNat ak)))))] (i-k)))]):(Option (List AV)))=(some [(.arr ⟨false,9,false,none⟩ 1 (vW x (k+1)))])∧True)) (by kernel_rfl) (by kernel_rfl) ?_
      refine⟨⟨rfl,rfl,rfl,rfl,rfl,trivial⟩,rfl,?_,trivial⟩
      refine congrArg (fun f=>some [AV.arr Kt 1 f]) (Ot k ?_)
      show ds (aO (ah (aS m x k)))=_
      rw[dL hx hk2]
    ·simp only[decide_eq_false_iff_not] at h
     obtain rfl:k=x.kids.length:=by omega
     refine walk (ay:=zA (fJ ((gW x.kids).map (·.2)) iM)) (keep:=[]) (cuts:=[]) (n:=1000) follows ?_
     refine aA (fun _ _ _ ZK=>(fun Za=>((((x.k==10)=true)→((ZK 161 [(.slc 1 x.kids.length (fun i=>vW x x.kids.length (0+i))),(ds (ByteArray.mk #[44,32]))] (ds (fJ Za iM))∧((ByteArray.mk #[109,105,110,40]).size+(fJ Za iM).size≤9223372036854775807)∧((ByteArray.mk #[109,105,110,40]++fJ Za iM).size+(ByteArray.mk #[41]).size≤9223372036854775807))∧((ds (ByteArray.mk #[109,105,110,40]++fJ Za iM++ByteArray.mk #[41])):DV)=(ds (aO x))))∧(((x.k==10)=false)→((ZK 161 [(.slc 1 x.kids.length (fun i=>vW x x.kids.length (0+i))),(ds (ByteArray.mk #[44,32]))] (ds (fJ Za iM))∧((ByteArray.mk #[109,97,120,40]).size+(fJ Za iM).size≤9223372036854775807)∧((ByteArray.mk #[109,97,120,40]++fJ Za iM).size+(ByteArray.mk #[41]).size≤9223372036854775807))∧((ds (ByteArray.mk #[109,97,120,40]++fJ Za iM++ByteArray.mk #[41])):DV)=(ds (aO x)))))) (List.map (fun x=>x.snd) (gW x.kids))) (by kernel_rfl) ?_
     simp only[beq_iff_eq,beq_eq_false_iff_ne,ne_eq]
     refine⟨fun h=>absurd h n10,fun _=>⟨⟨Z7,?_,?_⟩,?_⟩⟩
     ·show 4+_≤_;omega
     ·rw[ByteArray.size_append];show 4+_+1≤_;omega
     ·rw[ef,if_neg n1,if_neg n2,if_neg n3,if_neg n4,if_neg n5,if_neg n18,if_neg n10,if_pos h11]
  ·obtain ⟨hl2,hob⟩:=kH hsn ⟨n1,n2,n3,n4,n5,n18,n10,n11⟩
   have hl0:0<x.kids.length:=by omega
   have hl1:1<x.kids.length:=by omega
   simp only[q0 hl0,q1 hl1]
   have wo:aO x=dK (Iz x.k) (g0 (gW x.kids) 0)++(⟨#[32]⟩:ByteArray)++gq x.k++(⟨#[32]⟩:ByteArray)++dK (dh x.k+1) (g0 (gW x.kids) 1):=by
    rw[ef,if_neg n1,if_neg n2,if_neg n3,if_neg n4,if_neg n5,if_neg n18,if_neg n10,if_neg n11]
   have hh0:=h122 0 hl0
   have hh1:=h122 1 hl1
   have w0:=fun v=>jZ v (g0 (gW x.kids) 0)
   have w1:=fun v=>jZ v (g0 (gW x.kids) 1)
   have ht:=BU (gW x.kids)
   have ho:=EI x.k
   have hlv:-1≤dh x.k∧dh x.k≤8:=Vp _
   rw[qR hl0] at hh0 w0 wo ht
   rw[qR hl1] at hh1 w1 wo ht
   unfold Iz at wo
   have ko:gU (iV (Value.int IntKind.i64 x.k))=true:=hob
   refine⟨f162 m x,fun h3=>?_,fun h3=>?_⟩
   ·have s0:=w0 (dh x.k+1)
    have s1:=w1 (dh x.k+1)
    simp only at s0 s1 ht
    rw[if_pos h3] at wo
    have hk:iV (Value.int IntKind.i64 x.k)=x.k:=rfl
    refine⟨⟨by omega,by omega⟩,⟨⟨by omega,by omega⟩,hh0 _,?_,f159,fun hf=>?_,?_,?_,⟨by omega,by omega⟩,⟨by omega,by omega⟩,hh1 _,?_⟩,?_⟩
    ·show _+1≤_;omega
    ·rw[ko] at hf;cases hf
    ·rw[ByteArray.size_append,hk];show _+1+_≤_;omega
    ·rw[ByteArray.size_append,ByteArray.size_append,hk];show _+1+_+1≤_;omega
    ·rw[ByteArray.size_append,ByteArray.size_append,ByteArray.size_append,hk];show _+1+_+1+_≤_;omega
    ·rw[wo];rfl
   ·have s0:=w0 (dh x.k)
    have s1:=w1 (dh x.k+1)
    simp only at s0 s1 ht
    rw[if_neg h3] at wo
    have hk:iV (Value.int IntKind.i64 x.k)=x.k:=rfl
    refine⟨⟨⟨by omega,by omega⟩,hh0 _,?_,f159,fun hf=>?_,?_,?_,⟨by omega,by omega⟩,⟨by omega,by omega⟩,hh1 _,?_⟩,?_⟩
    ·show _+1≤_;omega
    ·rw[ko] at hf;cases hf
    ·rw[ByteArray.size_append,hk];show _+1+_≤_;omega
    ·rw[ByteArray.size_append,ByteArray.size_append,hk];show _+1+_+1≤_;omega
    ·rw[ByteArray.size_append,ByteArray.size_append,ByteArray.size_append,hk];show _+1+_+1+_≤_;omega
    ·rw[wo];rfl
/-! The text of an expression,or none. -/
def kK (x:Ex):Bool:=aV x&&decide ((ht x:Int)+1≤32)&&decide ((aO x).size≤16384)
def oh (x:Ex):ByteArray:=if kK x then aO x else .empty
noncomputable def abg:aZ:=fun f a=>match f,a with
 | 121,[e]=>some (di ((ht (ah e):Int)+1))
 | 122,[e]=>some (db (aV (ah e)))
 | 123,[e]=>some (ds (aO (ah e)))
 | _,_=>none
theorem f72 (hT:Tab G) (m:Nat) (x:Ex) (hx:ht x≤m) (hs:Sm x):aj Tryz.prog G 72 [bG m x] (ds (oh x)):=by
 have e:ah (exV x.k x.s x.n x.d x.pos x.kids.length (lay (bJ m) x.kids))=x:=fU hx
 refine aj.walk (ay:=abg) (keep:=[]) follows Tryz.func72 rfl Tryz.call72 ?_
 refine aA (fun _ _ _ ZK=>(fun Za=>((ZK 121 [(aB m x)] (di (↑(ht (ah (aB m x)))+1))∧(((!decide ((↑(ht (ah (aB m x))):Int)+1>32))=true)→ZK 122 [(aB m x)] (db (aV (ah (aB m x))))))∧((Za=true)→(((ds (ByteArray.mk #[])):DV)=(ds (oh x))))∧((Za=false)→(ZK 123 [(aB m x)] (ds (aO (ah (aB m x))))∧(((decide ((↑(aO (ah (aB m x))).size:Int)>16384))=true)→(((ds (ByteArray.mk #[])):DV)=(ds (oh x))))∧(((decide ((↑(aO (ah (aB m x))).size:Int)>16384))=false)→(((ds (aO (ah (aB m x)))):DV)=(ds (oh x)))))))) (decide ((↑(ht (ah (aB m x))):Int)+1>32)||!aV (ah (aB m x)))) (by kernel_rfl) ?_
 simp only[e]
 unfold oh kK
 refine⟨⟨f121 m x hx hs,fun _=>f122 hT m x hx hs⟩,fun h=>?_,fun h=>?_⟩
 ·rw[if_neg]
  ·rfl
  ·simp only[Bool.or_eq_true,decide_eq_true_eq,Bool.not_eq_true'] at h
   simp only[aT,decide_eq_true_eq]
   rintro ⟨⟨h1,h2⟩,_⟩
   rcases h with h|h
   ·omega
   ·rw[h] at h1;cases h1
 ·simp only[Bool.or_eq_false_iff,decide_eq_false_iff_not,Bool.not_eq_false'] at h
  refine⟨f123 hT m x hx hs h.2,fun h3=>?_,fun h3=>?_⟩
  ·have:=of_decide_eq_true h3
   rw[h.2,decide_eq_false (by omega:¬(aO x).size≤16384),Bool.and_false];rfl
  ·have:=of_decide_eq_false h3
   rw[h.2,decide_eq_true (by omega:(aO x).size≤16384),decide_eq_true (by omega)];rfl
noncomputable def Rn:aZ:=fun f a=>match f,a with
 | 171,[e]=>some (di (aU (ah e).k))
 | 153,[.con (.string s)]=>some (db (nameB s))
 | 172,[fr n d]=>some (.au [ds (str (jG n d).1),db (jG n d).2])
 | 141,[e]=>some (db (aV (ah e)))
 | _,_=>none
noncomputable def hdB (k n d:Int) (s:ByteArray) (len:Int):Bool:=
 if (aU k==0||k != 2&&!s.toList==ByteArray.toList { data:=#[] }||k != 1&&!(Bool.rec false (d==0) (n==0):Bool))=true then false
 else if (k==2)=true then !(!nameB s||decide (len>0))
 else if (k==1)=true then !(!(jG n d).2||decide (n<0)||decide (len>0)||(str (jG n d).1).toList==ByteArray.toList { data:=#[49,48,48,48,48,48,48,48,48,48] })
 else if (k==3||k==4)=true then !decide (len>0)
 else if (k==10||k==11)=true then !decide (len<1)
 else if (aU k==3||aU k==7)=true then !(len != 1)
 else !(len != 2)
theorem aaL (k n d:Int) (s:ByteArray) (len:Nat) (all:Bool) (h0:len=0→all=true):qO k n d s len all=(hdB k n d s len&&all):=by
 have hke:(s.toList==ByteArray.toList { data:=#[] })=decide (s.size=0):=uz _
 have hkz:(Bool.rec false (d==0) (n==0):Bool)=(n==0&&d==0):=by cases (n==0)<;>rfl
 have hr:aU k=0↔¬(gU k=true∨k=1∨k=2∨k=3∨k=4∨k=5∨k=10∨k=11∨k=18):=by
  unfold aU gU
  rw[decide_eq_true_eq]
  repeat' split
  all_goals omega
 have hr3:aU k=3↔k=18:=by
  unfold aU
  repeat' split
  all_goals omega
 have hr7:aU k=7↔k=5:=by
  unfold aU
  repeat' split
  all_goals omega
 have hl0:∀c:Int,decide ((len:Int)>0) = !decide (len=0):=fun _=>by rw[←decide_not,decide_eq_decide];omega
 unfold hdB qO zJ
 rw[hke,hkz,iT]
 simp only[XT,hl0 0]
 have hbig:(⟨#[49,48,48,48,48,48,48,48,48,48]⟩:ByteArray)=bigS:=rfl
 rw[hbig]
 have hn:decide (n<0) = !decide (n≥0):=by rw[←decide_not,decide_eq_decide];omega
 rw[hn]
 generalize decide (str (jG n d).1=bigS)=b1
 generalize (jG n d).2=b2
 generalize decide (n≥0)=b3
 generalize (n==0&&d==0)=b4
 generalize nameB s=b5
 generalize decide (s.size=0)=b6
 have p1:∀l:Nat,decide ((1:Int)≤(l:Int)+1+1+1)=true:=fun l=>decide_eq_true (by omega)
 have p2:∀l:Nat,decide ((l:Int)+1+1+1<1)=false:=fun l=>decide_eq_false (by omega)
 have p3:∀l:Nat,decide ((l:Int)+1+1+1≤1)=false:=fun l=>decide_eq_false (by omega)
 have p4:∀l:Nat,((l:Int)+1+1+1 != 1)=true:=fun l=>bne_iff_ne.2 (by omega)
 by_cases k1:k=1
 ·subst k1
  rw[show aU 1=8 by decide]
  rcases len with _|_|_|len
  ·have:=h0 rfl
   subst this
   cases b6<;>cases b4<;>simp
   all_goals (try (cases b1<;>cases b2<;>cases b3<;>rfl))
  all_goals (cases b6<;>cases b4<;>simp)
  all_goals (try (simp only[p1,p2,p3,p4,Bool.true_and,Bool.false_and,Bool.not_true,Bool.not_false]))
  all_goals (try (intros;omega))
 by_cases k2:k=2
 ·subst k2
  rw[show aU 2=8 by decide]
  rcases len with _|_|_|len
  ·have:=h0 rfl
   subst this
   cases b6<;>cases b4<;>simp
   all_goals (try (cases b1<;>cases b2<;>cases b3<;>rfl))
  all_goals (cases b6<;>cases b4<;>simp)
  all_goals (try (simp only[p1,p2,p3,p4,Bool.true_and,Bool.false_and,Bool.not_true,Bool.not_false]))
  all_goals (try (intros;omega))
 by_cases k3:k=3
 ·subst k3
  rw[show aU 3=8 by decide]
  rcases len with _|_|_|len
  ·have:=h0 rfl
   subst this
   cases b6<;>cases b4<;>simp
   all_goals (try (cases b1<;>cases b2<;>cases b3<;>rfl))
  all_goals (cases b6<;>cases b4<;>simp)
  all_goals (try (simp only[p1,p2,p3,p4,Bool.true_and,Bool.false_and,Bool.not_true,Bool.not_false]))
  all_goals (try (intros;omega))
 by_cases k4:k=4
 ·subst k4
  rw[show aU 4=8 by decide]
  rcases len with _|_|_|len
  ·have:=h0 rfl
   subst this
   cases b6<;>cases b4<;>simp
   all_goals (try (cases b1<;>cases b2<;>cases b3<;>rfl))
  all_goals (cases b6<;>cases b4<;>simp)
  all_goals (try (simp only[p1,p2,p3,p4,Bool.true_and,Bool.false_and,Bool.not_true,Bool.not_false]))
  all_goals (try (intros;omega))
 by_cases k5:k=5
 ·subst k5
  rw[show aU 5=7 by decide]
  rcases len with _|_|_|len
  ·have:=h0 rfl
   subst this
   cases b6<;>cases b4<;>simp
   all_goals (try (cases b1<;>cases b2<;>cases b3<;>rfl))
  all_goals (cases b6<;>cases b4<;>simp)
  all_goals (try (simp only[p1,p2,p3,p4,Bool.true_and,Bool.false_and,Bool.not_true,Bool.not_false]))
  all_goals (try (intros;omega))
 by_cases k18:k=18
 ·subst k18
  rw[show aU 18=3 by decide]
  rcases len with _|_|_|len
  ·have:=h0 rfl
   subst this
   cases b6<;>cases b4<;>simp
   all_goals (try (cases b1<;>cases b2<;>cases b3<;>rfl))
  all_goals (cases b6<;>cases b4<;>simp)
  all_goals (try (simp only[p1,p2,p3,p4,Bool.true_and,Bool.false_and,Bool.not_true,Bool.not_false]))
  all_goals (try (intros;omega))
 by_cases k10:k=10
 ·subst k10
  rw[show aU 10=8 by decide]
  rcases len with _|_|_|len
  ·have:=h0 rfl
   subst this
   cases b6<;>cases b4<;>simp
   all_goals (try (cases b1<;>cases b2<;>cases b3<;>rfl))
  all_goals (cases b6<;>cases b4<;>simp)
  all_goals (try (simp only[p1,p2,p3,p4,Bool.true_and,Bool.false_and,Bool.not_true,Bool.not_false]))
  all_goals (try (intros;omega))
 by_cases k11:k=11
 ·subst k11
  rw[show aU 11=8 by decide]
  rcases len with _|_|_|len
  ·have:=h0 rfl
   subst this
   cases b6<;>cases b4<;>simp
   all_goals (try (cases b1<;>cases b2<;>cases b3<;>rfl))
  all_goals (cases b6<;>cases b4<;>simp)
  all_goals (try (simp only[p1,p2,p3,p4,Bool.true_and,Bool.false_and,Bool.not_true,Bool.not_false]))
  all_goals (try (intros;omega))
 have r3:¬aU k=3:=fun h=>k18 (hr3.1 h)
 have r7:¬aU k=7:=fun h=>k5 (hr7.1 h)
 have r0:aU k=0↔gU k=false:=by
  rw[hr]
  simp[k1,k2,k3,k4,k5,k18,k10,k11]
 have e0:(aU k==0) = !gU k:=by
  rw[Bool.eq_iff_iff,beq_iff_eq,r0];simp
 rw[e0]
 cases hob:gU k
 ·simp[k1,k2,k3,k4,k5,k18,k10,k11]
 ·rcases len with _|_|_|len
  ·have:=h0 rfl
   subst this
   simp[k1,k2,k3,k4,k5,k18,k10,k11,r3,r7,hob]
  ·simp[k1,k2,k3,k4,k5,k18,k10,k11,r3,r7,hob]
  ·cases b6<;>cases b4<;>simp[k1,k2,k3,k4,k5,k18,k10,k11,r3,r7,hob]
  ·have q1:¬((len:Int)+1+1+1≤2):=by omega
   have q2:((len:Int)+1+1+1 != 2)=true:=by simp;omega
   simp[k1,k2,k3,k4,k5,k18,k10,k11,r3,r7,hob,q1,q2]
theorem NC (x:Ex):aV x=(hdB x.k x.n x.d x.s x.kids.length&&qH x.kids):=by
 rw[og]
 refine aaL _ _ _ _ _ _ fun h=>?_
 rw[List.eq_nil_of_length_eq_zero h];rfl
theorem UF {l:List Ex} (h:∀i,i<l.length→aV (l.getD i ak)=true):qH l=true:=by
 induction l with
 | nil=>rfl
 | cons y l ih=>
  simp only[qH,aT]
  refine⟨h 0 (Nat.zero_lt_succ _),ih fun i hi=>?_⟩
  have:=h (i+1) (by simpa using hi)
  simpa using this
theorem U5 {l:List Ex} {i:Nat} (hi:i<l.length) (h:aV (l.getD i ak)=false):qH l=false:=by
 cases hh:qH l with
 | false=>rfl
 | true=>rw[Gf hh hi] at h;cases h
noncomputable def adf (m:Nat) (x:Ex) (k:Nat):AS:=⟨regs Tryz.f141.ntmps [(1,.box 1 0),(4,vi x.kids.length),(7,vi k)],[(1,l7 m x)]⟩
theorem f141 (hT:Tab G) (m:Nat):∀(x:Ex),ht x≤m→Sm x→aj Tryz.prog G 141 [bG m x] (db (aV x)):=by
 induction m using Nat.strongRecOn with
 | _ m ih=>
 intro x hx hs
 have hl:=hs.len.1
 have e:ah (exV x.k x.s x.n x.d x.pos x.kids.length (lay (bJ m) x.kids))=x:=fU hx
 have adZ:∀i,i<x.kids.length→aj Tryz.prog G 141 [aS m x i] (db (aV (x.kids.getD i ak))):=fun i hi=>
  jD (Q:=fun d=>aj Tryz.prog G 141 [d] _) hx hi fun m' h1 h2=>ih m' h1 _ h2 (hs.kid hi)
 have hd:=NC x
 unfold hdB at hd
 refine aj.walk (ay:=Rn) (keep:=[]) follows Tryz.func141 rfl Tryz.call141 ?_
 refine aA (fun ZT ZW ZQ ZK=>(fun Za Zb=>(ZK 171 [(aB m x)] (di (aU (ah (aB m x)).k))∧((Zb=true)→(((db false):DV)=(db (aV x))))∧((Zb=false)→((((x.k==2)=true)→(ZK 153 [(ds x.s)] (db (nameB x.s))∧(((!nameB x.s||decide ((↑x.kids.length:Int)>0))=true)→(((db false):DV)=(db (aV x))))∧(((!nameB x.s||decide ((↑x.kids.length:Int)>0))=false)→ZW [cd Tryz.f141 [1,1,1,1,1,0,1,0],(.blk 1),cd Tryz.f141 [1,1,1,1,1,1]] (aI ZT [1,0,1]) ZQ)))∧(((x.k==2)=false)→((((x.k==1)=true)→(ZK 172 [(.agg [(di x.n),(di x.d)])] (.au [(ds (str (jG x.n x.d).fst)),(db (jG x.n x.d).snd)])∧((Za=true)→(((db false):DV)=(db (aV x))))∧((Za=false)→ZW [cd Tryz.f141 [1,1,1,1,1,0,1,0],(.blk 1),cd Tryz.f141 [1,1,1,1,1,1]] (aI ZT [1,1,0,1]) ZQ)))∧(((x.k==1)=false)→((((x.k==3||x.k==4)=true)→((((decide ((↑x.kids.length:Int)>0))=true)→(((db false):DV)=(db (aV x))))∧(((decide ((↑x.kids.length:Int)>0))=false)→ZW [cd Tryz.f141 [1,1,1,1,1,0,1,0],(.blk 1),cd Tryz.f141 [1,1,1,1,1,1]] (aI ZT [1,1,1,0,1]) ZQ)))∧(((x.k==3||x.k==4)=false)→((((x.k==10||x.k==11)=true)→((((decide ((↑x.kids.length:Int)<1))=true)→(((db false):DV)=(db (aV x))))∧(((decide ((↑x.kids.length:Int)<1))=false)→ZW [cd Tryz.f141 [1,1,1,1,1,0,1,0],(.blk 1),cd Tryz.f141 [1,1,1,1,1,1]] (aI ZT [1,1,1,1,0,1]) ZQ)))∧(((x.k==10||x.k==11)=false)→((((aU (ah (aB m x)).k==3||aU (ah (aB m x)).k==7)=true)→(((((↑x.kids.length:Int) != 1)=true)→(((db false):DV)=(db (aV x))))∧((((↑x.kids.length:Int) != 1)=false)→ZW [cd Tryz.f141 [1,1,1,1,1,0,1,0],(.blk 1),cd Tryz.f141 [1,1,1,1,1,1]] (aI ZT [1,1,1,1,1,0,1]) ZQ)))∧(((aU (ah (aB m x)).k==3||aU (ah (aB m x)).k==7)=false)→(((((↑x.kids.length:Int) != 2)=true)→(((db false):DV)=(db (aV x))))∧((((↑x.kids.length:Int) != 2)=false)→ZW [cd Tryz.f141 [1,1,1,1,1,0,1,0],(.blk 1),cd Tryz.f141 [1,1,1,1,1,1]] (aI ZT [1,1,1,1,1,1,1]) ZQ))))))))))))))) (!(jG x.n x.d).snd||decide (x.n<0)||decide ((↑x.kids.length:Int)>0)||(str (jG x.n x.d).fst).toList==(ByteArray.mk #[49,48,48,48,48,48,48,48,48,48]).toList) (aU (ah (aB m x)).k==0||x.k != 2&&!x.s.toList==(ByteArray.mk #[]).toList||x.k != 1&&!Bool.rec false (x.d==0) (x.n==0))) (by kernel_rfl) ?_
 simp only[e]
 refine⟨f171 m x,fun ha=>?_,fun ha=>⟨fun k2=>⟨f153 _ (by have:=hs.len.2;omega),fun hb=>?_,fun hb=>?_⟩,fun k2=>⟨fun k1=>⟨f172 _ _,fun hb=>?_,fun hb=>?_⟩,fun k1=>⟨fun k3=>⟨fun hb=>?_,fun hb=>?_⟩,fun k3=>⟨fun k10=>⟨fun hb=>?_,fun hb=>?_⟩,fun k10=>⟨fun k18=>⟨fun hb=>?_,fun hb=>?_⟩,fun k18=>⟨fun hb=>?_,fun hb=>?_⟩⟩⟩⟩⟩⟩⟩
 all_goals (try simp only[ha] at hd)
 all_goals (try simp only[k2] at hd)
 all_goals (try simp only[k1] at hd)
 all_goals (try simp only[k3] at hd)
 all_goals (try simp only[k10] at hd)
 all_goals (try simp only[k18] at hd)
 all_goals (try simp only[hb] at hd)
 all_goals (try simp only[if_true,Bool.false_eq_true,if_false,Bool.not_true,Bool.not_false,Bool.false_and,Bool.true_and] at hd)
 all_goals (try (rw[hd];done))
 all_goals (
  refine aC.loop (c:=dR (aQ Tryz.f141) [1,1,1,1,1,0,1,0,0]) (by kernel_rfl) (adf m x) (fun k=>k≤x.kids.length∧∀i,i<k→aV (x.kids.getD i ak)=true) (fun k=>x.kids.length-k) 0 ?_ ⟨Nat.zero_le _,fun i hi=>absurd hi (Nat.not_lt_zero _)⟩ ?_
  ·exact AS.dB (by kernel_rfl)
  ·rintro k ⟨hk,hkk⟩
   refine walk (ay:=Rn) (keep:=[]) (cuts:=[]) (n:=1000) follows ?_
   refine bW (fun ZT ZW ZQ ZK ZA _=>(fun Za=>((((decide ((↑k:Int)<↑x.kids.length))=true)→((((0≤(↑k:Int))∧((↑k:Int)<↑x.kids.length))∧ZK 141 [Za] (db (aV (ah Za))))∧(((!aV (ah Za))=true)→(((db false):DV)=(db (aV x))))∧(((!aV (ah Za))=false)→((I64 (↑k+1))∧(ZA (aI ZT [0,1]))))))∧(((decide ((↑k:Int)<↑x.kids.length))=false)→ZW [cd Tryz.f141 [1,1,1,1,1,1]] (aI ZT [1]) ZQ))) (aY m (x.kids.getD (↑k:Int).toNat ak))) (by kernel_rfl) ?_
   simp only[Int.toNat_natCast]
   refine⟨fun h1=>?_,fun h1=>?_⟩
   ·have hk2:k<x.kids.length:=by have:=of_decide_eq_true h1;omega
    refine⟨⟨⟨by omega,by omega⟩,?_⟩,fun h3=>?_,fun h3=>⟨⟨by omega,by omega⟩,Again.mk (k+1) ?_ ⟨hk2,fun i hi=>?_⟩ (by omega)⟩⟩
    ·show aj Tryz.prog G 141 [aS m x k] (db (aV (ah (aS m x k))))
     rw[dL hx hk2]
     exact adZ k hk2
    ·have h3:(!aV (ah (aS m x k)))=true:=h3
     rw[dL hx hk2,Bool.not_eq_true'] at h3
     rw[hd,U5 hk2 h3]
    ·exact AS.dB (by kernel_rfl)
    ·rcases Nat.lt_or_ge i k with h4|h4
     ·exact hkk i h4
     ·obtain rfl:i=k:=by omega
      have h3:(!aV (ah (aS m x i)))=false:=h3
      rw[dL hx hk2,Bool.not_eq_false'] at h3
      exact h3
   ·simp only[decide_eq_false_iff_not] at h1
    obtain rfl:k=x.kids.length:=by omega
    refine walk (ay:=Rn) (keep:=[]) (cuts:=[]) (n:=1000) follows ?_
    refine aA (fun _ _ _ _=>(((db true):DV)=(db (aV x)))) (by kernel_rfl) ?_
    rw[hd,UF hkk])
end Go.Proofs
