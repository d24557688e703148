import Derived.Test.YtcfclncbpeahnaaGreatDoorAcD
import Derived.Test.YtcfclncbpeahnaaGreatDoorG0
import Derived.Shelf.Strings.OnBuilder
import Derived.Shelf.Small.Wraps
import Derived.Shelf.LaysM
import Derived.Test.YtcfclncbpeahnaaGreatDoorProg
set_option autoImplicit false
namespace Go.Proofs
open Go Go.Ab Go.RowKit
set_option maxHeartbeats 2000000
set_option maxRecDepth 100000
variable {G:IH}
def dotS:ByteArray:=⟨#[46]⟩
def numB (n d:Int):Bool:=(decF n d).2&&decide (n≥0)&&decide (((cD dotS (str (decF n d).1)).size:Int)≤9)
def numT (n d:Int):ByteArray:=str (decF n d).1
theorem tailB_len {d:Nat}:∀(k r:Nat),r<d→(tailB d k r).length≤k
 | 0,r,_=>by simp[tailB]
 | k+1,r,h=>by
  unfold tailB
  split
  ·simp
  ·have h1:10*r / d<10:=by rw[Nat.div_lt_iff_lt_mul (by omega)];omega
   have h2:=tailB_len k (10*r % d) (Nat.mod_lt _ (by omega))
   rw[Lib.decDigits,dif_pos h1,List.length_append,List.length_singleton];omega
theorem sizeN (n d:Int):(numT n d).size≤100:=by
 unfold numT
 rw[str_size,decF_eq]
 unfold decB
 split
 ·rename_i h
  have hk:=ok_spec h.1
  have h1:n.natAbs / d.toNat<10 ^ (18+1):=by
   have:=Nat.div_le_self n.natAbs d.toNat
   have e:(10:Nat) ^ (18+1)=10000000000000000000:=by decide
   rw[e];omega
  have h2:=decDigits_len 18 _ h1
  have h3:=tailB_len (d:=d.toNat) 7 (n.natAbs % d.toNat) (Nat.mod_lt _ (by omega))
  have h4:(sg n).length≤1:=by unfold sg;split<;>simp
  simp only[List.length_append]
  split
  ·simp;omega
  ·simp only[List.length_cons];omega
 ·simp
noncomputable def orcWr:Oracle:=fun f a=>match f,a with
 | 113,[fr n d]=>some (.tup [ds (numT n d),db (decF n d).2])
 | 114,[.con (.string s),.con (.string p)]=>some (.tup [ds (cD p s),ds (cR p s),db (cB p s)])
 | _,_=>none
theorem f91 (hT:Tab G) (n d:Int):FnOK Tryz.prog G 91 [fr n d] (.tup [ds (numT n d),db (numB n d)]):=by
 have hs:=sizeN n d
 refine FnOK.walk (orc:=orcWr) (keep:=[]) follows Tryz.func91 rfl Tryz.call91 ?_
 refine of_tr (fun _ _ _ ZK=>(ZK 113 [(.agg [(di n),(di d)])] (.tup [(ds (numT n d)),(db (decF n d).snd)])∧ZK 114 [(ds (numT n d)),(ds (ByteArray.mk #[46]))] (.tup [(ds (cD (ByteArray.mk #[46]) (numT n d))),(ds (cR (ByteArray.mk #[46]) (numT n d))),(db (cB (ByteArray.mk #[46]) (numT n d)))])∧((.tup [(ds (numT n d)),(db ((decF n d).snd&&decide (n≥0)&&decide ((↑(cD (ByteArray.mk #[46]) (numT n d)).size:Int)≤9)))]):DV)=(.tup [(ds (numT n d)),(db (numB n d))]))) (by kernel_rfl) ?_
 exact⟨f113 hT n d,f114 _ 46 (by omega),rfl⟩
def kdK (n d:Int) (s:ByteArray) (len:Nat) (all:Bool) (a b:Int):Bool:=decide (s.size=0)&&(n==0&&d==0)&&decide ((len:Int)≥a)&&decide ((len:Int)≤b)&&all
def sndK (k n d:Int) (s:ByteArray) (len:Nat) (all:Bool):Bool:=
 if k=1 then numB n d&&decide (s.size=0)&&decide (len=0)
 else if k=2 then nameB s&&(n==0&&d==0)&&decide (len=0)
 else if k=3∨k=4 then kdK n d s len all 0 0
 else if k=5∨k=18 then kdK n d s len all 1 1
 else if k=10∨k=11 then kdK n d s len all 1 len
 else opB k&&kdK n d s len all 2 2
mutual
def sndE:Ex→Bool
 | .mk k s n d _ l=>sndK k n d s l.length (sndL l)
def sndL:List Ex→Bool
 | []=>true
 | x :: l=>sndE x&&sndL l
end
theorem sndE_eq (x:Ex):sndE x=sndK x.k x.n x.d x.s x.kids.length (sndL x.kids):=by cases x;simp only[sndE,Ex.k,Ex.n,Ex.d,Ex.s,Ex.kids]
theorem sndL_any:∀l:List Ex,(l.any fun y=>!sndE y) = !sndL l
 | []=>rfl
 | x :: l=>by simp only[List.any_cons,sndL,sndL_any l,Bool.not_and]
abbrev kdE (x:Ex) (a b:Int):Bool:=kdK x.n x.d x.s x.kids.length (sndL x.kids) a b
noncomputable def orcRt (x:Ex):Oracle:=fun f a=>match f,a with
 | 49,[e]=>some (db (sndE (rdE e)))
 | 91,[fr n d]=>some (.tup [ds (numT n d),db (numB n d)])
 | 92,[.con (.string s)]=>some (db (nameB s))
 | 93,[_,.con (.int .i64 a),.con (.int .i64 b)]=>some (db (kdE x a b))
 | 94,[]=>some binD
 | 116,[_,_]=>some (db (x.kids.any fun y=>!sndE y))
 | _,_=>none
theorem f117_of {m:Nat} {y:Ex} (hy:ht y≤m) (h:FnOK Tryz.prog G 49 [exD m y] (db (sndE y))):FnOK Tryz.prog G 117 [exD m y] (db (!sndE y)):=by
 refine FnOK.walk (orc:=orcRt y) (keep:=[]) follows Tryz.func117 rfl Tryz.call117 ?_
 refine of_tr (fun _ _ _ ZK=>(ZK 49 [(ndX m y)] (db (sndE (rdE (ndX m y))))∧((db (!sndE (rdE (ndX m y)))):DV)=(db !sndE y))) (by kernel_rfl) ?_
 show FnOK Tryz.prog G 49 [exD m y] (db (sndE (rdE (exD m y))))∧db (!sndE (rdE (exD m y)))=_
 rw[rdE_eq hy]
 exact⟨h,rfl⟩
theorem f93_of {m:Nat} {x:Ex} (hx:ht x≤m) (hs:Sm x) (hc:∀i,i<x.kids.length→FnOK Tryz.prog G 117 [kidA m x i] (db (!sndE (x.kids.getD i ex0)))) (a b:Int):FnOK Tryz.prog G 93 [exD m x,di a,di b] (db (kdE x a b)):=by
 refine FnOK.walk (orc:=orcRt x) (keep:=[]) follows Tryz.func93 rfl Tryz.call93 ?_
 refine of_tr (fun _ _ _ ZK=>((((x.s.toList==(ByteArray.mk #[]).toList&&Bool.rec false (x.d==0) (x.n==0)&&decide (↑x.kids.length≥a)&&decide (↑x.kids.length≤b))=true)→ZK 116 [(.slc 6 x.kids.length (lay (exG m) x.kids)),(.con (.func (.func 117) ⟨[]⟩ ⟨[]⟩))] (db (x.kids.any fun y=>!sndE y)))∧((db (x.s.toList==(ByteArray.mk #[]).toList&&Bool.rec false (x.d==0) (x.n==0)&&decide (↑x.kids.length≥a)&&decide (↑x.kids.length≤b)&&!x.kids.any fun y=>!sndE y)):DV)=(db (kdE x a b)))) (by kernel_rfl) ?_
 refine⟨fun _=>f116 (fun y=>!sndE y) m x hx hs hc,?_⟩
 refine congrArg db ?_
 rw[sndL_any,emp_beq]
 unfold kdE kdK
 have e:(Bool.rec false (x.d==0) (x.n==0):Bool)=(x.n==0&&x.d==0):=by cases (x.n==0)<;>rfl
 rw[e,Bool.not_not]
theorem imp_eq {a b:DV} (h:b=a):DV.imp a b:=fun _ _ hv=>h▸hv
theorem opS_zero {k:Int} (h:opB k=false):opS k=.empty:=by
 have h:=of_decide_eq_false h
 have q:∀j:Int,(6≤j∧j≤9∨12≤j∧j≤17∨19≤j∧j≤20)→decide (k=j)=false:=fun j hj=>decide_eq_false fun e=>h (e▸hj)
 unfold opS
 simp only[q 20 (by omega),q 19 (by omega),q 17 (by omega),q 16 (by omega),q 15 (by omega),q 14 (by omega),q 13 (by omega),q 12 (by omega),q 9 (by omega),q 8 (by omega),q 7 (by omega),q 6 (by omega),cond_false]
theorem f49 (hT:Tab G) (m:Nat):∀(x:Ex),ht x≤m→Sm x→FnOK Tryz.prog G 49 [exD m x] (db (sndE x)):=by
 induction m using Nat.strongRecOn with
 | _ m ih=>
 intro x hx hs
 have hc:∀i,i<x.kids.length→FnOK Tryz.prog G 117 [kidA m x i] (db (!sndE (x.kids.getD i ex0))):=fun i hi=>
  kidOK (Q:=fun d=>FnOK Tryz.prog G 117 [d] _) hx hi fun m' h1 h2=>f117_of h2 (ih m' h1 _ h2 (hs.kid hi))
 have h120:=fun a b=>f93_of hx hs hc a b
 refine FnOK.walk (orc:=orcRt x) (keep:=[]) follows Tryz.func49 rfl Tryz.call49 ?_
 refine of_tr (fun _ _ _ ZK=>(fun Za Zb Zc=>((((x.k==1)=true)→(ZK 91 [(.agg [(di x.n),(di x.d)])] (.tup [(ds (numT x.n x.d)),(db (numB x.n x.d))])∧((db (numB x.n x.d&&x.s.toList==(ByteArray.mk #[]).toList&&(↑x.kids.length:Int)==0)):DV)=(db (sndE x))))∧(((x.k==1)=false)→((((x.k==2)=true)→(ZK 92 [(ds x.s)] (db (nameB x.s))∧((db (nameB x.s&&Bool.rec false (x.d==0) (x.n==0)&&(↑x.kids.length:Int)==0)):DV)=(db (sndE x))))∧(((x.k==2)=false)→((((x.k==3)=true)→((((x.k==3)=true)→(ZK 93 [(ndX m x),(di 0),(di 0)] (db (kdE x 0 0))∧((db (kdE x 0 0)):DV)=(db (sndE x))))∧(((x.k==3)=false)→((((x.k==5)=true)→((((x.k==5)=true)→(ZK 93 [(ndX m x),(di 1),(di 1)] (db (kdE x 1 1))∧((db (kdE x 1 1)):DV)=(db (sndE x))))∧(((x.k==5)=false)→((((x.k==10)=true)→((((x.k==10)=true)→(ZK 93 [(ndX m x),(di 1),(di (↑x.kids.length))] (db (kdE x 1 ↑x.kids.length))∧Zc=(db (sndE x))))∧(((x.k==10)=false)→((ZK 94 [] (.mp (some .i64) (fun v=>DV.con (Value.string (opS (keyI v)))) (fun v=>opB (keyI v)))∧(((opB Za)=false)→(Zb.imp (DV.con (Value.string (opS Za))))))∧(((opB Za)=true)→ZK 93 [(ndX m x),(di 2),(di 2)] (db (kdE x 2 2)))∧((db (opB Za&&kdE x 2 2)):DV)=(db (sndE x))))))∧(((x.k==10)=false)→((((x.k==11)=true)→(ZK 93 [(ndX m x),(di 1),(di (↑x.kids.length))] (db (kdE x 1 ↑x.kids.length))∧Zc=(db (sndE x))))∧(((x.k==11)=false)→((ZK 94 [] (.mp (some .i64) (fun v=>DV.con (Value.string (opS (keyI v)))) (fun v=>opB (keyI v)))∧(((opB Za)=false)→(Zb.imp (DV.con (Value.string (opS Za))))))∧(((opB Za)=true)→ZK 93 [(ndX m x),(di 2),(di 2)] (db (kdE x 2 2)))∧((db (opB Za&&kdE x 2 2)):DV)=(db (sndE x))))))))))∧(((x.k==5)=false)→((((x.k==18)=true)→(ZK 93 [(ndX m x),(di 1),(di 1)] (db (kdE x 1 1))∧((db (kdE x 1 1)):DV)=(db (sndE x))))∧(((x.k==18)=false)→((((x.k==10)=true)→((((x.k==10)=true)→(ZK 93 [(ndX m x),(di 1),(di (↑x.kids.length))] (db (kdE x 1 ↑x.kids.length))∧Zc=(db (sndE x))))∧(((x.k==10)=false)→((ZK 94 [] (.mp (some .i64) (fun v=>DV.con (Value.string (opS (keyI v)))) (fun v=>opB (keyI v)))∧(((opB Za)=false)→(Zb.imp (DV.con (Value.string (opS Za))))))∧(((opB Za)=true)→ZK 93 [(ndX m x),(di 2),(di 2)] (db (kdE x 2 2)))∧((db (opB Za&&kdE x 2 2)):DV)=(db (sndE x))))))∧(((x.k==10)=false)→((((x.k==11)=true)→(ZK 93 [(ndX m x),(di 1),(di (↑x.kids.length))] (db (kdE x 1 ↑x.kids.length))∧Zc=(db (sndE x))))∧(((x.k==11)=false)→((ZK 94 [] (.mp (some .i64) (fun v=>DV.con (Value.string (opS (keyI v)))) (fun v=>opB (keyI v)))∧(((opB Za)=false)→(Zb.imp (DV.con (Value.string (opS Za))))))∧(((opB Za)=true)→ZK 93 [(ndX m x),(di 2),(di 2)] (db (kdE x 2 2)))∧((db (opB Za&&kdE x 2 2)):DV)=(db (sndE x))))))))))))))∧(((x.k==3)=false)→((((x.k==4)=true)→(ZK 93 [(ndX m x),(di 0),(di 0)] (db (kdE x 0 0))∧((db (kdE x 0 0)):DV)=(db (sndE x))))∧(((x.k==4)=false)→((((x.k==5)=true)→((((x.k==5)=true)→(ZK 93 [(ndX m x),(di 1),(di 1)] (db (kdE x 1 1))∧((db (kdE x 1 1)):DV)=(db (sndE x))))∧(((x.k==5)=false)→((((x.k==10)=true)→((((x.k==10)=true)→(ZK 93 [(ndX m x),(di 1),(di (↑x.kids.length))] (db (kdE x 1 ↑x.kids.length))∧Zc=(db (sndE x))))∧(((x.k==10)=false)→((ZK 94 [] (.mp (some .i64) (fun v=>DV.con (Value.string (opS (keyI v)))) (fun v=>opB (keyI v)))∧(((opB Za)=false)→(Zb.imp (DV.con (Value.string (opS Za))))))∧(((opB Za)=true)→ZK 93 [(ndX m x),(di 2),(di 2)] (db (kdE x 2 2)))∧((db (opB Za&&kdE x 2 2)):DV)=(db (sndE x))))))∧(((x.k==10)=false)→((((x.k==11)=true)→(ZK 93 [(ndX m x),(di 1),(di (↑x.kids.length))] (db (kdE x 1 ↑x.kids.length))∧Zc=(db (sndE x))))∧(((x.k==11)=false)→((ZK 94 [] (.mp (some .i64) (fun v=>DV.con (Value.string (opS (keyI v)))) (fun v=>opB (keyI v)))∧(((opB Za)=false)→(Zb.imp (DV.con (Value.string (opS Za))))))∧(((opB Za)=true)→ZK 93 [(ndX m x),(di 2),(di 2)] (db (kdE x 2 2)))∧((db (opB Za&&kdE x 2 2)):DV)=(db (sndE x))))))))))∧(((x.k==5)=false)→((((x.k==18)=true)→(ZK 93 [(ndX m x),(di 1),(di 1)] (db (kdE x 1 1))∧((db (kdE x 1 1)):DV)=(db (sndE x))))∧(((x.k==18)=false)→((((x.k==10)=true)→((((x.k==10)=true)→(ZK 93 [(ndX m x),(di 1),(di (↑x.kids.length))] (db (kdE x 1 ↑x.kids.length))∧Zc=(db (sndE x))))∧(((x.k==10)=false)→((ZK 94 [] (.mp (some .i64) (fun v=>DV.con (Value.string (opS (keyI v)))) (fun v=>opB (keyI v)))∧(((opB Za)=false)→(Zb.imp (DV.con (Value.string (opS Za))))))∧(((opB Za)=true)→ZK 93 [(ndX m x),(di 2),(di 2)] (db (kdE x 2 2)))∧((db (opB Za&&kdE x 2 2)):DV)=(db (sndE x))))))∧(((x.k==10)=false)→((((x.k==11)=true)→(ZK 93 [(ndX m x),(di 1),(di (↑x.kids.length))] (db (kdE x 1 ↑x.kids.length))∧Zc=(db (sndE x))))∧(((x.k==11)=false)→((ZK 94 [] (.mp (some .i64) (fun v=>DV.con (Value.string (opS (keyI v)))) (fun v=>opB (keyI v)))∧(((opB Za)=false)→(Zb.imp (DV.con (Value.string (opS Za))))))∧(((opB Za)=true)→ZK 93 [(ndX m x),(di 2),(di 2)] (db (kdE x 2 2)))∧((db (opB Za&&kdE x 2 2)):DV)=(db (sndE x)))))))))))))))))))) (keyI (Value.int IntKind.i64 x.k)) (ds (ByteArray.mk #[])) ((db (kdE x 1 ↑x.kids.length)):DV)) (by kernel_rfl) ?_
 try dsimp only
 have hkz:(Bool.rec false (x.d==0) (x.n==0):Bool)=(x.n==0&&x.d==0):=by cases (x.n==0)<;>rfl
 have hlen:((x.kids.length:Int)==0)=decide (x.kids.length=0):=by
  rw[Bool.eq_iff_iff,beq_iff_eq,decide_eq_true_eq];omega
 have hs2:=hs.len.2
 have e:∀k,x.k=k→sndE x=sndK k x.n x.d x.s x.kids.length (sndL x.kids):=fun k hk=>by rw[←hk];exact sndE_eq x
 have e':=sndE_eq x
 have hke:(x.s.toList==ByteArray.toList { data:=#[] })=decide (x.s.size=0):=emp_beq _
 repeat' (first|(with_reducible refine And.intro ?_ ?_)|(with_reducible intro _))
 all_goals (try simp only[beq_iff_eq,beq_eq_false_iff_ne,ne_eq] at *)
 all_goals first
  | exact f91 hT _ _
  | exact f92 _ (by omega)
  | exact h120 _ _
  | exact f94
  | contradiction
  | exact imp_eq (congrArg ds (opS_zero (by assumption)))
  | (refine congrArg db ?_;rw[e 1 (by assumption),hke,hlen];rfl)
  | (refine congrArg db ?_;rw[e 2 (by assumption),hkz,hlen];rfl)
  | (refine congrArg db ?_;rw[e 3 (by assumption)];rfl)
  | (refine congrArg db ?_;rw[e 4 (by assumption)];rfl)
  | (refine congrArg db ?_;rw[e 5 (by assumption)];rfl)
  | (refine congrArg db ?_;rw[e 18 (by assumption)];rfl)
  | (refine congrArg db ?_;rw[e 10 (by assumption)];rfl)
  | (refine congrArg db ?_;rw[e 11 (by assumption)];rfl)
  | (refine congrArg db ?_;rw[e'];unfold sndK;simp only[*,or_self,if_false];rfl)
end Go.Proofs
/-
 DERIVED: THE SHELF's CONTRACTS AT THIS DUMP,IN PLAIN WORDS (tools/lay-plain.mjs out of 'TryzShelf.lean',which tools/lay-shelf.mjs wrote): THE SAME DECLARATIONS UNDER THE SAME NAMES: 'import','namespace','open','def','theorem' AND NOTHING ELSE: no command of the shelf's: FOR A HAND-IN. Each laying: the table of numbers ('.._ren') and one theorem,a field a fact of the dump's own or the kernel's comparison;each contract: ONE APPLICATION.
-/
namespace Go.Proofs
open Go.Shelf
def Tryz.lays156_ren:Go.Shelf.Ren:=⟨fun|156=>96|165=>118|166=>52|169=>55|240=>99|241=>134|276=>121|277=>141|n=>n,fun|31=>43|9=>9|3=>3|4=>4|0=>0|20=>20|72=>83|76=>86|70=>81|37=>51|75=>85|127=>121|164=>133|5=>5|80=>90|n=>n,fun|n=>n⟩
theorem Tryz.lays156:Go.Proofs.Lays.n156 Tryz.prog Tryz.lays156_ren:={
 mixed:=by kernel_rfl
 f156:=Tryz.func96.trans (congrArg some (by kernel_rfl))
 f165:=Tryz.func118.trans (congrArg some (by kernel_rfl))
 f166:=Tryz.func52.trans (congrArg some (by kernel_rfl))
 f169:=Tryz.func55.trans (congrArg some (by kernel_rfl))
 f240:=Tryz.func99.trans (congrArg some (by kernel_rfl))
 f241:=Tryz.func134.trans (congrArg some (by kernel_rfl))
 f276:=Tryz.func121.trans (congrArg some (by kernel_rfl))
 f277:=Tryz.func141.trans (congrArg some (by kernel_rfl))
 t0:=Tryz.underlying0
 a0:=Tryz.isAgg0
 z0:=Tryz.sizeOf0
 v0:=Tryz.zeroValue0
 t3:=Tryz.underlying3
 a3:=Tryz.isAgg3
 z3:=Tryz.sizeOf3
 v3:=Tryz.zeroValue3
 t4:=Tryz.underlying4
 a4:=Tryz.isAgg4
 z4:=Tryz.sizeOf4
 v4:=Tryz.zeroValue4
 t9:=Tryz.underlying9
 a9:=Tryz.isAgg9
 z9:=Tryz.sizeOf9
 v9:=Tryz.zeroValue9
 t20:=Tryz.underlying20
 a20:=Tryz.isAgg20
 z20:=Tryz.sizeOf20
 v20:=Tryz.zeroValue20
 t31:=Tryz.underlying43
 a31:=Tryz.isAgg43
 z31:=Tryz.sizeOf43
 v31:=Tryz.zeroValue43
 t37:=Tryz.underlying51
 a37:=Tryz.isAgg51
 z37:=Tryz.sizeOf51
 v37:=Tryz.zeroValue51
 t70:=Tryz.underlying81
 a70:=Tryz.isAgg81
 z70:=Tryz.sizeOf81
 v70:=Tryz.zeroValue81
 t72:=Tryz.underlying83
 a72:=Tryz.isAgg83
 z72:=Tryz.sizeOf83
 v72:=Tryz.zeroValue83
 t75:=Tryz.underlying85
 a75:=Tryz.isAgg85
 z75:=Tryz.sizeOf85
 v75:=Tryz.zeroValue85
 t76:=Tryz.underlying86
 a76:=Tryz.isAgg86
 z76:=Tryz.sizeOf86
 v76:=Tryz.zeroValue86
 t127:=Tryz.underlying121
 a127:=Tryz.isAgg121
 z127:=Tryz.sizeOf121
 v127:=Tryz.zeroValue121
 t164:=Tryz.underlying133
 a164:=Tryz.isAgg133
 z164:=Tryz.sizeOf133
 v164:=Tryz.zeroValue133 }
theorem Tryz.Builder_Extra_156:Builder.Extra Tryz.prog Tryz.lays156_ren:={
 sizeBuilder:=by kernel_rfl
 liesBuilder:=by kernel_rfl
 t5:=Tryz.underlying5
 a5:=Tryz.isAgg5
 z5:=Tryz.sizeOf5
 v5:=Tryz.zeroValue5
 infoByte:=by kernel_rfl
 cellsByte:=by kernel_rfl
 sizeByte:=by kernel_rfl
 neB5:=by decide }
open Go.RowKit in
theorem Tryz.strings_Join_none (a:Option Addr) (c:Nat) (sep:ByteArray) (w:World) :
  Calls Tryz.prog 96 #[.slice a 0 c,.string sep] w fun e w'=>e=.returned (.string ⟨#[]⟩)∧w'=w:=Any.strings_Join_none Tryz.lays156 Tryz.Builder_Extra_156 a c sep w
open Go.RowKit in
theorem Tryz.strings_Join (bk o c:Nat) (xs:List ByteArray) (sep:ByteArray) (w:World) (hcells:∀(j:Nat) x,xs[j]?=some x→w.cell? ⟨bk,o+j,none⟩=some (.string x)) (hbk:bk<w.heap.size) (hN:xs.length≤140737488355328) (hcap:xs.length≤c) (hlen:(Lib.join (xs.map (·.data.toList)) sep.data.toList).length≤140737488355328) :
  Calls Tryz.prog 96 #[.slice (some ⟨bk,o,none⟩) xs.length c,.string sep] w fun e w'=>e=.returned (.string ⟨(Lib.join (xs.map (·.data.toList)) sep.data.toList).toArray⟩)∧Below w.heap.size w w':=Any.strings_Join Tryz.lays156 Tryz.Builder_Extra_156 bk o c xs sep w hcells hbk hN hcap hlen
set_option maxHeartbeats 2000000
set_option maxRecDepth 100000
open Go Go.Ab Go.RowKit
variable {G:IH}
theorem nil_slc {k:IH} {sz:Nat} {f:Nat→DV} {v:Value} (h:DV.rel k (.con (.slice none 0 0)) v):DV.rel k (.slc sz 0 f) v:=by
 have h:v=.slice none 0 0:=h
 exact⟨none,0,h,Nat.le_refl _,.inl rfl⟩
def joinS (l:List ByteArray) (sep:ByteArray):ByteArray:=⟨(Lib.join (l.map (·.data.toList)) sep.data.toList).toArray⟩
theorem f96 (l:List ByteArray) (sep:ByteArray) (hN:l.length≤140737488355328) (hlen:(Lib.join (l.map (·.data.toList)) sep.data.toList).length≤140737488355328):FnOK Tryz.prog G 96 [.slc 1 l.length (stF l),ds sep] (ds (joinS l sep)):=by
 refine⟨Tryz.call96,fun w k us hG hw hvs=>?_⟩
 obtain ⟨v,us',rfl,hv,v2,us2,rfl,hv2,h0⟩:=hvs
 have h0:us2=[]:=h0
 have hv2:v2=.string sep:=hv2
 subst h0;subst hv2
 obtain ⟨p,cap,rfl,hc,hrest⟩:=hv
 have key:∀{e:Ending} {w':World},e=.returned (.string ⟨(Lib.join (l.map (·.data.toList)) sep.data.toList).toArray⟩)→Below w.heap.size w w'→
   ∃v h',e=.returned v∧DV.rel h' (ds (joinS l sep)) v∧k.le h'∧h'.holds w'∧Kept (fun _=>False) w w'∧∀b,b<w.heap.size→(∀o,h'.cell b o=k.cell b o)∧h'.obj b=k.obj b:=fun he hb=>
  ⟨_,k,he,rfl,IH.le.refl _,holds_below hw hb,⟨hb.os,hb.tape,hb.output,hb.size,fun i hi _=>hb.block i hi⟩,fun _ _=>⟨fun _=>rfl,rfl⟩⟩
 rcases Nat.eq_zero_or_pos l.length with hz|hz
 ·have e:l=[]:=List.eq_nil_of_length_eq_zero hz
  subst e
  exact(Tryz.strings_Join_none p cap sep w).mono fun e w' ⟨he,hb⟩=>key he (hb▸Below.refl _ _)
 ·rcases hrest with h|⟨b,off,rfl,hel⟩
  ·omega
  have hcell:∀(j:Nat) x,l[j]?=some x→w.cell? ⟨b,off+j,none⟩=some (.string x):=by
   intro j x hx
   have hj:=(List.getElem?_eq_some_iff.1 hx).1
   obtain ⟨v,hr,hs,hc⟩:=hel j hj
   have e:stF l j=ds x:=by unfold stF;rw[List.getD,hx];rfl
   rw[e] at hr
   have hr:v=.string x:=hr
   subst hr
   have:=hc 0 (by decide)
   have h1:=hw.1 b (off+j*1+0) (.string x) this
   simpa using h1
  have hb:b<w.heap.size:=by
   have h1:=hcell 0 _ (gEe hz)
   simp only[World.cell?] at h1
   split at h1
   ·rename_i hh;exact lt_of_heap hh
   ·cases h1
  exact(Tryz.strings_Join b off cap l sep w hcell hb hN hc hlen).mono fun e w' ⟨he,hb⟩=>key he hb
/-! Operators. -/
theorem rel_slc_imp {k:IH} {sz n:Nat} {f g:Nat→DV} (hfg:∀i,i<n→∀v,DV.rel k (f i) v→DV.rel k (g i) v) {v:Value} (hr:DV.rel k (.slc sz n f) v):DV.rel k (.slc sz n g) v:=by
 obtain ⟨p,cap,e,hc,r⟩:=hr
 exact⟨p,cap,e,hc,r.imp id fun ⟨b,off,hp,r⟩=>⟨b,off,hp,fun i hi=>let ⟨v,hv,hs,hj⟩:=r i hi;⟨v,hfg i hi v hv,hs,hj⟩⟩⟩
def lvL:List (List ByteArray):=[[⟨#[111,114]⟩],[⟨#[97,110,100]⟩],[],[⟨#[61,61]⟩,⟨#[33,61]⟩,⟨#[60]⟩,⟨#[60,61]⟩,⟨#[62]⟩,⟨#[62,61]⟩],[⟨#[43]⟩,⟨#[45]⟩],[⟨#[42]⟩,⟨#[47]⟩]]
def lvF (i:Nat):DV:=.slc 1 (lvL.getD i []).length (stF (lvL.getD i []))
abbrev lvD:DV:=.slc 1 6 lvF
def st1 (l:List ByteArray):DV:=.slc 1 l.length (elemF false 1 (l.map fun s=>ds s))
theorem st1_rel {l:List ByteArray} {k:IH} {v:Value} (h:DV.rel k (st1 l) v):DV.rel k (.slc 1 l.length (stF l)) v:=by
 refine DV.rel_slc_congr (fun i hi=>?_) h
 unfold elemF stF
 simp[List.getD,gEe hi]
def lvR (i:Nat):DV:=elemF false 1 [st1 [⟨#[111,114]⟩],st1 [⟨#[97,110,100]⟩],.con (.slice none 0 0),st1 [⟨#[61,61]⟩,⟨#[33,61]⟩,⟨#[60]⟩,⟨#[60,61]⟩,⟨#[62]⟩,⟨#[62,61]⟩],st1 [⟨#[43]⟩,⟨#[45]⟩],st1 [⟨#[42]⟩,⟨#[47]⟩]] i
theorem f87:FnOK Tryz.prog G 87 [] lvD:=by
 refine FnOKres (r:=.slc 1 6 lvR) (FnOK.walk (orc:=({ d:=fun _ _=>none }:Orc)) (keep:=[]) follows Tryz.func87 rfl Tryz.call87 ?_) fun k v hv=>?_
 ·refine of_tr (fun _ _ _ _=>(((.slc 1 6 (elemF false 1 [(.slc 1 1 (elemF false 1 [(ds (ByteArray.mk #[111,114]))])),(.slc 1 1 (elemF false 1 [(ds (ByteArray.mk #[97,110,100]))])),(.con (.slice none 0 0)),(.slc 1 6 (elemF false 1 [(ds (ByteArray.mk #[61,61])),(ds (ByteArray.mk #[33,61])),(ds (ByteArray.mk #[60])),(ds (ByteArray.mk #[60,61])),(ds (ByteArray.mk #[62])),(ds (ByteArray.mk #[62,61]))])),(.slc 1 2 (elemF false 1 [(ds (ByteArray.mk #[43])),(ds (ByteArray.mk #[45]))])),(.slc 1 2 (elemF false 1 [(ds (ByteArray.mk #[42])),(ds (ByteArray.mk #[47]))]))])):DV)=(.slc 1 6 lvR))) (by kernel_rfl) ?_
  rfl
 ·refine rel_slc_imp (fun i hi v hv=>?_) hv
  rcases i with _|_|_|_|_|_|i
  ·exact st1_rel hv
  ·exact st1_rel hv
  ·exact nil_slc hv
  ·exact st1_rel hv
  ·exact st1_rel hv
  ·exact st1_rel hv
  ·omega
abbrev bn:AV:=.box 1000000 0
def lvP (s:ByteArray) (l:List ByteArray):Bool:=anyB l s
def lvX (s:ByteArray):Int:=if lvL.any (lvP s) then ((lvL.takeWhile fun l=>!lvP s l).length:Int) else -1
def orcL1 (r:Bool):Oracle:=fun f a=>match f,a with
 | 111,[_,_]=>some (db r)
 | _,_=>none
def orcLd:Oracle:=fun f a=>match f,a with
 | 94,[]=>some binD
 | 87,[]=>some lvD
 | _,_=>none
theorem f120 (l:List ByteArray) (s:ByteArray) (hl:l.length≤1000000):FnM Tryz.prog G 120 [.d (.slc 1 l.length (stF l)),bn] [(1000000,[vs s])] (.d (db (lvP s l))) [(1000000,[vs s])]:=by
 refine FnM.walk (orc:=orcL1 (anyB l s)) (keep:=[]) [] follows (by kernel_rfl) Tryz.func120 rfl Tryz.call120 ?_
 refine of_tr (fun _ _ _ ZK=>(ZK 111 [(.slc 1 l.length (stF l)),(ds s)] (db (anyB l s))∧((vb (anyB l s)):AV)=(vb (lvP s l))∧((some [(vs s)]):(Option (List AV)))=(some [(vs s)])∧True)) (by kernel_rfl) ?_
 exact⟨f111 l s hl,rfl,rfl,trivial⟩
noncomputable def mL (s:ByteArray) (i:Nat) (f:FuncId) (a:List AV) (pre:List (Nat×List AV)):Option (AV×List (Nat×List AV)):=match f with
 | 120=>some (.d (db (lvP s (lvL.getD i []))),pre)
 | 119=>some (.d (di (lvX s)),pre)
 | _=>none
noncomputable def orcL (s:ByteArray) (i:Nat):Orc:={ d:=orcLd,m:=mL s i }
noncomputable def S159 (s:ByteArray) (k:Nat):AS:=⟨regs Tryz.f119.ntmps [(0,.d lvD),(1,.clo (.func 120) [] [bn]),(7,vi (6:Nat)),(8,vi k)],[(1000000,[vs s])]⟩
theorem lv_hit {s:ByteArray} {k:Nat} (hk:k<6) (hno:∀i,i<k→lvP s (lvL.getD i [])=false) (h:lvP s (lvL.getD k [])=true):lvX s=k:=by
 have h1:lvL.any (lvP s)=true:=List.any_eq_true.2 ⟨lvL.getD k [],by rw[List.getD,gEe (show k<lvL.length from hk)];exact List.getElem_mem _,h⟩
 unfold lvX
 rw[if_pos h1]
 have:∀(l:List (List ByteArray)) (k:Nat) (hk:k<l.length),(∀i,i<k→lvP s (l.getD i [])=false)→lvP s (l.getD k [])=true→(l.takeWhile fun x=>!lvP s x).length=k:=by
  intro l
  induction l with
  | nil=>intro k hk;simp at hk
  | cons x l ih=>
   intro k hk h2 h3
   cases k with
   | zero=>
    have h3:lvP s x=true:=h3
    rw[List.takeWhile_cons,h3];simp
   | succ k=>
    have h4:lvP s x=false:=h2 0 (by omega)
    rw[List.takeWhile_cons]
    simp only[h4,Bool.not_false,if_true,List.length_cons]
    rw[ih k (by simpa using hk) (fun i h5=>h2 (i+1) (by omega)) h3]
 rw[this lvL k hk hno h]
theorem lv_none {s:ByteArray} (hno:∀i,i<6→lvP s (lvL.getD i [])=false):lvX s = -1:=by
 have h1:lvL.any (lvP s)=false:=by
  rw[Bool.eq_false_iff]
  intro h
  obtain ⟨x,hx,hd⟩:=List.any_eq_true.1 h
  obtain ⟨i,hi,rfl⟩:=List.getElem_of_mem hx
  have:=hno i hi
  rw[List.getD,gEe hi] at this
  rw[show lvP s lvL[i]=false from this] at hd
  cases hd
 unfold lvX
 rw[h1];rfl
theorem f119 (s:ByteArray):FnM Tryz.prog G 119 [.d lvD,.clo (.func 120) [] [bn]] [(1000000,[vs s])] (.d (di (lvX s))) [(1000000,[vs s])]:=by
 refine FnM.walk (orc:=orcL s 0) (keep:=[]) [] follows (by kernel_rfl) Tryz.func119 rfl Tryz.call119 ?_
 refine of_tr (fun ZT ZW ZQ _=>ZW [cd Tryz.f119 [1,0,1,0],(.blk 0),cd Tryz.f119 [1,1]] (stS ZT []) ZQ) (by kernel_rfl) ?_
 refine AWP.loop (c:=cAt (bodyOf Tryz.f119) [1,0,1,0,0]) (by kernel_rfl) (S159 s) (fun k=>k≤6∧∀i,i<k→lvP s (lvL.getD i [])=false) (fun k=>6-k) 0 ?_ ⟨Nat.zero_le _,fun i hi=>by omega⟩ ?_
 ·exact AS.leA (by kernel_rfl)
 ·rintro k ⟨hk,hkd⟩
  refine walk (orc:=orcL s k) (keep:=[]) (cuts:=[]) (n:=1000) follows ?_
  refine of_rd (fun ZT ZW ZQ _ ZA _=>((((decide ((↑k:Int)<6))=true)→((((0≤(↑k:Int))∧((↑k:Int)<↑6))∧FnM Tryz.prog G 120 [(.d (.slc 1 (lvL.getD (↑k:Int).toNat []).length (stF (lvL.getD (↑k:Int).toNat [])))),(.box 1000000 0)] [(1000000,[(vs s)])] (vb (lvP s (lvL.getD k []))) [(1000000,[(vs s)])])∧(((lvP s (lvL.getD k []))=true)→(((vi (↑k)):AV)=(vi (lvX s))∧((some [(vs s)]):(Option (List AV)))=(some [(vs s)])∧True))∧(((lvP s (lvL.getD k []))=false)→((I64 (↑k+1))∧(ZA (stS ZT [0,1]))))))∧(((decide ((↑k:Int)<6))=false)→ZW [cd Tryz.f119 [1,1]] (stS ZT [1]) ZQ))) (by kernel_rfl) ?_
  simp only[Int.toNat_natCast]
  refine⟨fun h=>?_,fun h=>?_⟩
  ·have hk2:k<6:=by have:=of_decide_eq_true h;omega
   have hl:(lvL.getD k []).length≤1000000:=by
    rcases k with _|_|_|_|_|_|k<;>first|decide|omega
   refine⟨⟨⟨by omega,by omega⟩,f120 _ s hl⟩,fun h2=>?_,fun h2=>⟨⟨by omega,by omega⟩,Again.mk (k+1) ?_ ⟨hk2,fun i hi=>?_⟩ (by omega)⟩⟩
   ·rw[lv_hit hk2 hkd h2]
    first|exact⟨rfl,rfl,trivial⟩|exact⟨rfl,trivial⟩|simp
   ·exact AS.leA (by kernel_rfl)
   ·rcases Nat.lt_or_ge i k with h1|h1
    ·exact hkd i h1
    ·obtain rfl:i=k:=by omega
     exact h2
  ·simp only[decide_eq_false_iff_not] at h
   refine walk (orc:=orcL s k) (keep:=[]) (cuts:=[]) (n:=1000) follows ?_
   refine of_tr (fun _ _ _ _=>(((vi (-1)):AV)=(vi (lvX s))∧((some [(vs s)]):(Option (List AV)))=(some [(vs s)])∧True)) (by kernel_rfl) ?_
   rw[lv_none (fun i hi=>hkd i (by omega))]
   first|exact⟨rfl,rfl,trivial⟩|exact⟨rfl,trivial⟩|simp
def lvI (k:Int):Int:=if k=18 then 2 else if k=5 then 6 else if opB k then lvX (opS k) else 7
theorem f97 (m:Nat) (x:Ex):FnOK Tryz.prog G 97 [exD m x] (di (lvI x.k)):=by
 refine FnOK.walk (orc:=orcL (opS x.k) 0) (keep:=[]) follows Tryz.func97 rfl Tryz.call97 ?_
 refine of_tr (fun _ _ _ ZK=>(fun Za=>((((x.k==18)=true)→(((di 2):DV)=(di (lvI x.k))))∧(((x.k==18)=false)→((((x.k==5)=true)→(((di 6):DV)=(di (lvI x.k))))∧(((x.k==5)=false)→((ZK 94 [] (.mp (some .i64) (fun v=>DV.con (Value.string (opS (keyI v)))) (fun v=>opB (keyI v)))∧(((opB Za)=false)→((ds (ByteArray.mk #[])).imp (DV.con (Value.string (opS Za))))))∧(((opB Za)=true)→((ZK 87 [] (.slc 1 6 lvF)∧FnM Tryz.prog G 119 [(.d (.slc 1 6 lvF)),(.clo (.func 120) [] [(.box 1000000 0)])] [(1000000,[(vs (opS Za))])] (vi (lvX (opS x.k))) [(1000000,[(vs (opS Za))])])∧((di (lvX (opS x.k))):DV)=(di (lvI x.k))))∧(((opB Za)=false)→(((di 7):DV)=(di (lvI x.k)))))))))) (keyI (Value.int IntKind.i64 x.k))) (by kernel_rfl) ?_
 unfold lvI
 repeat' (first|(with_reducible refine And.intro ?_ ?_)|(with_reducible intro _))
 all_goals (try simp only[beq_iff_eq,beq_eq_false_iff_ne,ne_eq] at *)
 all_goals first
  | exact f94
  | exact f87
  | exact f119 _
  | contradiction
  | exact imp_eq (congrArg ds (opS_zero (by assumption)))
  | (refine congrArg di ?_;simp[*];done)
  | (refine congrArg di ?_;rw[if_neg (by assumption),if_neg (by assumption),if_pos (by assumption)])
  | (refine congrArg di ?_;rw[if_neg (by assumption),if_neg (by assumption),if_neg (by rw[show opB x.k=false by assumption];decide)])
set_option maxHeartbeats 4000000
/-! The text of an expression. -/
def wth (least:Int) (p:Int×ByteArray):ByteArray:=if p.1<least then (⟨#[40]⟩:ByteArray)++p.2++(⟨#[41]⟩:ByteArray) else p.2
def g0 (l:List (Int×ByteArray)) (i:Nat):Int×ByteArray:=l.getD i (0,.empty)
def fstL (k:Int):Int:=if lvI k=3 then lvI k+1 else lvI k
def comS:ByteArray:=⟨#[44,32]⟩
def fmtK (k:Int) (s:ByteArray) (n d:Int) (fl:List (Int×ByteArray)):ByteArray:=
 if k=1 then numT n d else if k=2 then s else if k=3 then ⟨#[116,114,117,101]⟩ else if k=4 then ⟨#[102,97,108,115,101]⟩
 else if k=5 then (⟨#[45]⟩:ByteArray)++wth 6 (g0 fl 0) else if k=18 then (⟨#[110,111,116,32]⟩:ByteArray)++wth 2 (g0 fl 0)
 else if k=10 then (⟨#[109,105,110,40]⟩:ByteArray)++joinS (fl.map (·.2)) comS++(⟨#[41]⟩:ByteArray)
 else if k=11 then (⟨#[109,97,120,40]⟩:ByteArray)++joinS (fl.map (·.2)) comS++(⟨#[41]⟩:ByteArray)
 else wth (fstL k) (g0 fl 0)++(⟨#[32]⟩:ByteArray)++opS k++(⟨#[32]⟩:ByteArray)++wth (lvI k+1) (g0 fl 1)
mutual
def fmtE:Ex→ByteArray
 | .mk k s n d _ l=>fmtK k s n d (fmtL l)
def fmtL:List Ex→List (Int×ByteArray)
 | []=>[]
 | x :: l=>(lvI x.k,fmtE x) :: fmtL l
end
theorem fmtE_eq (x:Ex):fmtE x=fmtK x.k x.s x.n x.d (fmtL x.kids):=by cases x;simp only[fmtE,Ex.k,Ex.s,Ex.n,Ex.d,Ex.kids]
theorem fmtL_map:∀l:List Ex,fmtL l=l.map fun y=>(lvI y.k,fmtE y)
 | []=>rfl
 | x :: l=>by simp only[fmtL,List.map_cons,fmtL_map l]
theorem g0_kid {l:List Ex} {i:Nat} (hi:i<l.length):g0 (fmtL l) i=(lvI (l.getD i ex0).k,fmtE (l.getD i ex0)):=by
 unfold g0
 rw[fmtL_map,List.getD,List.getD,List.getElem?_map,gEe hi];rfl
def totL:List (Int×ByteArray)→Nat
 | []=>0
 | p :: l=>p.2.size+4+totL l
theorem wth_size (v:Int) (p:Int×ByteArray):(wth v p).size≤p.2.size+2:=by
 unfold wth
 split
 ·rw[ByteArray.size_append,ByteArray.size_append]
  show 1+p.2.size+1≤_
  omega
 ·omega
theorem tot_get:∀(l:List (Int×ByteArray)),(g0 l 0).2.size+(g0 l 1).2.size≤totL l
 | []=>Nat.zero_le _
 | [p]=>by show p.2.size+0≤_;simp only[totL];omega
 | p :: q :: l=>by show p.2.size+q.2.size≤_;simp only[totL];omega
theorem tot_get0 (l:List (Int×ByteArray)):(g0 l 0).2.size≤totL l:=by have:=tot_get l;omega
theorem join_len:∀(l:List ByteArray),(Lib.join (l.map (·.data.toList)) comS.data.toList).length≤(l.map fun s=>s.size+2).sum
 | []=>by simp[Lib.join_nil]
 | [s]=>by
  simp only[List.map_cons,List.map_nil,Lib.join_one,List.sum_cons,List.sum_nil]
  rw[size_list];omega
 | s :: t :: l=>by
  have ih:=join_len (t :: l)
  have e:Lib.join ((s :: t :: l).map (·.data.toList)) comS.data.toList=s.data.toList++(comS.data.toList++Lib.join ((t :: l).map (·.data.toList)) comS.data.toList):=by
   simp[Lib.join,List.intercalate,List.intersperse]
  rw[e,List.length_append,List.length_append,size_list]
  have:comS.data.toList.length=2:=rfl
  simp only[List.map_cons,List.sum_cons] at ih⊢
  omega
theorem joinS_size (l:List (Int×ByteArray)):(joinS (l.map (·.2)) comS).size≤totL l:=by
 have h:=join_len (l.map (·.2))
 have e:∀l:List (Int×ByteArray),((l.map (·.2)).map fun s=>s.size+2).sum≤totL l:=by
  intro l
  induction l with
  | nil=>simp[totL]
  | cons p l ih=>simp only[List.map_cons,List.sum_cons,totL];omega
 have:=e l
 unfold joinS
 show (Array.mk _).size≤_
 simp only[List.size_toArray] at *
 omega
theorem opS_size (k:Int):(opS k).size≤3:=by
 have h:∀(c:Bool) (a b:ByteArray),a.size≤3→b.size≤3→(bif c then a else b).size≤3:=fun c a b h1 h2=>by cases c<;>assumption
 unfold opS
 repeat (refine h _ _ _ (by decide) ?_)
 decide
theorem fmtK_size (k:Int) (s:ByteArray) (n d:Int) (fl:List (Int×ByteArray)) (hs:s.size≤1000):(fmtK k s n d fl).size≤1010+totL fl:=by
 have h1:=sizeN n d
 have t1:=tot_get fl
 have t0:=tot_get0 fl
 have j:=joinS_size fl
 have o:=opS_size k
 have w1:=wth_size 6 (g0 fl 0)
 have w2:=wth_size 2 (g0 fl 0)
 have w3:=wth_size (fstL k) (g0 fl 0)
 have w4:=wth_size (lvI k+1) (g0 fl 1)
 unfold fmtK
 repeat' split
 all_goals (try simp only[ByteArray.size_append])
 ·omega
 ·omega
 ·show 4≤_;omega
 ·show 5≤_;omega
 ·show 1+_≤_;omega
 ·show 4+_≤_;omega
 ·show 4+_+1≤_;omega
 ·show 4+_+1≤_;omega
 ·show _+1+_+1+_≤_;omega
mutual
theorem fmtE_size:∀x:Ex,txE x→(fmtE x).size+4≤1100*nds x
 | .mk k s n d a l,h=>by
  simp only[txE] at h
  have h1:=fmtK_size k s n d (fmtL l) h.1
  have h2:=fmtL_size l h.2
  simp only[fmtE,nds];omega
theorem fmtL_size:∀l:List Ex,txL l→totL (fmtL l)≤1100*ndsL l
 | [],_=>by simp[fmtL,totL]
 | x :: l,h=>by
  simp only[txL] at h
  have h1:=fmtE_size x h.1
  have h2:=fmtL_size l h.2
  simp only[fmtL,totL,ndsL];omega
end
theorem Sm.size {x:Ex} (h:Sm x):(fmtE x).size≤1100000:=by
 have:=fmtE_size x h.tx
 have:=h.nd
 omega
noncomputable def orcFmd (j:ByteArray):Oracle:=fun f a=>match f,a with
 | 91,[fr n d]=>some (.tup [ds (numT n d),db (numB n d)])
 | 95,[e,.con (.int .i64 v)]=>some (ds (wth v (lvI (rdE e).k,fmtE (rdE e))))
 | 50,[e]=>some (ds (fmtE (rdE e)))
 | 97,[e]=>some (di (lvI (rdE e).k))
 | 94,[]=>some binD
 | 96,[_,_]=>some (ds j)
 | _,_=>none
theorem f95_of {m:Nat} {y:Ex} (hy:ht y≤m) (hsz:(fmtE y).size≤10000000) (h:FnOK Tryz.prog G 50 [exD m y] (ds (fmtE y))) (v:Int):FnOK Tryz.prog G 95 [exD m y,di v] (ds (wth v (lvI y.k,fmtE y))):=by
 have e:rdE (exV y.k y.s y.n y.d y.pos y.kids.length (lay (exG m) y.kids))=y:=rdE_eq hy
 refine FnOK.walk (orc:=orcFmd .empty) (keep:=[]) follows Tryz.func95 rfl Tryz.call95 ?_
 refine of_tr (fun _ _ _ ZK=>(ZK 97 [(ndX m y)] (di (lvI (rdE (ndX m y)).k))∧(((decide (lvI (rdE (ndX m y)).k<v))=true)→((ZK 50 [(ndX m y)] (ds (fmtE (rdE (ndX m y))))∧((ByteArray.mk #[40]).size+(fmtE (rdE (ndX m y))).size≤9223372036854775807)∧((ByteArray.mk #[40]++fmtE (rdE (ndX m y))).size+(ByteArray.mk #[41]).size≤9223372036854775807))∧((ds (ByteArray.mk #[40]++fmtE (rdE (ndX m y))++ByteArray.mk #[41])):DV)=(ds (wth v (lvI y.k,fmtE y)))))∧(((decide (lvI (rdE (ndX m y)).k<v))=false)→(ZK 50 [(ndX m y)] (ds (fmtE (rdE (ndX m y))))∧((ds (fmtE (rdE (ndX m y)))):DV)=(ds (wth v (lvI y.k,fmtE y))))))) (by kernel_rfl) ?_
 simp only[e]
 unfold wth
 refine⟨f97 m y,fun h1=>⟨⟨h,?_,?_⟩,?_⟩,fun h1=>⟨h,?_⟩⟩
 ·show 1+_≤_;omega
 ·rw[ByteArray.size_append];show 1+_+1≤_;omega
 ·rw[if_pos (of_decide_eq_true h1)]
 ·rw[if_neg (of_decide_eq_false h1)]
abbrev stK:RK:=⟨false,9,false,none⟩
def rowRec (f0:Nat→DV) (agg:Bool) (sz:Nat) (g:Nat→List DV):Nat→Nat→DV
 | 0=>f0
 | k+1=>fun i=>bif Nat.blt i k then rowRec f0 agg sz g k i else elemF agg sz (g k) (i-k)
theorem rowRec_get {f0:Nat→DV} {agg:Bool} {sz:Nat} {g:Nat→List DV}:∀{k i:Nat},i<k→rowRec f0 agg sz g k i=elemF agg sz (g i) 0
 | k+1,i,h=>by
  show (bif Nat.blt i k then rowRec f0 agg sz g k i else elemF agg sz (g k) (i-k))=_
  cases hb:Nat.blt i k with
  | true=>rw[Nat.blt_eq] at hb;exact rowRec_get hb
  | false=>
   have hb:¬i<k:=by rw[←Nat.blt_eq,hb];decide
   obtain rfl:i=k:=by omega
   rw[Nat.sub_self];rfl
def txR (x:Ex):Nat→Nat→DV:=rowRec (fun _=>DV.con undef) false 1 fun j=>[ds (fmtE (x.kids.getD j ex0))]
noncomputable def S74 (m:Nat) (x:Ex) (k:Nat):AS:=⟨regs Tryz.f50.ntmps [(1,.box 1 0),(5,.vec 900 1 0 k),(49,.d (.slc 6 x.kids.length (lay (exG m) x.kids))),(50,vi x.kids.length),(51,vi k)],[(1,exC m x),(900,[.arr stK 1 (txR x k)])]⟩
theorem snd_one {x:Ex} (h:sndE x=true) (hk:x.k=5∨x.k=18):x.kids.length=1:=by
 rw[sndE_eq] at h
 unfold sndK at h
 rw[if_neg (by omega),if_neg (by omega),if_neg (by omega),if_pos hk] at h
 unfold kdK at h
 simp only[bAt,decide_eq_true_eq] at h
 omega
theorem snd_two {x:Ex} (h:sndE x=true) (hk:¬x.k=1∧¬x.k=2∧¬x.k=3∧¬x.k=4∧¬x.k=5∧¬x.k=18∧¬x.k=10∧¬x.k=11):x.kids.length=2∧opB x.k=true:=by
 obtain ⟨h1,h2,h3,h4,h5,h6,h7,h8⟩:=hk
 rw[sndE_eq] at h
 unfold sndK at h
 rw[if_neg h1,if_neg h2,if_neg (by omega),if_neg (by omega),if_neg (by omega)] at h
 unfold kdK at h
 simp only[bAt,decide_eq_true_eq] at h
 exact⟨by omega,h.1⟩
theorem sndL_mem:∀{l:List Ex} {i:Nat},sndL l=true→i<l.length→sndE (l.getD i ex0)=true
 | x :: l,i,h,hi=>by
  simp only[sndL,bAt] at h
  cases i with
  | zero=>exact h.1
  | succ i=>exact sndL_mem (i:=i) h.2 (by simpa using hi)
theorem snd_kid {x:Ex} (h:sndE x=true) {i:Nat} (hi:i<x.kids.length):sndE (x.kids.getD i ex0)=true:=by
 refine sndL_mem ?_ hi
 rw[sndE_eq] at h
 unfold sndK kdK at h
 revert h
 repeat' split
 ·intro h;simp only[bAt,decide_eq_true_eq] at h;omega
 ·intro h;simp only[bAt,decide_eq_true_eq] at h;omega
 all_goals (intro h;simp only[bAt] at h)
 ·exact h.2
 ·exact h.2
 ·exact h.2
 ·exact h.2.2
theorem rec_next {x:Ex} (k:Nat) {d:DV} (h:d=ds (fmtE (x.kids.getD k ex0))):(fun i=>bif Nat.blt i k then txR x k i else elemF false 1 [d] (i-k))=txR x (k+1):=by
 subst h;rfl
theorem Sm.tot {x:Ex} (h:Sm x):totL (fmtL x.kids)≤1100000:=by
 have h1:=h.nd
 have h2:=h.tx
 cases x
 simp only[txE] at h2
 have:=fmtL_size _ h2.2
 simp only[Ex.kids,nds] at *
 omega
theorem fmtL_snd (l:List Ex):(fmtL l).map (·.2)=l.map fmtE:=by
 rw[fmtL_map,List.map_map];rfl
theorem f96_of (x:Ex) (hl:x.kids.length≤1000) (hs:(joinS ((fmtL x.kids).map (·.2)) comS).size≤10000000):FnOK Tryz.prog G 96 [.slc 1 x.kids.length fun i=>txR x x.kids.length (0+i),ds comS] (ds (joinS ((fmtL x.kids).map (·.2)) comS)):=by
 have hlen:((fmtL x.kids).map (·.2)).length=x.kids.length:=by rw[fmtL_snd,List.length_map]
 refine(f96 ((fmtL x.kids).map (·.2)) comS (by omega) ?_).args fun k us h=>?_
 ·unfold joinS at hs
  have hs:(Array.mk _).size≤_:=hs
  simp only[List.size_toArray] at hs
  omega
 ·obtain ⟨v,us',rfl,hv,hr⟩:=h
  refine⟨v,us',rfl,?_,hr⟩
  rw[hlen]
  refine DV.rel_slc_congr (fun i hi=>?_) hv
  rw[Nat.zero_add]
  unfold txR stF
  rw[rowRec_get hi,fmtL_snd]
  show ds (fmtE (x.kids.getD i ex0))=ds ((x.kids.map fmtE).getD i .empty)
  rw[List.getD,gEe hi,List.getD,List.getElem?_map,gEe hi]
  rfl
theorem lvX_le (s:ByteArray):-1≤lvX s∧lvX s≤6:=by
 unfold lvX
 have:(lvL.takeWhile fun l=>!lvP s l).length≤6:=(List.takeWhile_sublist _).length_le
 split<;>omega
theorem lvI_le (k:Int):-1≤lvI k∧lvI k≤8:=by
 have:=lvX_le (opS k)
 unfold lvI
 repeat' split
 all_goals omega
theorem f50 (hT:Tab G) (m:Nat):∀(x:Ex),ht x≤m→Sm x→sndE x=true→FnOK Tryz.prog G 50 [exD m x] (ds (fmtE x)):=by
 induction m using Nat.strongRecOn with
 | _ m ih=>
 intro x hx hs hsn
 have hl:=hs.len.1
 have e:rdE (exV x.k x.s x.n x.d x.pos x.kids.length (lay (exG m) x.kids))=x:=rdE_eq hx
 have h74:∀i,i<x.kids.length→FnOK Tryz.prog G 50 [kidA m x i] (ds (fmtE (x.kids.getD i ex0))):=fun i hi=>
  kidOK (Q:=fun d=>FnOK Tryz.prog G 50 [d] _) hx hi fun m' h1 h2=>ih m' h1 _ h2 (hs.kid hi) (snd_kid hsn hi)
 have h122:∀i,i<x.kids.length→∀v,FnOK Tryz.prog G 95 [kidA m x i,di v] (ds (wth v (g0 (fmtL x.kids) i))):=fun i hi v=>by
  rw[g0_kid hi]
  exact kidOK (Q:=fun d=>FnOK Tryz.prog G 95 [d,di v] _) hx hi fun m' h1 h2=>f95_of h2 (by have:=(hs.kid hi).size;omega) (ih m' h1 _ h2 (hs.kid hi) (snd_kid hsn hi)) v
 refine FnOK.walk (orc:=orcFmd (joinS ((fmtL x.kids).map (·.2)) comS)) (keep:=[]) follows Tryz.func50 rfl Tryz.call50 ?_
 refine of_tr (fun ZT ZW ZQ ZK=>(fun Za Zb Zc Zd Ze Zf Zg Zh=>((((x.k==1)=true)→(ZK 91 [(.agg [(di x.n),(di x.d)])] (.tup [(ds (numT x.n x.d)),(db (numB x.n x.d))])∧((ds (numT x.n x.d)):DV)=(ds (fmtE x))))∧(((x.k==1)=false)→((((x.k==2)=true)→(((ds x.s):DV)=(ds (fmtE x))))∧(((x.k==2)=false)→((((x.k==3)=true)→(((ds (ByteArray.mk #[116,114,117,101])):DV)=(ds (fmtE x))))∧(((x.k==3)=false)→((((x.k==4)=true)→(((ds (ByteArray.mk #[102,97,108,115,101])):DV)=(ds (fmtE x))))∧(((x.k==4)=false)→((((x.k==5)=true)→(((((0:Int)≤(0:Int))∧(0<(↑x.kids.length:Int)))∧ZK 95 [Zd,(di 6)] (ds (wth 6 Za))∧((ByteArray.mk #[45]).size+(wth 6 Za).size≤9223372036854775807))∧((ds (ByteArray.mk #[45]++wth 6 Za)):DV)=(ds (fmtE x))))∧(((x.k==5)=false)→((((x.k==18)=true)→(((((0:Int)≤(0:Int))∧(0<(↑x.kids.length:Int)))∧ZK 95 [Zd,(di 2)] (ds (wth 2 Za))∧((ByteArray.mk #[110,111,116,32]).size+(wth 2 Za).size≤9223372036854775807))∧((ds (ByteArray.mk #[110,111,116,32]++wth 2 Za)):DV)=(ds (fmtE x))))∧(((x.k==18)=false)→((((x.k==10)=true)→((((x.k==10)=true)→ZW [cd Tryz.f50 [1,0,1,0,1,1,1,1,1,1,1,1,1,1,1,1,1,0,1,0,1,0],(.blk 1),cd Tryz.f50 [1,0,1,0,1,1,1,1,1,1,1,1,1,1,1,1,1,0,1,1],(.blk 0),cd Tryz.f50 [1,1]] (stS ZT [1,1,1,1,1,1,0,0]) ZQ)∧(((x.k==10)=false)→(ZK 97 [(ndX m x)] (di (lvI (rdE (ndX m x)).k))∧(((lvI (rdE (ndX m x)).k==3)=true)→(Ze∧((((0:Int)≤(0:Int))∧(0<(↑x.kids.length:Int)))∧ZK 95 [Zd,Zf] (ds (wth (lvI (rdE (ndX m x)).k+1) Za))∧((wth (lvI (rdE (ndX m x)).k+1) Za).size+(ByteArray.mk #[32]).size≤9223372036854775807)∧ZK 94 [] (.mp (some .i64) (fun v=>DV.con (Value.string (opS (keyI v)))) (fun v=>opB (keyI v)))∧(((opB Zc)=false)→(Zg.imp (DV.con (Value.string (opS Zc)))))∧((wth (lvI (rdE (ndX m x)).k+1) Za++ByteArray.mk #[32]).size+(opS Zc).size≤9223372036854775807)∧((wth (lvI (rdE (ndX m x)).k+1) Za++ByteArray.mk #[32]++opS Zc).size+(ByteArray.mk #[32]).size≤9223372036854775807)∧(((0:Int)≤(1:Int))∧(1<(↑x.kids.length:Int)))∧Ze∧ZK 95 [Zh,Zf] (ds (wth (lvI (rdE (ndX m x)).k+1) Zb))∧((wth (lvI (rdE (ndX m x)).k+1) Za++ByteArray.mk #[32]++opS Zc++ByteArray.mk #[32]).size+(wth (lvI (rdE (ndX m x)).k+1) Zb).size≤9223372036854775807))∧((ds (wth (lvI (rdE (ndX m x)).k+1) Za++ByteArray.mk #[32]++opS Zc++ByteArray.mk #[32]++wth (lvI (rdE (ndX m x)).k+1) Zb)):DV)=(ds (fmtE x))))∧(((lvI (rdE (ndX m x)).k==3)=false)→(((((0:Int)≤(0:Int))∧(0<(↑x.kids.length:Int)))∧ZK 95 [Zd,(di (lvI (rdE (ndX m x)).k))] (ds (wth (lvI (rdE (ndX m x)).k) Za))∧((wth (lvI (rdE (ndX m x)).k) Za).size+(ByteArray.mk #[32]).size≤9223372036854775807)∧ZK 94 [] (.mp (some .i64) (fun v=>DV.con (Value.string (opS (keyI v)))) (fun v=>opB (keyI v)))∧(((opB Zc)=false)→(Zg.imp (DV.con (Value.string (opS Zc)))))∧((wth (lvI (rdE (ndX m x)).k) Za++ByteArray.mk #[32]).size+(opS Zc).size≤9223372036854775807)∧((wth (lvI (rdE (ndX m x)).k) Za++ByteArray.mk #[32]++opS Zc).size+(ByteArray.mk #[32]).size≤9223372036854775807)∧(((0:Int)≤(1:Int))∧(1<(↑x.kids.length:Int)))∧Ze∧ZK 95 [Zh,Zf] (ds (wth (lvI (rdE (ndX m x)).k+1) Zb))∧((wth (lvI (rdE (ndX m x)).k) Za++ByteArray.mk #[32]++opS Zc++ByteArray.mk #[32]).size+(wth (lvI (rdE (ndX m x)).k+1) Zb).size≤9223372036854775807))∧((ds (wth (lvI (rdE (ndX m x)).k) Za++ByteArray.mk #[32]++opS Zc++ByteArray.mk #[32]++wth (lvI (rdE (ndX m x)).k+1) Zb)):DV)=(ds (fmtE x))))))))∧(((x.k==10)=false)→((((x.k==11)=true)→ZW [cd Tryz.f50 [1,0,1,0,1,1,1,1,1,1,1,1,1,1,1,1,1,0,1,0,1,0],(.blk 1),cd Tryz.f50 [1,0,1,0,1,1,1,1,1,1,1,1,1,1,1,1,1,0,1,1],(.blk 0),cd Tryz.f50 [1,1]] (stS ZT [1,1,1,1,1,1,1,0]) ZQ)∧(((x.k==11)=false)→(ZK 97 [(ndX m x)] (di (lvI (rdE (ndX m x)).k))∧(((lvI (rdE (ndX m x)).k==3)=true)→(Ze∧((((0:Int)≤(0:Int))∧(0<(↑x.kids.length:Int)))∧ZK 95 [Zd,Zf] (ds (wth (lvI (rdE (ndX m x)).k+1) Za))∧((wth (lvI (rdE (ndX m x)).k+1) Za).size+(ByteArray.mk #[32]).size≤9223372036854775807)∧ZK 94 [] (.mp (some .i64) (fun v=>DV.con (Value.string (opS (keyI v)))) (fun v=>opB (keyI v)))∧(((opB Zc)=false)→(Zg.imp (DV.con (Value.string (opS Zc)))))∧((wth (lvI (rdE (ndX m x)).k+1) Za++ByteArray.mk #[32]).size+(opS Zc).size≤9223372036854775807)∧((wth (lvI (rdE (ndX m x)).k+1) Za++ByteArray.mk #[32]++opS Zc).size+(ByteArray.mk #[32]).size≤9223372036854775807)∧(((0:Int)≤(1:Int))∧(1<(↑x.kids.length:Int)))∧Ze∧ZK 95 [Zh,Zf] (ds (wth (lvI (rdE (ndX m x)).k+1) Zb))∧((wth (lvI (rdE (ndX m x)).k+1) Za++ByteArray.mk #[32]++opS Zc++ByteArray.mk #[32]).size+(wth (lvI (rdE (ndX m x)).k+1) Zb).size≤9223372036854775807))∧((ds (wth (lvI (rdE (ndX m x)).k+1) Za++ByteArray.mk #[32]++opS Zc++ByteArray.mk #[32]++wth (lvI (rdE (ndX m x)).k+1) Zb)):DV)=(ds (fmtE x))))∧(((lvI (rdE (ndX m x)).k==3)=false)→(((((0:Int)≤(0:Int))∧(0<(↑x.kids.length:Int)))∧ZK 95 [Zd,(di (lvI (rdE (ndX m x)).k))] (ds (wth (lvI (rdE (ndX m x)).k) Za))∧((wth (lvI (rdE (ndX m x)).k) Za).size+(ByteArray.mk #[32]).size≤9223372036854775807)∧ZK 94 [] (.mp (some .i64) (fun v=>DV.con (Value.string (opS (keyI v)))) (fun v=>opB (keyI v)))∧(((opB Zc)=false)→(Zg.imp (DV.con (Value.string (opS Zc)))))∧((wth (lvI (rdE (ndX m x)).k) Za++ByteArray.mk #[32]).size+(opS Zc).size≤9223372036854775807)∧((wth (lvI (rdE (ndX m x)).k) Za++ByteArray.mk #[32]++opS Zc).size+(ByteArray.mk #[32]).size≤9223372036854775807)∧(((0:Int)≤(1:Int))∧(1<(↑x.kids.length:Int)))∧Ze∧ZK 95 [Zh,Zf] (ds (wth (lvI (rdE (ndX m x)).k+1) Zb))∧((wth (lvI (rdE (ndX m x)).k) Za++ByteArray.mk #[32]++opS Zc++ByteArray.mk #[32]).size+(wth (lvI (rdE (ndX m x)).k+1) Zb).size≤9223372036854775807))∧((ds (wth (lvI (rdE (ndX m x)).k) Za++ByteArray.mk #[32]++opS Zc++ByteArray.mk #[32]++wth (lvI (rdE (ndX m x)).k+1) Zb)):DV)=(ds (fmtE x)))))))))))))))))))))) (lvI (rdE (ndA m (x.kids.getD (Int.toNat 0) ex0))).k,fmtE (rdE (ndA m (x.kids.getD (Int.toNat 0) ex0)))) (lvI (rdE (ndA m (x.kids.getD (Int.toNat 1) ex0))).k,fmtE (rdE (ndA m (x.kids.getD (Int.toNat 1) ex0)))) (keyI (Value.int IntKind.i64 x.k)) (ndA m (x.kids.getD (Int.toNat 0) ex0)) (I64 (lvI (rdE (ndX m x)).k+1)) (di (lvI (rdE (ndX m x)).k+1)) (ds (ByteArray.mk #[])) (ndA m (x.kids.getD (Int.toNat 1) ex0))) (by kernel_rfl) ?_
 try dsimp only
 simp only[e]
 have ef:=fmtE_eq x
 unfold fmtK at ef
 simp only[beq_iff_eq,beq_eq_false_iff_ne,ne_eq]
 have q0:∀(_:0<x.kids.length),rdE (kidA m x (Int.toNat (0:Int)))=x.kids.getD 0 ex0:=fun h=>kid_rd hx h
 have q1:∀(_:1<x.kids.length),rdE (kidA m x (Int.toNat (1:Int)))=x.kids.getD 1 ex0:=fun h=>kid_rd hx h
 refine⟨fun h1=>⟨f91 hT _ _,?_⟩,fun n1=>⟨fun h2=>?_,fun n2=>⟨fun h3=>?_,fun n3=>⟨fun h4=>?_,fun n4=>⟨fun h5=>?_,fun n5=>⟨fun h18=>?_,fun n18=>?_⟩⟩⟩⟩⟩⟩
 ·rw[ef,if_pos h1]
 ·rw[ef,if_neg n1,if_pos h2]
 ·rw[ef,if_neg n1,if_neg n2,if_pos h3]
 ·rw[ef,if_neg n1,if_neg n2,if_neg n3,if_pos h4]
 ·have hl1:=snd_one hsn (.inl h5)
  have hl0:0<x.kids.length:=by omega
  simp only[q0 hl0]
  rw[ef,if_neg n1,if_neg n2,if_neg n3,if_neg n4,if_pos h5]
  have hh:=h122 0 hl0 6
  rw[g0_kid hl0] at hh⊢
  have w:=wth_size 6 (lvI (x.kids.getD 0 ex0).k,fmtE (x.kids.getD 0 ex0))
  have:=(hs.kid hl0).size
  refine⟨⟨⟨by omega,by omega⟩,hh,?_⟩,rfl⟩
  show 1+_≤_
  simp only at w
  omega
 ·have hl1:=snd_one hsn (.inr h18)
  have hl0:0<x.kids.length:=by omega
  simp only[q0 hl0]
  rw[ef,if_neg n1,if_neg n2,if_neg n3,if_neg n4,if_neg n5,if_pos h18]
  have hh:=h122 0 hl0 2
  rw[g0_kid hl0] at hh⊢
  have w:=wth_size 2 (lvI (x.kids.getD 0 ex0).k,fmtE (x.kids.getD 0 ex0))
  have:=(hs.kid hl0).size
  refine⟨⟨⟨by omega,by omega⟩,hh,?_⟩,rfl⟩
  show 4+_≤_
  simp only at w
  omega
 ·have htot:=hs.tot
  have hjs:=joinS_size (fmtL x.kids)
  have h123:FnOK Tryz.prog G 96 [.slc 1 x.kids.length fun i=>txR x x.kids.length (0+i),ds comS] (ds (joinS ((fmtL x.kids).map (·.2)) comS)):=f96_of x hl (by omega)
  refine⟨fun h10=>⟨fun _=>?_,fun hn=>absurd h10 hn⟩,fun n10=>⟨fun h11=>?_,fun n11=>?_⟩⟩
  ·refine AWP.pre (.nilRow _ 5 900 1 stK (txR x 0) (by kernel_rfl) (by kernel_rfl)) ?_
   refine AWP.loop (c:=cAt (bodyOf Tryz.f50) [1,0,1,0,1,1,1,1,1,1,1,1,1,1,1,1,1,0,1,0,1,0,0]) (by kernel_rfl) (S74 m x) (fun k=>k≤x.kids.length) (fun k=>x.kids.length-k) 0 ?_ (Nat.zero_le _) ?_
   ·exact AS.leA (by kernel_rfl)
   ·intro k hk
    refine walk (orc:=orcFmd (joinS ((fmtL x.kids).map (·.2)) comS)) (keep:=[]) (cuts:=[]) (n:=1000) follows ?_
    refine of_rd (fun ZT ZW ZQ ZK ZA _=>(fun Za=>((((decide ((↑k:Int)<↑x.kids.length))=true)→(((0≤(↑k:Int))∧((↑k:Int)<↑x.kids.length))∧(ZK 50 [Za] (ds (fmtE (rdE Za)))∧(((k+1)*16≤1099511627776)∧(k+1≤1099511627776))∧(∀(i:Nat),i<1→elemOK false 1 (elemF false 1 [DV.con (Value.string (fmtE (rdE Za)))] i)=true))∧(I64 (↑k+1))∧(ZA (stS ZT [0]))))∧(((decide ((↑k:Int)<↑x.kids.length))=false)→ZW [cd Tryz.f50 [1,0,1,0,1,1,1,1,1,1,1,1,1,1,1,1,1,0,1,1],(.blk 0),cd Tryz.f50 [1,1]] (stS ZT [1]) ZQ))) (ndA m (x.kids.getD (↑k:Int).toNat ex0))) (by kernel_rfl) ?_
    try dsimp only
    simp only[Int.toNat_natCast]
    refine⟨fun h=>?_,fun h=>?_⟩
    ·have hk2:k<x.kids.length:=by have:=of_decide_eq_true h;omega
     refine⟨⟨by omega,by omega⟩,⟨?_,⟨by omega,by omega⟩,fun i hi=>(by obtain rfl:i=0:=(by omega);rfl)⟩,⟨by omega,by omega⟩,Again.mkR [(59,900)] rfl (k+1) ?_ hk2 (by omega)⟩
     ·show FnOK Tryz.prog G 50 [kidA m x k] (ds (fmtE (rdE (kidA m x k))))
      rw[kid_rd hx hk2]
      exact h74 k hk2
     ·refine AS.leZ [] [1] (b:=((T0∧T0∧T0∧T0∧T0∧True)∧T0∧((some [(.arr ⟨false,9,false,none⟩ 1 (fun i=>bif i.blt k then txR x k i else elemF false 1 [DV.con (Value.string (fmtE (rdE (ndA m (x.kids.getD (↑k:Int).toNat ex0)))))] (i-k)))]):(Option (List AV)))=(some [(.arr ⟨false,9,false,none⟩ 1 (txR x (k+1)))])∧True)) (by kernel_rfl) (by kernel_rfl) ?_
      refine⟨⟨rfl,rfl,rfl,rfl,rfl,trivial⟩,rfl,?_,trivial⟩
      refine congrArg (fun f=>some [AV.arr stK 1 f]) (rec_next k ?_)
      show ds (fmtE (rdE (kidA m x k)))=_
      rw[kid_rd hx hk2]
    ·simp only[decide_eq_false_iff_not] at h
     obtain rfl:k=x.kids.length:=by omega
     refine walk (orc:=orcFmd (joinS ((fmtL x.kids).map (·.2)) comS)) (keep:=[]) (cuts:=[]) (n:=1000) follows ?_
     refine of_tr (fun _ _ _ ZK=>(fun Za=>((((x.k==10)=true)→((ZK 96 [(.slc 1 x.kids.length (fun i=>txR x x.kids.length (0+i))),(ds (ByteArray.mk #[44,32]))] (ds (joinS Za comS))∧((ByteArray.mk #[109,105,110,40]).size+(joinS Za comS).size≤9223372036854775807)∧((ByteArray.mk #[109,105,110,40]++joinS Za comS).size+(ByteArray.mk #[41]).size≤9223372036854775807))∧((ds (ByteArray.mk #[109,105,110,40]++joinS Za comS++ByteArray.mk #[41])):DV)=(ds (fmtE x))))∧(((x.k==10)=false)→((ZK 96 [(.slc 1 x.kids.length (fun i=>txR x x.kids.length (0+i))),(ds (ByteArray.mk #[44,32]))] (ds (joinS Za comS))∧((ByteArray.mk #[109,97,120,40]).size+(joinS Za comS).size≤9223372036854775807)∧((ByteArray.mk #[109,97,120,40]++joinS Za comS).size+(ByteArray.mk #[41]).size≤9223372036854775807))∧((ds (ByteArray.mk #[109,97,120,40]++joinS Za comS++ByteArray.mk #[41])):DV)=(ds (fmtE x)))))) (List.map (fun x=>x.snd) (fmtL x.kids))) (by kernel_rfl) ?_
     try dsimp only
     simp only[beq_iff_eq,beq_eq_false_iff_ne,ne_eq]
     refine⟨fun _=>⟨⟨h123,?_,?_⟩,?_⟩,fun hn=>absurd h10 hn⟩
     ·show 4+_≤_;omega
     ·rw[ByteArray.size_append];show 4+_+1≤_;omega
     ·rw[ef,if_neg n1,if_neg n2,if_neg n3,if_neg n4,if_neg n5,if_neg n18,if_pos h10]
  ·refine AWP.pre (.nilRow _ 5 900 1 stK (txR x 0) (by kernel_rfl) (by kernel_rfl)) ?_
   refine AWP.loop (c:=cAt (bodyOf Tryz.f50) [1,0,1,0,1,1,1,1,1,1,1,1,1,1,1,1,1,0,1,0,1,0,0]) (by kernel_rfl) (S74 m x) (fun k=>k≤x.kids.length) (fun k=>x.kids.length-k) 0 ?_ (Nat.zero_le _) ?_
   ·exact AS.leA (by kernel_rfl)
   ·intro k hk
    refine walk (orc:=orcFmd (joinS ((fmtL x.kids).map (·.2)) comS)) (keep:=[]) (cuts:=[]) (n:=1000) follows ?_
    refine of_rd (fun ZT ZW ZQ ZK ZA _=>(fun Za=>((((decide ((↑k:Int)<↑x.kids.length))=true)→(((0≤(↑k:Int))∧((↑k:Int)<↑x.kids.length))∧(ZK 50 [Za] (ds (fmtE (rdE Za)))∧(((k+1)*16≤1099511627776)∧(k+1≤1099511627776))∧(∀(i:Nat),i<1→elemOK false 1 (elemF false 1 [DV.con (Value.string (fmtE (rdE Za)))] i)=true))∧(I64 (↑k+1))∧(ZA (stS ZT [0]))))∧(((decide ((↑k:Int)<↑x.kids.length))=false)→ZW [cd Tryz.f50 [1,0,1,0,1,1,1,1,1,1,1,1,1,1,1,1,1,0,1,1],(.blk 0),cd Tryz.f50 [1,1]] (stS ZT [1]) ZQ))) (ndA m (x.kids.getD (↑k:Int).toNat ex0))) (by kernel_rfl) ?_
    try dsimp only
    simp only[Int.toNat_natCast]
    refine⟨fun h=>?_,fun h=>?_⟩
    ·have hk2:k<x.kids.length:=by have:=of_decide_eq_true h;omega
     refine⟨⟨by omega,by omega⟩,⟨?_,⟨by omega,by omega⟩,fun i hi=>(by obtain rfl:i=0:=(by omega);rfl)⟩,⟨by omega,by omega⟩,Again.mkR [(59,900)] rfl (k+1) ?_ hk2 (by omega)⟩
     ·show FnOK Tryz.prog G 50 [kidA m x k] (ds (fmtE (rdE (kidA m x k))))
      rw[kid_rd hx hk2]
      exact h74 k hk2
     ·refine AS.leZ [] [1] (b:=((T0∧T0∧T0∧T0∧T0∧True)∧T0∧((some [(.arr ⟨false,9,false,none⟩ 1 (fun i=>bif i.blt k then txR x k i else elemF false 1 [DV.con (Value.string (fmtE (rdE (ndA m (x.kids.getD (↑k:Int).toNat ex0)))))] (i-k)))]):(Option (List AV)))=(some [(.arr ⟨false,9,false,none⟩ 1 (txR x (k+1)))])∧True)) (by kernel_rfl) (by kernel_rfl) ?_
      refine⟨⟨rfl,rfl,rfl,rfl,rfl,trivial⟩,rfl,?_,trivial⟩
      refine congrArg (fun f=>some [AV.arr stK 1 f]) (rec_next k ?_)
      show ds (fmtE (rdE (kidA m x k)))=_
      rw[kid_rd hx hk2]
    ·simp only[decide_eq_false_iff_not] at h
     obtain rfl:k=x.kids.length:=by omega
     refine walk (orc:=orcFmd (joinS ((fmtL x.kids).map (·.2)) comS)) (keep:=[]) (cuts:=[]) (n:=1000) follows ?_
     refine of_tr (fun _ _ _ ZK=>(fun Za=>((((x.k==10)=true)→((ZK 96 [(.slc 1 x.kids.length (fun i=>txR x x.kids.length (0+i))),(ds (ByteArray.mk #[44,32]))] (ds (joinS Za comS))∧((ByteArray.mk #[109,105,110,40]).size+(joinS Za comS).size≤9223372036854775807)∧((ByteArray.mk #[109,105,110,40]++joinS Za comS).size+(ByteArray.mk #[41]).size≤9223372036854775807))∧((ds (ByteArray.mk #[109,105,110,40]++joinS Za comS++ByteArray.mk #[41])):DV)=(ds (fmtE x))))∧(((x.k==10)=false)→((ZK 96 [(.slc 1 x.kids.length (fun i=>txR x x.kids.length (0+i))),(ds (ByteArray.mk #[44,32]))] (ds (joinS Za comS))∧((ByteArray.mk #[109,97,120,40]).size+(joinS Za comS).size≤9223372036854775807)∧((ByteArray.mk #[109,97,120,40]++joinS Za comS).size+(ByteArray.mk #[41]).size≤9223372036854775807))∧((ds (ByteArray.mk #[109,97,120,40]++joinS Za comS++ByteArray.mk #[41])):DV)=(ds (fmtE x)))))) (List.map (fun x=>x.snd) (fmtL x.kids))) (by kernel_rfl) ?_
     try dsimp only
     simp only[beq_iff_eq,beq_eq_false_iff_ne,ne_eq]
     refine⟨fun h=>absurd h n10,fun _=>⟨⟨h123,?_,?_⟩,?_⟩⟩
     ·show 4+_≤_;omega
     ·rw[ByteArray.size_append];show 4+_+1≤_;omega
     ·rw[ef,if_neg n1,if_neg n2,if_neg n3,if_neg n4,if_neg n5,if_neg n18,if_neg n10,if_pos h11]
  ·obtain ⟨hl2,hob⟩:=snd_two hsn ⟨n1,n2,n3,n4,n5,n18,n10,n11⟩
   have hl0:0<x.kids.length:=by omega
   have hl1:1<x.kids.length:=by omega
   simp only[q0 hl0,q1 hl1]
   have ef2:fmtE x=wth (fstL x.k) (g0 (fmtL x.kids) 0)++(⟨#[32]⟩:ByteArray)++opS x.k++(⟨#[32]⟩:ByteArray)++wth (lvI x.k+1) (g0 (fmtL x.kids) 1):=by
    rw[ef,if_neg n1,if_neg n2,if_neg n3,if_neg n4,if_neg n5,if_neg n18,if_neg n10,if_neg n11]
   have hh0:=h122 0 hl0
   have hh1:=h122 1 hl1
   have w0:=fun v=>wth_size v (g0 (fmtL x.kids) 0)
   have w1:=fun v=>wth_size v (g0 (fmtL x.kids) 1)
   have ht:=tot_get (fmtL x.kids)
   have ho:=opS_size x.k
   have hlv:-1≤lvI x.k∧lvI x.k≤8:=lvI_le _
   rw[g0_kid hl0] at hh0 w0 ef2 ht
   rw[g0_kid hl1] at hh1 w1 ef2 ht
   unfold fstL at ef2
   have ko:opB (keyI (Value.int IntKind.i64 x.k))=true:=hob
   refine⟨f97 m x,fun h3=>?_,fun h3=>?_⟩
   ·have s0:=w0 (lvI x.k+1)
    have s1:=w1 (lvI x.k+1)
    simp only at s0 s1 ht
    rw[if_pos h3] at ef2
    have hk:keyI (Value.int IntKind.i64 x.k)=x.k:=rfl
    refine⟨⟨by omega,by omega⟩,⟨⟨by omega,by omega⟩,hh0 _,?_,f94,fun hf=>?_,?_,?_,⟨by omega,by omega⟩,⟨by omega,by omega⟩,hh1 _,?_⟩,?_⟩
    ·show _+1≤_;omega
    ·rw[ko] at hf;cases hf
    ·rw[ByteArray.size_append,hk];show _+1+_≤_;omega
    ·rw[ByteArray.size_append,ByteArray.size_append,hk];show _+1+_+1≤_;omega
    ·rw[ByteArray.size_append,ByteArray.size_append,ByteArray.size_append,hk];show _+1+_+1+_≤_;omega
    ·rw[ef2];rfl
   ·have s0:=w0 (lvI x.k)
    have s1:=w1 (lvI x.k+1)
    simp only at s0 s1 ht
    rw[if_neg h3] at ef2
    have hk:keyI (Value.int IntKind.i64 x.k)=x.k:=rfl
    refine⟨⟨⟨by omega,by omega⟩,hh0 _,?_,f94,fun hf=>?_,?_,?_,⟨by omega,by omega⟩,⟨by omega,by omega⟩,hh1 _,?_⟩,?_⟩
    ·show _+1≤_;omega
    ·rw[ko] at hf;cases hf
    ·rw[ByteArray.size_append,hk];show _+1+_≤_;omega
    ·rw[ByteArray.size_append,ByteArray.size_append,hk];show _+1+_+1≤_;omega
    ·rw[ByteArray.size_append,ByteArray.size_append,ByteArray.size_append,hk];show _+1+_+1+_≤_;omega
    ·rw[ef2];rfl
/-! The text of an expression,or none. -/
def fitE (x:Ex):Bool:=sndE x&&decide ((ht x:Int)+1≤32)&&decide ((fmtE x).size≤16384)
def fmtX (x:Ex):ByteArray:=if fitE x then fmtE x else .empty
noncomputable def orcFx:Oracle:=fun f a=>match f,a with
 | 45,[e]=>some (di ((ht (rdE e):Int)+1))
 | 49,[e]=>some (db (sndE (rdE e)))
 | 50,[e]=>some (ds (fmtE (rdE e)))
 | _,_=>none
theorem f21 (hT:Tab G) (m:Nat) (x:Ex) (hx:ht x≤m) (hs:Sm x):FnOK Tryz.prog G 21 [exD m x] (ds (fmtX x)):=by
 have e:rdE (exV x.k x.s x.n x.d x.pos x.kids.length (lay (exG m) x.kids))=x:=rdE_eq hx
 refine FnOK.walk (orc:=orcFx) (keep:=[]) follows Tryz.func21 rfl Tryz.call21 ?_
 refine of_tr (fun _ _ _ ZK=>(fun Za=>((ZK 45 [(ndX m x)] (di (↑(ht (rdE (ndX m x)))+1))∧(((!decide ((↑(ht (rdE (ndX m x))):Int)+1>32))=true)→ZK 49 [(ndX m x)] (db (sndE (rdE (ndX m x))))))∧((Za=true)→(((ds (ByteArray.mk #[])):DV)=(ds (fmtX x))))∧((Za=false)→(ZK 50 [(ndX m x)] (ds (fmtE (rdE (ndX m x))))∧(((decide ((↑(fmtE (rdE (ndX m x))).size:Int)>16384))=true)→(((ds (ByteArray.mk #[])):DV)=(ds (fmtX x))))∧(((decide ((↑(fmtE (rdE (ndX m x))).size:Int)>16384))=false)→(((ds (fmtE (rdE (ndX m x)))):DV)=(ds (fmtX x)))))))) (decide ((↑(ht (rdE (ndX m x))):Int)+1>32)||!sndE (rdE (ndX m x)))) (by kernel_rfl) ?_
 try dsimp only
 simp only[e]
 unfold fmtX fitE
 refine⟨⟨f45 m x hx hs,fun _=>f49 hT m x hx hs⟩,fun h=>?_,fun h=>?_⟩
 ·rw[if_neg]
  ·rfl
  ·simp only[Bool.or_eq_true,decide_eq_true_eq,Bool.not_eq_true'] at h
   simp only[bAt,decide_eq_true_eq]
   rintro ⟨⟨h1,h2⟩,_⟩
   rcases h with h|h
   ·omega
   ·rw[h] at h1;cases h1
 ·simp only[Bool.or_eq_false_iff,decide_eq_false_iff_not,Bool.not_eq_false'] at h
  refine⟨f50 hT m x hx hs h.2,fun h3=>?_,fun h3=>?_⟩
  ·have:=of_decide_eq_true h3
   rw[h.2,decide_eq_false (by omega:¬(fmtE x).size≤16384),Bool.and_false];rfl
  ·have:=of_decide_eq_false h3
   rw[h.2,decide_eq_true (by omega:(fmtE x).size≤16384),decide_eq_true (by omega)];rfl
end Go.Proofs
