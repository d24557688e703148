import Derived.Test.YtcfclncbpeahnaaGreatDoorAcD
import Derived.Test.YtcfclncbpeahnaaGreatDoorG0
import Derived.Shelf.Strings.OnBuilder
import Derived.Shelf.Small.Wraps
import Derived.Shelf.LaysM
import Derived.Test.YtcfclncbpeahnaaGreatDoorProg
set_option autoImplicit false
namespace Go.Proofs
open Go Go.Ab Go.RowKit
set_option maxHeartbeats 2000000
set_option maxRecDepth 100000
variable {G:IH}
def Ky:ByteArray:=⟨#[46]⟩
def nP (n d:Int):Bool:=(jB n d).2&&decide (n≥0)&&decide (((cD Ky (str (jB n d).1)).size:Int)≤9)
def lH (n d:Int):ByteArray:=str (jB n d).1
theorem KG {d:Nat}:∀(k r:Nat),r<d→(oD d k r).length≤k
 | 0,r,_=>by simp[oD]
 | k+1,r,h=>by
  unfold oD
  split
  ·simp
  ·have h1:10*r / d<10:=by rw[Nat.div_lt_iff_lt_mul (by omega)];omega
   have h2:=KG k (10*r % d) (Nat.mod_lt _ (by omega))
   rw[Lib.decDigits,dif_pos h1,List.length_append,List.length_singleton];omega
theorem SV (n d:Int):(lH n d).size≤100:=by
 unfold lH
 rw[oH,Aa]
 unfold qR
 split
 ·rename_i h
  have hk:=qx h.1
  have h1:n.natAbs / d.toNat<10 ^ (18+1):=by
   have:=Nat.div_le_self n.natAbs d.toNat
   have e:(10:Nat) ^ (18+1)=10000000000000000000:=by decide
   rw[e];omega
  have h2:=iG 18 _ h1
  have h3:=KG (d:=d.toNat) 7 (n.natAbs % d.toNat) (Nat.mod_lt _ (by omega))
  have h4:(sg n).length≤1:=by unfold sg;split<;>simp
  simp only[List.length_append]
  split
  ·simp;omega
  ·simp only[List.length_cons];omega
 ·simp
noncomputable def acN:cZ:=fun f a=>match f,a with
 | 113,[fr n d]=>some (.ak [ds (lH n d),db (jB n d).2])
 | 114,[.con (.string s),.con (.string p)]=>some (.ak [ds (cD p s),ds (cR p s),db (cB p s)])
 | _,_=>none
theorem f91 (hT:Tab G) (n d:Int):ay Tryz.prog G 91 [fr n d] (.ak [ds (lH n d),db (nP n d)]):=by
 have hs:=SV n d
 refine ay.walk (aj:=acN) (keep:=[]) follows Tryz.func91 rfl Tryz.call91 ?_
 refine au (fun _ _ _ ZK=>(ZK 113 [(.agg [(di n),(di d)])] (.ak [(ds (lH n d)),(db (jB n d).snd)])∧ZK 114 [(ds (lH n d)),(ds (ByteArray.mk #[46]))] (.ak [(ds (cD (ByteArray.mk #[46]) (lH n d))),(ds (cR (ByteArray.mk #[46]) (lH n d))),(db (cB (ByteArray.mk #[46]) (lH n d)))])∧((.ak [(ds (lH n d)),(db ((jB n d).snd&&decide (n≥0)&&decide ((↑(cD (ByteArray.mk #[46]) (lH n d)).size:Int)≤9)))]):DV)=(.ak [(ds (lH n d)),(db (nP n d))]))) (by kernel_rfl) ?_
 exact⟨f113 hT n d,f114 _ 46 (by omega),rfl⟩
def DY (n d:Int) (s:ByteArray) (len:Nat) (all:Bool) (a b:Int):Bool:=decide (s.size=0)&&(n==0&&d==0)&&decide ((len:Int)≥a)&&decide ((len:Int)≤b)&&all
def zA (k n d:Int) (s:ByteArray) (len:Nat) (all:Bool):Bool:=
 if k=1 then nP n d&&decide (s.size=0)&&decide (len=0)
 else if k=2 then nameB s&&(n==0&&d==0)&&decide (len=0)
 else if k=3∨k=4 then DY n d s len all 0 0
 else if k=5∨k=18 then DY n d s len all 1 1
 else if k=10∨k=11 then DY n d s len all 1 len
 else dY k&&DY n d s len all 2 2
mutual
def cO:Ex→Bool
 | .mk k s n d _ l=>zA k n d s l.length (yI l)
def yI:List Ex→Bool
 | []=>true
 | x :: l=>cO x&&yI l
end
theorem tH (x:Ex):cO x=zA x.k x.n x.d x.s x.kids.length (yI x.kids):=by cases x;simp only[cO,Ex.k,Ex.n,Ex.d,Ex.s,Ex.kids]
theorem PE:∀l:List Ex,(l.any fun y=>!cO y) = !yI l
 | []=>rfl
 | x :: l=>by simp only[List.any_cons,yI,PE l,Bool.not_and]
abbrev jh (x:Ex) (a b:Int):Bool:=DY x.n x.d x.s x.kids.length (yI x.kids) a b
noncomputable def Ur (x:Ex):cZ:=fun f a=>match f,a with
 | 49,[e]=>some (db (cO (aO e)))
 | 91,[fr n d]=>some (.ak [ds (lH n d),db (nP n d)])
 | 92,[.con (.string s)]=>some (db (nameB s))
 | 93,[_,.con (.int .i64 a),.con (.int .i64 b)]=>some (db (jh x a b))
 | 94,[]=>some Um
 | 116,[_,_]=>some (db (x.kids.any fun y=>!cO y))
 | _,_=>none
theorem Zr {m:Nat} {y:Ex} (hy:ht y≤m) (h:ay Tryz.prog G 49 [jG m y] (db (cO y))):ay Tryz.prog G 117 [jG m y] (db (!cO y)):=by
 refine ay.walk (aj:=Ur y) (keep:=[]) follows Tryz.func117 rfl Tryz.call117 ?_
 refine au (fun _ _ _ ZK=>(ZK 49 [(aN m y)] (db (cO (aO (aN m y))))∧((db (!cO (aO (aN m y)))):DV)=(db !cO y))) (by kernel_rfl) ?_
 show ay Tryz.prog G 49 [jG m y] (db (cO (aO (jG m y))))∧db (!cO (aO (jG m y)))=_
 rw[ig hy]
 exact⟨h,rfl⟩
theorem aci {m:Nat} {x:Ex} (hx:ht x≤m) (hs:Sm x) (hc:∀i,i<x.kids.length→ay Tryz.prog G 117 [iF m x i] (db (!cO (x.kids.getD i aJ)))) (a b:Int):ay Tryz.prog G 93 [jG m x,di a,di b] (db (jh x a b)):=by
 refine ay.walk (aj:=Ur x) (keep:=[]) follows Tryz.func93 rfl Tryz.call93 ?_
 refine au (fun _ _ _ ZK=>((((x.s.toList==(ByteArray.mk #[]).toList&&Bool.rec false (x.d==0) (x.n==0)&&decide (↑x.kids.length≥a)&&decide (↑x.kids.length≤b))=true)→ZK 116 [(.slc 6 x.kids.length (lay (cu m) x.kids)),(.con (.func (.func 117) ⟨[]⟩ ⟨[]⟩))] (db (x.kids.any fun y=>!cO y)))∧((db (x.s.toList==(ByteArray.mk #[]).toList&&Bool.rec false (x.d==0) (x.n==0)&&decide (↑x.kids.length≥a)&&decide (↑x.kids.length≤b)&&!x.kids.any fun y=>!cO y)):DV)=(db (jh x a b)))) (by kernel_rfl) ?_
 refine⟨fun _=>f116 (fun y=>!cO y) m x hx hs hc,?_⟩
 refine congrArg db ?_
 rw[PE,nZ]
 unfold jh DY
 have e:(Bool.rec false (x.d==0) (x.n==0):Bool)=(x.n==0&&x.d==0):=by cases (x.n==0)<;>rfl
 rw[e,Bool.not_not]
theorem imp_eq {a b:DV} (h:b=a):DV.imp a b:=fun _ _ hv=>h▸hv
theorem Ns {k:Int} (h:dY k=false):dQ k=.empty:=by
 have h:=of_decide_eq_false h
 have q:∀j:Int,(6≤j∧j≤9∨12≤j∧j≤17∨19≤j∧j≤20)→decide (k=j)=false:=fun j hj=>decide_eq_false fun e=>h (e▸hj)
 unfold dQ
 simp only[q 20 (by omega),q 19 (by omega),q 17 (by omega),q 16 (by omega),q 15 (by omega),q 14 (by omega),q 13 (by omega),q 12 (by omega),q 9 (by omega),q 8 (by omega),q 7 (by omega),q 6 (by omega),cond_false]
theorem f49 (hT:Tab G) (m:Nat):∀(x:Ex),ht x≤m→Sm x→ay Tryz.prog G 49 [jG m x] (db (cO x)):=by
 induction m using Nat.strongRecOn with
 | _ m ih=>
 intro x hx hs
 have hc:∀i,i<x.kids.length→ay Tryz.prog G 117 [iF m x i] (db (!cO (x.kids.getD i aJ))):=fun i hi=>
  wZ (Q:=fun d=>ay Tryz.prog G 117 [d] _) hx hi fun m' h1 h2=>Zr h2 (ih m' h1 _ h2 (hs.kid hi))
 have adP:=fun a b=>aci hx hs hc a b
 refine ay.walk (aj:=Ur x) (keep:=[]) follows Tryz.func49 rfl Tryz.call49 ?_
 refine au (fun _ _ _ ZK=>(fun Za Zb Zc=>((((x.k==1)=true)→(ZK 91 [(.agg [(di x.n),(di x.d)])] (.ak [(ds (lH x.n x.d)),(db (nP x.n x.d))])∧((db (nP x.n x.d&&x.s.toList==(ByteArray.mk #[]).toList&&(↑x.kids.length:Int)==0)):DV)=(db (cO x))))∧(((x.k==1)=false)→((((x.k==2)=true)→(ZK 92 [(ds x.s)] (db (nameB x.s))∧((db (nameB x.s&&Bool.rec false (x.d==0) (x.n==0)&&(↑x.kids.length:Int)==0)):DV)=(db (cO x))))∧(((x.k==2)=false)→((((x.k==3)=true)→((((x.k==3)=true)→(ZK 93 [(aN m x),(di 0),(di 0)] (db (jh x 0 0))∧((db (jh x 0 0)):DV)=(db (cO x))))∧(((x.k==3)=false)→((((x.k==5)=true)→((((x.k==5)=true)→(ZK 93 [(aN m x),(di 1),(di 1)] (db (jh x 1 1))∧((db (jh x 1 1)):DV)=(db (cO x))))∧(((x.k==5)=false)→((((x.k==10)=true)→((((x.k==10)=true)→(ZK 93 [(aN m x),(di 1),(di (↑x.kids.length))] (db (jh x 1 ↑x.kids.length))∧Zc=(db (cO x))))∧(((x.k==10)=false)→((ZK 94 [] (.mp (some .i64) (fun v=>DV.con (Value.string (dQ (gX v)))) (fun v=>dY (gX v)))∧(((dY Za)=false)→(Zb.imp (DV.con (Value.string (dQ Za))))))∧(((dY Za)=true)→ZK 93 [(aN m x),(di 2),(di 2)] (db (jh x 2 2)))∧((db (dY Za&&jh x 2 2)):DV)=(db (cO x))))))∧(((x.k==10)=false)→((((x.k==11)=true)→(ZK 93 [(aN m x),(di 1),(di (↑x.kids.length))] (db (jh x 1 ↑x.kids.length))∧Zc=(db (cO x))))∧(((x.k==11)=false)→((ZK 94 [] (.mp (some .i64) (fun v=>DV.con (Value.string (dQ (gX v)))) (fun v=>dY (gX v)))∧(((dY Za)=false)→(Zb.imp (DV.con (Value.string (dQ Za))))))∧(((dY Za)=true)→ZK 93 [(aN m x),(di 2),(di 2)] (db (jh x 2 2)))∧((db (dY Za&&jh x 2 2)):DV)=(db (cO x))))))))))∧(((x.k==5)=false)→((((x.k==18)=true)→(ZK 93 [(aN m x),(di 1),(di 1)] (db (jh x 1 1))∧((db (jh x 1 1)):DV)=(db (cO x))))∧(((x.k==18)=false)→((((x.k==10)=true)→((((x.k==10)=true)→(ZK 93 [(aN m x),(di 1),(di (↑x.kids.length))] (db (jh x 1 ↑x.kids.length))∧Zc=(db (cO x))))∧(((x.k==10)=false)→((ZK 94 [] (.mp (some .i64) (fun v=>DV.con (Value.string (dQ (gX v)))) (fun v=>dY (gX v)))∧(((dY Za)=false)→(Zb.imp (DV.con (Value.string (dQ Za))))))∧(((dY Za)=true)→ZK 93 [(aN m x),(di 2),(di 2)] (db (jh x 2 2)))∧((db (dY Za&&jh x 2 2)):DV)=(db (cO x))))))∧(((x.k==10)=false)→((((x.k==11)=true)→(ZK 93 [(aN m x),(di 1),(di (↑x.kids.length))] (db (jh x 1 ↑x.kids.length))∧Zc=(db (cO x))))∧(((x.k==11)=false)→((ZK 94 [] (.mp (some .i64) (fun v=>DV.con (Value.string (dQ (gX v)))) (fun v=>dY (gX v)))∧(((dY Za)=false)→(Zb.imp (DV.con (Value.string (dQ Za))))))∧(((dY Za)=true)→ZK 93 [(aN m x),(di 2),(di 2)] (db (jh x 2 2)))∧((db (dY Za&&jh x 2 2)):DV)=(db (cO x))))))))))))))∧(((x.k==3)=false)→((((x.k==4)=true)→(ZK 93 [(aN m x),(di 0),(di 0)] (db (jh x 0 0))∧((db (jh x 0 0)):DV)=(db (cO x))))∧(((x.k==4)=false)→((((x.k==5)=true)→((((x.k==5)=true)→(ZK 93 [(aN m x),(di 1),(di 1)] (db (jh x 1 1))∧((db (jh x 1 1)):DV)=(db (cO x))))∧(((x.k==5)=false)→((((x.k==10)=true)→((((x.k==10)=true)→(ZK 93 [(aN m x),(di 1),(di (↑x.kids.length))] (db (jh x 1 ↑x.kids.length))∧Zc=(db (cO x))))∧(((x.k==10)=false)→((ZK 94 [] (.mp (some .i64) (fun v=>DV.con (Value.string (dQ (gX v)))) (fun v=>dY (gX v)))∧(((dY Za)=false)→(Zb.imp (DV.con (Value.string (dQ Za))))))∧(((dY Za)=true)→ZK 93 [(aN m x),(di 2),(di 2)] (db (jh x 2 2)))∧((db (dY Za&&jh x 2 2)):DV)=(db (cO x))))))∧(((x.k==10)=false)→((((x.k==11)=true)→(ZK 93 [(aN m x),(di 1),(di (↑x.kids.length))] (db (jh x 1 ↑x.kids.length))∧Zc=(db (cO x))))∧(((x.k==11)=false)→((ZK 94 [] (.mp (some .i64) (fun v=>DV.con (Value.string (dQ (gX v)))) (fun v=>dY (gX v)))∧(((dY Za)=false)→(Zb.imp (DV.con (Value.string (dQ Za))))))∧(((dY Za)=true)→ZK 93 [(aN m x),(di 2),(di 2)] (db (jh x 2 2)))∧((db (dY Za&&jh x 2 2)):DV)=(db (cO x))))))))))∧(((x.k==5)=false)→((((x.k==18)=true)→(ZK 93 [(aN m x),(di 1),(di 1)] (db (jh x 1 1))∧((db (jh x 1 1)):DV)=(db (cO x))))∧(((x.k==18)=false)→((((x.k==10)=true)→((((x.k==10)=true)→(ZK 93 [(aN m x),(di 1),(di (↑x.kids.length))] (db (jh x 1 ↑x.kids.length))∧Zc=(db (cO x))))∧(((x.k==10)=false)→((ZK 94 [] (.mp (some .i64) (fun v=>DV.con (Value.string (dQ (gX v)))) (fun v=>dY (gX v)))∧(((dY Za)=false)→(Zb.imp (DV.con (Value.string (dQ Za))))))∧(((dY Za)=true)→ZK 93 [(aN m x),(di 2),(di 2)] (db (jh x 2 2)))∧((db (dY Za&&jh x 2 2)):DV)=(db (cO x))))))∧(((x.k==10)=false)→((((x.k==11)=true)→(ZK 93 [(aN m x),(di 1),(di (↑x.kids.length))] (db (jh x 1 ↑x.kids.length))∧Zc=(db (cO x))))∧(((x.k==11)=false)→((ZK 94 [] (.mp (some .i64) (fun v=>DV.con (Value.string (dQ (gX v)))) (fun v=>dY (gX v)))∧(((dY Za)=false)→(Zb.imp (DV.con (Value.string (dQ Za))))))∧(((dY Za)=true)→ZK 93 [(aN m x),(di 2),(di 2)] (db (jh x 2 2)))∧((db (dY Za&&jh x 2 2)):DV)=(db (cO x)))))))))))))))))))) (gX (Value.int IntKind.i64 x.k)) (ds (ByteArray.mk #[])) ((db (jh x 1 ↑x.kids.length)):DV)) (by kernel_rfl) ?_
 try dsimp only
 have hkz:(Bool.rec false (x.d==0) (x.n==0):Bool)=(x.n==0&&x.d==0):=by cases (x.n==0)<;>rfl
 have hlen:((x.kids.length:Int)==0)=decide (x.kids.length=0):=by
  rw[Bool.eq_iff_iff,beq_iff_eq,decide_eq_true_eq];omega
 have hs2:=hs.len.2
 have e:∀k,x.k=k→cO x=zA k x.n x.d x.s x.kids.length (yI x.kids):=fun k hk=>by rw[←hk];exact tH x
 have e':=tH x
 have hke:(x.s.toList==ByteArray.toList { data:=#[] })=decide (x.s.size=0):=nZ _
 repeat' (first|(with_reducible refine And.intro ?_ ?_)|(with_reducible intro _))
 all_goals (try simp only[beq_iff_eq,beq_eq_false_iff_ne,ne_eq] at *)
 all_goals first
  | exact f91 hT _ _
  | exact f92 _ (by omega)
  | exact adP _ _
  | exact f94
  | contradiction
  | exact imp_eq (congrArg ds (Ns (by assumption)))
  | (refine congrArg db ?_;rw[e 1 (by assumption),hke,hlen];rfl)
  | (refine congrArg db ?_;rw[e 2 (by assumption),hkz,hlen];rfl)
  | (refine congrArg db ?_;rw[e 3 (by assumption)];rfl)
  | (refine congrArg db ?_;rw[e 4 (by assumption)];rfl)
  | (refine congrArg db ?_;rw[e 5 (by assumption)];rfl)
  | (refine congrArg db ?_;rw[e 18 (by assumption)];rfl)
  | (refine congrArg db ?_;rw[e 10 (by assumption)];rfl)
  | (refine congrArg db ?_;rw[e 11 (by assumption)];rfl)
  | (refine congrArg db ?_;rw[e'];unfold zA;simp only[*,or_self,if_false];rfl)
end Go.Proofs
/-
 DERIVED: THE SHELF's CONTRACTS AT THIS DUMP,IN PLAIN WORDS (tools/lay-plain.mjs out of 'Vy.lean',which tools/lay-shelf.mjs wrote): THE SAME PI UNDER THE SAME NAMES: 'import','TF,'open','adW,'theorem' AND NOTHING ELSE: no command of the shelf's: FOR A HAND-IN. Each laying: the table of numbers ('..acW) and one theorem,a field a fact of the dump's own or the kernel's comparison;each contract: ONE APPLICATION.
-/
namespace Go.Proofs
open Go.Shelf
def Tryz.lays156_ren:Go.Shelf.Ren:=⟨fun|156=>96|165=>118|166=>52|169=>55|240=>99|241=>134|276=>121|277=>141|n=>n,fun|31=>43|9=>9|3=>3|4=>4|0=>0|20=>20|72=>83|76=>86|70=>81|37=>51|75=>85|127=>121|164=>133|5=>5|80=>90|n=>n,fun|n=>n⟩
theorem Tryz.lays156:Go.Proofs.Lays.n156 Tryz.prog Tryz.lays156_ren:={
 mixed:=by kernel_rfl
 f156:=Tryz.func96.trans (congrArg some (by kernel_rfl))
 f165:=Tryz.func118.trans (congrArg some (by kernel_rfl))
 f166:=Tryz.func52.trans (congrArg some (by kernel_rfl))
 f169:=Tryz.func55.trans (congrArg some (by kernel_rfl))
 f240:=Tryz.func99.trans (congrArg some (by kernel_rfl))
 f241:=Tryz.func134.trans (congrArg some (by kernel_rfl))
 f276:=Tryz.func121.trans (congrArg some (by kernel_rfl))
 f277:=Tryz.func141.trans (congrArg some (by kernel_rfl))
 t0:=Tryz.underlying0
 a0:=Tryz.isAgg0
 z0:=Tryz.sizeOf0
 v0:=Tryz.zeroValue0
 t3:=Tryz.underlying3
 a3:=Tryz.isAgg3
 z3:=Tryz.sizeOf3
 v3:=Tryz.zeroValue3
 t4:=Tryz.underlying4
 a4:=Tryz.isAgg4
 z4:=Tryz.sizeOf4
 v4:=Tryz.zeroValue4
 t9:=Tryz.underlying9
 a9:=Tryz.isAgg9
 z9:=Tryz.sizeOf9
 v9:=Tryz.zeroValue9
 t20:=Tryz.underlying20
 a20:=Tryz.isAgg20
 z20:=Tryz.sizeOf20
 v20:=Tryz.zeroValue20
 t31:=Tryz.underlying43
 a31:=Tryz.isAgg43
 z31:=Tryz.sizeOf43
 v31:=Tryz.zeroValue43
 t37:=Tryz.underlying51
 a37:=Tryz.isAgg51
 z37:=Tryz.sizeOf51
 v37:=Tryz.zeroValue51
 t70:=Tryz.underlying81
 a70:=Tryz.isAgg81
 z70:=Tryz.sizeOf81
 v70:=Tryz.zeroValue81
 t72:=Tryz.underlying83
 a72:=Tryz.isAgg83
 z72:=Tryz.sizeOf83
 v72:=Tryz.zeroValue83
 t75:=Tryz.underlying85
 a75:=Tryz.isAgg85
 z75:=Tryz.sizeOf85
 v75:=Tryz.zeroValue85
 t76:=Tryz.underlying86
 a76:=Tryz.isAgg86
 z76:=Tryz.sizeOf86
 v76:=Tryz.zeroValue86
 t127:=Tryz.underlying121
 a127:=Tryz.isAgg121
 z127:=Tryz.sizeOf121
 v127:=Tryz.zeroValue121
 t164:=Tryz.underlying133
 a164:=Tryz.isAgg133
 z164:=Tryz.sizeOf133
 v164:=Tryz.zeroValue133 }
theorem Tryz.Builder_Extra_156:Builder.Extra Tryz.prog Tryz.lays156_ren:={
 sizeBuilder:=by kernel_rfl
 liesBuilder:=by kernel_rfl
 t5:=Tryz.underlying5
 a5:=Tryz.isAgg5
 z5:=Tryz.sizeOf5
 v5:=Tryz.zeroValue5
 infoByte:=by kernel_rfl
 cellsByte:=by kernel_rfl
 sizeByte:=by kernel_rfl
 neB5:=by decide }
open Go.RowKit in
theorem Tryz.strings_Join_none (a:Option Addr) (c:Nat) (sep:ByteArray) (w:World) :
  Calls Tryz.prog 96 #[.slice a 0 c,.string sep] w fun e w'=>e=.returned (.string ⟨#[]⟩)∧w'=w:=Any.strings_Join_none Tryz.lays156 Tryz.Builder_Extra_156 a c sep w
open Go.RowKit in
theorem Tryz.strings_Join (bk o c:Nat) (xs:List ByteArray) (sep:ByteArray) (w:World) (hcells:∀(j:Nat) x,xs[j]?=some x→w.cell? ⟨bk,o+j,none⟩=some (.string x)) (hbk:bk<w.heap.size) (hN:xs.length≤140737488355328) (hcap:xs.length≤c) (hlen:(Lib.join (xs.map (·.data.toList)) sep.data.toList).length≤140737488355328) :
  Calls Tryz.prog 96 #[.slice (some ⟨bk,o,none⟩) xs.length c,.string sep] w fun e w'=>e=.returned (.string ⟨(Lib.join (xs.map (·.data.toList)) sep.data.toList).toArray⟩)∧Below w.heap.size w w':=Any.strings_Join Tryz.lays156 Tryz.Builder_Extra_156 bk o c xs sep w hcells hbk hN hcap hlen
set_option maxHeartbeats 2000000
set_option maxRecDepth 100000
open Go Go.Ab Go.RowKit
variable {G:IH}
theorem lV {k:IH} {sz:Nat} {f:Nat→DV} {v:Value} (h:DV.rel k (.con (.slice none 0 0)) v):DV.rel k (.slc sz 0 f) v:=by
 have h:v=.slice none 0 0:=h
 exact⟨none,0,h,Nat.le_refl _,.inl rfl⟩
def fV (l:List ByteArray) (sep:ByteArray):ByteArray:=⟨(Lib.join (l.map (·.data.toList)) sep.data.toList).toArray⟩
theorem f96 (l:List ByteArray) (sep:ByteArray) (hN:l.length≤140737488355328) (hlen:(Lib.join (l.map (·.data.toList)) sep.data.toList).length≤140737488355328):ay Tryz.prog G 96 [.slc 1 l.length (iY l),ds sep] (ds (fV l sep)):=by
 refine⟨Tryz.call96,fun w k us hG hw hvs=>?_⟩
 obtain ⟨v,us',rfl,hv,v2,Yz,rfl,hv2,h0⟩:=hvs
 have h0:Yz=[]:=h0
 have hv2:v2=.string sep:=hv2
 subst h0;subst hv2
 obtain ⟨p,cap,rfl,hc,hrest⟩:=hv
 have key:∀{e:Ending} {w':World},e=.returned (.string ⟨(Lib.join (l.map (·.data.toList)) sep.data.toList).toArray⟩)→Below w.heap.size w w'→
   ∃v h',e=.returned v∧DV.rel h' (ds (fV l sep)) v∧k.le h'∧h'.holds w'∧Kept (fun _=>False) w w'∧∀b,b<w.heap.size→(∀o,h'.cell b o=k.cell b o)∧h'.obj b=k.obj b:=fun he hb=>
  ⟨_,k,he,rfl,IH.le.refl _,Fe hw hb,⟨hb.os,hb.tape,hb.output,hb.size,fun i hi _=>hb.block i hi⟩,fun _ _=>⟨fun _=>rfl,rfl⟩⟩
 rcases Nat.eq_zero_or_pos l.length with hz|hz
 ·have e:l=[]:=List.eq_nil_of_length_eq_zero hz
  subst e
  exact(Tryz.strings_Join_none p cap sep w).mono fun e w' ⟨he,hb⟩=>key he (hb▸Below.refl _ _)
 ·rcases hrest with h|⟨b,off,rfl,hel⟩
  ·omega
  have hcell:∀(j:Nat) x,l[j]?=some x→w.cell? ⟨b,off+j,none⟩=some (.string x):=by
   intro j x hx
   have hj:=(List.getElem?_eq_some_iff.1 hx).1
   obtain ⟨v,hr,hs,hc⟩:=hel j hj
   have e:iY l j=ds x:=by unfold iY;rw[List.getD,hx];rfl
   rw[e] at hr
   have hr:v=.string x:=hr
   subst hr
   have:=hc 0 (by decide)
   have h1:=hw.1 b (off+j*1+0) (.string x) this
   simpa using h1
  have hb:b<w.heap.size:=by
   have h1:=hcell 0 _ (iT hz)
   simp only[World.cell?] at h1
   split at h1
   ·rename_i hh;exact lt_of_heap hh
   ·cases h1
  exact(Tryz.strings_Join b off cap l sep w hcell hb hN hc hlen).mono fun e w' ⟨he,hb⟩=>key he hb
/-! Operators. -/
def Vm (l:List Int) (i:Nat):DV:=di (l.getD i 0)
def lJ (v:Int):List Int:=if v=1 then [20] else if v=2 then [19] else if v=4 then [12,13,14,15,16,17] else if v=5 then [6,7] else if v=6 then [8,9] else []
def opsT (v:Int):List ByteArray:=(lJ v).map dQ
abbrev Py (v:Int):DV:=.ak [.slc 1 (opsT v).length (iY (opsT v)),.slc 1 (lJ v).length (Vm (lJ v))]
theorem zS {n m n' m':Nat} {f f' g g':Nat→DV} (h1:n=n') (h2:m=m') (hf:∀i,i<n→f i=f' i) (hg:∀i,i<m→g i=g' i) (k:IH) (v:Value) (hv:DV.rel k (.ak [.slc 1 n f,.slc 1 m g]) v):DV.rel k (.ak [.slc 1 n' f',.slc 1 m' g']) v:=by
 subst h1;subst h2
 obtain ⟨us,rfl,a,us1,rfl,ha,b,Yz,rfl,hb,h0⟩:=hv
 exact⟨_,rfl,_,_,rfl,DV.jH hf ha,_,_,rfl,DV.jH hg hb,h0⟩
theorem f23 (v:Int):ay Tryz.prog G 23 [di v] (Py v):=by
 have key:∀r:DV,(∀k x,DV.rel k r x→DV.rel k (Py v) x)→((v=1→r=.ak [.slc 1 1 (aS false 1 [ds ⟨#[111,114]⟩]),.slc 1 1 (aS false 1 [di 20])])∧(v=2→r=.ak [.slc 1 1 (aS false 1 [ds ⟨#[97,110,100]⟩]),.slc 1 1 (aS false 1 [di 19])])∧
   (v=4→r=.ak [.slc 1 6 (aS false 1 [ds ⟨#[61,61]⟩,ds ⟨#[33,61]⟩,ds ⟨#[60]⟩,ds ⟨#[60,61]⟩,ds ⟨#[62]⟩,ds ⟨#[62,61]⟩]),.slc 1 6 (aS false 1 [di 12,di 13,di 14,di 15,di 16,di 17])])∧
   (v=5→r=.ak [.slc 1 2 (aS false 1 [ds ⟨#[43]⟩,ds ⟨#[45]⟩]),.slc 1 2 (aS false 1 [di 6,di 7])])∧(v=6→r=.ak [.slc 1 2 (aS false 1 [ds ⟨#[42]⟩,ds ⟨#[47]⟩]),.slc 1 2 (aS false 1 [di 8,di 9])])∧
   (¬v=1→¬v=2→¬v=4→¬v=5→¬v=6→r=.ak [.con (.slice none 0 0),.con (.slice none 0 0)]))→ay Tryz.prog G 23 [di v] (Py v):=by
  intro r hr ⟨h1,h2,h4,h5,h6,h0⟩
  refine JK (r:=r) (ay.walk (aj:=({ d:=fun _ _=>none }:dK)) (keep:=[]) follows Tryz.func23 rfl Tryz.call23 ?_) hr
  refine au (fun _ _ _ _=>((((v==1)=true)→(((.ak [(.slc 1 1 (aS false 1 [(ds (ByteArray.mk #[111,114]))])),(.slc 1 1 (aS false 1 [(di 20)]))]):DV)=r))∧(((v==1)=false)→((((v==2)=true)→(((.ak [(.slc 1 1 (aS false 1 [(ds (ByteArray.mk #[97,110,100]))])),(.slc 1 1 (aS false 1 [(di 19)]))]):DV)=r))∧(((v==2)=false)→((((v==4)=true)→(((.ak [(.slc 1 6 (aS false 1 [(ds (ByteArray.mk #[61,61])),(ds (ByteArray.mk #[33,61])),(ds (ByteArray.mk #[60])),(ds (ByteArray.mk #[60,61])),(ds (ByteArray.mk #[62])),(ds (ByteArray.mk #[62,61]))])),(.slc 1 6 (aS false 1 [(di 12),(di 13),(di 14),(di 15),(di 16),(di 17)]))]):DV)=r))∧(((v==4)=false)→((((v==5)=true)→(((.ak [(.slc 1 2 (aS false 1 [(ds (ByteArray.mk #[43])),(ds (ByteArray.mk #[45]))])),(.slc 1 2 (aS false 1 [(di 6),(di 7)]))]):DV)=r))∧(((v==5)=false)→((((v==6)=true)→(((.ak [(.slc 1 2 (aS false 1 [(ds (ByteArray.mk #[42])),(ds (ByteArray.mk #[47]))])),(.slc 1 2 (aS false 1 [(di 8),(di 9)]))]):DV)=r))∧(((v==6)=false)→(((.ak [(.con (.slice none 0 0)),(.con (.slice none 0 0))]):DV)=r)))))))))))) (by kernel_rfl) ?_
  simp only[beq_iff_eq,beq_eq_false_iff_ne,ne_eq]
  refine⟨fun e=>(h1 e).symm,fun n1=>⟨fun e=>(h2 e).symm,fun n2=>⟨fun e=>(h4 e).symm,fun n4=>⟨fun e=>(h5 e).symm,fun n5=>⟨fun e=>(h6 e).symm,fun n6=>(h0 n1 n2 n4 n5 n6).symm⟩⟩⟩⟩⟩
 by_cases h1:v=1
 ·subst h1
  refine key _ (zS rfl rfl ?_ ?_) ⟨fun _=>rfl,fun h=>(by omega),fun h=>(by omega),fun h=>(by omega),fun h=>(by omega),fun h=>(by omega)⟩
  ·intro i hi;have hi:i<1:=hi;rcases i with _|i<;>first|rfl|omega
  ·intro i hi;have hi:i<1:=hi;rcases i with _|i<;>first|rfl|omega
 by_cases h2:v=2
 ·subst h2
  refine key _ (zS rfl rfl ?_ ?_) ⟨fun h=>(by omega),fun _=>rfl,fun h=>(by omega),fun h=>(by omega),fun h=>(by omega),fun h=>(by omega)⟩
  ·intro i hi;have hi:i<1:=hi;rcases i with _|i<;>first|rfl|omega
  ·intro i hi;have hi:i<1:=hi;rcases i with _|i<;>first|rfl|omega
 by_cases h4:v=4
 ·subst h4
  refine key _ (zS rfl rfl ?_ ?_) ⟨fun h=>(by omega),fun h=>(by omega),fun _=>rfl,fun h=>(by omega),fun h=>(by omega),fun h=>(by omega)⟩
  ·intro i hi;have hi:i<6:=hi;rcases i with _|_|_|_|_|_|i<;>first|rfl|omega
  ·intro i hi;have hi:i<6:=hi;rcases i with _|_|_|_|_|_|i<;>first|rfl|omega
 by_cases h5:v=5
 ·subst h5
  refine key _ (zS rfl rfl ?_ ?_) ⟨fun h=>(by omega),fun h=>(by omega),fun h=>(by omega),fun _=>rfl,fun h=>(by omega),fun h=>(by omega)⟩
  ·intro i hi;have hi:i<2:=hi;rcases i with _|_|i<;>first|rfl|omega
  ·intro i hi;have hi:i<2:=hi;rcases i with _|_|i<;>first|rfl|omega
 by_cases h6:v=6
 ·subst h6
  refine key _ (zS rfl rfl ?_ ?_) ⟨fun h=>(by omega),fun h=>(by omega),fun h=>(by omega),fun h=>(by omega),fun _=>rfl,fun h=>(by omega)⟩
  ·intro i hi;have hi:i<2:=hi;rcases i with _|_|i<;>first|rfl|omega
  ·intro i hi;have hi:i<2:=hi;rcases i with _|_|i<;>first|rfl|omega
 have e:lJ v=[]:=by unfold lJ;rw[if_neg h1,if_neg h2,if_neg h4,if_neg h5,if_neg h6]
 refine key _ (fun k x hx=>?_) ⟨fun h=>absurd h h1,fun h=>absurd h h2,fun h=>absurd h h4,fun h=>absurd h h5,fun h=>absurd h h6,fun _ _ _ _ _=>rfl⟩
 unfold Py opsT
 rw[e]
 obtain ⟨us,rfl,a,us1,rfl,ha,b,Yz,rfl,hb,h0⟩:=hx
 exact⟨_,rfl,_,_,rfl,lV ha,_,_,rfl,lV hb,h0⟩
theorem Xh (v:Int):(lJ v).length≤6:=by
 unfold lJ
 split
 ·decide
 split
 ·decide
 split
 ·decide
 split
 ·decide
 split
 ·decide
 ·decide
theorem FU {k:IH} {sz n:Nat} {f g:Nat→DV} (hfg:∀i,i<n→∀v,DV.rel k (f i) v→DV.rel k (g i) v) {v:Value} (hr:DV.rel k (.slc sz n f) v):DV.rel k (.slc sz n g) v:=by
 obtain ⟨p,cap,e,hc,r⟩:=hr
 exact⟨p,cap,e,hc,r.imp id fun ⟨b,off,hp,r⟩=>⟨b,off,hp,fun i hi=>let ⟨v,hv,hs,hj⟩:=r i hi;⟨v,hfg i hi v hv,hs,hj⟩⟩⟩
def ku:List (List ByteArray):=[[⟨#[111,114]⟩],[⟨#[97,110,100]⟩],[],[⟨#[61,61]⟩,⟨#[33,61]⟩,⟨#[60]⟩,⟨#[60,61]⟩,⟨#[62]⟩,⟨#[62,61]⟩],[⟨#[43]⟩,⟨#[45]⟩],[⟨#[42]⟩,⟨#[47]⟩]]
def Np (i:Nat):DV:=.slc 1 (ku.getD i []).length (iY (ku.getD i []))
abbrev UH:DV:=.slc 1 6 Np
def st1 (l:List ByteArray):DV:=.slc 1 l.length (aS false 1 (l.map fun s=>ds s))
theorem tu {l:List ByteArray} {k:IH} {v:Value} (h:DV.rel k (st1 l) v):DV.rel k (.slc 1 l.length (iY l)) v:=by
 refine DV.jH (fun i hi=>?_) h
 unfold aS iY
 simp[List.getD,iT hi]
def lvR (i:Nat):DV:=aS false 1 [st1 [⟨#[111,114]⟩],st1 [⟨#[97,110,100]⟩],.con (.slice none 0 0),st1 [⟨#[61,61]⟩,⟨#[33,61]⟩,⟨#[60]⟩,⟨#[60,61]⟩,⟨#[62]⟩,⟨#[62,61]⟩],st1 [⟨#[43]⟩,⟨#[45]⟩],st1 [⟨#[42]⟩,⟨#[47]⟩]] i
theorem f87:ay Tryz.prog G 87 [] UH:=by
 refine JK (r:=.slc 1 6 lvR) (ay.walk (aj:=({ d:=fun _ _=>none }:dK)) (keep:=[]) follows Tryz.func87 rfl Tryz.call87 ?_) fun k v hv=>?_
 ·refine au (fun _ _ _ _=>(((.slc 1 6 (aS false 1 [(.slc 1 1 (aS false 1 [(ds (ByteArray.mk #[111,114]))])),(.slc 1 1 (aS false 1 [(ds (ByteArray.mk #[97,110,100]))])),(.con (.slice none 0 0)),(.slc 1 6 (aS false 1 [(ds (ByteArray.mk #[61,61])),(ds (ByteArray.mk #[33,61])),(ds (ByteArray.mk #[60])),(ds (ByteArray.mk #[60,61])),(ds (ByteArray.mk #[62])),(ds (ByteArray.mk #[62,61]))])),(.slc 1 2 (aS false 1 [(ds (ByteArray.mk #[43])),(ds (ByteArray.mk #[45]))])),(.slc 1 2 (aS false 1 [(ds (ByteArray.mk #[42])),(ds (ByteArray.mk #[47]))]))])):DV)=(.slc 1 6 lvR))) (by kernel_rfl) ?_
  rfl
 ·refine FU (fun i hi v hv=>?_) hv
  rcases i with _|_|_|_|_|_|i
  ·exact tu hv
  ·exact tu hv
  ·exact lV hv
  ·exact tu hv
  ·exact tu hv
  ·exact tu hv
  ·omega
abbrev bn:AV:=.box 1000000 0
def qY (s:ByteArray) (l:List ByteArray):Bool:=dN l s
def zo (s:ByteArray):Int:=if ku.any (qY s) then ((ku.takeWhile fun l=>!qY s l).length:Int) else -1
def acU (r:Bool):cZ:=fun f a=>match f,a with
 | 111,[_,_]=>some (db r)
 | _,_=>none
def acT:cZ:=fun f a=>match f,a with
 | 94,[]=>some Um
 | 87,[]=>some UH
 | _,_=>none
theorem f120 (l:List ByteArray) (s:ByteArray) (hl:l.length≤1000000):aA Tryz.prog G 120 [.d (.slc 1 l.length (iY l)),bn] [(1000000,[vs s])] (.d (db (qY s l))) [(1000000,[vs s])]:=by
 refine aA.walk (aj:=acU (dN l s)) (keep:=[]) [] follows (by kernel_rfl) Tryz.func120 rfl Tryz.call120 ?_
 refine au (fun _ _ _ ZK=>(ZK 111 [(.slc 1 l.length (iY l)),(ds s)] (db (dN l s))∧((vb (dN l s)):AV)=(vb (qY s l))∧((some [(vs s)]):(Option (List AV)))=(some [(vs s)])∧True)) (by kernel_rfl) ?_
 exact⟨f111 l s hl,rfl,rfl,trivial⟩
noncomputable def mL (s:ByteArray) (i:Nat) (f:FuncId) (a:List AV) (pre:List (Nat×List AV)):Option (AV×List (Nat×List AV)):=match f with
 | 120=>some (.d (db (qY s (ku.getD i []))),pre)
 | 119=>some (.d (di (zo s)),pre)
 | _=>none
noncomputable def Uk (s:ByteArray) (i:Nat):dK:={ d:=acT,m:=mL s i }
noncomputable def aea (s:ByteArray) (k:Nat):AS:=⟨regs Tryz.f119.ntmps [(0,.d UH),(1,.clo (.func 120) [] [bn]),(7,vi (6:Nat)),(8,vi k)],[(1000000,[vs s])]⟩
theorem abp {s:ByteArray} {k:Nat} (hk:k<6) (hno:∀i,i<k→qY s (ku.getD i [])=false) (h:qY s (ku.getD k [])=true):zo s=k:=by
 have h1:ku.any (qY s)=true:=List.any_eq_true.2 ⟨ku.getD k [],by rw[List.getD,iT (show k<ku.length from hk)];exact List.getElem_mem _,h⟩
 unfold zo
 rw[if_pos h1]
 have:∀(l:List (List ByteArray)) (k:Nat) (hk:k<l.length),(∀i,i<k→qY s (l.getD i [])=false)→qY s (l.getD k [])=true→(l.takeWhile fun x=>!qY s x).length=k:=by
  intro l
  induction l with
  | nil=>intro k hk;simp at hk
  | cons x l ih=>
   intro k hk h2 h3
   cases k with
   | zero=>
    have h3:qY s x=true:=h3
    rw[List.takeWhile_cons,h3];simp
   | succ k=>
    have h4:qY s x=false:=h2 0 (by omega)
    rw[List.takeWhile_cons]
    simp only[h4,Bool.not_false,if_true,List.length_cons]
    rw[ih k (by simpa using hk) (fun i h5=>h2 (i+1) (by omega)) h3]
 rw[this ku k hk hno h]
theorem aas {s:ByteArray} (hno:∀i,i<6→qY s (ku.getD i [])=false):zo s = -1:=by
 have h1:ku.any (qY s)=false:=by
  rw[Bool.eq_false_iff]
  intro h
  obtain ⟨x,hx,hd⟩:=List.any_eq_true.1 h
  obtain ⟨i,hi,rfl⟩:=List.getElem_of_mem hx
  have:=hno i hi
  rw[List.getD,iT hi] at this
  rw[show qY s ku[i]=false from this] at hd
  cases hd
 unfold zo
 rw[h1];rfl
theorem f119 (s:ByteArray):aA Tryz.prog G 119 [.d UH,.clo (.func 120) [] [bn]] [(1000000,[vs s])] (.d (di (zo s))) [(1000000,[vs s])]:=by
 refine aA.walk (aj:=Uk s 0) (keep:=[]) [] follows (by kernel_rfl) Tryz.func119 rfl Tryz.call119 ?_
 refine au (fun ZT ZW ZQ _=>ZW [cd Tryz.f119 [1,0,1,0],(.blk 0),cd Tryz.f119 [1,1]] (aB ZT []) ZQ) (by kernel_rfl) ?_
 refine aK.loop (c:=aY (aC Tryz.f119) [1,0,1,0,0]) (by kernel_rfl) (aea s) (fun k=>k≤6∧∀i,i<k→qY s (ku.getD i [])=false) (fun k=>6-k) 0 ?_ ⟨Nat.zero_le _,fun i hi=>by omega⟩ ?_
 ·exact AS.bV (by kernel_rfl)
 ·rintro k ⟨hk,hkd⟩
  refine walk (aj:=Uk s k) (keep:=[]) (cuts:=[]) (n:=1000) follows ?_
  refine bZ (fun ZT ZW ZQ _ ZA _=>((((decide ((↑k:Int)<6))=true)→((((0≤(↑k:Int))∧((↑k:Int)<↑6))∧aA Tryz.prog G 120 [(.d (.slc 1 (ku.getD (↑k:Int).toNat []).length (iY (ku.getD (↑k:Int).toNat [])))),(.box 1000000 0)] [(1000000,[(vs s)])] (vb (qY s (ku.getD k []))) [(1000000,[(vs s)])])∧(((qY s (ku.getD k []))=true)→(((vi (↑k)):AV)=(vi (zo s))∧((some [(vs s)]):(Option (List AV)))=(some [(vs s)])∧True))∧(((qY s (ku.getD k []))=false)→((I64 (↑k+1))∧(ZA (aB ZT [0,1]))))))∧(((decide ((↑k:Int)<6))=false)→ZW [cd Tryz.f119 [1,1]] (aB ZT [1]) ZQ))) (by kernel_rfl) ?_
  simp only[Int.toNat_natCast]
  refine⟨fun h=>?_,fun h=>?_⟩
  ·have hk2:k<6:=by have:=of_decide_eq_true h;omega
   have hl:(ku.getD k []).length≤1000000:=by
    rcases k with _|_|_|_|_|_|k<;>first|decide|omega
   refine⟨⟨⟨by omega,by omega⟩,f120 _ s hl⟩,fun h2=>?_,fun h2=>⟨⟨by omega,by omega⟩,Again.mk (k+1) ?_ ⟨hk2,fun i hi=>?_⟩ (by omega)⟩⟩
   ·rw[abp hk2 hkd h2]
    first|exact⟨rfl,rfl,trivial⟩|exact⟨rfl,trivial⟩|simp
   ·exact AS.bV (by kernel_rfl)
   ·rcases Nat.lt_or_ge i k with h1|h1
    ·exact hkd i h1
    ·obtain rfl:i=k:=by omega
     exact h2
  ·simp only[decide_eq_false_iff_not] at h
   refine walk (aj:=Uk s k) (keep:=[]) (cuts:=[]) (n:=1000) follows ?_
   refine au (fun _ _ _ _=>(((vi (-1)):AV)=(vi (zo s))∧((some [(vs s)]):(Option (List AV)))=(some [(vs s)])∧True)) (by kernel_rfl) ?_
   rw[aas (fun i hi=>hkd i (by omega))]
   first|exact⟨rfl,rfl,trivial⟩|exact⟨rfl,trivial⟩|simp
def bU (k:Int):Int:=if k=18 then 2 else if k=5 then 6 else if dY k then zo (dQ k) else 7
theorem f97 (m:Nat) (x:Ex):ay Tryz.prog G 97 [jG m x] (di (bU x.k)):=by
 refine ay.walk (aj:=Uk (dQ x.k) 0) (keep:=[]) follows Tryz.func97 rfl Tryz.call97 ?_
 refine au (fun _ _ _ ZK=>(fun Za=>((((x.k==18)=true)→(((di 2):DV)=(di (bU x.k))))∧(((x.k==18)=false)→((((x.k==5)=true)→(((di 6):DV)=(di (bU x.k))))∧(((x.k==5)=false)→((ZK 94 [] (.mp (some .i64) (fun v=>DV.con (Value.string (dQ (gX v)))) (fun v=>dY (gX v)))∧(((dY Za)=false)→((ds (ByteArray.mk #[])).imp (DV.con (Value.string (dQ Za))))))∧(((dY Za)=true)→((ZK 87 [] (.slc 1 6 Np)∧aA Tryz.prog G 119 [(.d (.slc 1 6 Np)),(.clo (.func 120) [] [(.box 1000000 0)])] [(1000000,[(vs (dQ Za))])] (vi (zo (dQ x.k))) [(1000000,[(vs (dQ Za))])])∧((di (zo (dQ x.k))):DV)=(di (bU x.k))))∧(((dY Za)=false)→(((di 7):DV)=(di (bU x.k)))))))))) (gX (Value.int IntKind.i64 x.k))) (by kernel_rfl) ?_
 unfold bU
 repeat' (first|(with_reducible refine And.intro ?_ ?_)|(with_reducible intro _))
 all_goals (try simp only[beq_iff_eq,beq_eq_false_iff_ne,ne_eq] at *)
 all_goals first
  | exact f94
  | exact f87
  | exact f119 _
  | contradiction
  | exact imp_eq (congrArg ds (Ns (by assumption)))
  | (refine congrArg di ?_;simp[*];done)
  | (refine congrArg di ?_;rw[if_neg (by assumption),if_neg (by assumption),if_pos (by assumption)])
  | (refine congrArg di ?_;rw[if_neg (by assumption),if_neg (by assumption),if_neg (by rw[show dY x.k=false by assumption];decide)])
set_option maxHeartbeats 4000000
/-! The text of an expression. -/
def fG (least:Int) (p:Int×ByteArray):ByteArray:=if p.1<least then (⟨#[40]⟩:ByteArray)++p.2++(⟨#[41]⟩:ByteArray) else p.2
def g0 (l:List (Int×ByteArray)) (i:Nat):Int×ByteArray:=l.getD i (0,.empty)
def zM (k:Int):Int:=if bU k=3 then bU k+1 else bU k
def iD:ByteArray:=⟨#[44,32]⟩
def Gq (k:Int) (s:ByteArray) (n d:Int) (fl:List (Int×ByteArray)):ByteArray:=
 if k=1 then lH n d else if k=2 then s else if k=3 then ⟨#[116,114,117,101]⟩ else if k=4 then ⟨#[102,97,108,115,101]⟩
 else if k=5 then (⟨#[45]⟩:ByteArray)++fG 6 (g0 fl 0) else if k=18 then (⟨#[110,111,116,32]⟩:ByteArray)++fG 2 (g0 fl 0)
 else if k=10 then (⟨#[109,105,110,40]⟩:ByteArray)++fV (fl.map (·.2)) iD++(⟨#[41]⟩:ByteArray)
 else if k=11 then (⟨#[109,97,120,40]⟩:ByteArray)++fV (fl.map (·.2)) iD++(⟨#[41]⟩:ByteArray)
 else fG (zM k) (g0 fl 0)++(⟨#[32]⟩:ByteArray)++dQ k++(⟨#[32]⟩:ByteArray)++fG (bU k+1) (g0 fl 1)
mutual
def bD:Ex→ByteArray
 | .mk k s n d _ l=>Gq k s n d (gK l)
def gK:List Ex→List (Int×ByteArray)
 | []=>[]
 | x :: l=>(bU x.k,bD x) :: gK l
end
theorem Rq (x:Ex):bD x=Gq x.k x.s x.n x.d (gK x.kids):=by cases x;simp only[bD,Ex.k,Ex.s,Ex.n,Ex.d,Ex.kids]
theorem G6:∀l:List Ex,gK l=l.map fun y=>(bU y.k,bD y)
 | []=>rfl
 | x :: l=>by simp only[gK,List.map_cons,G6 l]
theorem Ed {l:List Ex} {i:Nat} (hi:i<l.length):g0 (gK l) i=(bU (l.getD i aJ).k,bD (l.getD i aJ)):=by
 unfold g0
 rw[G6,List.getD,List.getD,List.getElem?_map,iT hi];rfl
def nO:List (Int×ByteArray)→Nat
 | []=>0
 | p :: l=>p.2.size+4+nO l
theorem kY (v:Int) (p:Int×ByteArray):(fG v p).size≤p.2.size+2:=by
 unfold fG
 split
 ·rw[ByteArray.size_append,ByteArray.size_append]
  show 1+p.2.size+1≤_
  omega
 ·omega
theorem EH:∀(l:List (Int×ByteArray)),(g0 l 0).2.size+(g0 l 1).2.size≤nO l
 | []=>Nat.zero_le _
 | [p]=>by show p.2.size+0≤_;simp only[nO];omega
 | p :: q :: l=>by show p.2.size+q.2.size≤_;simp only[nO];omega
theorem OH (l:List (Int×ByteArray)):(g0 l 0).2.size≤nO l:=by have:=EH l;omega
theorem Oi:∀(l:List ByteArray),(Lib.join (l.map (·.data.toList)) iD.data.toList).length≤(l.map fun s=>s.size+2).sum
 | []=>by simp[Lib.join_nil]
 | [s]=>by
  simp only[List.map_cons,List.map_nil,Lib.join_one,List.sum_cons,List.sum_nil]
  rw[dG];omega
 | s :: t :: l=>by
  have ih:=Oi (t :: l)
  have e:Lib.join ((s :: t :: l).map (·.data.toList)) iD.data.toList=s.data.toList++(iD.data.toList++Lib.join ((t :: l).map (·.data.toList)) iD.data.toList):=by
   simp[Lib.join,List.intercalate,List.intersperse]
  rw[e,List.length_append,List.length_append,dG]
  have:iD.data.toList.length=2:=rfl
  simp only[List.map_cons,List.sum_cons] at ih⊢
  omega
theorem Bf (l:List (Int×ByteArray)):(fV (l.map (·.2)) iD).size≤nO l:=by
 have h:=Oi (l.map (·.2))
 have e:∀l:List (Int×ByteArray),((l.map (·.2)).map fun s=>s.size+2).sum≤nO l:=by
  intro l
  induction l with
  | nil=>simp[nO]
  | cons p l ih=>simp only[List.map_cons,List.sum_cons,nO];omega
 have:=e l
 unfold fV
 show (Array.mk _).size≤_
 simp only[List.size_toArray] at *
 omega
theorem Gx (k:Int):(dQ k).size≤3:=by
 have h:∀(c:Bool) (a b:ByteArray),a.size≤3→b.size≤3→(bif c then a else b).size≤3:=fun c a b h1 h2=>by cases c<;>assumption
 unfold dQ
 repeat (refine h _ _ _ (by decide) ?_)
 decide
theorem Vg (k:Int) (s:ByteArray) (n d:Int) (fl:List (Int×ByteArray)) (hs:s.size≤1000):(Gq k s n d fl).size≤1010+nO fl:=by
 have h1:=SV n d
 have t1:=EH fl
 have t0:=OH fl
 have j:=Bf fl
 have o:=Gx k
 have w1:=kY 6 (g0 fl 0)
 have w2:=kY 2 (g0 fl 0)
 have w3:=kY (zM k) (g0 fl 0)
 have w4:=kY (bU k+1) (g0 fl 1)
 unfold Gq
 repeat' split
 all_goals (try simp only[ByteArray.size_append])
 ·omega
 ·omega
 ·show 4≤_;omega
 ·show 5≤_;omega
 ·show 1+_≤_;omega
 ·show 4+_≤_;omega
 ·show 4+_+1≤_;omega
 ·show 4+_+1≤_;omega
 ·show _+1+_+1+_≤_;omega
mutual
theorem KC:∀x:Ex,jJ x→(bD x).size+4≤1100*iJ x
 | .mk k s n d a l,h=>by
  simp only[jJ] at h
  have h1:=Vg k s n d (gK l) h.1
  have h2:=DN l h.2
  simp only[bD,iJ];omega
theorem DN:∀l:List Ex,y8 l→nO (gK l)≤1100*mD l
 | [],_=>by simp[gK,nO]
 | x :: l,h=>by
  simp only[y8] at h
  have h1:=KC x h.1
  have h2:=DN l h.2
  simp only[gK,nO,mD];omega
end
theorem Sm.size {x:Ex} (h:Sm x):(bD x).size≤1100000:=by
 have:=KC x h.tx
 have:=h.nd
 omega
noncomputable def Ad (j:ByteArray):cZ:=fun f a=>match f,a with
 | 91,[fr n d]=>some (.ak [ds (lH n d),db (nP n d)])
 | 95,[e,.con (.int .i64 v)]=>some (ds (fG v (bU (aO e).k,bD (aO e))))
 | 50,[e]=>some (ds (bD (aO e)))
 | 97,[e]=>some (di (bU (aO e).k))
 | 94,[]=>some Um
 | 96,[_,_]=>some (ds j)
 | _,_=>none
theorem abB {m:Nat} {y:Ex} (hy:ht y≤m) (hsz:(bD y).size≤10000000) (h:ay Tryz.prog G 50 [jG m y] (ds (bD y))) (v:Int):ay Tryz.prog G 95 [jG m y,di v] (ds (fG v (bU y.k,bD y))):=by
 have e:aO (exV y.k y.s y.n y.d y.pos y.kids.length (lay (cu m) y.kids))=y:=ig hy
 refine ay.walk (aj:=Ad .empty) (keep:=[]) follows Tryz.func95 rfl Tryz.call95 ?_
 refine au (fun _ _ _ ZK=>(ZK 97 [(aN m y)] (di (bU (aO (aN m y)).k))∧(((decide (bU (aO (aN m y)).k<v))=true)→((ZK 50 [(aN m y)] (ds (bD (aO (aN m y))))∧((ByteArray.mk #[40]).size+(bD (aO (aN m y))).size≤9223372036854775807)∧((ByteArray.mk #[40]++bD (aO (aN m y))).size+(ByteArray.mk #[41]).size≤9223372036854775807))∧((ds (ByteArray.mk #[40]++bD (aO (aN m y))++ByteArray.mk #[41])):DV)=(ds (fG v (bU y.k,bD y)))))∧(((decide (bU (aO (aN m y)).k<v))=false)→(ZK 50 [(aN m y)] (ds (bD (aO (aN m y))))∧((ds (bD (aO (aN m y)))):DV)=(ds (fG v (bU y.k,bD y))))))) (by kernel_rfl) ?_
 simp only[e]
 unfold fG
 refine⟨f97 m y,fun h1=>⟨⟨h,?_,?_⟩,?_⟩,fun h1=>⟨h,?_⟩⟩
 ·show 1+_≤_;omega
 ·rw[ByteArray.size_append];show 1+_+1≤_;omega
 ·rw[if_pos (of_decide_eq_true h1)]
 ·rw[if_neg (of_decide_eq_false h1)]
abbrev Wu:RK:=⟨false,9,false,none⟩
def IX (f0:Nat→DV) (agg:Bool) (sz:Nat) (g:Nat→List DV):Nat→Nat→DV
 | 0=>f0
 | k+1=>fun i=>bif Nat.blt i k then IX f0 agg sz g k i else aS agg sz (g k) (i-k)
theorem IV {f0:Nat→DV} {agg:Bool} {sz:Nat} {g:Nat→List DV}:∀{k i:Nat},i<k→IX f0 agg sz g k i=aS agg sz (g i) 0
 | k+1,i,h=>by
  show (bif Nat.blt i k then IX f0 agg sz g k i else aS agg sz (g k) (i-k))=_
  cases hb:Nat.blt i k with
  | true=>rw[Nat.blt_eq] at hb;exact IV hb
  | false=>
   have hb:¬i<k:=by rw[←Nat.blt_eq,hb];decide
   obtain rfl:i=k:=by omega
   rw[Nat.sub_self];rfl
def wI (x:Ex):Nat→Nat→DV:=IX (fun _=>DV.con undef) false 1 fun j=>[ds (bD (x.kids.getD j aJ))]
noncomputable def S74 (m:Nat) (x:Ex) (k:Nat):AS:=⟨regs Tryz.f50.ntmps [(1,.box 1 0),(5,.vec 900 1 0 k),(49,.d (.slc 6 x.kids.length (lay (cu m) x.kids))),(50,vi x.kids.length),(51,vi k)],[(1,jl m x),(900,[.arr Wu 1 (wI x k)])]⟩
theorem Qx {x:Ex} (h:cO x=true) (hk:x.k=5∨x.k=18):x.kids.length=1:=by
 rw[tH] at h
 unfold zA at h
 rw[if_neg (by omega),if_neg (by omega),if_neg (by omega),if_pos hk] at h
 unfold DY at h
 simp only[aV,decide_eq_true_eq] at h
 omega
theorem aax {x:Ex} (h:cO x=true) (hk:¬x.k=1∧¬x.k=2∧¬x.k=3∧¬x.k=4∧¬x.k=5∧¬x.k=18∧¬x.k=10∧¬x.k=11):x.kids.length=2∧dY x.k=true:=by
 obtain ⟨h1,h2,h3,h4,h5,h6,h7,h8⟩:=hk
 rw[tH] at h
 unfold zA at h
 rw[if_neg h1,if_neg h2,if_neg (by omega),if_neg (by omega),if_neg (by omega)] at h
 unfold DY at h
 simp only[aV,decide_eq_true_eq] at h
 exact⟨by omega,h.1⟩
theorem OT:∀{l:List Ex} {i:Nat},yI l=true→i<l.length→cO (l.getD i aJ)=true
 | x :: l,i,h,hi=>by
  simp only[yI,aV] at h
  cases i with
  | zero=>exact h.1
  | succ i=>exact OT (i:=i) h.2 (by simpa using hi)
theorem JH {x:Ex} (h:cO x=true) {i:Nat} (hi:i<x.kids.length):cO (x.kids.getD i aJ)=true:=by
 refine OT ?_ hi
 rw[tH] at h
 unfold zA DY at h
 revert h
 repeat' split
 ·intro h;simp only[aV,decide_eq_true_eq] at h;omega
 ·intro h;simp only[aV,decide_eq_true_eq] at h;omega
 all_goals (intro h;simp only[aV] at h)
 ·exact h.2
 ·exact h.2
 ·exact h.2
 ·exact h.2.2
theorem ND {x:Ex} (k:Nat) {d:DV} (h:d=ds (bD (x.kids.getD k aJ))):(fun i=>bif Nat.blt i k then wI x k i else aS false 1 [d] (i-k))=wI x (k+1):=by
 subst h;rfl
theorem Sm.tot {x:Ex} (h:Sm x):nO (gK x.kids)≤1100000:=by
 have h1:=h.nd
 have h2:=h.tx
 cases x
 simp only[jJ] at h2
 have:=DN _ h2.2
 simp only[Ex.kids,iJ] at *
 omega
theorem OG (l:List Ex):(gK l).map (·.2)=l.map bD:=by
 rw[G6,List.map_map];rfl
theorem aaX (x:Ex) (hl:x.kids.length≤1000) (hs:(fV ((gK x.kids).map (·.2)) iD).size≤10000000):ay Tryz.prog G 96 [.slc 1 x.kids.length fun i=>wI x x.kids.length (0+i),ds iD] (ds (fV ((gK x.kids).map (·.2)) iD)):=by
 have hlen:((gK x.kids).map (·.2)).length=x.kids.length:=by rw[OG,List.length_map]
 refine(f96 ((gK x.kids).map (·.2)) iD (by omega) ?_).args fun k us h=>?_
 ·unfold fV at hs
  have hs:(Array.mk _).size≤_:=hs
  simp only[List.size_toArray] at hs
  omega
 ·obtain ⟨v,us',rfl,hv,hr⟩:=h
  refine⟨v,us',rfl,?_,hr⟩
  rw[hlen]
  refine DV.jH (fun i hi=>?_) hv
  rw[Nat.zero_add]
  unfold wI iY
  rw[IV hi,OG]
  show ds (bD (x.kids.getD i aJ))=ds ((x.kids.map bD).getD i .empty)
  rw[List.getD,iT hi,List.getD,List.getElem?_map,iT hi]
  rfl
theorem abG (s:ByteArray):-1≤zo s∧zo s≤6:=by
 unfold zo
 have:(ku.takeWhile fun l=>!qY s l).length≤6:=(List.takeWhile_sublist _).length_le
 split<;>omega
theorem aco (k:Int):-1≤bU k∧bU k≤8:=by
 have:=abG (dQ k)
 unfold bU
 repeat' split
 all_goals omega
theorem f50 (hT:Tab G) (m:Nat):∀(x:Ex),ht x≤m→Sm x→cO x=true→ay Tryz.prog G 50 [jG m x] (ds (bD x)):=by
 induction m using Nat.strongRecOn with
 | _ m ih=>
 intro x hx hs hsn
 have hl:=hs.len.1
 have e:aO (exV x.k x.s x.n x.d x.pos x.kids.length (lay (cu m) x.kids))=x:=ig hx
 have RZ:∀i,i<x.kids.length→ay Tryz.prog G 50 [iF m x i] (ds (bD (x.kids.getD i aJ))):=fun i hi=>
  wZ (Q:=fun d=>ay Tryz.prog G 50 [d] _) hx hi fun m' h1 h2=>ih m' h1 _ h2 (hs.kid hi) (JH hsn hi)
 have h122:∀i,i<x.kids.length→∀v,ay Tryz.prog G 95 [iF m x i,di v] (ds (fG v (g0 (gK x.kids) i))):=fun i hi v=>by
  rw[Ed hi]
  exact wZ (Q:=fun d=>ay Tryz.prog G 95 [d,di v] _) hx hi fun m' h1 h2=>abB h2 (by have:=(hs.kid hi).size;omega) (ih m' h1 _ h2 (hs.kid hi) (JH hsn hi)) v
 refine ay.walk (aj:=Ad (fV ((gK x.kids).map (·.2)) iD)) (keep:=[]) follows Tryz.func50 rfl Tryz.call50 ?_
 refine au (fun ZT ZW ZQ ZK=>(fun Za Zb Zc Zd Ze Zf Zg Zh=>((((x.k==1)=true)→(ZK 91 [(.agg [(di x.n),(di x.d)])] (.ak [(ds (lH x.n x.d)),(db (nP x.n x.d))])∧((ds (lH x.n x.d)):DV)=(ds (bD x))))∧(((x.k==1)=false)→((((x.k==2)=true)→(((ds x.s):DV)=(ds (bD x))))∧(((x.k==2)=false)→((((x.k==3)=true)→(((ds (ByteArray.mk #[116,114,117,101])):DV)=(ds (bD x))))∧(((x.k==3)=false)→((((x.k==4)=true)→(((ds (ByteArray.mk #[102,97,108,115,101])):DV)=(ds (bD x))))∧(((x.k==4)=false)→((((x.k==5)=true)→(((((0:Int)≤(0:Int))∧(0<(↑x.kids.length:Int)))∧ZK 95 [Zd,(di 6)] (ds (fG 6 Za))∧((ByteArray.mk #[45]).size+(fG 6 Za).size≤9223372036854775807))∧((ds (ByteArray.mk #[45]++fG 6 Za)):DV)=(ds (bD x))))∧(((x.k==5)=false)→((((x.k==18)=true)→(((((0:Int)≤(0:Int))∧(0<(↑x.kids.length:Int)))∧ZK 95 [Zd,(di 2)] (ds (fG 2 Za))∧((ByteArray.mk #[110,111,116,32]).size+(fG 2 Za).size≤9223372036854775807))∧((ds (ByteArray.mk #[110,111,116,32]++fG 2 Za)):DV)=(ds (bD x))))∧(((x.k==18)=false)→((((x.k==10)=true)→((((x.k==10)=true)→ZW [cd Tryz.f50 [1,0,1,0,1,1,1,1,1,1,1,1,1,1,1,1,1,0,1,0,1,0],(.blk 1),cd Tryz.f50 [1,0,1,0,1,1,1,1,1,1,1,1,1,1,1,1,1,0,1,1],(.blk 0),cd Tryz.f50 [1,1]] (aB ZT [1,1,1,1,1,1,0,0]) ZQ)∧(((x.k==10)=false)→(ZK 97 [(aN m x)] (di (bU (aO (aN m x)).k))∧(((bU (aO (aN m x)).k==3)=true)→(Ze∧((((0:Int)≤(0:Int))∧(0<(↑x.kids.length:Int)))∧ZK 95 [Zd,Zf] (ds (fG (bU (aO (aN m x)).k+1) Za))∧((fG (bU (aO (aN m x)).k+1) Za).size+(ByteArray.mk #[32]).size≤9223372036854775807)∧ZK 94 [] (.mp (some .i64) (fun v=>DV.con (Value.string (dQ (gX v)))) (fun v=>dY (gX v)))∧(((dY Zc)=false)→(Zg.imp (DV.con (Value.string (dQ Zc)))))∧((fG (bU (aO (aN m x)).k+1) Za++ByteArray.mk #[32]).size+(dQ Zc).size≤9223372036854775807)∧((fG (bU (aO (aN m x)).k+1) Za++ByteArray.mk #[32]++dQ Zc).size+(ByteArray.mk #[32]).size≤9223372036854775807)∧(((0:Int)≤(1:Int))∧(1<(↑x.kids.length:Int)))∧Ze∧ZK 95 [Zh,Zf] (ds (fG (bU (aO (aN m x)).k+1) Zb))∧((fG (bU (aO (aN m x)).k+1) Za++ByteArray.mk #[32]++dQ Zc++ByteArray.mk #[32]).size+(fG (bU (aO (aN m x)).k+1) Zb).size≤9223372036854775807))∧((ds (fG (bU (aO (aN m x)).k+1) Za++ByteArray.mk #[32]++dQ Zc++ByteArray.mk #[32]++fG (bU (aO (aN m x)).k+1) Zb)):DV)=(ds (bD x))))∧(((bU (aO (aN m x)).k==3)=false)→(((((0:Int)≤(0:Int))∧(0<(↑x.kids.length:Int)))∧ZK 95 [Zd,(di (bU (aO (aN m x)).k))] (ds (fG (bU (aO (aN m x)).k) Za))∧((fG (bU (aO (aN m x)).k) Za).size+(ByteArray.mk #[32]).size≤9223372036854775807)∧ZK 94 [] (.mp (some .i64) (fun v=>DV.con (Value.string (dQ (gX v)))) (fun v=>dY (gX v)))∧(((dY Zc)=false)→(Zg.imp (DV.con (Value.string (dQ Zc)))))∧((fG (bU (aO (aN m x)).k) Za++ByteArray.mk #[32]).size+(dQ Zc).size≤9223372036854775807)∧((fG (bU (aO (aN m x)).k) Za++ByteArray.mk #[32]++dQ Zc).size+(ByteArray.mk #[32]).size≤9223372036854775807)∧(((0:Int)≤(1:Int))∧(1<(↑x.kids.length:Int)))∧Ze∧ZK 95 [Zh,Zf] (ds (fG (bU (aO (aN m x)).k+1) Zb))∧((fG (bU (aO (aN m x)).k) Za++ByteArray.mk #[32]++dQ Zc++ByteArray.mk #[32]).size+(fG (bU (aO (aN m x)).k+1) Zb).size≤9223372036854775807))∧((ds (fG (bU (aO (aN m x)).k) Za++ByteArray.mk #[32]++dQ Zc++ByteArray.mk #[32]++fG (bU (aO (aN m x)).k+1) Zb)):DV)=(ds (bD x))))))))∧(((x.k==10)=false)→((((x.k==11)=true)→ZW [cd Tryz.f50 [1,0,1,0,1,1,1,1,1,1,1,1,1,1,1,1,1,0,1,0,1,0],(.blk 1),cd Tryz.f50 [1,0,1,0,1,1,1,1,1,1,1,1,1,1,1,1,1,0,1,1],(.blk 0),cd Tryz.f50 [1,1]] (aB ZT [1,1,1,1,1,1,1,0]) ZQ)∧(((x.k==11)=false)→(ZK 97 [(aN m x)] (di (bU (aO (aN m x)).k))∧(((bU (aO (aN m x)).k==3)=true)→(Ze∧((((0:Int)≤(0:Int))∧(0<(↑x.kids.length:Int)))∧ZK 95 [Zd,Zf] (ds (fG (bU (aO (aN m x)).k+1) Za))∧((fG (bU (aO (aN m x)).k+1) Za).size+(ByteArray.mk #[32]).size≤9223372036854775807)∧ZK 94 [] (.mp (some .i64) (fun v=>DV.con (Value.string (dQ (gX v)))) (fun v=>dY (gX v)))∧(((dY Zc)=false)→(Zg.imp (DV.con (Value.string (dQ Zc)))))∧((fG (bU (aO (aN m x)).k+1) Za++ByteArray.mk #[32]).size+(dQ Zc).size≤9223372036854775807)∧((fG (bU (aO (aN m x)).k+1) Za++ByteArray.mk #[32]++dQ Zc).size+(ByteArray.mk #[32]).size≤9223372036854775807)∧(((0:Int)≤(1:Int))∧(1<(↑x.kids.length:Int)))∧Ze∧ZK 95 [Zh,Zf] (ds (fG (bU (aO (aN m x)).k+1) Zb))∧((fG (bU (aO (aN m x)).k+1) Za++ByteArray.mk #[32]++dQ Zc++ByteArray.mk #[32]).size+(fG (bU (aO (aN m x)).k+1) Zb).size≤9223372036854775807))∧((ds (fG (bU (aO (aN m x)).k+1) Za++ByteArray.mk #[32]++dQ Zc++ByteArray.mk #[32]++fG (bU (aO (aN m x)).k+1) Zb)):DV)=(ds (bD x))))∧(((bU (aO (aN m x)).k==3)=false)→(((((0:Int)≤(0:Int))∧(0<(↑x.kids.length:Int)))∧ZK 95 [Zd,(di (bU (aO (aN m x)).k))] (ds (fG (bU (aO (aN m x)).k) Za))∧((fG (bU (aO (aN m x)).k) Za).size+(ByteArray.mk #[32]).size≤9223372036854775807)∧ZK 94 [] (.mp (some .i64) (fun v=>DV.con (Value.string (dQ (gX v)))) (fun v=>dY (gX v)))∧(((dY Zc)=false)→(Zg.imp (DV.con (Value.string (dQ Zc)))))∧((fG (bU (aO (aN m x)).k) Za++ByteArray.mk #[32]).size+(dQ Zc).size≤9223372036854775807)∧((fG (bU (aO (aN m x)).k) Za++ByteArray.mk #[32]++dQ Zc).size+(ByteArray.mk #[32]).size≤9223372036854775807)∧(((0:Int)≤(1:Int))∧(1<(↑x.kids.length:Int)))∧Ze∧ZK 95 [Zh,Zf] (ds (fG (bU (aO (aN m x)).k+1) Zb))∧((fG (bU (aO (aN m x)).k) Za++ByteArray.mk #[32]++dQ Zc++ByteArray.mk #[32]).size+(fG (bU (aO (aN m x)).k+1) Zb).size≤9223372036854775807))∧((ds (fG (bU (aO (aN m x)).k) Za++ByteArray.mk #[32]++dQ Zc++ByteArray.mk #[32]++fG (bU (aO (aN m x)).k+1) Zb)):DV)=(ds (bD x)))))))))))))))))))))) (bU (aO (kC m (x.kids.getD (Int.toNat 0) aJ))).k,bD (aO (kC m (x.kids.getD (Int.toNat 0) aJ)))) (bU (aO (kC m (x.kids.getD (Int.toNat 1) aJ))).k,bD (aO (kC m (x.kids.getD (Int.toNat 1) aJ)))) (gX (Value.int IntKind.i64 x.k)) (kC m (x.kids.getD (Int.toNat 0) aJ)) (I64 (bU (aO (aN m x)).k+1)) (di (bU (aO (aN m x)).k+1)) (ds (ByteArray.mk #[])) (kC m (x.kids.getD (Int.toNat 1) aJ))) (by kernel_rfl) ?_
 try dsimp only
 simp only[e]
 have ef:=Rq x
 unfold Gq at ef
 simp only[beq_iff_eq,beq_eq_false_iff_ne,ne_eq]
 have q0:∀(_:0<x.kids.length),aO (iF m x (Int.toNat (0:Int)))=x.kids.getD 0 aJ:=fun h=>kK hx h
 have q1:∀(_:1<x.kids.length),aO (iF m x (Int.toNat (1:Int)))=x.kids.getD 1 aJ:=fun h=>kK hx h
 refine⟨fun h1=>⟨f91 hT _ _,?_⟩,fun n1=>⟨fun h2=>?_,fun n2=>⟨fun h3=>?_,fun n3=>⟨fun h4=>?_,fun n4=>⟨fun h5=>?_,fun n5=>⟨fun h18=>?_,fun n18=>?_⟩⟩⟩⟩⟩⟩
 ·rw[ef,if_pos h1]
 ·rw[ef,if_neg n1,if_pos h2]
 ·rw[ef,if_neg n1,if_neg n2,if_pos h3]
 ·rw[ef,if_neg n1,if_neg n2,if_neg n3,if_pos h4]
 ·have hl1:=Qx hsn (.inl h5)
  have hl0:0<x.kids.length:=by omega
  simp only[q0 hl0]
  rw[ef,if_neg n1,if_neg n2,if_neg n3,if_neg n4,if_pos h5]
  have hh:=h122 0 hl0 6
  rw[Ed hl0] at hh⊢
  have w:=kY 6 (bU (x.kids.getD 0 aJ).k,bD (x.kids.getD 0 aJ))
  have:=(hs.kid hl0).size
  refine⟨⟨⟨by omega,by omega⟩,hh,?_⟩,rfl⟩
  show 1+_≤_
  simp only at w
  omega
 ·have hl1:=Qx hsn (.inr h18)
  have hl0:0<x.kids.length:=by omega
  simp only[q0 hl0]
  rw[ef,if_neg n1,if_neg n2,if_neg n3,if_neg n4,if_neg n5,if_pos h18]
  have hh:=h122 0 hl0 2
  rw[Ed hl0] at hh⊢
  have w:=kY 2 (bU (x.kids.getD 0 aJ).k,bD (x.kids.getD 0 aJ))
  have:=(hs.kid hl0).size
  refine⟨⟨⟨by omega,by omega⟩,hh,?_⟩,rfl⟩
  show 4+_≤_
  simp only at w
  omega
 ·have htot:=hs.tot
  have hjs:=Bf (gK x.kids)
  have acp:ay Tryz.prog G 96 [.slc 1 x.kids.length fun i=>wI x x.kids.length (0+i),ds iD] (ds (fV ((gK x.kids).map (·.2)) iD)):=aaX x hl (by omega)
  refine⟨fun h10=>⟨fun _=>?_,fun hn=>absurd h10 hn⟩,fun n10=>⟨fun h11=>?_,fun n11=>?_⟩⟩
  ·refine aK.pre (.nilRow _ 5 900 1 Wu (wI x 0) (by kernel_rfl) (by kernel_rfl)) ?_
   refine aK.loop (c:=aY (aC Tryz.f50) [1,0,1,0,1,1,1,1,1,1,1,1,1,1,1,1,1,0,1,0,1,0,0]) (by kernel_rfl) (S74 m x) (fun k=>k≤x.kids.length) (fun k=>x.kids.length-k) 0 ?_ (Nat.zero_le _) ?_
   ·exact AS.bV (by kernel_rfl)
   ·intro k hk
    refine walk (aj:=Ad (fV ((gK x.kids).map (·.2)) iD)) (keep:=[]) (cuts:=[]) (n:=1000) follows ?_
    refine bZ (fun ZT ZW ZQ ZK ZA _=>(fun Za=>((((decide ((↑k:Int)<↑x.kids.length))=true)→(((0≤(↑k:Int))∧((↑k:Int)<↑x.kids.length))∧(ZK 50 [Za] (ds (bD (aO Za)))∧(((k+1)*16≤1099511627776)∧(k+1≤1099511627776))∧(∀(i:Nat),i<1→lC false 1 (aS false 1 [DV.con (Value.string (bD (aO Za)))] i)=true))∧(I64 (↑k+1))∧(ZA (aB ZT [0]))))∧(((decide ((↑k:Int)<↑x.kids.length))=false)→ZW [cd Tryz.f50 [1,0,1,0,1,1,1,1,1,1,1,1,1,1,1,1,1,0,1,1],(.blk 0),cd Tryz.f50 [1,1]] (aB ZT [1]) ZQ))) (kC m (x.kids.getD (↑k:Int).toNat aJ))) (by kernel_rfl) ?_
    try dsimp only
    simp only[Int.toNat_natCast]
    refine⟨fun h=>?_,fun h=>?_⟩
    ·have hk2:k<x.kids.length:=by have:=of_decide_eq_true h;omega
     refine⟨⟨by omega,by omega⟩,⟨?_,⟨by omega,by omega⟩,fun i hi=>(by obtain rfl:i=0:=(by omega);rfl)⟩,⟨by omega,by omega⟩,Again.YT [(59,900)] rfl (k+1) ?_ hk2 (by omega)⟩
     ·show ay Tryz.prog G 50 [iF m x k] (ds (bD (aO (iF m x k))))
      rw[kK hx hk2]
      exact RZ k hk2
     ·refine AS.leZ [] [1] (b:=((T0∧T0∧T0∧T0∧T0∧True)∧T0∧((some [(.arr ⟨false,9,false,none⟩ 1 (fun i=>bif i.blt k then wI x k i else aS false 1 [DV.con (Value.string (bD (aO (kC m (x.kids.getD (↑k:Int).toNat aJ)))))] (i-k)))]):(Option (List AV)))=(some [(.arr ⟨false,9,false,none⟩ 1 (wI x (k+1)))])∧True)) (by kernel_rfl) (by kernel_rfl) ?_
      refine⟨⟨rfl,rfl,rfl,rfl,rfl,trivial⟩,rfl,?_,trivial⟩
      refine congrArg (fun f=>some [AV.arr Wu 1 f]) (ND k ?_)
      show ds (bD (aO (iF m x k)))=_
      rw[kK hx hk2]
    ·simp only[decide_eq_false_iff_not] at h
     obtain rfl:k=x.kids.length:=by omega
     refine walk (aj:=Ad (fV ((gK x.kids).map (·.2)) iD)) (keep:=[]) (cuts:=[]) (n:=1000) follows ?_
     refine au (fun _ _ _ ZK=>(fun Za=>((((x.k==10)=true)→((ZK 96 [(.slc 1 x.kids.length (fun i=>wI x x.kids.length (0+i))),(ds (ByteArray.mk #[44,32]))] (ds (fV Za iD))∧((ByteArray.mk #[109,105,110,40]).size+(fV Za iD).size≤9223372036854775807)∧((ByteArray.mk #[109,105,110,40]++fV Za iD).size+(ByteArray.mk #[41]).size≤9223372036854775807))∧((ds (ByteArray.mk #[109,105,110,40]++fV Za iD++ByteArray.mk #[41])):DV)=(ds (bD x))))∧(((x.k==10)=false)→((ZK 96 [(.slc 1 x.kids.length (fun i=>wI x x.kids.length (0+i))),(ds (ByteArray.mk #[44,32]))] (ds (fV Za iD))∧((ByteArray.mk #[109,97,120,40]).size+(fV Za iD).size≤9223372036854775807)∧((ByteArray.mk #[109,97,120,40]++fV Za iD).size+(ByteArray.mk #[41]).size≤9223372036854775807))∧((ds (ByteArray.mk #[109,97,120,40]++fV Za iD++ByteArray.mk #[41])):DV)=(ds (bD x)))))) (List.map (fun x=>x.snd) (gK x.kids))) (by kernel_rfl) ?_
     try dsimp only
     simp only[beq_iff_eq,beq_eq_false_iff_ne,ne_eq]
     refine⟨fun _=>⟨⟨acp,?_,?_⟩,?_⟩,fun hn=>absurd h10 hn⟩
     ·show 4+_≤_;omega
     ·rw[ByteArray.size_append];show 4+_+1≤_;omega
     ·rw[ef,if_neg n1,if_neg n2,if_neg n3,if_neg n4,if_neg n5,if_neg n18,if_pos h10]
  ·refine aK.pre (.nilRow _ 5 900 1 Wu (wI x 0) (by kernel_rfl) (by kernel_rfl)) ?_
   refine aK.loop (c:=aY (aC Tryz.f50) [1,0,1,0,1,1,1,1,1,1,1,1,1,1,1,1,1,0,1,0,1,0,0]) (by kernel_rfl) (S74 m x) (fun k=>k≤x.kids.length) (fun k=>x.kids.length-k) 0 ?_ (Nat.zero_le _) ?_
   ·exact AS.bV (by kernel_rfl)
   ·intro k hk
    refine walk (aj:=Ad (fV ((gK x.kids).map (·.2)) iD)) (keep:=[]) (cuts:=[]) (n:=1000) follows ?_
    refine bZ (fun ZT ZW ZQ ZK ZA _=>(fun Za=>((((decide ((↑k:Int)<↑x.kids.length))=true)→(((0≤(↑k:Int))∧((↑k:Int)<↑x.kids.length))∧(ZK 50 [Za] (ds (bD (aO Za)))∧(((k+1)*16≤1099511627776)∧(k+1≤1099511627776))∧(∀(i:Nat),i<1→lC false 1 (aS false 1 [DV.con (Value.string (bD (aO Za)))] i)=true))∧(I64 (↑k+1))∧(ZA (aB ZT [0]))))∧(((decide ((↑k:Int)<↑x.kids.length))=false)→ZW [cd Tryz.f50 [1,0,1,0,1,1,1,1,1,1,1,1,1,1,1,1,1,0,1,1],(.blk 0),cd Tryz.f50 [1,1]] (aB ZT [1]) ZQ))) (kC m (x.kids.getD (↑k:Int).toNat aJ))) (by kernel_rfl) ?_
    try dsimp only
    simp only[Int.toNat_natCast]
    refine⟨fun h=>?_,fun h=>?_⟩
    ·have hk2:k<x.kids.length:=by have:=of_decide_eq_true h;omega
     refine⟨⟨by omega,by omega⟩,⟨?_,⟨by omega,by omega⟩,fun i hi=>(by obtain rfl:i=0:=(by omega);rfl)⟩,⟨by omega,by omega⟩,Again.YT [(59,900)] rfl (k+1) ?_ hk2 (by omega)⟩
     ·show ay Tryz.prog G 50 [iF m x k] (ds (bD (aO (iF m x k))))
      rw[kK hx hk2]
      exact RZ k hk2
     ·refine AS.leZ [] [1] (b:=((T0∧T0∧T0∧T0∧T0∧True)∧T0∧((some [(.arr ⟨false,9,false,none⟩ 1 (fun i=>bif i.blt k then wI x k i else aS false 1 [DV.con (Value.string (bD (aO (kC m (x.kids.getD (↑k:Int).toNat aJ)))))] (i-k)))]):(Option (List AV)))=(some [(.arr ⟨false,9,false,none⟩ 1 (wI x (k+1)))])∧True)) (by kernel_rfl) (by kernel_rfl) ?_
      refine⟨⟨rfl,rfl,rfl,rfl,rfl,trivial⟩,rfl,?_,trivial⟩
      refine congrArg (fun f=>some [AV.arr Wu 1 f]) (ND k ?_)
      show ds (bD (aO (iF m x k)))=_
      rw[kK hx hk2]
    ·simp only[decide_eq_false_iff_not] at h
     obtain rfl:k=x.kids.length:=by omega
     refine walk (aj:=Ad (fV ((gK x.kids).map (·.2)) iD)) (keep:=[]) (cuts:=[]) (n:=1000) follows ?_
     refine au (fun _ _ _ ZK=>(fun Za=>((((x.k==10)=true)→((ZK 96 [(.slc 1 x.kids.length (fun i=>wI x x.kids.length (0+i))),(ds (ByteArray.mk #[44,32]))] (ds (fV Za iD))∧((ByteArray.mk #[109,105,110,40]).size+(fV Za iD).size≤9223372036854775807)∧((ByteArray.mk #[109,105,110,40]++fV Za iD).size+(ByteArray.mk #[41]).size≤9223372036854775807))∧((ds (ByteArray.mk #[109,105,110,40]++fV Za iD++ByteArray.mk #[41])):DV)=(ds (bD x))))∧(((x.k==10)=false)→((ZK 96 [(.slc 1 x.kids.length (fun i=>wI x x.kids.length (0+i))),(ds (ByteArray.mk #[44,32]))] (ds (fV Za iD))∧((ByteArray.mk #[109,97,120,40]).size+(fV Za iD).size≤9223372036854775807)∧((ByteArray.mk #[109,97,120,40]++fV Za iD).size+(ByteArray.mk #[41]).size≤9223372036854775807))∧((ds (ByteArray.mk #[109,97,120,40]++fV Za iD++ByteArray.mk #[41])):DV)=(ds (bD x)))))) (List.map (fun x=>x.snd) (gK x.kids))) (by kernel_rfl) ?_
     try dsimp only
     simp only[beq_iff_eq,beq_eq_false_iff_ne,ne_eq]
     refine⟨fun h=>absurd h n10,fun _=>⟨⟨acp,?_,?_⟩,?_⟩⟩
     ·show 4+_≤_;omega
     ·rw[ByteArray.size_append];show 4+_+1≤_;omega
     ·rw[ef,if_neg n1,if_neg n2,if_neg n3,if_neg n4,if_neg n5,if_neg n18,if_neg n10,if_pos h11]
  ·obtain ⟨hl2,hob⟩:=aax hsn ⟨n1,n2,n3,n4,n5,n18,n10,n11⟩
   have hl0:0<x.kids.length:=by omega
   have hl1:1<x.kids.length:=by omega
   simp only[q0 hl0,q1 hl1]
   have NP:bD x=fG (zM x.k) (g0 (gK x.kids) 0)++(⟨#[32]⟩:ByteArray)++dQ x.k++(⟨#[32]⟩:ByteArray)++fG (bU x.k+1) (g0 (gK x.kids) 1):=by
    rw[ef,if_neg n1,if_neg n2,if_neg n3,if_neg n4,if_neg n5,if_neg n18,if_neg n10,if_neg n11]
   have hh0:=h122 0 hl0
   have hh1:=h122 1 hl1
   have w0:=fun v=>kY v (g0 (gK x.kids) 0)
   have w1:=fun v=>kY v (g0 (gK x.kids) 1)
   have ht:=EH (gK x.kids)
   have ho:=Gx x.k
   have hlv:-1≤bU x.k∧bU x.k≤8:=aco _
   rw[Ed hl0] at hh0 w0 NP ht
   rw[Ed hl1] at hh1 w1 NP ht
   unfold zM at NP
   have ko:dY (gX (Value.int IntKind.i64 x.k))=true:=hob
   refine⟨f97 m x,fun h3=>?_,fun h3=>?_⟩
   ·have s0:=w0 (bU x.k+1)
    have s1:=w1 (bU x.k+1)
    simp only at s0 s1 ht
    rw[if_pos h3] at NP
    have hk:gX (Value.int IntKind.i64 x.k)=x.k:=rfl
    refine⟨⟨by omega,by omega⟩,⟨⟨by omega,by omega⟩,hh0 _,?_,f94,fun hf=>?_,?_,?_,⟨by omega,by omega⟩,⟨by omega,by omega⟩,hh1 _,?_⟩,?_⟩
    ·show _+1≤_;omega
    ·rw[ko] at hf;cases hf
    ·rw[ByteArray.size_append,hk];show _+1+_≤_;omega
    ·rw[ByteArray.size_append,ByteArray.size_append,hk];show _+1+_+1≤_;omega
    ·rw[ByteArray.size_append,ByteArray.size_append,ByteArray.size_append,hk];show _+1+_+1+_≤_;omega
    ·rw[NP];rfl
   ·have s0:=w0 (bU x.k)
    have s1:=w1 (bU x.k+1)
    simp only at s0 s1 ht
    rw[if_neg h3] at NP
    have hk:gX (Value.int IntKind.i64 x.k)=x.k:=rfl
    refine⟨⟨⟨by omega,by omega⟩,hh0 _,?_,f94,fun hf=>?_,?_,?_,⟨by omega,by omega⟩,⟨by omega,by omega⟩,hh1 _,?_⟩,?_⟩
    ·show _+1≤_;omega
    ·rw[ko] at hf;cases hf
    ·rw[ByteArray.size_append,hk];show _+1+_≤_;omega
    ·rw[ByteArray.size_append,ByteArray.size_append,hk];show _+1+_+1≤_;omega
    ·rw[ByteArray.size_append,ByteArray.size_append,ByteArray.size_append,hk];show _+1+_+1+_≤_;omega
    ·rw[NP];rfl
/-! The text of an expression,or none. -/
def abe (x:Ex):Bool:=cO x&&decide ((ht x:Int)+1≤32)&&decide ((bD x).size≤16384)
def qQ (x:Ex):ByteArray:=if abe x then bD x else .empty
noncomputable def ac1:cZ:=fun f a=>match f,a with
 | 45,[e]=>some (di ((ht (aO e):Int)+1))
 | 49,[e]=>some (db (cO (aO e)))
 | 50,[e]=>some (ds (bD (aO e)))
 | _,_=>none
theorem f21 (hT:Tab G) (m:Nat) (x:Ex) (hx:ht x≤m) (hs:Sm x):ay Tryz.prog G 21 [jG m x] (ds (qQ x)):=by
 have e:aO (exV x.k x.s x.n x.d x.pos x.kids.length (lay (cu m) x.kids))=x:=ig hx
 refine ay.walk (aj:=ac1) (keep:=[]) follows Tryz.func21 rfl Tryz.call21 ?_
 refine au (fun _ _ _ ZK=>(fun Za=>((ZK 45 [(aN m x)] (di (↑(ht (aO (aN m x)))+1))∧(((!decide ((↑(ht (aO (aN m x))):Int)+1>32))=true)→ZK 49 [(aN m x)] (db (cO (aO (aN m x))))))∧((Za=true)→(((ds (ByteArray.mk #[])):DV)=(ds (qQ x))))∧((Za=false)→(ZK 50 [(aN m x)] (ds (bD (aO (aN m x))))∧(((decide ((↑(bD (aO (aN m x))).size:Int)>16384))=true)→(((ds (ByteArray.mk #[])):DV)=(ds (qQ x))))∧(((decide ((↑(bD (aO (aN m x))).size:Int)>16384))=false)→(((ds (bD (aO (aN m x)))):DV)=(ds (qQ x)))))))) (decide ((↑(ht (aO (aN m x))):Int)+1>32)||!cO (aO (aN m x)))) (by kernel_rfl) ?_
 try dsimp only
 simp only[e]
 unfold qQ abe
 refine⟨⟨f45 m x hx hs,fun _=>f49 hT m x hx hs⟩,fun h=>?_,fun h=>?_⟩
 ·rw[if_neg]
  ·rfl
  ·simp only[Bool.or_eq_true,decide_eq_true_eq,Bool.not_eq_true'] at h
   simp only[aV,decide_eq_true_eq]
   rintro ⟨⟨h1,h2⟩,_⟩
   rcases h with h|h
   ·omega
   ·rw[h] at h1;cases h1
 ·simp only[Bool.or_eq_false_iff,decide_eq_false_iff_not,Bool.not_eq_false'] at h
  refine⟨f50 hT m x hx hs h.2,fun h3=>?_,fun h3=>?_⟩
  ·have:=of_decide_eq_true h3
   rw[h.2,decide_eq_false (by omega:¬(bD x).size≤16384),Bool.and_false];rfl
  ·have:=of_decide_eq_false h3
   rw[h.2,decide_eq_true (by omega:(bD x).size≤16384),decide_eq_true (by omega)];rfl
end Go.Proofs
