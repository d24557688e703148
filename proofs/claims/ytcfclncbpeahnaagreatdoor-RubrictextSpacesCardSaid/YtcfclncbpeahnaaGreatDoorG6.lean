import Derived.Test.YtcfclncbpeahnaaGreatDoorAcD
import Derived.Test.YtcfclncbpeahnaaGreatDoorG5
import Derived.Test.YtcfclncbpeahnaaGreatDoorG2
import Derived.Defers
import Derived.Recover
import Derived.Tactics
import Derived.Tactics2
import Derived.Laws.Pointers
import Derived.Orders
import Derived.Test.YtcfclncbpeahnaaGreatDoorG4
import Derived.Test.YtcfclncbpeahnaaGreatDoorG3
import Derived.Test.YtcfclncbpeahnaaGreatDoorG0
/- The parser,the program's side: rules. -/
set_option autoImplicit false
namespace Go.Proofs
open Go Go.Ab Go.RowKit
set_option maxHeartbeats 4000000
set_option maxRecDepth 100000
variable {G:IH}
abbrev ruA (kd:Int) (nm gr:ByteArray) (am wh:List AV) (pos:Int):List AV:=[vi kd,vs nm,vs gr]++(am++(wh++[vi pos]))
abbrev zeroR:List AV:=ruA 0 ⟨#[]⟩ ⟨#[]⟩ zeroE zeroE 0
noncomputable def S37 (kd:Int) (nm gr:ByteArray) (am wh:List AV) (pos:Int) (t:List Tk) (e:Int):AS:=⟨regs Tryz.f37.ntmps [(0,.box 1000000 0),(2,.box 2 0),(5,.box 5 0)],[(2,zeroR),(5,ruA kd nm gr am wh pos),(1000000,pC t e)]⟩
noncomputable def mRu (w:Tk) (b:Bool) (t1:List Tk) (nm:ByteArray) (t2:List Tk) (x:Ex) (r:List Tk) (e:Int):FuncId→List AV→List (Nat×List AV)→Option (AV×List (Nat×List AV)):=fun f _ _=>match f with
 | 75=>some (.d (.tup [tkD w,db b]),pB t1 e)
 | 78=>some (.d (ds nm),pB t2 e)
 | 79=>some (.d (tkD w),pB t1 e)
 | 44=>some (.d (exW x),pB r e)
 | _=>none
noncomputable def dRu (k:Int):Oracle:=fun f _=>match f with
 | 76=>some (wdD kdL)
 | 77=>some (di k)
 | _=>none
noncomputable def orcRl (k:Int) (w:Tk) (b:Bool) (t1:List Tk) (nm:ByteArray) (t2:List Tk) (x:Ex) (r:List Tk) (e:Int):Orc:={ d:=dRu k,m:=mRu w b t1 nm t2 x r e }
theorem ru_start {Q:Exit→AS→Prop} (t:List Tk) (e:Int) (hS:tkS t) (hk:anyB kdL (hdS t)=true) (hn:nameB (hdS t.tail)=true) (k:AWP Tryz.prog G [.code (cAt (bodyOf Tryz.f37) [1,1,1,1,0]),.code (cAt (bodyOf Tryz.f37) [1,1,1,1,1])] (S37 (indN kdL (hdS t)) (hdS t.tail) .empty zeroE zeroE (hdA e t) t.tail.tail e) Q) :
  AWP Tryz.prog G [.code (bodyOf Tryz.f37)] (entryM [.box 1000000 0] (pB t e) Tryz.f37.ntmps) Q:=by
 refine walkK (orc:=orcRl (indN kdL (hdS t)) (hdT e t) true t.tail (hdS t.tail) t.tail.tail ex0 [] e) (keep:=[]) (cuts:=[3,5]) (n:=1000) follows ?_
 refine of_tr (fun ZT ZW ZQ ZK=>((ZK 76 [] (.slc 1 4 (stF kdL))∧FnM Tryz.prog G 75 [(.box 1000000 0),(.d (.slc 1 4 (stF kdL)))] [(1000000,[(.d (.slc 2 t.length (tkF t))),(vi e)])] (.d (.tup [(.agg [(ds (hdS t)),(di (hdA e t))]),(db true)])) [(1000000,[(.d (.slc 2 t.tail.length (tkF t.tail))),(vi e)])])∧((false=true)→ZW [cd Tryz.f37 [1,1,0,1,0],cd Tryz.f37 [1,1,1]] (stS ZT [0]) ZQ)∧((false=false)→((ZK 76 [] (.slc 1 4 (stF kdL))∧ZK 77 [(.slc 1 4 (stF kdL)),(ds (hdS t))] (di (indN kdL (hdS t)))∧FnM Tryz.prog G 78 [(.box 1000000 0)] [(1000000,[(.d (.slc 2 t.tail.length (tkF t.tail))),(vi e)])] (vs (hdS t.tail)) [(1000000,[(.d (.slc 2 t.tail.tail.length (tkF t.tail.tail))),(vi e)])])∧ZW [cd Tryz.f37 [1,1,1,1,0],cd Tryz.f37 [1,1,1,1,1]] (stS ZT [1]) ZQ)))) (by kernel_rfl) ?_
 have hin:inB kdL (hdS t)=true:=by
  unfold inB;rw[hk,Bool.and_true,decide_eq_true_eq]
  intro h;exact kd_ne hk (empty_of h)
 refine⟨⟨f76,f75_yes kdL t e (by decide) hin⟩,fun c=>(by cases c),fun _=>⟨⟨f76,f77 kdL _ (by decide),f78_ok t.tail e (by have:=hS.tail.hd;omega) hn⟩,?_⟩⟩
 refine AWP.weaken ?_ k
 refine AS.leZ [] [1] (b:=((T0∧T0∧T0∧True)∧T0∧((some [(vi (indN kdL (hdS t))),(vs (hdS t.tail)),(vs (ByteArray.mk #[])),(vi 0),(vs (ByteArray.mk #[])),(vi 0),(vi 0),(vi 0),(.d (.con (.slice none 0 0))),(vi 0),(vs (ByteArray.mk #[])),(vi 0),(vi 0),(vi 0),(.d (.con (.slice none 0 0))),(vi (hdA e t))]):(Option (List AV)))=(some [(vi (indN kdL (hdS t))),(vs (hdS t.tail)),(vs ByteArray.empty),(vi 0),(vs (ByteArray.mk #[])),(vi 0),(vi 0),(vi 0),(.d (.con (.slice none 0 0))),(vi 0),(vs (ByteArray.mk #[])),(vi 0),(vi 0),(vi 0),(.d (.con (.slice none 0 0))),(vi (hdA e t))])∧T0∧True)) (by kernel_rfl) (by kernel_rfl) ?_
 exact⟨⟨rfl,rfl,rfl,trivial⟩,rfl,rfl,rfl,trivial⟩
theorem ru_in {Q:Exit→AS→Prop} (kd:Int) (nm:ByteArray) (pos:Int) (t:List Tk) (e:Int) (hS:tkS t) (hi:hdS t=inS) (hn:nameB (hdS t.tail)=true) (k:AWP Tryz.prog G [.code (cAt (bodyOf Tryz.f37) [1,1,1,1,1])] (S37 kd nm (hdS t.tail) zeroE zeroE pos t.tail.tail e) Q) :
  AWP Tryz.prog G [.code (cAt (bodyOf Tryz.f37) [1,1,1,1,0]),.code (cAt (bodyOf Tryz.f37) [1,1,1,1,1])] (S37 kd nm .empty zeroE zeroE pos t e) Q:=by
 refine walkK (orc:=orcRl 0 (hdT e t) true t.tail (hdS t.tail) t.tail.tail ex0 [] e) (keep:=[]) (cuts:=[8]) (n:=1000) follows ?_
 refine of_tr (fun ZT ZW ZQ _=>(FnM Tryz.prog G 75 [(.box 1000000 0),(.d (.slc 1 1 (elemF false 1 [(ds (ByteArray.mk #[105,110]))])))] [(1000000,[(.d (.slc 2 t.length (tkF t))),(vi e)])] (.d (.tup [(.agg [(ds (hdS t)),(di (hdA e t))]),(db true)])) [(1000000,[(.d (.slc 2 t.tail.length (tkF t.tail))),(vi e)])]∧((true=true)→(FnM Tryz.prog G 78 [(.box 1000000 0)] [(1000000,[(.d (.slc 2 t.tail.length (tkF t.tail))),(vi e)])] (vs (hdS t.tail)) [(1000000,[(.d (.slc 2 t.tail.tail.length (tkF t.tail.tail))),(vi e)])]∧ZW [cd Tryz.f37 [1,1,1,1,1]] (stS ZT [0]) ZQ))∧((true=false)→ZW [cd Tryz.f37 [1,1,1,1,1]] (stS ZT [1]) ZQ))) (by kernel_rfl) ?_
 refine⟨FnM.st (f75_yes [inS] t e (by simp) (by rw[hi];decide +kernel)),fun _=>⟨f78_ok t.tail e (by have:=hS.tail.hd;omega) hn,?_⟩,fun c=>(by cases c)⟩
 refine AWP.weaken ?_ k
 exact AS.leA (by kernel_rfl)
theorem ru_col {Q:Exit→AS→Prop} (kd:Int) (nm gr:ByteArray) (pos:Int) (t:List Tk) (e:Int) (hc:hdS t=colonS) (x:Ex) (r:List Tk) (h:LvOK G 0 t.tail e (.ok x r)) (k:AWP Tryz.prog G [.code (cAt (bodyOf Tryz.f37) [1,1,1,1,1,1,1,0]),.code (cAt (bodyOf Tryz.f37) [1,1,1,1,1,1,1,1])] (S37 kd nm gr (exC (ht x) x) zeroE pos r e) Q) :
  AWP Tryz.prog G [.code (cAt (bodyOf Tryz.f37) [1,1,1,1,1])] (S37 kd nm gr zeroE zeroE pos t e) Q:=by
 refine walkK (orc:=orcRl 0 (hdT e t) true t.tail .empty t.tail.tail x r e) (keep:=[]) (cuts:=[10]) (n:=1000) follows ?_
 refine of_tr (fun ZT ZW ZQ _=>(FnM Tryz.prog G 79 [(.box 1000000 0),(vs (ByteArray.mk #[58]))] [(1000000,[(.d (.slc 2 t.length (tkF t))),(vi e)])] (.d (.agg [(ds (hdS t)),(di (hdA e t))])) [(1000000,[(.d (.slc 2 t.tail.length (tkF t.tail))),(vi e)])]∧FnM Tryz.prog G 44 [(.box 1000000 0),(vi 0)] [(1000000,[(.d (.slc 2 t.tail.length (tkF t.tail))),(vi e)])] (.d (ndX (ht x) x)) [(1000000,[(.d (.slc 2 r.length (tkF r))),(vi e)])]∧ZW [cd Tryz.f37 [1,1,1,1,1,1,1,0],cd Tryz.f37 [1,1,1,1,1,1,1,1]] (stS ZT []) ZQ)) (by kernel_rfl) ?_
 refine⟨f79_ok colonS t e (by rw[hc];decide +kernel),h,?_⟩
 refine AWP.weaken ?_ k
 exact AS.leA (by kernel_rfl)
theorem ru_if {Q:Exit→AS→Prop} (kd:Int) (nm gr:ByteArray) (am:Ex) (pos:Int) (t:List Tk) (e:Int) (hc:hdS t=ifS) (x:Ex) (r:List Tk) (h:LvOK G 0 t.tail e (.ok x r)) (k:AWP Tryz.prog G [.code (cAt (bodyOf Tryz.f37) [1,1,1,1,1,1,1,1])] (S37 kd nm gr (exC (ht am) am) (exC (ht x) x) pos r e) Q) :
  AWP Tryz.prog G [.code (cAt (bodyOf Tryz.f37) [1,1,1,1,1,1,1,0]),.code (cAt (bodyOf Tryz.f37) [1,1,1,1,1,1,1,1])] (S37 kd nm gr (exC (ht am) am) zeroE pos t e) Q:=by
 refine walkK (orc:=orcRl 0 (hdT e t) true t.tail .empty t.tail.tail x r e) (keep:=[]) (cuts:=[13]) (n:=1000) follows ?_
 refine of_tr (fun ZT ZW ZQ _=>(FnM Tryz.prog G 75 [(.box 1000000 0),(.d (.slc 1 1 (elemF false 1 [(ds (ByteArray.mk #[105,102]))])))] [(1000000,[(.d (.slc 2 t.length (tkF t))),(vi e)])] (.d (.tup [(.agg [(ds (hdS t)),(di (hdA e t))]),(db true)])) [(1000000,[(.d (.slc 2 t.tail.length (tkF t.tail))),(vi e)])]∧((true=true)→(FnM Tryz.prog G 44 [(.box 1000000 0),(vi 0)] [(1000000,[(.d (.slc 2 t.tail.length (tkF t.tail))),(vi e)])] (.d (ndX (ht x) x)) [(1000000,[(.d (.slc 2 r.length (tkF r))),(vi e)])]∧ZW [cd Tryz.f37 [1,1,1,1,1,1,1,1]] (stS ZT [0]) ZQ))∧((true=false)→ZW [cd Tryz.f37 [1,1,1,1,1,1,1,1]] (stS ZT [1]) ZQ))) (by kernel_rfl) ?_
 refine⟨FnM.st (f75_yes [ifS] t e (by simp) (by rw[hc];decide +kernel)),fun _=>⟨h,?_⟩,fun c=>(by cases c)⟩
 refine AWP.weaken ?_ k
 exact AS.leA (by kernel_rfl)
theorem ru_end (kd:Int) (nm gr:ByteArray) (am wh:Ex) (pos:Int) (t:List Tk) (e:Int) (hc:hdS t=semiS) :
  AWP Tryz.prog G [.code (cAt (bodyOf Tryz.f37) [1,1,1,1,1,1,1,1])] (S37 kd nm gr (exC (ht am) am) (exC (ht wh) wh) pos t e) (RetM Tryz.prog Tryz.f37 [] (.d (rlD ⟨kd,nm,gr,am,wh,pos,ht am,ht wh⟩)) (pB t.tail e)):=by
 refine walkK (orc:=orcRl 0 (hdT e t) true t.tail .empty t.tail.tail ex0 [] e) (keep:=[]) (cuts:=[]) (n:=1000) follows ?_
 refine of_tr (fun _ _ _ _=>(fun Za=>(FnM Tryz.prog G 79 [(.box 1000000 0),(vs (ByteArray.mk #[59]))] [(1000000,[(.d (.slc 2 t.length (tkF t))),(vi e)])] (.d (.agg [(ds (hdS t)),(di (hdA e t))])) [(1000000,[Za,(vi e)])]∧(ZS ((.d (.agg [(di kd),(ds nm),(ds gr),(di am.k),(ds am.s),(di am.n),(di am.d),(di am.pos),(.slc 6 am.kids.length (lay (exG (ht am)) am.kids)),(di wh.k),(ds wh.s),(di wh.n),(di wh.d),(di wh.pos),(.slc 6 wh.kids.length (lay (exG (ht wh)) wh.kids)),(di pos)])):AV))∧((some [Za,(vi e)]):(Option (List AV)))=(some [Za,(vi e)])∧True)) ((.d (.slc 2 t.tail.length (tkF t.tail))):AV)) (by kernel_rfl) ?_
 exact⟨f79_ok semiS t e (by rw[hc];decide +kernel),rfl,rfl,trivial⟩
/-! Without a group,without a condition. -/
theorem ru_nin {Q:Exit→AS→Prop} (kd:Int) (nm:ByteArray) (pos:Int) (t:List Tk) (e:Int) (hi:hdS t≠inS) (k:AWP Tryz.prog G [.code (cAt (bodyOf Tryz.f37) [1,1,1,1,1])] (S37 kd nm .empty zeroE zeroE pos t e) Q) :
  AWP Tryz.prog G [.code (cAt (bodyOf Tryz.f37) [1,1,1,1,0]),.code (cAt (bodyOf Tryz.f37) [1,1,1,1,1])] (S37 kd nm .empty zeroE zeroE pos t e) Q:=by
 refine walkK (orc:=orcRl 0 (hdT e t) false t .empty t.tail.tail ex0 [] e) (keep:=[]) (cuts:=[7,8]) (n:=1000) follows ?_
 refine of_tr (fun ZT ZW ZQ _=>(FnM Tryz.prog G 75 [(.box 1000000 0),(.d (.slc 1 1 (elemF false 1 [(ds (ByteArray.mk #[105,110]))])))] [(1000000,[(.d (.slc 2 t.length (tkF t))),(vi e)])] (.d (.tup [(.agg [(ds (hdS t)),(di (hdA e t))]),(db false)])) [(1000000,[(.d (.slc 2 t.length (tkF t))),(vi e)])]∧((false=true)→ZW [cd Tryz.f37 [1,1,1,1,0,1,1,0],cd Tryz.f37 [1,1,1,1,1]] (stS ZT [0]) ZQ)∧((false=false)→ZW [cd Tryz.f37 [1,1,1,1,1]] (stS ZT [1]) ZQ))) (by kernel_rfl) ?_
 refine⟨FnM.st (f75_no [inS] t e (by simp) (by rw[inB_one _ _ (by decide),decide_eq_false hi])),fun c=>(by cases c),fun _=>?_⟩
 refine AWP.weaken ?_ k
 exact AS.leA (by kernel_rfl)
theorem ru_nif {Q:Exit→AS→Prop} (kd:Int) (nm gr:ByteArray) (am:Ex) (pos:Int) (t:List Tk) (e:Int) (hc:hdS t≠ifS) (k:AWP Tryz.prog G [.code (cAt (bodyOf Tryz.f37) [1,1,1,1,1,1,1,1])] (S37 kd nm gr (exC (ht am) am) (exC (ht ex0) ex0) pos t e) Q) :
  AWP Tryz.prog G [.code (cAt (bodyOf Tryz.f37) [1,1,1,1,1,1,1,0]),.code (cAt (bodyOf Tryz.f37) [1,1,1,1,1,1,1,1])] (S37 kd nm gr (exC (ht am) am) zeroE pos t e) Q:=by
 refine walkK (orc:=orcRl 0 (hdT e t) false t .empty t.tail.tail ex0 [] e) (keep:=[]) (cuts:=[12,13]) (n:=1000) follows ?_
 refine of_tr (fun ZT ZW ZQ _=>(FnM Tryz.prog G 75 [(.box 1000000 0),(.d (.slc 1 1 (elemF false 1 [(ds (ByteArray.mk #[105,102]))])))] [(1000000,[(.d (.slc 2 t.length (tkF t))),(vi e)])] (.d (.tup [(.agg [(ds (hdS t)),(di (hdA e t))]),(db false)])) [(1000000,[(.d (.slc 2 t.length (tkF t))),(vi e)])]∧((false=true)→ZW [cd Tryz.f37 [1,1,1,1,1,1,1,0,1,1,0],cd Tryz.f37 [1,1,1,1,1,1,1,1]] (stS ZT [0]) ZQ)∧((false=false)→ZW [cd Tryz.f37 [1,1,1,1,1,1,1,1]] (stS ZT [1]) ZQ))) (by kernel_rfl) ?_
 refine⟨FnM.st (f75_no [ifS] t e (by simp) (by rw[inB_one _ _ (by decide),decide_eq_false hc])),fun c=>(by cases c),fun _=>?_⟩
 refine AWP.pre (AS.leX.cell _ 5 14 (l:=ruA kd nm gr (exC (ht am) am) zeroE pos) (x:=.d (.con (.slice none 0 0))) (.d (.slc 6 0 (lay (exG (ht ex0)) []))) (by kernel_rfl) (by kernel_rfl) rfl (by kernel_rfl) (fun β h v hv=>nil_slc hv)) ?_
 refine AWP.weaken ?_ k
 refine AS.leZ [] [1] (b:=((T0∧T0∧T0∧True)∧T0∧((some [(vi kd),(vs nm),(vs gr),(vi am.k),(vs am.s),(vi am.n),(vi am.d),(vi am.pos),(.d (.slc 6 am.kids.length (lay (exG (ht am)) am.kids))),(vi 0),(vs (ByteArray.mk #[])),(vi 0),(vi 0),(vi 0),(.d (.slc 6 0 (lay (exG (ht ex0)) []))),(vi pos)]):(Option (List AV)))=(some [(vi kd),(vs nm),(vs gr),(vi am.k),(vs am.s),(vi am.n),(vi am.d),(vi am.pos),(.d (.slc 6 am.kids.length (lay (exG (ht am)) am.kids))),(vi 0),(vs ex0.s),(vi 0),(vi 0),(vi 0),(.d (.slc 6 0 (lay (exG (ht ex0)) ex0.kids))),(vi pos)])∧T0∧True)) (by kernel_rfl) (by kernel_rfl) ?_
 exact⟨⟨rfl,rfl,rfl,trivial⟩,rfl,rfl,rfl,trivial⟩
/-! Mistakes. -/
theorem ru_kd_bad (t:List Tk) (e:Int) (hk:anyB kdL (hdS t)=false):FnMX Tryz.prog G 37 [.box 1000000 0] (pB t e) (mkV (hdA e t)):=by
 refine FnMX.of_body Tryz.func37 rfl Tryz.call37 ?_
 refine walkK (orc:=orcRl 0 (hdT e t) false t .empty t.tail.tail ex0 [] e) (keep:=[]) (cuts:=[3,4]) (n:=1000) follows ?_
 refine of_tr (fun ZT ZW ZQ ZK=>((ZK 76 [] (.slc 1 4 (stF kdL))∧FnM Tryz.prog G 75 [(.box 1000000 0),(.d (.slc 1 4 (stF kdL)))] [(1000000,[(.d (.slc 2 t.length (tkF t))),(vi e)])] (.d (.tup [(.agg [(ds (hdS t)),(di (hdA e t))]),(db false)])) [(1000000,[(.d (.slc 2 t.length (tkF t))),(vi e)])])∧((true=true)→ZW [cd Tryz.f37 [1,1,0,1,0],cd Tryz.f37 [1,1,1]] (stS ZT [0]) ZQ)∧((true=false)→ZW [cd Tryz.f37 [1,1,1]] (stS ZT [1]) ZQ))) (by kernel_rfl) ?_
 refine⟨⟨f76,f75_no kdL t e (by decide) (by unfold inB;rw[hk,Bool.and_false])⟩,fun _=>?_,fun c=>(by cases c)⟩
 refine AWP.panicX follows (orcRl 0 (hdT e t) false t .empty t.tail.tail ex0 [] e) 1 (mkV (hdA e t)) ?_
 refine of_tr (fun _ _ _ _=>(FnMX Tryz.prog G 74 [(.box 1000000 0)] [(1000000,[(.d (.slc 2 t.length (tkF t))),(vi e)])] (mkV (hdA e t))∧((.panic [(PanicEntry.mk (mkV (hdA e t)) false false)]):Exit)=(.panic [(PanicEntry.mk (mkV (hdA e t)) false false)])∧((some [.any,.any]):(Option (List AV)))=(some [.any,.any])∧True)) (by kernel_rfl) ?_
 exact⟨f74 t e,rfl,rfl,trivial⟩
theorem ru_nm_bad (t:List Tk) (e:Int) (hS:tkS t) (hk:anyB kdL (hdS t)=true) (hn:nameB (hdS t.tail)=false):FnMX Tryz.prog G 37 [.box 1000000 0] (pB t e) (mkV (hdA e t.tail)):=by
 refine FnMX.of_body Tryz.func37 rfl Tryz.call37 ?_
 refine walkK (orc:=orcRl (indN kdL (hdS t)) (hdT e t) true t.tail .empty t.tail.tail ex0 [] e) (keep:=[]) (cuts:=[3,4]) (n:=1000) follows ?_
 refine of_tr (fun ZT ZW ZQ ZK=>((ZK 76 [] (.slc 1 4 (stF kdL))∧FnM Tryz.prog G 75 [(.box 1000000 0),(.d (.slc 1 4 (stF kdL)))] [(1000000,[(.d (.slc 2 t.length (tkF t))),(vi e)])] (.d (.tup [(.agg [(ds (hdS t)),(di (hdA e t))]),(db true)])) [(1000000,[(.d (.slc 2 t.tail.length (tkF t.tail))),(vi e)])])∧((false=true)→ZW [cd Tryz.f37 [1,1,0,1,0],cd Tryz.f37 [1,1,1]] (stS ZT [0]) ZQ)∧((false=false)→ZW [cd Tryz.f37 [1,1,1]] (stS ZT [1]) ZQ))) (by kernel_rfl) ?_
 have hin:inB kdL (hdS t)=true:=by
  unfold inB;rw[hk,Bool.and_true,decide_eq_true_eq]
  intro h;exact kd_ne hk (empty_of h)
 refine⟨⟨f76,f75_yes kdL t e (by decide) hin⟩,fun c=>(by cases c),fun _=>?_⟩
 refine AWP.panicY follows (orcRl (indN kdL (hdS t)) (hdT e t) true t.tail .empty t.tail.tail ex0 [] e) 7 (mkV (hdA e t.tail)) ?_
 refine of_tr (fun _ _ _ ZK=>((ZK 76 [] (.slc 1 4 (stF kdL))∧ZK 77 [(.slc 1 4 (stF kdL)),(ds (hdS t))] (di (indN kdL (hdS t)))∧FnMX Tryz.prog G 78 [(.box 1000000 0)] [(1000000,[(.d (.slc 2 t.tail.length (tkF t.tail))),(vi e)])] (mkV (hdA e t.tail)))∧((.panic [(PanicEntry.mk (mkV (hdA e t.tail)) false false)]):Exit)=(.panic [(PanicEntry.mk (mkV (hdA e t.tail)) false false)])∧((some [.any,.any]):(Option (List AV)))=(some [.any,.any])∧True)) (by kernel_rfl) ?_
 exact⟨⟨f76,f77 kdL _ (by decide),f78_bad t.tail e (by have:=hS.tail.hd;omega) hn⟩,rfl,rfl,trivial⟩
theorem ru_in_bad (kd:Int) (nm:ByteArray) (pos:Int) (t pre:List Tk) (e:Int) (hS:tkS t) (hi:hdS t=inS) (hn:nameB (hdS t.tail)=false) :
  AWP Tryz.prog G [.code (cAt (bodyOf Tryz.f37) [1,1,1,1,0]),.code (cAt (bodyOf Tryz.f37) [1,1,1,1,1])] (S37 kd nm .empty zeroE zeroE pos t e) (fun x st=>x=.panic (pch (mkV (hdA e t.tail)))∧leBoxes (smash st.boxes) (smash (pB pre e))):=by
 refine walkK (orc:=orcRl 0 (hdT e t) true t.tail (hdS t.tail) t.tail.tail ex0 [] e) (keep:=[]) (cuts:=[7,8]) (n:=1000) follows ?_
 refine of_tr (fun ZT ZW ZQ _=>(FnM Tryz.prog G 75 [(.box 1000000 0),(.d (.slc 1 1 (elemF false 1 [(ds (ByteArray.mk #[105,110]))])))] [(1000000,[(.d (.slc 2 t.length (tkF t))),(vi e)])] (.d (.tup [(.agg [(ds (hdS t)),(di (hdA e t))]),(db true)])) [(1000000,[(.d (.slc 2 t.tail.length (tkF t.tail))),(vi e)])]∧((true=true)→ZW [cd Tryz.f37 [1,1,1,1,0,1,1,0],cd Tryz.f37 [1,1,1,1,1]] (stS ZT [0]) ZQ)∧((true=false)→ZW [cd Tryz.f37 [1,1,1,1,1]] (stS ZT [1]) ZQ))) (by kernel_rfl) ?_
 refine⟨FnM.st (f75_yes [inS] t e (by simp) (by rw[hi];decide +kernel)),fun _=>?_,fun c=>(by cases c)⟩
 refine AWP.panicX follows (orcRl 0 (hdT e t) true t.tail (hdS t.tail) t.tail.tail ex0 [] e) 1 (mkV (hdA e t.tail)) ?_
 refine of_tr (fun _ _ _ _=>(FnMX Tryz.prog G 78 [(.box 1000000 0)] [(1000000,[(.d (.slc 2 t.tail.length (tkF t.tail))),(vi e)])] (mkV (hdA e t.tail))∧((.panic [(PanicEntry.mk (mkV (hdA e t.tail)) false false)]):Exit)=(.panic [(PanicEntry.mk (mkV (hdA e t.tail)) false false)])∧((some [.any,.any]):(Option (List AV)))=(some [.any,.any])∧True)) (by kernel_rfl) ?_
 exact⟨f78_bad t.tail e (by have:=hS.tail.hd;omega) hn,rfl,rfl,trivial⟩
theorem ru_col_bad (kd:Int) (nm gr:ByteArray) (pos:Int) (t pre:List Tk) (e:Int) (hc:hdS t≠colonS) :
  AWP Tryz.prog G [.code (cAt (bodyOf Tryz.f37) [1,1,1,1,1])] (S37 kd nm gr zeroE zeroE pos t e) (fun x st=>x=.panic (pch (mkV (hdA e t)))∧leBoxes (smash st.boxes) (smash (pB pre e))):=by
 refine AWP.panicX follows (orcRl 0 (hdT e t) true t.tail .empty t.tail.tail ex0 [] e) 1 (mkV (hdA e t)) ?_
 refine of_tr (fun _ _ _ _=>(FnMX Tryz.prog G 79 [(.box 1000000 0),(vs (ByteArray.mk #[58]))] [(1000000,[(.d (.slc 2 t.length (tkF t))),(vi e)])] (mkV (hdA e t))∧((.panic [(PanicEntry.mk (mkV (hdA e t)) false false)]):Exit)=(.panic [(PanicEntry.mk (mkV (hdA e t)) false false)])∧((some [.any,.any]):(Option (List AV)))=(some [.any,.any])∧True)) (by kernel_rfl) ?_
 exact⟨f79_bad colonS t e (by rw[inB_one _ _ (by decide),decide_eq_false hc]),rfl,rfl,trivial⟩
theorem ru_am_bad (kd:Int) (nm gr:ByteArray) (pos:Int) (t pre:List Tk) (e:Int) (hc:hdS t=colonS) (r:List Tk) (h:LvOK G 0 t.tail e (.bad r)) :
  AWP Tryz.prog G [.code (cAt (bodyOf Tryz.f37) [1,1,1,1,1])] (S37 kd nm gr zeroE zeroE pos t e) (fun x st=>x=.panic (pch (mkV (hdA e r)))∧leBoxes (smash st.boxes) (smash (pB pre e))):=by
 refine walkK (orc:=orcRl 0 (hdT e t) true t.tail .empty t.tail.tail ex0 r e) (keep:=[]) (cuts:=[9]) (n:=1000) follows ?_
 refine of_tr (fun ZT ZW ZQ _=>(FnM Tryz.prog G 79 [(.box 1000000 0),(vs (ByteArray.mk #[58]))] [(1000000,[(.d (.slc 2 t.length (tkF t))),(vi e)])] (.d (.agg [(ds (hdS t)),(di (hdA e t))])) [(1000000,[(.d (.slc 2 t.tail.length (tkF t.tail))),(vi e)])]∧ZW [cd Tryz.f37 [1,1,1,1,1,1]] (stS ZT []) ZQ)) (by kernel_rfl) ?_
 refine⟨f79_ok colonS t e (by rw[hc];decide +kernel),?_⟩
 refine AWP.panicX follows (orcRl 0 (hdT e t) true t.tail .empty t.tail.tail ex0 r e) 1 (mkV (hdA e r)) ?_
 refine of_tr (fun _ _ _ _=>(FnMX Tryz.prog G 44 [(.box 1000000 0),(vi 0)] [(1000000,[(.d (.slc 2 t.tail.length (tkF t.tail))),(vi e)])] (mkV (hdA e r))∧((.panic [(PanicEntry.mk (mkV (hdA e r)) false false)]):Exit)=(.panic [(PanicEntry.mk (mkV (hdA e r)) false false)])∧((some [.any,.any]):(Option (List AV)))=(some [.any,.any])∧True)) (by kernel_rfl) ?_
 exact⟨h,rfl,rfl,trivial⟩
theorem ru_wh_bad (kd:Int) (nm gr:ByteArray) (am:Ex) (pos:Int) (t pre:List Tk) (e:Int) (hc:hdS t=ifS) (r:List Tk) (h:LvOK G 0 t.tail e (.bad r)) :
  AWP Tryz.prog G [.code (cAt (bodyOf Tryz.f37) [1,1,1,1,1,1,1,0]),.code (cAt (bodyOf Tryz.f37) [1,1,1,1,1,1,1,1])] (S37 kd nm gr (exC (ht am) am) zeroE pos t e) (fun x st=>x=.panic (pch (mkV (hdA e r)))∧leBoxes (smash st.boxes) (smash (pB pre e))):=by
 refine walkK (orc:=orcRl 0 (hdT e t) true t.tail .empty t.tail.tail ex0 r e) (keep:=[]) (cuts:=[12,13]) (n:=1000) follows ?_
 refine of_tr (fun ZT ZW ZQ _=>(FnM Tryz.prog G 75 [(.box 1000000 0),(.d (.slc 1 1 (elemF false 1 [(ds (ByteArray.mk #[105,102]))])))] [(1000000,[(.d (.slc 2 t.length (tkF t))),(vi e)])] (.d (.tup [(.agg [(ds (hdS t)),(di (hdA e t))]),(db true)])) [(1000000,[(.d (.slc 2 t.tail.length (tkF t.tail))),(vi e)])]∧((true=true)→ZW [cd Tryz.f37 [1,1,1,1,1,1,1,0,1,1,0],cd Tryz.f37 [1,1,1,1,1,1,1,1]] (stS ZT [0]) ZQ)∧((true=false)→ZW [cd Tryz.f37 [1,1,1,1,1,1,1,1]] (stS ZT [1]) ZQ))) (by kernel_rfl) ?_
 refine⟨FnM.st (f75_yes [ifS] t e (by simp) (by rw[hc];decide +kernel)),fun _=>?_,fun c=>(by cases c)⟩
 refine AWP.panicX follows (orcRl 0 (hdT e t) true t.tail .empty t.tail.tail ex0 r e) 1 (mkV (hdA e r)) ?_
 refine of_tr (fun _ _ _ _=>(FnMX Tryz.prog G 44 [(.box 1000000 0),(vi 0)] [(1000000,[(.d (.slc 2 t.tail.length (tkF t.tail))),(vi e)])] (mkV (hdA e r))∧((.panic [(PanicEntry.mk (mkV (hdA e r)) false false)]):Exit)=(.panic [(PanicEntry.mk (mkV (hdA e r)) false false)])∧((some [.any,.any]):(Option (List AV)))=(some [.any,.any])∧True)) (by kernel_rfl) ?_
 exact⟨h,rfl,rfl,trivial⟩
theorem ru_end_bad (kd:Int) (nm gr:ByteArray) (am wh:Ex) (pos:Int) (t pre:List Tk) (e:Int) (hc:hdS t≠semiS) :
  AWP Tryz.prog G [.code (cAt (bodyOf Tryz.f37) [1,1,1,1,1,1,1,1])] (S37 kd nm gr (exC (ht am) am) (exC (ht wh) wh) pos t e) (fun x st=>x=.panic (pch (mkV (hdA e t)))∧leBoxes (smash st.boxes) (smash (pB pre e))):=by
 refine AWP.panicX follows (orcRl 0 (hdT e t) true t.tail .empty t.tail.tail ex0 [] e) 1 (mkV (hdA e t)) ?_
 refine of_tr (fun _ _ _ _=>(FnMX Tryz.prog G 79 [(.box 1000000 0),(vs (ByteArray.mk #[59]))] [(1000000,[(.d (.slc 2 t.length (tkF t))),(vi e)])] (mkV (hdA e t))∧((.panic [(PanicEntry.mk (mkV (hdA e t)) false false)]):Exit)=(.panic [(PanicEntry.mk (mkV (hdA e t)) false false)])∧((some [.any,.any]):(Option (List AV)))=(some [.any,.any])∧True)) (by kernel_rfl) ?_
 exact⟨f79_bad semiS t e (by rw[inB_one _ _ (by decide),decide_eq_false hc]),rfl,rfl,trivial⟩
def RuOK (G:IH) (t:List Tk) (e:Int):Rr→Prop
 | .ok x r=>FnM Tryz.prog G 37 [.box 1000000 0] (pB t e) (.d (rlD x)) (pB r e)
 | .bad r=>FnMX Tryz.prog G 37 [.box 1000000 0] (pB t e) (mkV (hdA e r))
def RuBody (G:IH) (t0:List Tk) (e:Int) (k:List It) (st:AS):Rr→Prop
 | .ok x r=>AWP Tryz.prog G k st (RetM Tryz.prog Tryz.f37 [] (.d (rlD x)) (pB r e))
 | .bad r=>AWP Tryz.prog G k st (fun x st=>x=.panic (pch (mkV (hdA e r)))∧leBoxes (smash st.boxes) (smash (pB t0 e)))
theorem RuBody.pass {t0:List Tk} {e:Int} {k k':List It} {st st':AS} (h:∀Q,AWP Tryz.prog G k' st' Q→AWP Tryz.prog G k st Q):∀{R:Rr},RuBody G t0 e k' st' R→RuBody G t0 e k st R
 | .ok _ _,hb=>h _ hb
 | .bad _,hb=>h _ hb
theorem ru_d (kd:Int) (nm gr:ByteArray) (am wh:Ex) (pos:Int) (t t0:List Tk) (e:Int):RuBody G t0 e [.code (cAt (bodyOf Tryz.f37) [1,1,1,1,1,1,1,1])] (S37 kd nm gr (exC (ht am) am) (exC (ht wh) wh) pos t e) (ruD kd nm gr pos am wh t):=by
 unfold ruD
 by_cases h:hdS t=semiS
 ·rw[if_pos h];exact ru_end kd nm gr am wh pos t e h
 ·rw[if_neg h];exact ru_end_bad kd nm gr am wh pos t t0 e h
theorem ru_c (kd:Int) (nm gr:ByteArray) (am:Ex) (pos:Int) (t t0:List Tk) (e:Int) (hl:t.length≤100000) (hS:tkS t):RuBody G t0 e [.code (cAt (bodyOf Tryz.f37) [1,1,1,1,1,1,1,0]),.code (cAt (bodyOf Tryz.f37) [1,1,1,1,1,1,1,1])] (S37 kd nm gr (exC (ht am) am) zeroE pos t e) (ruC kd nm gr pos am t):=by
 have tl:=tail_le t
 unfold ruC
 by_cases h:hdS t=ifS
 ·rw[if_pos h]
  have hx:=f44 (G:=G) 0 (by omega) t.tail e (by omega) hS.tail
  cases hq:pr (.lvl 0) t.tail with
  | ok wh r=>
   rw[hq] at hx
   exact RuBody.pass (fun Q k=>ru_if kd nm gr am pos t e h wh r hx k) (ru_d kd nm gr am wh pos r t0 e)
  | bad r=>
   rw[hq] at hx
   exact ru_wh_bad kd nm gr am pos t t0 e h r hx
 ·rw[if_neg h]
  exact RuBody.pass (fun Q k=>ru_nif kd nm gr am pos t e h k) (ru_d kd nm gr am ex0 pos t t0 e)
theorem ru_g (kd:Int) (nm gr:ByteArray) (pos:Int) (t t0:List Tk) (e:Int) (hl:t.length≤100000) (hS:tkS t):RuBody G t0 e [.code (cAt (bodyOf Tryz.f37) [1,1,1,1,1])] (S37 kd nm gr zeroE zeroE pos t e) (ruG kd nm gr pos t):=by
 have tl:=tail_le t
 unfold ruG
 by_cases h:hdS t=colonS
 ·rw[if_pos h]
  have hx:=f44 (G:=G) 0 (by omega) t.tail e (by omega) hS.tail
  have hle:=pr_le (.lvl 0) t.tail
  cases hq:pr (.lvl 0) t.tail with
  | ok am r=>
   have hSr:tkS r:=hS.tail.rest (md:=.lvl 0) (by rw[hq];rfl)
   rw[hq] at hx hle
   simp only[restOf] at hle
   exact RuBody.pass (fun Q k=>ru_col kd nm gr pos t e h am r hx k) (ru_c kd nm gr am pos r t0 e (by omega) hSr)
  | bad r=>
   rw[hq] at hx
   exact ru_am_bad kd nm gr pos t t0 e h r hx
 ·rw[if_neg h];exact ru_col_bad kd nm gr pos t t0 e h
theorem ru_n (kd:Int) (nm:ByteArray) (pos:Int) (t t0:List Tk) (e:Int) (hl:t.length≤100000) (hS:tkS t):RuBody G t0 e [.code (cAt (bodyOf Tryz.f37) [1,1,1,1,0]),.code (cAt (bodyOf Tryz.f37) [1,1,1,1,1])] (S37 kd nm .empty zeroE zeroE pos t e) (ruN kd nm pos t):=by
 have tl:=tail_le t
 have tl2:=tail_le t.tail
 unfold ruN
 by_cases h:hdS t=inS
 ·rw[if_pos h]
  by_cases hn:nameB (hdS t.tail)=true
  ·rw[if_pos hn]
   exact RuBody.pass (fun Q k=>ru_in kd nm pos t e hS h hn k) (ru_g kd nm _ pos t.tail.tail t0 e (by omega) hS.tail.tail)
  ·rw[if_neg hn]
   exact ru_in_bad kd nm pos t t0 e hS h (by simpa using hn)
 ·rw[if_neg h]
  exact RuBody.pass (fun Q k=>ru_nin kd nm pos t e h k) (ru_g kd nm .empty pos t t0 e hl hS)
theorem f37 (t:List Tk) (e:Int) (hl:t.length≤100000) (hS:tkS t):RuOK G t e (ruP t):=by
 have tl:=tail_le t
 have tl2:=tail_le t.tail
 unfold ruP
 by_cases hk:anyB kdL (hdS t)=true
 ·rw[if_pos hk]
  by_cases hn:nameB (hdS t.tail)=true
  ·rw[if_pos hn,←hdA_ne e (kd_ne hk)]
   have h:=RuBody.pass (t0:=t) (fun Q k=>ru_start t e hS hk hn k) (ru_n (G:=G) (indN kdL (hdS t)) (hdS t.tail) (hdA e t) t.tail.tail t e (by omega) hS.tail.tail)
   revert h
   cases ruN (indN kdL (hdS t)) (hdS t.tail) (hdA e t) t.tail.tail with
   | ok x r=>exact fun h=>FnM.of_body (mv:=[]) (by kernel_rfl) Tryz.func37 rfl Tryz.call37 h
   | bad r=>exact fun h=>FnMX.of_body Tryz.func37 rfl Tryz.call37 h
  ·rw[if_neg hn]
   exact ru_nm_bad t e hS hk (by simpa using hn)
 ·rw[if_neg hk]
  exact ru_kd_bad t e (by simpa using hk)
end Go.Proofs
/- The deferred function of read. -/
set_option maxRecDepth 100000
namespace Go.Proofs
open Go Go.Ab Go.RowKit
theorem nt73:Tryz.f73.ntmps=18:=rfl
theorem rs73:Tryz.f73.results=#[]:=rfl
theorem rd_idle (p q:Addr) (w:World) :
  CallsD Tryz.prog 73 #[.pointer (some p),.pointer (some q)] .returning w fun e u' w'=>e=.returned (.tuple #[])∧u'=.returning∧w'=w:=by
 refine callsD_of_wpS Tryz.func73 rfl fun c₀ cs hu=>?_
 apply wpS_seq
 apply wpS_region
 simp[wpOpsS,go_sem,recoverD,hu,nt73,Exit.thenS]
 apply wpS_seq
 apply wpS_region
 simp[wpOpsS,go_sem,recoverD,hu,Exit.thenS]
 refine wpS_cond (t:=false) (by simp[Act.eval,Array.replicate]) ?_
 simp only[Bool.false_eq_true,if_false]
 refine wpS_of_wp (wp_skip ?_)
 cases c₀
 simp_all [bodyPostS,results,rs73]
theorem run_ta98 (a:Int) (w:World):(Instr.typeAssert (mkV a) 20 98 true).run Tryz.prog w=.ok (.tuple #[.agg #[.int .i64 a],.bool true]) w:=by kernel_rfl
theorem rd_caught (p q:Addr) (w:World) (a:Int) (x y:Value) (older:List PanicEntry) (hc:(w.alloc (.cells #[.int .i64 a] 98)).cell? p=some x) (hz:(w.alloc (.cells #[.int .i64 a] 98)).frozen? p=false)
  (hc2:((w.alloc (.cells #[.int .i64 a] 98)).setCell p (.int .i64 a)).cell? q=some y) (hz2:((w.alloc (.cells #[.int .i64 a] 98)).setCell p (.int .i64 a)).frozen? q=false) :
  CallsD Tryz.prog 73 #[.pointer (some p),.pointer (some q)] (.panicking ({ v:=mkV a,recovered:=false } :: older)) w fun e u' w'=>
   e=.returned (.tuple #[])∧u'=.panicking ({ v:=mkV a,recovered:=true } :: older)∧w'=((w.alloc (.cells #[.int .i64 a] 98)).setCell p (.int .i64 a)).setCell q (.int .i64 3):=by
 refine callsD_of_wpS Tryz.func73 rfl fun c₀ cs hu=>?_
 apply wpS_seq
 apply wpS_region
 simp[wpOpsS,go_sem,recoverD,hu,nt73,Exit.thenS]
 apply wpS_seq
 apply wpS_region
 simp[wpOpsS,go_sem,recoverD,hu,Exit.thenS]
 refine wpS_cond (t:=true) (by simp[Act.eval,Array.replicate]) ?_
 simp only[if_true]
 apply wpS_seq
 apply wpS_region
 simp[wpOpsS,go_sem,recoverD,hu,Exit.thenS,run_ta98]
 apply wpS_seq
 apply wpS_seq
 apply wpS_region
 simp[wpOpsS,go_sem,Exit.thenS]
 refine wpS_cond (t:=false) (by simp[Act.eval,Array.replicate]) ?_
 simp only[Bool.false_eq_true,if_false]
 refine wpS_of_wp (wp_skip ?_)
 simp only[Exit.thenS]
 apply wpS_region
 simp[wpOpsS,go_sem,hc,hz,hc2,hz2]
 simp[bodyPostS,results,rs73]
end Go.Proofs
/- read,at worlds. -/
set_option maxRecDepth 100000
set_option maxHeartbeats 4000000
namespace Go.Proofs
open Go Go.Ab Go.RowKit
theorem rs35:Tryz.f35.results=#[.cell 4 3,.cell 5 24]:=rfl
abbrev rdW0 (w:World):World:=(w.alloc (.cells #[.int .i64 0] 3)).alloc (.cells #[.int .i64 0] 24)
abbrev q0 (n:Nat):Addr:=⟨n,0,none⟩
structure Two (w:World) (n:Nat) (x y:Value):Prop where
 a:w.heap[n]?=some (.cells #[x] 3)
 b:w.heap[n+1]?=some (.cells #[y] 24)
theorem Two.c0 {w:World} {n:Nat} {x y:Value} (h:Two w n x y):w.cell? (q0 n)=some x:=by simp[World.cell?,h.a]
theorem Two.z0 {w:World} {n:Nat} {x y:Value} (h:Two w n x y):w.frozen? (q0 n)=false:=by simp[World.frozen?,h.a]
theorem Two.c1 {w:World} {n:Nat} {x y:Value} (h:Two w n x y):w.cell? (q0 (n+1))=some y:=by simp[World.cell?,h.b]
theorem Two.z1 {w:World} {n:Nat} {x y:Value} (h:Two w n x y):w.frozen? (q0 (n+1))=false:=by simp[World.frozen?,h.b]
theorem Two.s0 {w:World} {n:Nat} {x y:Value} (h:Two w n x y) (v:Value):Two (w.setCell (q0 n) v) n v y:=by
 refine⟨?_,?_⟩
 ·simp only[World.setCell,Array.getElem?_modify,if_true,h.a];rfl
 ·simp only[World.setCell,Array.getElem?_modify]
  rw[if_neg (by omega)];exact h.b
theorem Two.s1 {w:World} {n:Nat} {x y:Value} (h:Two w n x y) (v:Value):Two (w.setCell (q0 (n+1)) v) n x v:=by
 refine⟨?_,?_⟩
 ·simp only[World.setCell,Array.getElem?_modify]
  rw[if_neg (by omega)];exact h.a
 ·simp only[World.setCell,Array.getElem?_modify,if_true,h.b];rfl
abbrev rdW1 (w:World) (n:Nat) (a e:Int):World:=(w.setCell (q0 n) (.int .i64 a)).setCell (q0 (n+1)) (.int .i64 e)
theorem t35_bad {c:FuncId} {vc:Array Value} {w:World} {s:ByteArray} {a0 e0:Int} {R1:World→Prop} {R:Ending→World→Prop}
  (h11:Calls Tryz.prog 11 #[.string s] (rdW0 w) fun e w'=>∃ws,e=.returned (.tuple #[ws,.int .i64 a0,.int .i64 e0])∧R1 w') (he:e0≠0)
  (hk:∀w',R1 w'→Two w' w.heap.size (.int .i64 0) (.int .i64 0))
  (hR:∀w',R1 w'→R (.returned (.tuple #[.int .i64 a0,.int .i64 e0])) (rdW1 (rdW1 w' w.heap.size a0 e0) w.heap.size a0 e0).drew) :
  Calls Tryz.prog 35 #[.string s,.func (.func c) #[] vc] w R:=by
 have mixed:=follows
 have hmf:∀(fn:Fn) (first cap:Array Value) (w:World),(Instr.makeFunc fn first cap).run Tryz.prog w=.ok (.func fn first cap) w:=fun _ _ _ _=>rfl
 go_enter_defers Tryz.func35,(show Tryz.f35.ntmps=35 from rfl)
 go_wp2_with (go_at_call 11;refine h11.mono ?_;rintro e w' ⟨ws,rfl,hw⟩;have T0:=hk w' hw;have c0:=T0.c0;have z0:=T0.z0;have T1:=T0.s0 (.int .i64 a0);have c1:=T1.c1;have z1:=T1.z1;have T2:=T1.s1 (.int .i64 e0);have c2:=T2.c0;have z2:=T2.z0;have c3:=T2.c1;have z3:=T2.z1;have T3:=T2.s0 (.int .i64 a0);have c4:=T3.c1;have z4:=T3.z1;have T4:=T3.s1 (.int .i64 e0);have c5:=T4.c0;have c6:=T4.c1;clear T0 T1 T2 T3 T4)
 go_region_o
 all_goals go_wp2
 all_goals
  have h:=hR w' hw
  simp[bodyPostD,Leaves,settle,results,rs35,go_sem,c5,c6,h]
end Go.Proofs
/- read,at worlds: the text has words. -/
set_option maxRecDepth 100000
set_option maxHeartbeats 4000000
namespace Go.Proofs
open Go Go.Ab Go.RowKit
abbrev rdW2 (w':World) (n:Nat) (ws:Value) (len:Nat):World:=(rdW1 w' n 0 0).alloc (.cells #[ws,.int .i64 len] 66)
abbrev Sl:=Option Addr×Nat×Nat
abbrev slV (x:Sl):Value:=.slice x.1 x.2.1 x.2.2
abbrev rdP (w':World):Addr:=⟨w'.heap.size,0,none⟩
theorem t35_ok {c:FuncId} {vc:Array Value} {w:World} {s:ByteArray} {R1:Sl→World→Prop} {R2:World→World→Prop} {R:Ending→World→Prop} (hcf:∀(us:Array Value) (w:World),(callFunc c us).run Tryz.prog w=.ok (.enter c us) w)
  (h11:Calls Tryz.prog 11 #[.string s] (rdW0 w) fun e w'=>∃x:Sl,e=.returned (.tuple #[slV x,.int .i64 0,.int .i64 0])∧R1 x w')
  (hk:∀x w',R1 x w'→Two w' w.heap.size (.int .i64 0) (.int .i64 0))
  (hc:∀x w',R1 x w'→Calls Tryz.prog c (#[.pointer (some (rdP w'))]++vc) (rdW2 w' w.heap.size (slV x) s.size) fun e w5=>(∃v,e=.returned v)∧R2 w' w5)
  (hk2:∀x w' w5,R1 x w'→R2 w' w5→Two w5 w.heap.size (.int .i64 0) (.int .i64 0)∧∃pp cap,w5.cell? (rdP w')=some (.slice pp 0 cap))
  (hR:∀x w' w5,R1 x w'→R2 w' w5→R (.returned (.tuple #[.int .i64 0,.int .i64 0])) (rdW1 w5 w.heap.size 0 0)) :
  Calls Tryz.prog 35 #[.string s,.func (.func c) #[] vc] w R:=by
 have mixed:=follows
 have hmf:∀(fn:Fn) (first cap:Array Value) (w:World),(Instr.makeFunc fn first cap).run Tryz.prog w=.ok (.func fn first cap) w:=fun _ _ _ _=>rfl
 go_enter_defers Tryz.func35,(show Tryz.f35.ntmps=35 from rfl)
 go_wp2_with (go_at_call 11;refine h11.mono ?_;rintro e w' ⟨⟨p0,k0,cap0⟩,rfl,hw⟩;have T0:=hk _ w' hw;have c0:=T0.c0;have z0:=T0.z0;have T1:=T0.s0 (.int .i64 0);have c1:=T1.c1;have z1:=T1.z1;have T2:=T1.s1 (.int .i64 0);have c2:=T2.c0;have z2:=T2.z0;have c3:=T2.c1;have z3:=T2.z1;have hc:=hc _ w' hw;clear T0 T1 T2)
 refine hc.mono ?_
 rintro e w5 ⟨⟨v,rfl⟩,hw5⟩
 obtain ⟨T3,pp,cap,d0⟩:=hk2 _ w' w5 hw hw5
 have d1:=T3.c0;have y1:=T3.z0
 have T4:=T3.s0 (.int .i64 0)
 have d2:=T4.c1;have y2:=T4.z1
 have T5:=T4.s1 (.int .i64 0)
 have d3:=T5.c0;have d4:=T5.c1
 clear hc T3 T4 T5
 simp only[]
 go_at_K
 go_wp2
 refine leaves_cons (f:=73) (args:=#[.pointer (some (q0 w.heap.size)),.pointer (some (q0 (w.heap.size+1)))]) (by simp) (by simp[go_sem]) ?_
 refine(rd_idle (q0 w.heap.size) (q0 (w.heap.size+1)) _).mono ?_
 rintro e u' w'' ⟨rfl,rfl,rfl⟩
 have h:=hR _ w' w5 hw hw5
 simp[Leaves,settle,results,rs35,go_sem,d3,d4,h]
abbrev rdW6 (w5:World) (n:Nat) (a:Int):World:=((w5.alloc (.cells #[.int .i64 a] 98)).setCell (q0 n) (.int .i64 a)).setCell (q0 (n+1)) (.int .i64 3)
theorem Two.al {w:World} {n:Nat} {x y:Value} (h:Two w n x y) (o:Obj):Two (w.alloc o) n x y:=by
 refine⟨?_,?_⟩
 ·show (w.heap.push o)[_]?=_
  rw[Array.getElem?_push,if_neg (by have:=lt_of_heap h.a;omega)];exact h.a
 ·show (w.heap.push o)[_]?=_
  rw[Array.getElem?_push,if_neg (by have:=lt_of_heap h.b;omega)];exact h.b
theorem t35_pan {c:FuncId} {vc:Array Value} {w:World} {s:ByteArray} {R1:Sl→World→Prop} {R2:World→World→Prop} {a:Int} {R:Ending→World→Prop} (hcf:∀(us:Array Value) (w:World),(callFunc c us).run Tryz.prog w=.ok (.enter c us) w)
  (h11:Calls Tryz.prog 11 #[.string s] (rdW0 w) fun e w'=>∃x:Sl,e=.returned (.tuple #[slV x,.int .i64 0,.int .i64 0])∧R1 x w')
  (hk:∀x w',R1 x w'→Two w' w.heap.size (.int .i64 0) (.int .i64 0))
  (hc:∀x w',R1 x w'→Calls Tryz.prog c (#[.pointer (some (rdP w'))]++vc) (rdW2 w' w.heap.size (slV x) s.size) fun e w5=>e=.panicked (pch (mkV a))∧R2 w' w5)
  (hk2:∀x w' w5,R1 x w'→R2 w' w5→Two w5 w.heap.size (.int .i64 0) (.int .i64 0))
  (hR:∀x w' w5,R1 x w'→R2 w' w5→R (.returned (.tuple #[.int .i64 a,.int .i64 3])) (rdW6 w5 w.heap.size a)) :
  Calls Tryz.prog 35 #[.string s,.func (.func c) #[] vc] w R:=by
 have mixed:=follows
 have hmf:∀(fn:Fn) (first cap:Array Value) (w:World),(Instr.makeFunc fn first cap).run Tryz.prog w=.ok (.func fn first cap) w:=fun _ _ _ _=>rfl
 go_enter_defers Tryz.func35,(show Tryz.f35.ntmps=35 from rfl)
 go_wp2_with (go_at_call 11;refine h11.mono ?_;rintro e w' ⟨⟨p0,k0,cap0⟩,rfl,hw⟩;have T0:=hk _ w' hw;have c0:=T0.c0;have z0:=T0.z0;have T1:=T0.s0 (.int .i64 0);have c1:=T1.c1;have z1:=T1.z1;have T2:=T1.s1 (.int .i64 0);have c2:=T2.c0;have z2:=T2.z0;have c3:=T2.c1;have z3:=T2.z1;have hc:=hc _ w' hw;clear T0 T1 T2)
 refine hc.mono ?_
 rintro e w5 ⟨rfl,hw5⟩
 have T3:=(hk2 _ w' w5 hw hw5).al (.cells #[.int .i64 a] 98)
 have d1:=T3.c0;have y1:=T3.z0
 have T4:=T3.s0 (.int .i64 a)
 have d2:=T4.c1;have y2:=T4.z1
 have T5:=T4.s1 (.int .i64 3)
 have d3:=T5.c0;have d4:=T5.c1
 clear hc T3 T4 T5
 simp only[bodyPostD]
 refine leaves_cons (f:=73) (args:=#[.pointer (some (q0 w.heap.size)),.pointer (some (q0 (w.heap.size+1)))]) (by simp) (by simp[go_sem]) ?_
 refine(rd_caught (q0 w.heap.size) (q0 (w.heap.size+1)) w5 a _ _ [] d1 y1 d2 y2).mono ?_
 rintro e u' w'' ⟨rfl,rfl,rfl⟩
 have h:=hR _ w' w5 hw hw5
 simp[Leaves,settle,results,rs35,go_sem,d3,d4,h]
theorem t35_left {c:FuncId} {vc:Array Value} {w:World} {s:ByteArray} {R1:Sl→World→Prop} {R2 R3:World→World→Prop} {a:Int} {R:Ending→World→Prop} (hcf:∀(us:Array Value) (w:World),(callFunc c us).run Tryz.prog w=.ok (.enter c us) w)
  (h11:Calls Tryz.prog 11 #[.string s] (rdW0 w) fun e w'=>∃x:Sl,e=.returned (.tuple #[slV x,.int .i64 0,.int .i64 0])∧R1 x w')
  (hk:∀x w',R1 x w'→Two w' w.heap.size (.int .i64 0) (.int .i64 0))
  (hc:∀x w',R1 x w'→Calls Tryz.prog c (#[.pointer (some (rdP w'))]++vc) (rdW2 w' w.heap.size (slV x) s.size) fun e w5=>(∃v,e=.returned v)∧R2 w' w5)
  (hk2:∀x w' w5,R1 x w'→R2 w' w5→∃pp k cap,k≠0∧w5.cell? (rdP w')=some (.slice pp k cap))
  (h74:∀x w' w5,R1 x w'→R2 w' w5→Calls Tryz.prog 74 #[.pointer (some (rdP w'))] w5 fun e w6=>e=.panicked (pch (mkV a))∧R3 w' w6)
  (hk3:∀x w' w6,R1 x w'→R3 w' w6→Two w6 w.heap.size (.int .i64 0) (.int .i64 0))
  (hR:∀x w' w6,R1 x w'→R3 w' w6→R (.returned (.tuple #[.int .i64 a,.int .i64 3])) (rdW6 w6 w.heap.size a)) :
  Calls Tryz.prog 35 #[.string s,.func (.func c) #[] vc] w R:=by
 have mixed:=follows
 have hmf:∀(fn:Fn) (first cap:Array Value) (w:World),(Instr.makeFunc fn first cap).run Tryz.prog w=.ok (.func fn first cap) w:=fun _ _ _ _=>rfl
 go_enter_defers Tryz.func35,(show Tryz.f35.ntmps=35 from rfl)
 go_wp2_with (go_at_call 11;refine h11.mono ?_;rintro e w' ⟨⟨p0,k0,cap0⟩,rfl,hw⟩;have T0:=hk _ w' hw;have c0:=T0.c0;have z0:=T0.z0;have T1:=T0.s0 (.int .i64 0);have c1:=T1.c1;have z1:=T1.z1;have T2:=T1.s1 (.int .i64 0);have c2:=T2.c0;have z2:=T2.z0;have c3:=T2.c1;have z3:=T2.z1;have hc:=hc _ w' hw;clear T0 T1 T2)
 refine hc.mono ?_
 rintro e w5 ⟨⟨v,rfl⟩,hw5⟩
 obtain ⟨pp,k,cap,hk0,d0⟩:=hk2 _ w' w5 hw hw5
 have h74:=h74 _ w' w5 hw hw5
 clear hc
 simp only[]
 go_at_K
 go_wp2_with (go_at_call 74;refine h74.mono ?_;rintro e w6 ⟨rfl,hw6⟩)
 have T3:=(hk3 _ w' w6 hw hw6).al (.cells #[.int .i64 a] 98)
 have d1:=T3.c0;have y1:=T3.z0
 have T4:=T3.s0 (.int .i64 a)
 have d2:=T4.c1;have y2:=T4.z1
 have T5:=T4.s1 (.int .i64 3)
 have d3:=T5.c0;have d4:=T5.c1
 clear T3 T4 T5
 simp only[bodyPostD]
 refine leaves_cons (f:=73) (args:=#[.pointer (some (q0 w.heap.size)),.pointer (some (q0 (w.heap.size+1)))]) (by simp) (by simp[go_sem]) ?_
 refine(rd_caught (q0 w.heap.size) (q0 (w.heap.size+1)) w6 a _ _ [] d1 y1 d2 y2).mono ?_
 rintro e u' w'' ⟨rfl,rfl,rfl⟩
 have h:=hR _ w' w6 hw hw6
 simp[Leaves,settle,results,rs35,go_sem,d3,d4,h]
end Go.Proofs
/- read: what it lends on,and what comes back. -/
set_option maxRecDepth 100000
namespace Go.Proofs
open Go Go.Ab Go.RowKit
variable {G:IH}
theorem holds_set {h:IH} {w:World} {b o:Nat} {v:Value} (hw:h.holds w) (hn:(∀o,h.cell b o=none)∧h.obj b=none):h.holds (w.setCell ⟨b,o,none⟩ v):=by
 have hb:∀k,k≠b→(w.setCell ⟨b,o,none⟩ v).heap[k]?=w.heap[k]?:=fun k hk=>by
  simp only[World.setCell,Array.getElem?_modify]
  rw[if_neg (fun e=>hk e.symm)]
 refine⟨fun k i u e=>?_,fun k u e=>?_⟩
 ·have hne:k≠b:=fun hh=>by subst hh;rw[hn.1] at e;cases e
  have:=hw.1 k i u e
  simp only[World.cell?] at this⊢
  rw[hb k hne];exact this
 ·have hne:k≠b:=fun hh=>by subst hh;rw[hn.2] at e;cases e
  rw[hb k hne];exact hw.2 k u e
abbrev pN:Nat:=1000001
abbrev oN:Nat:=1000000
def rdF (β:Nat→Nat) (bp:Nat):Fr:=⟨fun k=>k=blk β oN∨k=bp,upd β pN bp 66 0⟩
structure RdW (h:IH) (w:World) (T:List Tk) (x:Sl) (h':IH) (w':World):Prop where
 ext:h.le h'
 holds:h'.holds w'
 kept:Kept (fun _=>False) (rdW0 w) w'
 old:∀b,b<w.heap.size+2→(∀o,h'.cell b o=h.cell b o)∧h'.obj b=h.obj b
 rel:DV.rel h' (wdsD T) (slV x)
theorem rdW0_size (w:World):(rdW0 w).heap.size=w.heap.size+2:=by simp[rdW0]
theorem rdW0_two (w:World):Two (rdW0 w) w.heap.size (.int .i64 0) (.int .i64 0):=by
 refine⟨?_,?_⟩
 ·show ((w.heap.push _).push _)[_]?=_
  rw[Array.getElem?_push,if_neg (by simp),Array.getElem?_push,if_pos rfl]
 ·show ((w.heap.push _).push _)[_]?=_
  rw[Array.getElem?_push,if_pos (by simp)]
theorem RdW.two {h:IH} {w:World} {T:List Tk} {x:Sl} {h':IH} {w':World} (r:RdW h w T x h' w'):Two w' w.heap.size (.int .i64 0) (.int .i64 0):=by
 have t:=rdW0_two w
 have hs:=rdW0_size w
 exact⟨by rw[r.kept.block _ (by omega) id];exact t.a,by rw[r.kept.block _ (by omega) id];exact t.b⟩
theorem RdW.none {h:IH} {w:World} {T:List Tk} {x:Sl} {h':IH} {w':World} (hw:h.holds w) (r:RdW h w T x h' w'):∀b,w.heap.size≤b→b<w.heap.size+2→(∀o,h'.cell b o=none)∧h'.obj b=none:=fun b h1 h2=>by
 have h3:=r.old b h2
 have h4:=holds_none hw h1
 exact⟨fun o=>(h3.1 o).trans (h4.1 o),h3.2.trans h4.2⟩
theorem W1_size (w':World) (n:Nat):(rdW1 w' n 0 0).heap.size=w'.heap.size:=by simp[World.setCell]
theorem W1_other (w':World) (n:Nat) (a e:Int) (k:Nat) (h1:k≠n) (h2:k≠n+1):(rdW1 w' n a e).heap[k]?=w'.heap[k]?:=by
 simp only[World.setCell,Array.getElem?_modify]
 rw[if_neg (fun e=>h2 e.symm),if_neg (fun e=>h1 e.symm)]
theorem rd_in {F:Fr} {w:World} {h:IH} {β:Nat→Nat} {us:Array Value} {s:ByteArray} {c:FuncId} {Lp:List DV} (hp:plainB (Lp.map AV.d)=true)
  (g:Gam G F w h ⟨[.d (ds s),.clo (.func c) [] [.box oN 0]],[(oN,Lp.map .d)]⟩ β h us w) {T:List Tk} {x:Sl} {h':IH} {w':World} (r:RdW h w T x h' w') :
  Gam G (rdF β w'.heap.size) (rdW2 w' w.heap.size (slV x) s.size) h' ⟨[.box pN 0,.box oN 0],[(pN,pC T s.size),(oN,Lp.map .d)]⟩ (upd β pN w'.heap.size 66 0) h' #[.pointer (some (rdP w')),.pointer (some ⟨blk β oN,0,none⟩)] (rdW2 w' w.heap.size (slV x) s.size):=by
 have hsz:=rdW0_size w
 have hk:=r.kept.size
 have hno:oN≠pN:=by decide
 obtain ⟨p1,p2⟩:=g.box oN _ rfl
 have hbl:blk β oN<w.heap.size:=Own.lt (Live.plain hp) p2
 have h0:=r.none g.holds
 have hholds:h'.holds (rdW2 w' w.heap.size (slV x) s.size):=holds_alloc (holds_set (holds_set r.holds (h0 _ (Nat.le_refl _) (by omega))) (h0 _ (by omega) (by omega))) _
 have hlook:∀t l,Go.Ab.look [(pN,pC T s.size),(oN,Lp.map AV.d)] t=some l→(t=pN∧l=pC T s.size)∨(t=oN∧l=Lp.map AV.d):=by
  intro t l hl
  by_cases h1:t=pN
  ·subst h1
   have hl2:some (pC T s.size)=some l:=hl
   exact .inl ⟨rfl,(Option.some.inj hl2).symm⟩
  ·by_cases h2:t=oN
   ·subst h2
    have hl2:some (Lp.map AV.d)=some l:=hl
    exact .inr ⟨rfl,(Option.some.inj hl2).symm⟩
   ·rw[Go.Ab.look,beq_ne (Ne.symm h1),cond_false,Go.Ab.look,beq_ne (Ne.symm h2),cond_false,Go.Ab.look] at hl
    cases hl
 have hsize:(rdW1 w' w.heap.size 0 0).heap.size=w'.heap.size:=W1_size _ _
 refine⟨g.glob.trans r.ext,hholds,IH.le.refl _,fun _ _ _=>⟨fun _=>rfl,rfl⟩,Kept.refl _ _,fun _ _=>⟨rfl,rfl,rfl⟩,rfl,fun t y hy=>?_,fun t l hl=>?_,fun t t' l l' hl hl' _ _ he=>?_⟩
 ·rcases t with _|_|t
  ·obtain rfl:AV.box pN 0=y:=by simpa using hy
   exact⟨_,rfl,(show Value.pointer (some (rdP w'))=.pointer (some ⟨blk (upd β pN w'.heap.size 66 0) pN,0,none⟩) by rw[blk_upd])⟩
  ·obtain rfl:AV.box oN 0=y:=by simpa using hy
   exact⟨_,rfl,(show Value.pointer (some ⟨blk β oN,0,none⟩)=.pointer (some ⟨blk (upd β pN w'.heap.size 66 0) oN,0,none⟩) by rw[blk_other hno])⟩
  ·simp at hy
 ·rcases hlook t l hl with ⟨rfl,rfl⟩|⟨rfl,rfl⟩
  ·rw[blk_upd]
   refine⟨fun _=>⟨.inl (.inr rfl),holds_none r.holds (Nat.le_refl _)⟩,?_⟩
   rw[Own.plain (by rfl)]
   refine⟨⟨66,by rw[room_upd]⟩,[slV x,.int .i64 s.size],?_,_,_,rfl,r.rel,_,_,rfl,rfl,rfl⟩
   show ((rdW1 w' w.heap.size 0 0).heap.push _)[_]?=_
   rw[Array.getElem?_push,if_pos (by rw[hsize])]
  ·rw[blk_other hno]
   have hb2:(rdW2 w' w.heap.size (slV x) s.size).heap[blk β oN]?=w.heap[blk β oN]?:=by
    show ((rdW1 w' w.heap.size 0 0).heap.push _)[_]?=_
    rw[Array.getElem?_push,if_neg (by rw[hsize];omega),W1_other w' w.heap.size 0 0 _ (by omega) (by omega),r.kept.block _ (by omega) id]
    show ((w.heap.push _).push _)[_]?=_
    rw[Array.getElem?_push_lt (by simp;omega),Array.getElem_push_lt hbl,Array.getElem?_eq_getElem hbl]
   have h3:=r.old (blk β oN) (by omega)
   obtain ⟨_,p3⟩:=p1 (Live.plain hp)
   refine⟨fun _=>⟨.inl (.inl rfl),fun o=>(h3.1 o).trans (p3.1 o),h3.2.trans p3.2⟩,?_⟩
   refine Own.upd hno ?_ (Own.mono r.ext (by rw[hb2];exact p2))
   clear hlook hl hp p1 p2 g
   induction Lp with
   | nil=>rfl
   | cons d l ih=>simp only[List.map_cons,AV.frees,AV.free,Bool.true_and];exact ih
 ·rcases hlook t l hl with ⟨rfl,rfl⟩|⟨rfl,rfl⟩<;>rcases hlook t' l' hl' with ⟨rfl,rfl⟩|⟨rfl,rfl⟩
  ·rfl
  ·rw[blk_upd,blk_other hno] at he;omega
  ·rw[blk_upd,blk_other hno] at he;omega
  ·rfl
theorem rd_none {F:Fr} {w:World} {h:IH} {β:Nat→Nat} {us:Array Value} {st:AS}
  (g:Gam G F w h st β h us w) {T:List Tk} {x:Sl} {h':IH} {w':World} (r:RdW h w T x h' w') {len:Nat} (hbl:blk β oN<w.heap.size)
  {Y:AS} {β1:Nat→Nat} {h1:IH} {tm:Array Value} {w5:World} (g1:Gam G (rdF β w'.heap.size) (rdW2 w' w.heap.size (slV x) len) h' Y β1 h1 tm w5) :
  ∀k,w.heap.size≤k→k<w.heap.size+2→(∀o,h1.cell k o=none)∧h1.obj k=none:=fun k k1 k2=>by
 have hsz:=rdW0_size w
 have hk:=r.kept.size
 have h2sz:(rdW2 w' w.heap.size (slV x) len).heap.size=w'.heap.size+1:=by
  show ((rdW1 w' w.heap.size 0 0).heap.push _).size=_
  rw[Array.size_push,W1_size]
 have q:=g1.old k (by omega) fun hh=>by
  have hh:k=blk β oN∨k=w'.heap.size:=hh
  rcases hh with e|e<;>omega
 have q2:=r.none g.holds k k1 k2
 exact⟨fun o=>(q.1 o).trans (q2.1 o),q.2.trans q2.2⟩
theorem rd_two {w:World} {h:IH} {β:Nat→Nat} {T:List Tk} {x:Sl} {h':IH} {w':World} (r:RdW h w T x h' w') {len:Nat} (hbl:blk β oN<w.heap.size)
  {Y:AS} {β1:Nat→Nat} {h1:IH} {tm:Array Value} {w5:World} (g1:Gam G (rdF β w'.heap.size) (rdW2 w' w.heap.size (slV x) len) h' Y β1 h1 tm w5):Two w5 w.heap.size (.int .i64 0) (.int .i64 0):=by
 have hsz:=rdW0_size w
 have hk:=r.kept.size
 have h2sz:(rdW2 w' w.heap.size (slV x) len).heap.size=w'.heap.size+1:=by
  show ((rdW1 w' w.heap.size 0 0).heap.push _).size=_
  rw[Array.size_push,W1_size]
 have t2:Two (rdW2 w' w.heap.size (slV x) len) w.heap.size (.int .i64 0) (.int .i64 0):=((r.two.s0 (.int .i64 0)).s1 (.int .i64 0)).al _
 have hno:∀k,w.heap.size≤k→k<w.heap.size+2→¬(rdF β w'.heap.size).on k:=fun k k1 k2 hh=>by
  have hh:k=blk β oN∨k=w'.heap.size:=hh
  rcases hh with e|e<;>omega
 exact⟨by rw[g1.kept.block _ (by omega) (hno _ (Nat.le_refl _) (by omega))];exact t2.a,by rw[g1.kept.block _ (by omega) (hno _ (by omega) (by omega))];exact t2.b⟩
theorem rd_out {F:Fr} {w:World} {h:IH} {β:Nat→Nat} {us:Array Value} {s:ByteArray} {c:FuncId} {Lp:List DV} (hp:plainB (Lp.map AV.d)=true)
  (g:Gam G F w h ⟨[.d (ds s),.clo (.func c) [] [.box oN 0]],[(oN,Lp.map .d)]⟩ β h us w) {T:List Tk} {x:Sl} {h':IH} {w':World} (r:RdW h w T x h' w')
  {Y:List AV} {post0 post:List (Nat×List AV)} {β1:Nat→Nat} {h1:IH} {tm:Array Value} {w5:World} (g1:Gam G (rdF β w'.heap.size) (rdW2 w' w.heap.size (slV x) s.size) h' ⟨Y,post0⟩ β1 h1 tm w5)
  (hsub:∀t l,Go.Ab.look post t=some l→Go.Ab.look post0 t=some l∧t≠pN∧AV.frees pN l=true) {W6:World} {h6:IH} (hx:h1.le h6) (hh6:h6.holds W6) (h6o:∀b,b<w5.heap.size→b≠w'.heap.size→(∀o,h6.cell b o=h1.cell b o)∧h6.obj b=h1.obj b) (hpN:∃l0,Go.Ab.look post0 pN=some l0∧plainB l0=true) (hw:W6.os=w5.os∧W6.tape=w5.tape∧W6.output=w5.output∧w5.heap.size≤W6.heap.size)
  (hb:∀k,k<w5.heap.size→k≠w.heap.size→k≠w.heap.size+1→k≠w'.heap.size→W6.heap[k]?=w5.heap[k]?) (a b:Int) :
  Gam G F w h ⟨[.d (.tup [di a,di b])],post⟩ (upd β1 pN (blk β pN) (room β pN) (many β pN)) h6 #[.tuple #[.int .i64 a,.int .i64 b]] W6:=by
 have hsz:=rdW0_size w
 have hk:=r.kept.size
 obtain ⟨p1,p2⟩:=g.box oN _ rfl
 have hbl:blk β oN<w.heap.size:=Own.lt (Live.plain hp) p2
 have hon:F.on (blk β oN):=((p1 (Live.plain hp)).1).resolve_right (by omega)
 have h2sz:(rdW2 w' w.heap.size (slV x) s.size).heap.size=w'.heap.size+1:=by
  show ((rdW1 w' w.heap.size 0 0).heap.push _).size=_
  rw[Array.size_push,W1_size]
 have hF:∀k,(rdF β w'.heap.size).on k→k=blk β oN∨k=w'.heap.size:=fun k hk=>hk
 have hbp:blk β1 pN=w'.heap.size:=by rw[(g1.fix pN (by decide)).1];exact blk_upd
 have hk1:=g1.kept
 have hk1s:=hk1.size
 have hold:∀k,k<w.heap.size→(rdW2 w' w.heap.size (slV x) s.size).heap[k]?=w.heap[k]?:=fun k hk=>by
  show ((rdW1 w' w.heap.size 0 0).heap.push _)[_]?=_
  rw[Array.getElem?_push,if_neg (by rw[W1_size];omega),W1_other w' w.heap.size 0 0 _ (by omega) (by omega),r.kept.block _ (by omega) id]
  show ((w.heap.push _).push _)[_]?=_
  rw[Array.getElem?_push_lt (by simp;omega),Array.getElem_push_lt hk,Array.getElem?_eq_getElem hk]
 refine⟨g1.glob.trans hx,hh6,(r.ext.trans g1.ext).trans hx,fun k hk hnF=>?_,?_,fun t ht=>?_,rfl,fun t z hz=>?_,fun t l hl=>?_,fun t t' l l' hl hl' k1 k2 he=>?_⟩
 ·have q:=g1.old k (by omega) fun hh=>by
   rcases hF k hh with e|e
   ·exact hnF (e▸hon)
   ·omega
  have q2:=r.old k (by omega)
  have q3:=h6o k (by omega) (by omega)
  exact⟨fun o=>(q3.1 o).trans ((q.1 o).trans (q2.1 o)),q3.2.trans (q.2.trans q2.2)⟩
 ·refine⟨?_,?_,?_,by omega,fun k hk' hnF=>?_⟩
  ·rw[hw.1,hk1.os];exact r.kept.os
  ·rw[hw.2.1,hk1.tape];exact r.kept.tape
  ·rw[hw.2.2.1,hk1.output];exact r.kept.output
  ·rw[hb k (by omega) (by omega) (by omega) (by omega),hk1.block k (by omega) (fun hh=>by
    rcases hF k hh with e|e
    ·exact hnF (e▸hon)
    ·omega),hold k hk']
 ·have q:=g1.fix t ht
  have q2:=g.fix t ht
  by_cases hp':t=pN
  ·subst hp'
   rw[blk_upd,room_upd,many_upd];exact q2
  ·rw[blk_other hp',room_other hp',many_other hp']
   have e1:blk (rdF β w'.heap.size).β0 t=blk β t:=blk_other hp'
   have e2:room (rdF β w'.heap.size).β0 t=room β t:=room_other hp'
   have e3:many (rdF β w'.heap.size).β0 t=many β t:=many_other hp'
   rw[q.1,q.2.1,q.2.2,e1,e2,e3];exact q2
 ·cases t with
  | zero=>
   obtain rfl:AV.d (.tup [di a,di b])=z:=by simpa using hz
   exact⟨_,rfl,[.int .i64 a,.int .i64 b],rfl,_,_,rfl,rfl,_,_,rfl,rfl,rfl⟩
  | succ t=>simp at hz
 ·obtain ⟨hl0,htp,hfr⟩:=hsub t l hl
  obtain ⟨q1,q2⟩:=g1.box t l hl0
  have hLv:Live (upd β1 pN (blk β pN) (room β pN) (many β pN)) t l→Live β1 t l:=fun hL=>by
   unfold Live at hL⊢
   split at hL
   ·rwa [room_other htp] at hL
   ·exact hL
   ·trivial
  rw[blk_other htp]
  have hnp:Live β1 t l→blk β1 t≠w'.heap.size:=fun hL e=>by
   obtain ⟨l0,hl00,hpl0⟩:=hpN
   exact htp (g1.inj t pN l l0 hl0 hl00 hL (Live.plain hpl0) (by rw[e,hbp]))
  refine⟨fun hL=>?_,?_⟩
  ·obtain ⟨u1,u2⟩:=q1 (hLv hL)
   have hlt:=Own.lt (hLv hL) q2
   have q3:=h6o _ hlt (hnp (hLv hL))
   refine⟨?_,fun o=>(q3.1 o).trans (u2.1 o),q3.2.trans u2.2⟩
   rcases u1 with u1|u1
   ·rcases hF _ u1 with e|e
    ·exact .inl (e▸hon)
    ·exact .inr (by omega)
   ·exact .inr (by omega)
  ·refine Own.upd htp hfr (Own.move (fun hL=>?_) hx q2)
   have hlt:=Own.lt hL q2
   have hne:∀m,w.heap.size≤m→m<w.heap.size+2→blk β1 t≠m:=fun m m1 m2 e=>by
    rcases (q1 hL).1 with u1|u1
    ·rcases hF _ u1 with e|e<;>omega
    ·omega
   exact hb _ hlt (hne _ (Nat.le_refl _) (by omega)) (hne _ (by omega) (by omega)) (hnp hL)
 ·obtain ⟨a1,a2,a3⟩:=hsub t l hl
  obtain ⟨b1,b2,b3⟩:=hsub t' l' hl'
  have hLv:∀t l,t≠pN→Live (upd β1 pN (blk β pN) (room β pN) (many β pN)) t l→Live β1 t l:=fun t l htp hL=>by
   unfold Live at hL⊢
   split at hL
   ·rwa [room_other htp] at hL
   ·exact hL
   ·trivial
  rw[blk_other a2,blk_other b2] at he
  exact g1.inj t t' l l' a1 b1 (hLv t l a2 k1) (hLv t' l' b2 k2) he
end Go.Proofs
/- read: its contracts. -/
set_option maxRecDepth 100000
namespace Go.Proofs
open Go Go.Ab Go.RowKit
variable {G:IH}
theorem rd_words {w:World} {h:IH} (hG:G.le h) (hw:h.holds w) (s:ByteArray) (hs:s.size≤900000) {T:List Tk} {a e:Int} (hW:wrdL s=(T,a,e)) :
  Calls Tryz.prog 11 #[.string s] (rdW0 w) fun e' w'=>∃x:Sl,e'=.returned (.tuple #[slV x,.int .i64 a,.int .i64 e])∧∃h',RdW h w T x h' w':=by
 refine((f11 (G:=G) s hs).2 (rdW0 w) h [.string s] hG (holds_alloc (holds_alloc hw _) _) ⟨_,_,rfl,rfl,rfl⟩).mono ?_
 rintro e' w' ⟨v,h',rfl,hv,h1,h2,h3,h4⟩
 rw[hW] at hv
 obtain ⟨us,rfl,v1,u1,rfl,q1,v2,u2,rfl,q2,v3,u3,rfl,q3,q4⟩:=hv
 have q2:v2=.int .i64 a:=q2
 have q3:v3=.int .i64 e:=q3
 have q4:u3=[]:=q4
 subst q2;subst q3;subst q4
 obtain ⟨p,cap,e1,_⟩:=id q1
 exact⟨(p,T.length,cap),by rw[e1],h',h1,h2,h3,fun b hb=>h4 b (by rw[rdW0_size];exact hb),by rw[e1] at q1;exact q1⟩
theorem rd_us {F:Fr} {w:World} {h:IH} {β:Nat→Nat} {us:Array Value} {s:ByteArray} {c:FuncId} {bx:List (Nat×List AV)}
  (g:Gam G F w h ⟨[.d (ds s),.clo (.func c) [] [.box oN 0]],bx⟩ β h us w):us=#[.string s,.func (.func c) #[] #[.pointer (some ⟨blk β oN,0,none⟩)]]:=by
 have hs:us.size=2:=g.size
 obtain ⟨v0,e0,r0⟩:=g.regs 0 _ rfl
 obtain ⟨v1,e1,va,vc,rfl,hva,hvc⟩:=g.regs 1 _ rfl
 have r0:v0=.string s:=r0
 have hva:va=[]:=hva
 obtain ⟨u,vs',rfl,hu,hn⟩:=hvc
 have hu:u=.pointer (some ⟨blk β oN,0,none⟩):=hu
 have hn:vs'=[]:=hn
 subst r0;subst hva;subst hu;subst hn
 apply Array.ext
 ·simpa using hs
 ·intro i h1 h2
  rcases i with _|_|i
  ·simpa using (Array.getElem?_eq_some_iff.1 e0).2
  ·simpa using (Array.getElem?_eq_some_iff.1 e1).2
  ·simp at h2;omega
def noP (post:List (Nat×List AV)):Bool:=post.all fun b=>!(Nat.beq b.1 pN)&&AV.frees pN b.2
theorem noP_look:∀{post:List (Nat×List AV)} {s:Nat} {l:List AV},noP post=true→Go.Ab.look post s=some l→s≠pN∧AV.frees pN l=true
 | [],_,_,_,h=>by cases h
 | (t,c) :: post,s,l,hn,h=>by
  unfold noP at hn
  simp only[List.all_cons,bAt] at hn
  simp only[Go.Ab.look] at h
  cases hb:Nat.beq t s with
  | true=>
   rw[hb,cond_true] at h
   injection h with h
   subst h
   have hts:=Nat.eq_of_beq_eq_true hb
   refine⟨fun e=>?_,hn.1.2⟩
   rw[hts,e] at hn
   simp at hn
  | false=>
   rw[hb,cond_false] at h
   exact noP_look (post:=post) hn.2 h
theorem look_cons_ne {t s:Nat} {c:List AV} {post:List (Nat×List AV)} (h:s≠t):Go.Ab.look ((t,c) :: post) s=Go.Ab.look post s:=by
 simp only[Go.Ab.look,beq_ne (Ne.symm h),cond_false]
theorem set_conds (w5:World) (n:Nat) (a e:Int):((rdW1 w5 n a e).os=w5.os∧(rdW1 w5 n a e).tape=w5.tape∧(rdW1 w5 n a e).output=w5.output∧w5.heap.size≤(rdW1 w5 n a e).heap.size):=⟨rfl,rfl,rfl,by simp[World.setCell]⟩
theorem f35_ok {c:FuncId} {s:ByteArray} (hs:s.size≤900000) {T:List Tk} (hW:wrdL s=(T,0,0)) {Lp:List DV} (hp:plainB (Lp.map AV.d)=true) {post:List (Nat×List AV)} {rr:AV} (hpost:noP post=true)
  (hc:FnM Tryz.prog G c [.box pN 0,.box oN 0] [(pN,pC T s.size),(oN,Lp.map .d)] rr ((pN,pC [] s.size) :: post)) :
  FnM Tryz.prog G 35 [.d (ds s),.clo (.func c) [] [.box oN 0]] [(oN,Lp.map .d)] (.d (.tup [di 0,di 0])) post:=by
 refine⟨Tryz.call35,fun F w h β us g=>?_⟩
 obtain rfl:=rd_us g
 have hbl:blk β oN<w.heap.size:=Own.lt (Live.plain hp) (g.box oN _ rfl).2
 refine t35_ok (R1:=fun x w'=>∃h',RdW h w T x h' w') (R2:=fun w' w5=>∃x h' v β1 h1,RdW h w T x h' w'∧Gam G (rdF β w'.heap.size) (rdW2 w' w.heap.size (slV x) s.size) h' ⟨[rr],(pN,pC [] s.size) :: post⟩ β1 h1 #[v] w5) hc.1 (rd_words g.glob g.holds s hs hW) (fun x w' ⟨h',r⟩=>r.two) (fun x w' ⟨h',r⟩=>?_) (fun x w' w5 ⟨h',r⟩ ⟨x2,h2,v,β1,h1,r2,g1⟩=>?_) (fun x w' w5 ⟨h',r⟩ ⟨x2,h2,v,β1,h1,r2,g1⟩=>?_)
 ·refine(hc.2 _ _ _ _ _ (rd_in hp g r)).mono ?_
  rintro e w5 ⟨v,β1,h1,rfl,g1⟩
  exact⟨⟨v,rfl⟩,x,h',v,β1,h1,r,g1⟩
 ·refine⟨rd_two r2 hbl g1,?_⟩
  have hbp:blk β1 pN=w'.heap.size:=by rw[(g1.fix pN (by decide)).1];exact blk_upd
  have hO:=(g1.box pN _ rfl).2
  rw[Own.plain (by rfl)] at hO
  obtain ⟨Ty,vs,e1,v1,u1,rfl,q1,v2,u2,rfl,q2,q3⟩:=hO
  obtain ⟨p,cap,rfl,_⟩:=q1
  rw[hbp] at e1
  exact⟨p,cap,by simp[World.cell?,e1]⟩
 ·have hn:=rd_none g r2 hbl g1
  have hb:∀k,k≠w.heap.size→k≠w.heap.size+1→(rdW1 w5 w.heap.size 0 0).heap[k]?=w5.heap[k]?:=fun k h1 h2=>W1_other _ _ _ _ _ h1 h2
  refine⟨_,_,h1,rfl,rd_out hp g r2 g1 (fun t l hl=>?_) (IH.le.refl _) (holds_set (holds_set g1.holds (hn _ (Nat.le_refl _) (by omega))) (hn _ (by omega) (by omega))) (fun _ _ _=>⟨fun _=>rfl,rfl⟩) ⟨_,rfl,rfl⟩ (set_conds w5 _ 0 0) (fun k _ h1 h2 _=>hb k h1 h2) 0 0⟩
  obtain ⟨q1,q2⟩:=noP_look hpost hl
  exact⟨by rw[look_cons_ne q1];exact hl,q1,q2⟩
end Go.Proofs
/- Rules leave words of the text. -/
namespace Go.Proofs
theorem ruD_suf (kd:Int) (nm gr:ByteArray) (pos:Int) (am wh:Ex) (t:List Tk):restR (ruD kd nm gr pos am wh t) <:+ t:=by
 unfold ruD;split
 ·exact List.tail_suffix t
 ·exact List.suffix_refl _
theorem ruC_suf (kd:Int) (nm gr:ByteArray) (pos:Int) (am:Ex) (t:List Tk):restR (ruC kd nm gr pos am t) <:+ t:=by
 have h:=pr_suf (.lvl 0) t.tail
 unfold ruC;split
 ·cases e:pr (.lvl 0) t.tail with
  | ok wh r=>
   rw[e] at h;simp only[restOf] at h
   exact(ruD_suf kd nm gr pos am wh r).trans (h.trans (List.tail_suffix t))
  | bad r=>rw[e] at h;simp only[restOf] at h;exact h.trans (List.tail_suffix t)
 ·exact ruD_suf _ _ _ _ _ _ _
theorem ruG_suf (kd:Int) (nm gr:ByteArray) (pos:Int) (t:List Tk):restR (ruG kd nm gr pos t) <:+ t:=by
 have h:=pr_suf (.lvl 0) t.tail
 unfold ruG;split
 ·cases e:pr (.lvl 0) t.tail with
  | ok am r=>
   rw[e] at h;simp only[restOf] at h
   exact(ruC_suf kd nm gr pos am r).trans (h.trans (List.tail_suffix t))
  | bad r=>rw[e] at h;simp only[restOf] at h;exact h.trans (List.tail_suffix t)
 ·exact List.suffix_refl _
theorem ruN_suf (kd:Int) (nm:ByteArray) (pos:Int) (t:List Tk):restR (ruN kd nm pos t) <:+ t:=by
 unfold ruN;split
 ·split
  ·exact(ruG_suf kd nm _ pos t.tail.tail).trans ((List.tail_suffix _).trans (List.tail_suffix t))
  ·exact List.tail_suffix t
 ·exact ruG_suf _ _ _ _ _
theorem ruP_suf (t:List Tk):restR (ruP t) <:+ t:=by
 unfold ruP;split
 ·split
  ·exact(ruN_suf _ _ _ t.tail.tail).trans ((List.tail_suffix _).trans (List.tail_suffix t))
  ·exact List.tail_suffix t
 ·exact List.suffix_refl _
def Ps.app (L:List Rl):Ps→Ps
 | .ok l=>.ok (L++l)
 | .bad r=>.bad r
theorem Ps.app_nil:∀p:Ps,p.app []=p
 | .ok _=>rfl
 | .bad _=>rfl
theorem Ps.app_cons (L:List Rl) (x:Rl):∀p:Ps,(p.cons x).app L=p.app (L++[x])
 | .ok l=>by simp[Ps.cons,Ps.app]
 | .bad _=>rfl
theorem prR_ok {t:List Tk} {x:Rl} {r:List Tk} (h:ruP t=.ok x r):prR t=(prR r).cons x:=by
 have hne:t≠[]:=by rintro rfl;have:=ruP_lt h;simp at this
 rw[prR_cons hne,h]
theorem prR_bad {t:List Tk} (hne:t≠[]) {r:List Tk} (h:ruP t=.bad r):prR t=.bad r:=by
 rw[prR_cons hne,h]
end Go.Proofs
/- The parser,the program's side: several rules. -/
namespace Go.Proofs
open Go Go.Ab Go.RowKit
set_option maxHeartbeats 4000000
set_option maxRecDepth 100000
variable {G:IH}
abbrev rlRK:RK:=⟨true,68,false,none⟩
noncomputable def S36 (e:Int) (x:List Rl×List Tk):AS:=⟨regs Tryz.f36.ntmps [(0,.box pN 0),(1,.box oN 0)],[(pN,pC x.2 e),(oN,[.vec 900 16 0 x.1.length]),(900,[.arr rlRK 16 (rlF x.1)])]⟩
noncomputable def mRs (x:Rl) (r:List Tk) (e:Int):FuncId→List AV→List (Nat×List AV)→Option (AV×List (Nat×List AV)):=fun f _ _=>match f with
 | 37=>some (.d (rlD x),pB r e)
 | _=>none
noncomputable def orcRs (x:Rl) (r:List Tk) (e:Int):Orc:={ d:=fun _ _=>none,m:=mRs x r e }
abbrev nilS:AV:=.d (.con (.slice none 0 0))
theorem rs_start {Q:Exit→AS→Prop} (t:List Tk) (e:Int) (k:AWP Tryz.prog G [.code (cAt (bodyOf Tryz.f36) [0]),.blk 0] (S36 e ([],t)) Q) :
  AWP Tryz.prog G [.code (bodyOf Tryz.f36)] (entryM [.box pN 0,.box oN 0] [(pN,pC t e),(oN,[nilS])] Tryz.f36.ntmps) Q:=by
 refine walkK (orc:=orcRs rl0 [] e) (keep:=[]) (cuts:=[]) (n:=1000) follows ?_
 refine of_tr (fun ZT ZW ZQ _=>ZW [cd Tryz.f36 [0],(.blk 0)] (stS ZT []) ZQ) (by kernel_rfl) ?_
 refine AWP.pre (.nilCell _ oN 0 900 16 rlRK (rlF []) (by kernel_rfl) (by kernel_rfl)) ?_
 refine AWP.weaken ?_ k
 exact AS.leA (by kernel_rfl)
theorem rs_round {Q:Exit→AS→Prop} {I:List Rl×List Tk→Prop} (e:Int) (L:List Rl) (t r:List Tk) (y:Rl) (hy:ruP t=.ok y r) (hl:t.length≤100000) (hS:tkS t) (hL:L.length≤1000000) (hI:I (L++[y],r)) :
  AWP Tryz.prog G [.code (cAt (bodyOf Tryz.f36) [0,0])] (S36 e (L,t)) (RoundQ Tryz.prog G [.blk 0] Q (S36 e) I (fun x=>x.2.length) (L,t)):=by
 have h:=f37 (G:=G) t e hl hS
 rw[hy] at h
 have hlt:=ruP_lt hy
 refine walkK (orc:=orcRs y r e) (keep:=[]) (cuts:=[]) (n:=1000) follows ?_
 refine of_rd (fun ZT ZW _ _ ZA _=>((((decide ((↑t.length:Int)>0))=true)→((FnM Tryz.prog G 37 [(.box 1000000 0)] [(1000000,[(.d (.slc 2 t.length (tkF t))),(vi e)])] (.d (rlD y)) [(1000000,[(.d (.slc 2 r.length (tkF r))),(vi e)])]∧(((L.length+1)*192≤1099511627776)∧(L.length+1≤1099511627776))∧(∀(i:Nat),i<1→elemOK true 16 (elemF true 16 [di y.kind,ds y.nm,ds y.gr,di y.am.k,ds y.am.s,di y.am.n,di y.am.d,di y.am.pos,DV.slc 6 y.am.kids.length (lay (exG y.ma) y.am.kids),di y.wh.k,ds y.wh.s,di y.wh.n,di y.wh.d,di y.wh.pos,DV.slc 6 y.wh.kids.length (lay (exG y.mw) y.wh.kids),di y.pos] i)=true))∧(ZA (stS ZT [0]))))∧(((decide ((↑t.length:Int)>0))=false)→ZW [] (stS ZT [1]) Q))) (by kernel_rfl) ?_
 refine⟨fun _=>⟨⟨h,⟨by omega,by omega⟩,fun i hi=>?_⟩,?_⟩,fun c=>?_⟩
 ·obtain rfl:i=0:=by omega
  rfl
 ·refine⟨(L++[y],r),(AS.leX.moves [(13,900)] _ rfl).trans ((AS.leX.rowB _ oN 0 900 (L.length+1) (l:=[.vec 900 16 0 (L.length+1)]) (agg:=rlRK) (sz:=16) (f:=fun i=>bif Nat.blt i L.length then rlF L i else elemF true 16 [di y.kind,ds y.nm,ds y.gr,di y.am.k,ds y.am.s,di y.am.n,di y.am.d,di y.am.pos,.slc 6 y.am.kids.length (lay (exG y.ma) y.am.kids),di y.wh.k,ds y.wh.s,di y.wh.n,di y.wh.d,di y.wh.pos,.slc 6 y.wh.kids.length (lay (exG y.mw) y.wh.kids),di y.pos] (i-L.length)) (rlF (L++[y])) (by kernel_rfl) (by kernel_rfl) (by kernel_rfl) (by kernel_rfl) (by kernel_rfl) (by kernel_rfl) rfl (by kernel_rfl) (fun i hi=>?_)).trans (.of_le ?_)),hI,hlt⟩
  ·unfold rlF
   rcases Nat.lt_or_ge i L.length with h4|h4
   ·rw[show Nat.blt i L.length=true from by rw[Nat.blt_eq];exact h4,getD_appL h4];rfl
   ·obtain rfl:i=L.length:=by omega
    rw[show Nat.blt L.length L.length=false from by rw[Bool.eq_false_iff,ne_eq,Nat.blt_eq];omega,getD_appR (Nat.le_refl _),Nat.sub_self];rfl
  ·refine AS.leZ [] [1] (b:=((T0∧T0∧True)∧T0∧((some [(.vec 900 16 0 (L.length+1))]):(Option (List AV)))=(some [(.vec 900 16 0 (L++[y]).length)])∧T0∧True)) (by kernel_rfl) (by kernel_rfl) ?_
   rw[show (L++[y]).length=L.length+1 by simp]
   exact⟨⟨rfl,rfl,trivial⟩,rfl,rfl,rfl,trivial⟩
 ·simp only[decide_eq_false_iff_not] at c;omega
theorem rs_ok (t:List Tk) (e:Int) (hl:t.length≤100000) (hS:tkS t) (R:List Rl) (hp:prR t=.ok R) :
  FnM Tryz.prog G 36 [.box pN 0,.box oN 0] [(pN,pC t e),(oN,[nilS])] (.d (.tup [])) [(pN,pC [] e),(oN,[.d (rlsD R)])]:=by
 refine FnM.of_body (mv:=[]) (by kernel_rfl) Tryz.func36 rfl Tryz.call36 ?_
 refine rs_start t e ?_
 refine AWP.loop (c:=cAt (bodyOf Tryz.f36) [0,0]) (by kernel_rfl) (S36 e) (fun x=>x.1.length+x.2.length≤100000∧tkS x.2∧(prR x.2).app x.1=.ok R) (fun x=>x.2.length) ([],t) (by refine AS.leZ [] [] (b:=((T0∧T0∧True)∧T0∧T0∧T0∧True)) (by kernel_rfl) (by kernel_rfl) ?_;exact⟨⟨rfl,rfl,trivial⟩,rfl,rfl,rfl,trivial⟩) ⟨by simpa using hl,hS,by rw[hp];rfl⟩ ?_
 rintro ⟨L,s⟩ ⟨h1,h2,h3⟩
 dsimp only at h1 h2 h3
 by_cases hs:s=[]
 ·subst hs
  have h3:L=R:=by
   have:Ps.ok (L++[])=.ok R:=h3
   rw[List.append_nil] at this
   injection this
  subst h3
  refine walkK (orc:=orcRs rl0 [] e) (keep:=[]) (cuts:=[]) (n:=1000) follows ?_
  refine of_rd (fun ZT ZW ZQ _ ZA _=>(((false=true)→((FnM Tryz.prog G 37 [(.box 1000000 0)] [(1000000,[(.d (.slc 2 0 (tkF []))),(vi e)])] (.d (.agg [(di 0),(ds ByteArray.empty),(ds ByteArray.empty),(di 0),(ds ex0.s),(di 0),(di 0),(di 0),(.slc 6 0 (lay (exG 0) ex0.kids)),(di 0),(ds ex0.s),(di 0),(di 0),(di 0),(.slc 6 0 (lay (exG 0) ex0.kids)),(di 0)])) [(1000000,[(.d (.slc 2 0 (tkF []))),(vi e)])]∧(((L.length+1)*192≤1099511627776)∧(L.length+1≤1099511627776))∧(∀(i:Nat),i<1→elemOK true 16 (elemF true 16 [di 0,ds ByteArray.empty,ds ByteArray.empty,di 0,ds ex0.s,di 0,di 0,di 0,DV.slc 6 0 (lay (exG 0) ex0.kids),di 0,ds ex0.s,di 0,di 0,di 0,DV.slc 6 0 (lay (exG 0) ex0.kids),di 0] i)=true))∧(ZA (stS ZT [0]))))∧((false=false)→ZW [] (stS ZT [1]) ZQ))) (by kernel_rfl) ?_
  refine⟨fun c=>(by cases c),fun _=>?_⟩
  refine AWP.freeze 900 (agg:=rlRK) (sz:=16) (f:=rlF L) (by kernel_rfl) ?_
  refine walkK (orc:=orcRs rl0 [] e) (keep:=[]) (cuts:=[]) (n:=1000) follows ?_
  refine of_tr (fun _ _ _ _=>((ZS ((.d (.tup [])):AV))∧((some [(.d (.slc 2 0 (tkF []))),(vi e)]):(Option (List AV)))=(some [(.d (.slc 2 0 (tkF []))),(vi e)])∧((some [(.d (.slc 16 L.length (fun i=>rlF L (0+i))))]):(Option (List AV)))=(some [(.d (.slc 16 L.length (rlF L)))])∧True)) (by kernel_rfl) ?_
  have e1:(fun i=>rlF L (0+i))=rlF L:=funext fun i=>by rw[Nat.zero_add]
  rw[e1]
  exact⟨rfl,rfl,rfl,trivial⟩
 ·cases hq:ruP s with
  | ok y r=>
   have hlt:=ruP_lt hq
   have hsf:=ruP_suf s
   rw[hq] at hsf
   refine rs_round e L s r y hq (by omega) h2 (by omega) ⟨?_,h2.suf hsf,?_⟩
   ·simp only[List.length_append,List.length_singleton];omega
   ·rw[prR_ok hq,Ps.app_cons] at h3;exact h3
  | bad r=>rw[prR_bad hs hq] at h3;cases h3
theorem rs_bad (t:List Tk) (e:Int) (hl:t.length≤100000) (hS:tkS t) (R:List Tk) (hp:prR t=.bad R) :
  FnMX Tryz.prog G 36 [.box pN 0,.box oN 0] [(pN,pC t e),(oN,[nilS])] (mkV (hdA e R)):=by
 refine FnMX.of_body Tryz.func36 rfl Tryz.call36 ?_
 refine rs_start t e ?_
 refine AWP.loop (c:=cAt (bodyOf Tryz.f36) [0,0]) (by kernel_rfl) (S36 e) (fun x=>x.1.length+x.2.length≤100000∧tkS x.2∧(prR x.2).app x.1=.bad R) (fun x=>x.2.length) ([],t) (by refine AS.leZ [] [] (b:=((T0∧T0∧True)∧T0∧T0∧T0∧True)) (by kernel_rfl) (by kernel_rfl) ?_;exact⟨⟨rfl,rfl,trivial⟩,rfl,rfl,rfl,trivial⟩) ⟨by simpa using hl,hS,by rw[hp];rfl⟩ ?_
 rintro ⟨L,s⟩ ⟨h1,h2,h3⟩
 dsimp only at h1 h2 h3
 have hs:s≠[]:=by rintro rfl;cases h3
 have hpos:0<s.length:=by cases s with
  | nil=>exact absurd rfl hs
  | cons a b=>simp
 cases hq:ruP s with
 | ok y r=>
  have hlt:=ruP_lt hq
  have hsf:=ruP_suf s
  rw[hq] at hsf
  refine rs_round e L s r y hq (by omega) h2 (by omega) ⟨?_,h2.suf hsf,?_⟩
  ·simp only[List.length_append,List.length_singleton];omega
  ·rw[prR_ok hq,Ps.app_cons] at h3;exact h3
 | bad r=>
  rw[prR_bad hs hq] at h3
  injection h3 with h3
  subst h3
  have h:=f37 (G:=G) s e (by omega) h2
  rw[hq] at h
  refine walkK (orc:=orcRs rl0 [] e) (keep:=[]) (cuts:=[1]) (n:=1000) follows ?_
  refine of_rd (fun ZT ZW ZQ _ _ ZR=>((((decide ((↑s.length:Int)>0))=true)→ZW [cd Tryz.f36 [0,0,1,0],(.blk 1)] (stS ZT [0]) ZR)∧(((decide ((↑s.length:Int)>0))=false)→ZW [] (stS ZT [1]) ZQ))) (by kernel_rfl) ?_
  refine⟨fun _=>?_,fun c=>?_⟩
  ·refine AWP.panicY follows (orcRs rl0 [] e) 2 (mkV (hdA e r)) ?_
   refine of_rd (fun _ _ _ _ _ _=>(FnMX Tryz.prog G 37 [(.box 1000000 0)] [(1000000,[(.d (.slc 2 s.length (tkF s))),(vi e)])] (mkV (hdA e r))∧((.panic [(PanicEntry.mk (mkV (hdA e r)) false false)]):Exit)=(.panic [(PanicEntry.mk (mkV (hdA e r)) false false)])∧((some [.any,.any]):(Option (List AV)))=(some [.any,.any])∧((some [.any]):(Option (List AV)))=(some [.any])∧True)) (by kernel_rfl) ?_
   exact⟨h,rfl,rfl,rfl,trivial⟩
  ·simp only[decide_eq_false_iff_not] at c;omega
end Go.Proofs
/- The parser,the program's side: one expression. -/
namespace Go.Proofs
open Go Go.Ab Go.RowKit
set_option maxHeartbeats 4000000
set_option maxRecDepth 100000
variable {G:IH}
noncomputable def mEx (x:Ex) (r:List Tk) (e:Int):FuncId→List AV→List (Nat×List AV)→Option (AV×List (Nat×List AV)):=fun f _ _=>match f with
 | 44=>some (.d (exW x),pB r e)
 | _=>none
noncomputable def orcEx (x:Ex) (r:List Tk) (e:Int):Orc:={ d:=fun _ _=>none,m:=mEx x r e }
theorem ex_ok (t:List Tk) (e:Int) (hl:t.length≤100000) (hS:tkS t) (x:Ex) (r:List Tk) (hp:pr (.lvl 0) t=.ok x r) :
  FnM Tryz.prog G 43 [.box pN 0,.box oN 0] [(pN,pC t e),(oN,zeroE)] (.d (.tup [])) [(pN,pC r e),(oN,exC (ht x) x)]:=by
 have h:=f44 (G:=G) 0 (by omega) t e hl hS
 rw[hp] at h
 refine FnM.of_body (mv:=[]) (by kernel_rfl) Tryz.func43 rfl Tryz.call43 ?_
 refine walkK (orc:=orcEx x r e) (keep:=[]) (cuts:=[]) (n:=1000) follows ?_
 refine of_tr (fun _ _ _ _=>(fun Za=>(FnM Tryz.prog G 44 [(.box 1000000 0),(vi 0)] [(1000000,[(.d (.slc 2 t.length (tkF t))),(vi e)])] (.d (ndX (ht x) x)) [(1000000,[(.d (.slc 2 r.length (tkF r))),(vi e)])]∧(ZS ((.d (.tup [])):AV))∧((some [(.d (.slc 2 r.length (tkF r))),(vi e)]):(Option (List AV)))=(some [(.d (.slc 2 r.length (tkF r))),(vi e)])∧(Za:(Option (List AV)))=Za∧True)) (some [(vi x.k),(vs x.s),(vi x.n),(vi x.d),(vi x.pos),(.d (.slc 6 x.kids.length (lay (exG (ht x)) x.kids)))])) (by kernel_rfl) ?_
 exact⟨h,rfl,rfl,rfl,trivial⟩
theorem ex_bad (t:List Tk) (e:Int) (hl:t.length≤100000) (hS:tkS t) (r:List Tk) (hp:pr (.lvl 0) t=.bad r) :
  FnMX Tryz.prog G 43 [.box pN 0,.box oN 0] [(pN,pC t e),(oN,zeroE)] (mkV (hdA e r)):=by
 have h:=f44 (G:=G) 0 (by omega) t e hl hS
 rw[hp] at h
 refine FnMX.of_body Tryz.func43 rfl Tryz.call43 ?_
 refine AWP.panicX follows (orcEx ex0 r e) 1 (mkV (hdA e r)) ?_
 refine of_tr (fun _ _ _ _=>(FnMX Tryz.prog G 44 [(.box 1000000 0),(vi 0)] [(1000000,[(.d (.slc 2 t.length (tkF t))),(vi e)])] (mkV (hdA e r))∧((.panic [(PanicEntry.mk (mkV (hdA e r)) false false)]):Exit)=(.panic [(PanicEntry.mk (mkV (hdA e r)) false false)])∧((some [.any,.any]):(Option (List AV)))=(some [.any,.any])∧((some [.any,.any,.any,.any,.any,.any]):(Option (List AV)))=(some [.any,.any,.any,.any,.any,.any])∧True)) (by kernel_rfl) ?_
 exact⟨h,rfl,rfl,rfl,trivial⟩
end Go.Proofs
/- read: words left,panics,texts without words. -/
set_option maxRecDepth 100000
namespace Go.Proofs
open Go Go.Ab Go.RowKit
variable {G:IH}
theorem smashL_d (Lp:List DV) (hp:plainB (Lp.map AV.d)=true):smashL (Lp.map AV.d)=Lp.map fun _=>AV.any:=by
 unfold smashL;rw[hp];simp
theorem frees_any (s:Nat):∀l:List DV,AV.frees s (l.map fun _=>AV.any)=true
 | []=>rfl
 | _ :: l=>by simp only[List.map_cons,AV.frees,AV.free,Bool.true_and];exact frees_any s l
abbrev anyP (Lp:List DV):List (Nat×List AV):=[(oN,Lp.map fun _=>AV.any)]
theorem look_any {Lp:List DV} {t:Nat} {l:List AV} (hl:Go.Ab.look (anyP Lp) t=some l):t=oN∧l=Lp.map fun _=>AV.any:=by
 simp only[Go.Ab.look] at hl
 by_cases h2:oN=t
 ·subst h2;simp at hl;exact⟨rfl,hl.symm⟩
 ·simp[beq_ne h2] at hl
theorem sub_any {Lp:List DV} (hp:plainB (Lp.map AV.d)=true) (Z:List AV) (t:Nat) (l:List AV) (hl:Go.Ab.look (anyP Lp) t=some l):Go.Ab.look (smash [(pN,Z),(oN,Lp.map .d)]) t=some l∧t≠pN∧AV.frees pN l=true:=by
 obtain ⟨rfl,rfl⟩:=look_any hl
 refine⟨?_,by decide,frees_any _ _⟩
 rw[look_smash]
 show (some (Lp.map AV.d)).map smashL=_
 rw[Option.map_some,smashL_d Lp hp]
theorem al_conds (w5:World) (n:Nat) (a:Int):((rdW6 w5 n a).os=w5.os∧(rdW6 w5 n a).tape=w5.tape∧(rdW6 w5 n a).output=w5.output∧w5.heap.size≤(rdW6 w5 n a).heap.size):=⟨rfl,rfl,rfl,by simp[World.setCell]⟩
theorem W6_other (w5:World) (n:Nat) (a:Int) (k:Nat) (hk:k<w5.heap.size) (h1:k≠n) (h2:k≠n+1):(rdW6 w5 n a).heap[k]?=w5.heap[k]?:=by
 simp only[World.setCell,Array.getElem?_modify]
 rw[if_neg (fun e=>h2 e.symm),if_neg (fun e=>h1 e.symm)]
 show (w5.heap.push _)[_]?=_
 rw[Array.getElem?_push,if_neg (by omega)]
theorem f35_pan {c:FuncId} {s:ByteArray} (hs:s.size≤900000) {T:List Tk} (hW:wrdL s=(T,0,0)) {Lp:List DV} (hp:plainB (Lp.map AV.d)=true) {a:Int}
  (hc:FnMX Tryz.prog G c [.box pN 0,.box oN 0] [(pN,pC T s.size),(oN,Lp.map .d)] (mkV a)) :
  FnM Tryz.prog G 35 [.d (ds s),.clo (.func c) [] [.box oN 0]] [(oN,Lp.map .d)] (.d (.tup [di a,di 3])) (anyP Lp):=by
 refine⟨Tryz.call35,fun F w h β us g=>?_⟩
 obtain rfl:=rd_us g
 have hbl:blk β oN<w.heap.size:=Own.lt (Live.plain hp) (g.box oN _ rfl).2
 refine t35_pan (a:=a) (R1:=fun x w'=>∃h',RdW h w T x h' w') (R2:=fun w' w5=>∃x h' β1 h1,RdW h w T x h' w'∧Gam G (rdF β w'.heap.size) (rdW2 w' w.heap.size (slV x) s.size) h' ⟨[],smash [(pN,pC T s.size),(oN,Lp.map .d)]⟩ β1 h1 #[] w5) hc.1 (rd_words g.glob g.holds s hs hW) (fun x w' ⟨h',r⟩=>r.two) (fun x w' ⟨h',r⟩=>?_) (fun x w' w5 ⟨h',r⟩ ⟨x2,h2,β1,h1,r2,g1⟩=>rd_two r2 hbl g1) (fun x w' w5 ⟨h',r⟩ ⟨x2,h2,β1,h1,r2,g1⟩=>?_)
 ·refine(hc.2 _ _ _ _ _ (rd_in hp g r)).mono ?_
  rintro e w5 ⟨rfl,β1,h1,g1⟩
  exact⟨rfl,x,h',β1,h1,r,g1⟩
 ·have hn:=rd_none g r2 hbl g1
  exact⟨_,_,h1,rfl,rd_out hp g r2 g1 (sub_any hp _) (IH.le.refl _) (holds_set (holds_set (holds_alloc g1.holds _) (hn _ (Nat.le_refl _) (by omega))) (hn _ (by omega) (by omega))) (fun _ _ _=>⟨fun _=>rfl,rfl⟩) ⟨_,rfl,rfl⟩ (al_conds w5 _ a) (fun k hk h1 h2 _=>W6_other _ _ _ _ hk h1 h2) a 3⟩
theorem f35_left {c:FuncId} {s:ByteArray} (hs:s.size≤900000) {T:List Tk} (hW:wrdL s=(T,0,0)) {Lp:List DV} (hp:plainB (Lp.map AV.d)=true) {L2:List AV} {rr:AV} {T':List Tk} (hT:T'≠[])
  (hfr:AV.frees pN L2=true)
  (hc:FnM Tryz.prog G c [.box pN 0,.box oN 0] [(pN,pC T s.size),(oN,Lp.map .d)] rr [(pN,pC T' s.size),(oN,L2)]) :
  FnM Tryz.prog G 35 [.d (ds s),.clo (.func c) [] [.box oN 0]] [(oN,Lp.map .d)] (.d (.tup [di (hdA s.size T'),di 3])) [(oN,L2)]:=by
 refine⟨Tryz.call35,fun F w h β us g=>?_⟩
 obtain rfl:=rd_us g
 have hbl:blk β oN<w.heap.size:=Own.lt (Live.plain hp) (g.box oN _ rfl).2
 have hsz0:=rdW0_size w
 refine t35_left (a:=hdA s.size T') (R1:=fun x w'=>∃h',RdW h w T x h' w')
  (R2:=fun w' w5=>∃x h' v β1 h1,RdW h w T x h' w'∧Gam G (rdF β w'.heap.size) (rdW2 w' w.heap.size (slV x) s.size) h' ⟨[rr],[(pN,pC T' s.size),(oN,L2)]⟩ β1 h1 #[v] w5)
  (R3:=fun w' w6=>∃x h' v β1 h1 w5 β6 h6,RdW h w T x h' w'∧Gam G (rdF β w'.heap.size) (rdW2 w' w.heap.size (slV x) s.size) h' ⟨[rr],[(pN,pC T' s.size),(oN,L2)]⟩ β1 h1 #[v] w5∧Gam G ⟨fun k=>k=w'.heap.size,upd β1 1000000 w'.heap.size 66 0⟩ w5 h1 ⟨[],smash (pB T' s.size)⟩ β6 h6 #[] w6)
  hc.1 (rd_words g.glob g.holds s hs hW) (fun x w' ⟨h',r⟩=>r.two) (fun x w' ⟨h',r⟩=>?_) (fun x w' w5 ⟨h',r⟩ ⟨x2,h2,v,β1,h1,r2,g1⟩=>?_) (fun x w' w5 ⟨h',r⟩ ⟨x2,h2,v,β1,h1,r2,g1⟩=>?_) (fun x w' w6 ⟨h',r⟩ ⟨x2,h2,v,β1,h1,w5,β6,h6,r2,g1,g6⟩=>?_) (fun x w' w6 ⟨h',r⟩ ⟨x2,h2,v,β1,h1,w5,β6,h6,r2,g1,g6⟩=>?_)
 ·refine(hc.2 _ _ _ _ _ (rd_in hp g r)).mono ?_
  rintro e w5 ⟨v,β1,h1,rfl,g1⟩
  exact⟨⟨v,rfl⟩,x,h',v,β1,h1,r,g1⟩
 ·have hbp:blk β1 pN=w'.heap.size:=by rw[(g1.fix pN (by decide)).1];exact blk_upd
  have hO:=(g1.box pN _ rfl).2
  rw[Own.plain (by rfl)] at hO
  obtain ⟨Ty,vs,e1,v1,u1,rfl,q1,v2,u2,rfl,q2,q3⟩:=hO
  obtain ⟨p,cap,rfl,_⟩:=q1
  rw[hbp] at e1
  exact⟨p,T'.length,cap,by simpa using hT,by simp[World.cell?,e1]⟩
 ·have hbp:blk β1 pN=w'.heap.size:=by rw[(g1.fix pN (by decide)).1];exact blk_upd
  have hrm:room β1 pN=66:=by rw[(g1.fix pN (by decide)).2.1];exact room_upd
  obtain ⟨q1,q2⟩:=g1.box pN _ rfl
  have q1:=q1 (Live.plain (by rfl))
  have hlt:=Own.lt (Live.plain (by rfl)) q2
  rw[hbp] at hlt q1 q2
  refine((f74 (G:=G) T' s.size).2 ⟨fun k=>k=w'.heap.size,upd β1 1000000 w'.heap.size 66 0⟩ w5 h1 (upd β1 1000000 w'.heap.size 66 0) #[.pointer (some (rdP w'))] ⟨g1.glob,g1.holds,IH.le.refl _,fun _ _ _=>⟨fun _=>rfl,rfl⟩,Kept.refl _ _,fun _ _=>⟨rfl,rfl,rfl⟩,rfl,fun t z hz=>?_,fun t l hl=>?_,fun t t' l l' hl hl' _ _ _=>?_⟩).mono ?_
  ·cases t with
   | zero=>
    obtain rfl:AV.box 1000000 0=z:=by simpa using hz
    refine⟨_,rfl,?_⟩
    show _=Value.pointer (some ⟨blk (upd β1 1000000 w'.heap.size 66 0) 1000000,0,none⟩)
    rw[blk_upd]
    rfl
   | succ t=>simp at hz
  ·have hl:Go.Ab.look [(1000000,pC T' s.size)] t=some l:=hl
   simp only[Go.Ab.look] at hl
   by_cases h2:1000000=t
   ·subst h2
    simp at hl;subst hl
    rw[blk_upd]
    refine⟨fun _=>⟨.inl rfl,q1.2⟩,?_⟩
    rw[Own.plain (by rfl)] at q2⊢
    obtain ⟨⟨Ty,hTy⟩,vs,e1,e2⟩:=q2
    refine⟨⟨Ty,by rw[hTy,hrm,room_upd]⟩,vs,e1,?_⟩
    exact e2
   ·simp[beq_ne h2] at hl
  ·have hl:Go.Ab.look [(1000000,pC T' s.size)] t=some l:=hl
   have hl':Go.Ab.look [(1000000,pC T' s.size)] t'=some l':=hl'
   have hh:∀{t l},Go.Ab.look [(1000000,pC T' s.size)] t=some l→t=1000000:=fun {t l} hl=>by
    simp only[Go.Ab.look] at hl
    by_cases h2:1000000=t
    ·exact h2.symm
    ·simp[beq_ne h2] at hl
   rw[hh hl,hh hl']
  ·rintro e w6 ⟨rfl,β6,h6,g6⟩
   exact⟨rfl,x2,h2,v,β1,h1,w5,β6,h6,r2,g1,g6⟩
 ·have t5:=rd_two r2 hbl g1
  have hk5:=g1.kept.size
  have hks:=r2.kept.size
  have h2sz:(rdW2 w' w.heap.size (slV x2) s.size).heap.size=w'.heap.size+1:=by
   show ((rdW1 w' w.heap.size 0 0).heap.push _).size=_
   rw[Array.size_push,W1_size]
  exact⟨by rw[g6.kept.block _ (by omega) (fun e=>by have e:w.heap.size=w'.heap.size:=e;omega)];exact t5.a,by rw[g6.kept.block _ (by omega) (fun e=>by have e:w.heap.size+1=w'.heap.size:=e;omega)];exact t5.b⟩
 ·have hk5:=g1.kept.size
  have hks:=r2.kept.size
  have hk6:=g6.kept.size
  have h2sz:(rdW2 w' w.heap.size (slV x2) s.size).heap.size=w'.heap.size+1:=by
   show ((rdW1 w' w.heap.size 0 0).heap.push _).size=_
   rw[Array.size_push,W1_size]
  have hn1:=rd_none g r2 hbl g1
  have hn:∀k,w.heap.size≤k→k<w.heap.size+2→(∀o,h6.cell k o=none)∧h6.obj k=none:=fun k k1 k2=>by
   have q:=hn1 k k1 k2
   have q2:=g6.old k (by omega) (fun e=>by have e:k=w'.heap.size:=e;omega)
   exact⟨fun o=>(q2.1 o).trans (q.1 o),q2.2.trans q.2⟩
  refine⟨_,_,h6,rfl,rd_out hp g r2 g1 (fun t l hl=>?_) g6.ext (holds_set (holds_set (holds_alloc g6.holds _) (hn _ (Nat.le_refl _) (by omega))) (hn _ (by omega) (by omega))) (fun b b1 b2=>g6.old b b1 b2) ⟨_,rfl,rfl⟩ ⟨g6.kept.os,g6.kept.tape,g6.kept.output,?_⟩ (fun k hk h1 h2 h3=>?_) _ 3⟩
  ·simp only[Go.Ab.look] at hl
   by_cases h5:oN=t
   ·subst h5;simp at hl;subst hl
    exact⟨rfl,by decide,hfr⟩
   ·simp[beq_ne h5] at hl
  ·exact Nat.le_trans hk6 (al_conds w6 w.heap.size (hdA s.size T')).2.2.2
  ·rw[W6_other _ _ _ _ (by have:=g6.kept.size;omega) h1 h2,g6.kept.block _ hk h3]
end Go.Proofs
/- read: a text without words. -/
set_option maxRecDepth 100000
namespace Go.Proofs
open Go Go.Ab Go.RowKit
variable {G:IH}
theorem f35_bad {c:FuncId} {s:ByteArray} (hs:s.size≤900000) {T:List Tk} {a e:Int} (hW:wrdL s=(T,a,e)) (he:e≠0) {Lp:List DV} (hp:plainB (Lp.map AV.d)=true) :
  FnM Tryz.prog G 35 [.d (ds s),.clo (.func c) [] [.box oN 0]] [(oN,Lp.map .d)] (.d (.tup [di a,di e])) [(oN,Lp.map .d)]:=by
 refine⟨Tryz.call35,fun F w h β us g=>?_⟩
 obtain rfl:=rd_us g
 have hbl:blk β oN<w.heap.size:=Own.lt (Live.plain hp) (g.box oN _ rfl).2
 have hsz:=rdW0_size w
 refine t35_bad (a0:=a) (e0:=e) (R1:=fun w'=>∃x h',RdW h w T x h' w') ?_ he (fun w' ⟨x,h',r⟩=>r.two) (fun w' ⟨x,h',r⟩=>?_)
 ·refine(rd_words g.glob g.holds s hs hW).mono ?_
  rintro e' w' ⟨x,rfl,h',r⟩
  exact⟨slV x,rfl,x,h',r⟩
 ·have hk:=r.kept.size
  have hn:=r.none g.holds
  have n1:=hn _ (Nat.le_refl _) (by omega)
  have n2:=hn (w.heap.size+1) (by omega) (by omega)
  have hh:h'.holds (rdW1 (rdW1 w' w.heap.size a e) w.heap.size a e):=holds_set (holds_set (holds_set (holds_set r.holds n1) n2) n1) n2
  have hold:∀k,k<w.heap.size→(rdW1 (rdW1 w' w.heap.size a e) w.heap.size a e).heap[k]?=w.heap[k]?:=fun k hk=>by
   rw[W1_other _ _ _ _ _ (by omega) (by omega),W1_other _ _ _ _ _ (by omega) (by omega),r.kept.block _ (by omega) id]
   show ((w.heap.push _).push _)[_]?=_
   rw[Array.getElem?_push_lt (by simp;omega),Array.getElem_push_lt hk,Array.getElem?_eq_getElem hk]
  have g2:Gam G F w h ⟨[.d (.tup [di a,di e])],[(oN,Lp.map .d)]⟩ β h' #[.tuple #[.int .i64 a,.int .i64 e]] (rdW1 (rdW1 w' w.heap.size a e) w.heap.size a e):=by
   refine⟨g.glob.trans r.ext,hh,r.ext,fun k hk hnF=>r.old k (by omega),⟨r.kept.os,r.kept.tape,r.kept.output,?_,fun k hk _=>hold k hk⟩,g.fix,rfl,fun t z hz=>?_,fun t l hl=>?_,g.inj⟩
   ·show w.heap.size≤(rdW1 (rdW1 w' w.heap.size a e) w.heap.size a e).heap.size
    simp only[World.setCell,Array.size_modify];omega
   ·cases t with
    | zero=>
     obtain rfl:AV.d (.tup [di a,di e])=z:=by simpa using hz
     exact⟨_,rfl,[.int .i64 a,.int .i64 e],rfl,_,_,rfl,rfl,_,_,rfl,rfl,rfl⟩
    | succ t=>simp at hz
   ·obtain ⟨q1,q2⟩:=g.box t l hl
    refine⟨fun hL=>?_,Own.move (fun hL=>hold _ (Own.lt hL q2)) r.ext q2⟩
    obtain ⟨u1,u2⟩:=q1 hL
    have q3:=r.old _ (Nat.lt_of_lt_of_le (Own.lt hL q2) (by omega:w.heap.size≤w.heap.size+2))
    exact⟨u1,fun o=>(q3.1 o).trans (u2.1 o),q3.2.trans u2.2⟩
  exact⟨_,_,h',rfl,g2.drew _⟩
end Go.Proofs
/- What the words of a text are,in numbers. -/
namespace Go.Proofs
theorem bsL_size (l:List UInt8):(bsL l).size=l.length:=by simp[bsL,ByteArray.size]
theorem toks_in:∀(k at_:Nat) (l:List UInt8) (t:List Tk),toks k at_ l=.ok t→t.length≤l.length∧∀w∈t,w.1.size≤l.length∧(at_:Int)≤w.2∧w.2≤((at_+l.length:Nat):Int):=by
 intro k
 induction k with
 | zero=>intro at_ l t h;cases h
 | succ k ih=>
  intro at_ l t h
  unfold toks at h
  split at h
  ·injection h with h;subst h
   exact⟨Nat.zero_le _,fun w hw=>by cases hw⟩
  ·rename_i h1
   split at h
   ·cases h
   ·rename_i h2
    have h2:(wordW (l.drop (spF false l))).2=0:=by simpa using h2
    have hne:l.drop (spF false l)≠[]:=fun hh=>by
     have:=congrArg List.length hh
     rw[List.length_drop] at this;simp at this;omega
    obtain ⟨p1,p2⟩:=wordW_pos hne h2
    rw[List.length_drop] at p2
    cases e:toks k (at_+spF false l+(wordW (l.drop (spF false l))).1.toNat) (l.drop (spF false l+(wordW (l.drop (spF false l))).1.toNat)) with
    | bad a b=>rw[e] at h;cases h
    | ok T=>
     rw[e] at h
     injection h with h
     subst h
     obtain ⟨q1,q2⟩:=ih _ _ _ e
     rw[List.length_drop] at q1
     refine⟨by simp only[List.length_cons];omega,fun w hw=>?_⟩
     rcases List.mem_cons.1 hw with rfl|hw
     ·dsimp only
      rw[bsL_size,List.length_take,List.length_drop]
      omega
     ·obtain ⟨r1,r2,r3⟩:=q2 w hw
      rw[List.length_drop] at r1 r3
      omega
theorem toks_bad:∀(k at_:Nat) (l:List UInt8) (a e:Int),toks k at_ l=.bad a e→e≠0∧(at_:Int)≤a∧a≤((at_+l.length:Nat):Int):=by
 intro k
 induction k with
 | zero=>
  intro at_ l a e h
  simp only[toks] at h
  injection h with h1 h2
  subst h1;subst h2
  exact⟨by decide,by omega,by omega⟩
 | succ k ih=>
  intro at_ l a e h
  unfold toks at h
  split at h
  ·cases h
  ·rename_i h1
   split at h
   ·rename_i h2
    injection h with q1 q2
    subst q1;subst q2
    exact⟨h2,by omega,by omega⟩
   ·rename_i h2
    have h2:(wordW (l.drop (spF false l))).2=0:=by simpa using h2
    have hne:l.drop (spF false l)≠[]:=fun hh=>by
     have:=congrArg List.length hh
     rw[List.length_drop] at this;simp at this;omega
    obtain ⟨p1,p2⟩:=wordW_pos hne h2
    rw[List.length_drop] at p2
    cases e2:toks k (at_+spF false l+(wordW (l.drop (spF false l))).1.toNat) (l.drop (spF false l+(wordW (l.drop (spF false l))).1.toNat)) with
    | ok T=>rw[e2] at h;cases h
    | bad a2 b2=>
     rw[e2] at h
     simp only[Ws.cons] at h
     injection h with q1 q2
     subst q1;subst q2
     obtain ⟨r1,r2,r3⟩:=ih _ _ _ _ e2
     rw[List.length_drop] at r3
     exact⟨r1,by omega,by omega⟩
def tkIn (n:Nat) (t:List Tk):Prop:=∀w∈t,0≤w.2∧w.2≤(n:Int)
theorem tkIn.suf {n:Nat} {t r:List Tk} (h:tkIn n t) (hs:r <:+ t):tkIn n r:=fun w hw=>h w (hs.subset hw)
theorem tkIn.hd {n:Nat} {t:List Tk} (h:tkIn n t):0≤hdA (n:Int) t∧hdA (n:Int) t≤(n:Int):=by
 cases t with
 | nil=>exact⟨Int.natCast_nonneg n,Int.le_refl _⟩
 | cons w t=>exact h w (by simp)
structure WdOK (s:ByteArray) (T:List Tk):Prop where
 size:s.size≤16384
 toks:toks (s.size+1) 0 s.data.toList=.ok T
 len:T.length≤s.size
 sm:tkS T
 ok:tkOK T
 off:tkIn s.size T
 wd:∀w∈T,w.1.size≤s.size
theorem wrdL_ok {s:ByteArray} {T:List Tk} {a:Int} (h:wrdL s=(T,a,0)):a=0∧WdOK s T:=by
 unfold wrdL at h
 have hl:s.data.toList.length=s.size:=Array.length_toList
 split at h
 ·cases h
 ·rename_i h0
  cases e:toks (s.size+1) 0 s.data.toList with
  | bad a2 b2=>
   rw[e] at h
   injection h with _ h
   injection h with _ h
   exact absurd h (toks_bad _ _ _ _ _ e).1
  | ok t=>
   rw[e] at h
   injection h with h1 h
   injection h with h2 h
   subst h1;subst h2
   obtain ⟨q1,q2⟩:=toks_in _ _ _ _ e
   rw[hl] at q1 q2
   exact⟨rfl,by omega,e,q1,fun w hw=>by have:=(q2 w hw).1;omega,toks_ok _ _ _ _ e,fun w hw=>by have:=q2 w hw;omega,fun w hw=>(q2 w hw).1⟩
def prsP (s:ByteArray):List Rl×Int×Int:=if (wrdL s).2.2≠0 then ([],(wrdL s).2.1,(wrdL s).2.2) else match prR (wrdL s).1 with
 | .ok R=>(R,0,0)
 | .bad r=>([],hdA s.size r,3)
def prsX (s:ByteArray):Ex×Int×Int:=if (wrdL s).2.2≠0 then (ex0,(wrdL s).2.1,(wrdL s).2.2) else match pr (.lvl 0) (wrdL s).1 with
 | .ok x []=>(x,0,0)
 | .ok _ r=>(ex0,hdA s.size r,3)
 | .bad r=>(ex0,hdA s.size r,3)
end Go.Proofs
/- Parse. -/
namespace Go.Proofs
open Go Go.Ab Go.RowKit
set_option maxHeartbeats 4000000
set_option maxRecDepth 100000
variable {G:IH}
noncomputable def mRd (a e:Int) (post:List (Nat×List AV)):FuncId→List AV→List (Nat×List AV)→Option (AV×List (Nat×List AV)):=fun f _ _=>match f with
 | 35=>some (.d (.tup [di a,di e]),post)
 | _=>none
noncomputable def dRd (b:Bool):Oracle:=fun f a=>match f,a with
 | 38,[_,_]=>some (db b)
 | _,_=>none
noncomputable def orcRd (b:Bool) (a e:Int) (post:List (Nat×List AV)):Orc:={ d:=dRd b,m:=mRd a e post }
def bigR (R:List Rl):Bool:=decide ((R.length:Int)>32)||R.any deepR
def parP (s:ByteArray):List Rl×Int×Int:=if (prsP s).2.2≠0 then prsP s else if bigR (prsP s).1=true then ([],0,8) else prsP s
def rsD (x:List Rl×Int×Int):DV:=.tup [if x.2.2=0 then rlsD x.1 else .con (.slice none 0 0),di x.2.1,di x.2.2]
theorem f13_wd (s:ByteArray) {a e:Int} (he:e≠0) (h:FnM Tryz.prog G 35 [.d (ds s),.clo (.func 36) [] [.box oN 0]] [(oN,[nilS])] (.d (.tup [di a,di e])) [(oN,[nilS])]) :
  FnOK Tryz.prog G 13 [ds s] (.tup [.con (.slice none 0 0),di a,di e]):=by
 have he1:(e==0)=false:=by rw[beq_eq_false_iff_ne];exact he
 have he2:(e != 0)=true:=by simp[he]
 refine FnOK.of_body Tryz.func13 rfl Tryz.call13 ?_
 refine walkK (orc:=orcRd false a e [(oN,[nilS])]) (keep:=[]) (cuts:=[]) (n:=1000) follows ?_
 refine of_tr (fun _ _ _ ZK=>(fun Za=>(FnM Tryz.prog G 35 [(vs s),(.clo (.func 36) [] [(.box 1000000 0)])] [(1000000,[(.d (.con (.slice none 0 0)))])] (.d (.tup [(di a),(di e)])) [(1000000,[(.d (.con (.slice none 0 0)))])]∧(((e==0&&!decide ((↑0:Int)>32))=true)→ZK 38 [(.con (.slice none 0 0)),(.con (.func (.func 39) ⟨[]⟩ ⟨[]⟩))] (db false))∧(((e==0&&(decide ((↑0:Int)>32)||false))=true)→(((true=true)→(((.tup [(.con (.slice none 0 0)),(di a),(di 8)]):DV)=Za))∧((true=false)→(((.tup [(.con (.slice none 0 0)),(di 0),(di 0)]):DV)=Za))))∧(((e==0&&(decide ((↑0:Int)>32)||false))=false)→((((e != 0)=true)→(ZS (Za:DV)))∧(((e != 0)=false)→(((.tup [(.con (.slice none 0 0)),(di 0),(di 0)]):DV)=Za)))))) ((.tup [(.con (.slice none 0 0)),(di a),(di e)]):DV)) (by kernel_rfl) ?_
 try dsimp only
 rw[he1,he2]
 exact⟨h,fun c=>(by cases c),fun c=>(by cases c),fun _=>⟨fun _=>rfl,fun c=>(by cases c)⟩⟩
theorem f13_pan (s:ByteArray) {a:Int} (h:FnM Tryz.prog G 35 [.d (ds s),.clo (.func 36) [] [.box oN 0]] [(oN,[nilS])] (.d (.tup [di a,di 3])) [(oN,[.any])]) :
  FnOK Tryz.prog G 13 [ds s] (.tup [.con (.slice none 0 0),di a,di 3]):=by
 refine FnOK.of_body Tryz.func13 rfl Tryz.call13 ?_
 refine walkK (orc:=orcRd false a 3 [(oN,[.any])]) (keep:=[]) (cuts:=[]) (n:=1000) follows ?_
 refine of_tr (fun _ _ _ _=>(FnM Tryz.prog G 35 [(vs s),(.clo (.func 36) [] [(.box 1000000 0)])] [(1000000,[(.d (.con (.slice none 0 0)))])] (.d (.tup [(di a),(di 3)])) [(1000000,[.any])]∧((false=true)→(((true=true)→(((.tup [(.con (.slice none 0 0)),(di a),(di 8)]):DV)=(.tup [(.con (.slice none 0 0)),(di a),(di 3)])))∧((true=false)→False)))∧((false=false)→(((true=true)→(ZS ((.tup [(.con (.slice none 0 0)),(di a),(di 3)]):DV)))∧((true=false)→False))))) (by kernel_rfl) ?_
 exact⟨h,fun c=>(by cases c),fun _=>⟨fun _=>rfl,fun c=>(by cases c)⟩⟩
theorem f13_ok (s:ByteArray) (R:List Rl) (h:FnM Tryz.prog G 35 [.d (ds s),.clo (.func 36) [] [.box oN 0]] [(oN,[nilS])] (.d (.tup [di 0,di 0])) [(oN,[.d (rlsD R)])]) (h38:FnOK Tryz.prog G 38 [rlsD R,.con (.func (.func 39) #[] #[])] (db (R.any deepR))) :
  FnOK Tryz.prog G 13 [ds s] (rsD (if bigR R=true then ([],0,8) else (R,0,0))):=by
 refine FnOK.of_body Tryz.func13 rfl Tryz.call13 ?_
 refine walkK (orc:=orcRd (R.any deepR) 0 0 [(oN,[.d (rlsD R)])]) (keep:=[]) (cuts:=[]) (n:=1000) follows ?_
 refine of_tr (fun _ _ _ ZK=>(fun Za=>(FnM Tryz.prog G 35 [(vs s),(.clo (.func 36) [] [(.box 1000000 0)])] [(1000000,[(.d (.con (.slice none 0 0)))])] (.d (.tup [(di 0),(di 0)])) [(1000000,[(.d (.slc 16 R.length (rlF R)))])]∧((((0:Int)==(0:Int)&&!decide ((↑(List.length R):Int)>(32:Int)))=true)→ZK 38 [(.slc 16 R.length (rlF R)),(.con (.func (.func 39) ⟨[]⟩ ⟨[]⟩))] (db (R.any deepR)))∧((Za=true)→(((true=true)→(((.tup [(.con (.slice none 0 0)),(di 0),(di 8)]):DV)=(rsD (if bigR R=true then ([],0,8) else (R,0,0)))))∧((true=false)→(((.tup [(.slc 16 R.length (rlF R)),(di 0),(di 0)]):DV)=(rsD (if bigR R=true then ([],0,8) else (R,0,0)))))))∧((Za=false)→(((false=true)→(((.tup [(.con (.slice none 0 0)),(di 0),(di 0)]):DV)=(rsD (if bigR R=true then ([],0,8) else (R,0,0)))))∧((false=false)→(((.tup [(.slc 16 R.length (rlF R)),(di 0),(di 0)]):DV)=(rsD (if bigR R=true then ([],0,8) else (R,0,0))))))))) ((0:Int)==(0:Int)&&(decide ((↑(List.length R):Int)>(32:Int))||List.any R deepR))) (by kernel_rfl) ?_
 try dsimp only
 have e0:((0:Int)==0)=true:=rfl
 rw[e0,Bool.true_and,Bool.true_and]
 refine⟨h,fun _=>h38,fun c=>⟨fun _=>?_,fun c2=>(by cases c2)⟩,fun c=>⟨fun c2=>(by cases c2),fun _=>?_⟩⟩
 ·have c:bigR R=true:=c
  rw[if_pos c];rfl
 ·have c:bigR R=false:=c
  rw[if_neg (by rw[c];decide)];rfl
def SmP (s:ByteArray):Prop:=∀r∈(prsP s).1,RlS r
theorem getD_mem {α:Type} {l:List α} {x0:α} {i:Nat} (h:i<l.length):l.getD i x0∈l:=by
 rw[List.getD,gEe h];exact List.getElem_mem h
theorem prR_len:∀(n:Nat) (t:List Tk) (R:List Rl),t.length≤n→prR t=.ok R→R.length≤t.length
 | 0,t,R,hn,h=>by
  have:t=[]:=List.eq_nil_of_length_eq_zero (by omega)
  subst this
  injection h with h;subst h;exact Nat.le_refl _
 | n+1,t,R,hn,h=>by
  by_cases hne:t=[]
  ·subst hne;injection h with h;subst h;exact Nat.le_refl _
  ·cases e:ruP t with
   | ok x q=>
    rw[prR_ok e] at h
    have hlt:=ruP_lt e
    cases e2:prR q with
    | ok l=>
     rw[e2] at h
     injection h with h
     subst h
     have:=prR_len n q l (by omega) e2
     simp only[List.length_cons];omega
    | bad r2=>rw[e2] at h;cases h
   | bad q=>rw[prR_bad hne e] at h;cases h
theorem f13' (s:ByteArray) (hs:s.size≤900000) (hR:SmP s):FnOK Tryz.prog G 13 [ds s] (rsD (parP s)):=by
 have hp:plainB ([DV.con (.slice none 0 0)].map AV.d)=true:=rfl
 unfold SmP at hR
 unfold parP
 by_cases he:(wrdL s).2.2=0
 ·obtain ⟨T,a,e,hW⟩:∃T a e,wrdL s=(T,a,e):=⟨_,_,_,rfl⟩
  rw[hW] at he
  have he:e=0:=he
  subst he
  obtain ⟨rfl,hO⟩:=wrdL_ok hW
  have hsz:=hO.size
  have hln:=hO.len
  cases hq:prR T with
  | ok R=>
   have e1:prsP s=(R,0,0):=by unfold prsP;rw[hW,if_neg (by simp)];simp only[hq]
   rw[e1] at hR⊢
   rw[if_neg (by simp)]
   have hRl:=prR_len _ T R (Nat.le_refl _) hq
   exact f13_ok s R (f35_ok hs hW (Lp:=[.con (.slice none 0 0)]) hp (post:=[(oN,[.d (rlsD R)])]) (by rfl) (rs_ok T s.size (by omega) hO.sm R hq)) (f38 R (fun i hi=>hR _ (getD_mem hi)) (by omega))
  | bad r=>
   have e1:prsP s=([],hdA s.size r,3):=by unfold prsP;rw[hW,if_neg (by simp)];simp only[hq]
   rw[e1,if_pos (by simp)]
   exact f13_pan s (f35_pan hs hW (Lp:=[.con (.slice none 0 0)]) hp (rs_bad T s.size (by omega) hO.sm r hq))
 ·obtain ⟨T,a,e,hW⟩:∃T a e,wrdL s=(T,a,e):=⟨_,_,_,rfl⟩
  have e1:prsP s=([],a,e):=by unfold prsP;rw[if_pos he,hW]
  rw[hW] at he
  have he:e≠0:=he
  rw[e1,if_pos he]
  have h:=f13_wd s he (f35_bad (G:=G) (c:=36) hs hW he (Lp:=[.con (.slice none 0 0)]) hp)
  unfold rsD
  rw[if_neg he]
  exact h
theorem parP_nil {s:ByteArray} (h:(parP s).2.2≠0):(parP s).1=[]:=by
 unfold parP at h⊢
 by_cases h1:(prsP s).2.2≠0
 ·rw[if_pos h1]
  unfold prsP at h1⊢
  by_cases h2:(wrdL s).2.2≠0
  ·rw[if_pos h2]
  ·rw[if_neg h2] at h1⊢
   cases hq:prR (wrdL s).1 with
   | ok R=>rw[hq] at h1;exact absurd rfl h1
   | bad r=>rfl
 ·rw[if_neg h1] at h⊢
  by_cases h2:bigR (prsP s).1=true
  ·rw[if_pos h2]
  ·rw[if_neg h2] at h;exact absurd h h1
theorem f13 (s:ByteArray) (hs:s.size≤900000) (hR:SmP s):FnOK Tryz.prog G 13 [ds s] (.tup [rlsD (parP s).1,di (parP s).2.1,di (parP s).2.2]):=by
 refine FnOK.res (f13' s hs hR) fun k v hv=>?_
 unfold rsD at hv
 by_cases h:(parP s).2.2=0
 ·rw[if_pos h] at hv;exact hv
 ·rw[if_neg h] at hv
  obtain ⟨us,rfl,a1,u1,rfl,h1,r⟩:=hv
  refine⟨_,rfl,a1,u1,rfl,?_,r⟩
  rw[parP_nil h]
  exact nil_slc h1
end Go.Proofs
/- Expression. -/
namespace Go.Proofs
open Go Go.Ab Go.RowKit
set_option maxHeartbeats 4000000
set_option maxRecDepth 100000
variable {G:IH}
noncomputable def dRx (n:Int):Oracle:=fun f a=>match f,a with
 | 45,[_]=>some (di n)
 | _,_=>none
noncomputable def orcRx (n:Int) (a e:Int) (post:List (Nat×List AV)):Orc:={ d:=dRx n,m:=mRd a e post }
abbrev exZ:DV:=.agg [di 0,ds ⟨#[]⟩,di 0,di 0,di 0,.con (.slice none 0 0)]
abbrev zeroL:List DV:=[di 0,ds ⟨#[]⟩,di 0,di 0,di 0,.con (.slice none 0 0)]
theorem exZ_imp {k:IH} {v:Value} (hv:DV.rel k exZ v):DV.rel k (exW ex0) v:=by
 obtain ⟨vs,rfl,v1,u1,rfl,a1,v2,u2,rfl,a2,v3,u3,rfl,a3,v4,u4,rfl,a4,v5,u5,rfl,a5,v6,u6,rfl,a6,a7⟩:=hv
 exact⟨_,rfl,v1,_,rfl,a1,v2,_,rfl,a2,v3,_,rfl,a3,v4,_,rfl,a4,v5,_,rfl,a5,v6,_,rfl,nil_slc a6,a7⟩
def parX (s:ByteArray):Ex×Int×Int:=if (prsX s).2.2≠0 then prsX s else if (ht (prsX s).1:Int)+1>32 then (ex0,0,8) else prsX s
theorem f15_wd (s:ByteArray) {a e:Int} (he:e≠0) (h:FnM Tryz.prog G 35 [.d (ds s),.clo (.func 43) [] [.box oN 0]] [(oN,zeroE)] (.d (.tup [di a,di e])) [(oN,zeroE)]) :
  FnOK Tryz.prog G 15 [ds s] (.tup [exZ,di a,di e]):=by
 have he1:(e==0)=false:=by rw[beq_eq_false_iff_ne];exact he
 have he2:(e != 0)=true:=by simp[he]
 refine FnOK.of_body Tryz.func15 rfl Tryz.call15 ?_
 refine walkK (orc:=orcRx 0 a e [(oN,zeroE)]) (keep:=[]) (cuts:=[]) (n:=1000) follows ?_
 refine of_tr (fun _ _ _ ZK=>(fun Za=>(FnM Tryz.prog G 35 [(vs s),(.clo (.func 43) [] [(.box 1000000 0)])] [(1000000,[(vi 0),(vs (ByteArray.mk #[])),(vi 0),(vi 0),(vi 0),(.d (.con (.slice none 0 0)))])] (.d (.tup [(di a),(di e)])) [(1000000,[(vi 0),(vs (ByteArray.mk #[])),(vi 0),(vi 0),(vi 0),(.d (.con (.slice none 0 0)))])]∧(((e==0)=true)→ZK 45 [Za] (di 0))∧(((e==(0:Int)&&decide ((0:Int)>(32:Int)))=true)→(((true=true)→(((.tup [Za,(di a),(di 8)]):DV)=(.tup [exZ,(di a),(di e)])))∧((true=false)→(((.tup [Za,(di 0),(di 0)]):DV)=(.tup [exZ,(di a),(di e)])))))∧(((e==(0:Int)&&decide ((0:Int)>(32:Int)))=false)→((((e != 0)=true)→(ZS ((.tup [exZ,(di a),(di e)]):DV)))∧(((e != 0)=false)→(((.tup [Za,(di 0),(di 0)]):DV)=(.tup [exZ,(di a),(di e)]))))))) ((.agg [(di 0),(ds (ByteArray.mk #[])),(di 0),(di 0),(di 0),(.con (.slice none 0 0))]):DV)) (by kernel_rfl) ?_
 try dsimp only
 rw[he1,he2]
 exact⟨h,fun c=>(by cases c),fun c=>(by cases c),fun _=>⟨fun _=>rfl,fun c=>(by cases c)⟩⟩
theorem f15_pan (s:ByteArray) {a:Int} {L:List AV} (hL:L=(zeroL.map fun _=>AV.any)∨∃x,L=exC (ht x) x) (h:FnM Tryz.prog G 35 [.d (ds s),.clo (.func 43) [] [.box oN 0]] [(oN,zeroE)] (.d (.tup [di a,di 3])) [(oN,L)]) :
  FnOK Tryz.prog G 15 [ds s] (.tup [exZ,di a,di 3]):=by
 refine FnOK.of_body Tryz.func15 rfl Tryz.call15 ?_
 rcases hL with rfl|⟨x,rfl⟩
 ·refine walkK (orc:=orcRx 0 a 3 [(oN,zeroL.map fun _=>AV.any)]) (keep:=[]) (cuts:=[]) (n:=1000) follows ?_
  refine of_tr (fun _ _ _ _=>(FnM Tryz.prog G 35 [(vs s),(.clo (.func 43) [] [(.box 1000000 0)])] [(1000000,[(vi 0),(vs (ByteArray.mk #[])),(vi 0),(vi 0),(vi 0),(.d (.con (.slice none 0 0)))])] (.d (.tup [(di a),(di 3)])) [(1000000,[.any,.any,.any,.any,.any,.any])]∧((false=true)→(((true=true)→(((.tup [(.agg [(di 0),(ds (ByteArray.mk #[])),(di 0),(di 0),(di 0),(.con (.slice none 0 0))]),(di a),(di 8)]):DV)=(.tup [exZ,(di a),(di 3)])))∧((true=false)→False)))∧((false=false)→(((true=true)→(ZS ((.tup [exZ,(di a),(di 3)]):DV)))∧((true=false)→False))))) (by kernel_rfl) ?_
  exact⟨h,fun c=>(by cases c),fun _=>⟨fun _=>rfl,fun c=>(by cases c)⟩⟩
 ·refine walkK (orc:=orcRx 0 a 3 [(oN,exC (ht x) x)]) (keep:=[]) (cuts:=[]) (n:=1000) follows ?_
  refine of_tr (fun _ _ _ ZK=>(FnM Tryz.prog G 35 [(vs s),(.clo (.func 43) [] [(.box 1000000 0)])] [(1000000,[(vi 0),(vs (ByteArray.mk #[])),(vi 0),(vi 0),(vi 0),(.d (.con (.slice none 0 0)))])] (.d (.tup [(di a),(di 3)])) [(1000000,[(vi x.k),(vs x.s),(vi x.n),(vi x.d),(vi x.pos),(.d (.slc 6 x.kids.length (lay (exG (ht x)) x.kids)))])]∧((false=true)→ZK 45 [(ndX (ht x) x)] (di 0))∧((false=true)→(((true=true)→(((.tup [(.agg [(di 0),(ds (ByteArray.mk #[])),(di 0),(di 0),(di 0),(.con (.slice none 0 0))]),(di a),(di 8)]):DV)=(.tup [exZ,(di a),(di 3)])))∧((true=false)→(((.tup [(ndX (ht x) x),(di 0),(di 0)]):DV)=(.tup [exZ,(di a),(di 3)])))))∧((false=false)→(((true=true)→(ZS ((.tup [exZ,(di a),(di 3)]):DV)))∧((true=false)→(((.tup [(ndX (ht x) x),(di 0),(di 0)]):DV)=(.tup [exZ,(di a),(di 3)]))))))) (by kernel_rfl) ?_
  exact⟨h,fun c=>(by cases c),fun c=>(by cases c),fun _=>⟨fun _=>rfl,fun c=>(by cases c)⟩⟩
theorem f15_ok (s:ByteArray) (x:Ex) (h:FnM Tryz.prog G 35 [.d (ds s),.clo (.func 43) [] [.box oN 0]] [(oN,zeroE)] (.d (.tup [di 0,di 0])) [(oN,exC (ht x) x)]) (h45:FnOK Tryz.prog G 45 [exW x] (di ((ht x:Int)+1))) :
  FnOK Tryz.prog G 15 [ds s] (if (ht x:Int)+1>32 then .tup [exZ,di 0,di 8] else .tup [exW x,di 0,di 0]):=by
 refine FnOK.of_body Tryz.func15 rfl Tryz.call15 ?_
 refine walkK (orc:=orcRx ((ht x:Int)+1) 0 0 [(oN,exC (ht x) x)]) (keep:=[]) (cuts:=[]) (n:=1000) follows ?_
 refine of_tr (fun _ _ _ ZK=>(fun Za Zb=>(FnM Tryz.prog G 35 [(vs s),(.clo (.func 43) [] [(.box 1000000 0)])] [(1000000,[(vi 0),(vs (ByteArray.mk #[])),(vi 0),(vi 0),(vi 0),(.d (.con (.slice none 0 0)))])] (.d (.tup [(di 0),(di 0)])) [(1000000,[(vi x.k),(vs x.s),(vi x.n),(vi x.d),(vi x.pos),(.d (.slc 6 x.kids.length (lay (exG (ht x)) x.kids)))])]∧((true=true)→ZK 45 [(ndX (ht x) x)] (di (↑(ht x)+1)))∧((Zb=true)→(((true=true)→(((.tup [Za,(di 0),(di 8)]):DV)=(if (↑(ht x):Int)+1>32 then DV.tup [exZ,di 0,di 8] else DV.tup [exW x,di 0,di 0])))∧((true=false)→(((.tup [(ndX (ht x) x),(di 0),(di 0)]):DV)=(if (↑(ht x):Int)+1>32 then DV.tup [exZ,di 0,di 8] else DV.tup [exW x,di 0,di 0])))))∧((Zb=false)→(((false=true)→(((.tup [Za,(di 0),(di 0)]):DV)=(if (↑(ht x):Int)+1>32 then DV.tup [exZ,di 0,di 8] else DV.tup [exW x,di 0,di 0])))∧((false=false)→(((.tup [(ndX (ht x) x),(di 0),(di 0)]):DV)=(if (↑(ht x):Int)+1>32 then DV.tup [exZ,di 0,di 8] else DV.tup [exW x,di 0,di 0]))))))) ((.agg [(di 0),(ds (ByteArray.mk #[])),(di 0),(di 0),(di 0),(.con (.slice none 0 0))]):DV) ((0:Int)==(0:Int)&&decide ((↑(ht x):Int)+(1:Int)>(32:Int)))) (by kernel_rfl) ?_
 try dsimp only
 have e0:((0:Int)==0)=true:=rfl
 rw[e0,Bool.true_and]
 refine⟨h,fun _=>h45,fun c=>⟨fun _=>?_,fun c2=>(by cases c2)⟩,fun c=>⟨fun c2=>(by cases c2),fun _=>?_⟩⟩
 ·rw[if_pos (of_decide_eq_true c)]
 ·rw[if_neg (of_decide_eq_false c)];rfl
def SmX (s:ByteArray):Prop:=Sm (prsX s).1
noncomputable def xsD (x:Ex×Int×Int):DV:=.tup [if x.2.2=0 then exW x.1 else exZ,di x.2.1,di x.2.2]
theorem f15' (s:ByteArray) (hs:s.size≤900000) (hR:SmX s):FnOK Tryz.prog G 15 [ds s] (xsD (parX s)):=by
 have hp:plainB (zeroL.map AV.d)=true:=rfl
 unfold SmX at hR
 unfold parX
 by_cases he:(wrdL s).2.2=0
 ·obtain ⟨T,a,e,hW⟩:∃T a e,wrdL s=(T,a,e):=⟨_,_,_,rfl⟩
  rw[hW] at he
  have he:e=0:=he
  subst he
  obtain ⟨rfl,hO⟩:=wrdL_ok hW
  have hsz:=hO.size
  have hln:=hO.len
  cases hq:pr (.lvl 0) T with
  | ok x r=>
   cases r with
   | nil=>
    have e1:prsX s=(x,0,0):=by unfold prsX;rw[hW,if_neg (by simp)];simp only[hq]
    rw[e1] at hR⊢
    rw[if_neg (by simp)]
    have h:=f15_ok s x (f35_ok (G:=G) hs hW (Lp:=zeroL) hp (post:=[(oN,exC (ht x) x)]) (by rfl) (ex_ok T s.size (by omega) hO.sm x [] hq)) (f45 _ x (Nat.le_refl _) hR)
    by_cases hd:(ht x:Int)+1>32
    ·rw[if_pos hd] at h;rw[if_pos hd];exact h
    ·rw[if_neg hd] at h;rw[if_neg hd];exact h
   | cons w r=>
    have e1:prsX s=(ex0,hdA s.size (w :: r),3):=by unfold prsX;rw[hW,if_neg (by simp)];simp only[hq]
    rw[e1,if_pos (by simp)]
    exact f15_pan s (.inr ⟨x,rfl⟩) (f35_left (G:=G) hs hW (Lp:=zeroL) hp (L2:=exC (ht x) x) (List.cons_ne_nil w r) (by rfl) (ex_ok T s.size (by omega) hO.sm x (w :: r) hq))
  | bad r=>
   have e1:prsX s=(ex0,hdA s.size r,3):=by unfold prsX;rw[hW,if_neg (by simp)];simp only[hq]
   rw[e1,if_pos (by simp)]
   exact f15_pan s (.inl rfl) (f35_pan (G:=G) hs hW (Lp:=zeroL) hp (ex_bad T s.size (by omega) hO.sm r hq))
 ·obtain ⟨T,a,e,hW⟩:∃T a e,wrdL s=(T,a,e):=⟨_,_,_,rfl⟩
  have e1:prsX s=(ex0,a,e):=by unfold prsX;rw[if_pos he,hW]
  rw[hW] at he
  have he:e≠0:=he
  rw[e1,if_pos he]
  have h:=f15_wd s he (f35_bad (G:=G) (c:=43) hs hW he (Lp:=zeroL) hp)
  unfold xsD
  rw[if_neg he]
  exact h
theorem prsX_0 {s:ByteArray} (h:(prsX s).2.2≠0):(prsX s).1=ex0:=by
 unfold prsX at h⊢
 by_cases h2:(wrdL s).2.2≠0
 ·rw[if_pos h2]
 ·rw[if_neg h2] at h⊢
  cases hq:pr (.lvl 0) (wrdL s).1 with
  | ok x r=>
   cases r with
   | nil=>rw[hq] at h;exact absurd rfl h
   | cons w r=>rfl
  | bad r=>rfl
theorem parX_0 {s:ByteArray} (h:(parX s).2.2≠0):(parX s).1=ex0:=by
 unfold parX at h⊢
 by_cases h1:(prsX s).2.2≠0
 ·rw[if_pos h1];exact prsX_0 h1
 ·rw[if_neg h1] at h⊢
  by_cases h2:(ht (prsX s).1:Int)+1>32
  ·rw[if_pos h2]
  ·rw[if_neg h2] at h;exact absurd h h1
theorem f15 (s:ByteArray) (hs:s.size≤900000) (hR:SmX s):FnOK Tryz.prog G 15 [ds s] (.tup [exW (parX s).1,di (parX s).2.1,di (parX s).2.2]):=by
 refine FnOK.res (f15' s hs hR) fun k v hv=>?_
 unfold xsD at hv
 by_cases h:(parX s).2.2=0
 ·rw[if_pos h] at hv;exact hv
 ·rw[if_neg h] at hv
  obtain ⟨us,rfl,a1,u1,rfl,h1,r⟩:=hv
  refine⟨_,rfl,a1,u1,rfl,?_,r⟩
  rw[parX_0 h]
  exact exZ_imp h1
/-! The two ways in which rules are valid are one. -/
end Go.Proofs
/- Equal expressions. -/
namespace Go.Proofs
open Go Go.Ab Go.RowKit
set_option maxHeartbeats 4000000
set_option maxRecDepth 100000
variable {G:IH}
mutual
def eqE:Ex→Ex→Bool
 | .mk k s n d _ l,.mk k' s' n' d' _ l'=>(decide (k=k')&&decide (s=s')&&(decide (n=n')&&decide (d=d'))&&decide (l.length=l'.length))&&eqL l l'
def eqL:List Ex→List Ex→Bool
 | x :: l,y :: l'=>eqE x y&&eqL l l'
 | _,_=>true
end
def eqH (x y:Ex):Bool:=decide (x.k=y.k)&&decide (x.s=y.s)&&(decide (x.n=y.n)&&decide (x.d=y.d))&&decide (x.kids.length=y.kids.length)
theorem eqE_eq (x y:Ex):eqE x y=(eqH x y&&eqL x.kids y.kids):=by
 cases x;cases y;simp only[eqE,eqH,Ex.k,Ex.s,Ex.n,Ex.d,Ex.kids];rfl
theorem eqL_iff:∀{l l':List Ex},l.length=l'.length→(eqL l l'=true↔∀i,i<l.length→eqE (l.getD i ex0) (l'.getD i ex0)=true)
 | [],l',_=>⟨fun _ i hi=>absurd hi (Nat.not_lt_zero _),fun _=>by unfold eqL;rfl⟩
 | x :: l,[],h=>by simp at h
 | x :: l,y :: l',h=>by
  have h2:l.length=l'.length:=by simpa using h
  simp only[eqL,bAt,eqL_iff h2]
  constructor
  ·rintro ⟨h3,h4⟩ i hi
   cases i with
   | zero=>exact h3
   | succ i=>exact h4 i (by simpa using hi)
  ·intro h3
   exact⟨h3 0 (by simp),fun i hi=>h3 (i+1) (by simpa using hi)⟩
theorem hd_norm (x y:Ex):(x.k != y.k||!x.s.toList==y.s.toList||!Bool.rec false (x.d==y.d) (x.n==y.n)||(x.kids.length:Int) != (y.kids.length:Int)) = !eqH x y:=by
 have e1:∀a b:Int,(a==b)=decide (a=b):=fun a b=>rfl
 have e2:∀a b:Nat,((a:Int)==(b:Int))=decide (a=b):=fun a b=>by rw[e1,decide_eq_decide];omega
 rw[toList_beq,bne,bne,e1,e1,e1,e2]
 unfold eqH
 cases decide (x.k=y.k)<;>cases decide (x.s=y.s)<;>cases decide (x.n=y.n)<;>cases decide (x.d=y.d)<;>cases decide (x.kids.length=y.kids.length)<;>rfl
noncomputable def orcEq:Oracle:=fun f a=>match f,a with
 | 22,[e,e']=>some (db (eqE (rdE e) (rdE e')))
 | _,_=>none
noncomputable def S22 (m:Nat) (x:Ex) (m':Nat) (y:Ex) (k:Nat):AS:=⟨regs Tryz.f22.ntmps [(2,.box 2 0),(3,.box 3 0),(5,vi k)],[(2,exC m x),(3,exC m' y)]⟩
theorem f22 (m:Nat):∀(m':Nat) (x y:Ex),ht x≤m→ht y≤m'→Sm x→Sm y→FnOK Tryz.prog G 22 [exD m x,exD m' y] (db (eqE x y)):=by
 induction m using Nat.strongRecOn with
 | _ m ih=>
 intro m' x y hx hy hsx hsy
 have hl:=hsx.len.1
 have hl2:=hsy.len.1
 refine FnOK.walk (orc:=orcEq) (keep:=[]) follows Tryz.func22 rfl Tryz.call22 ?_
 refine of_tr (fun ZT ZW ZQ _=>(fun Za=>(((Za=true)→(((db false):DV)=(db (eqE x y))))∧((Za=false)→ZW [cd Tryz.f22 [1,1,0,1,0],(.blk 0),cd Tryz.f22 [1,1,1]] (stS ZT [1]) ZQ))) (x.k != y.k||!x.s.toList==y.s.toList||!Bool.rec false (x.d==y.d) (x.n==y.n)||(↑x.kids.length:Int) != ↑y.kids.length)) (by kernel_rfl) ?_
 try dsimp only
 rw[hd_norm]
 refine⟨fun h=>?_,fun h=>?_⟩
 ·have h:eqH x y=false:=by simpa using h
  rw[eqE_eq,h];rfl
 ·have h:eqH x y=true:=by simpa using h
  have hkk:x.kids.length=y.kids.length:=by
   unfold eqH at h
   simp only[bAt,decide_eq_true_eq] at h
   exact h.2
  refine AWP.loop (c:=cAt (bodyOf Tryz.f22) [1,1,0,1,0,0]) (by kernel_rfl) (S22 m x m' y) (fun k=>k≤x.kids.length∧∀i,i<k→eqE (x.kids.getD i ex0) (y.kids.getD i ex0)=true) (fun k=>x.kids.length-k) 0 ?_ ⟨Nat.zero_le _,fun i hi=>absurd hi (Nat.not_lt_zero _)⟩ ?_
  ·exact AS.leA (by kernel_rfl)
  ·rintro k ⟨hk,hkd⟩
   refine walk (orc:=orcEq) (keep:=[]) (cuts:=[]) (n:=1000) follows ?_
   refine of_rd (fun ZT ZW ZQ ZK ZA _=>(fun Za Zb=>((((decide ((↑k:Int)<↑x.kids.length))=true)→((((0≤(↑k:Int))∧((↑k:Int)<↑x.kids.length))∧((0≤(↑k:Int))∧((↑k:Int)<↑y.kids.length))∧ZK 22 [Zb,Za] (db (eqE (rdE Zb) (rdE Za))))∧(((!eqE (rdE Zb) (rdE Za))=true)→(((db false):DV)=(db (eqE x y))))∧(((!eqE (rdE Zb) (rdE Za))=false)→((I64 (↑k+1))∧(ZA (stS ZT [0,1]))))))∧(((decide ((↑k:Int)<↑x.kids.length))=false)→ZW [cd Tryz.f22 [1,1,1]] (stS ZT [1]) ZQ))) (ndA m' (y.kids.getD (↑k:Int).toNat ex0)) (ndA m (x.kids.getD (↑k:Int).toNat ex0))) (by kernel_rfl) ?_
   try dsimp only
   simp only[Int.toNat_natCast]
   refine⟨fun h1=>?_,fun h1=>?_⟩
   ·have hk2:k<x.kids.length:=by have:=of_decide_eq_true h1;omega
    have hk3:k<y.kids.length:=by omega
    have e1:IntKind.wrap .i64 ((k:Int)+1)=(k+1:Nat):=wrap_I64 ⟨by omega,by omega⟩
    refine⟨⟨⟨by omega,by omega⟩,⟨by omega,by omega⟩,?_⟩,fun h2=>?_,fun h2=>⟨⟨by omega,by omega⟩,Again.mk (k+1) ?_ ⟨hk2,fun i hi=>?_⟩ (by omega)⟩⟩
    ·show FnOK Tryz.prog G 22 [kidA m x k,kidA m' y k] (db (eqE (rdE (kidA m x k)) (rdE (kidA m' y k))))
     rw[kid_rd hx hk2,kid_rd hy hk3]
     exact kidOK (Q:=fun d=>FnOK Tryz.prog G 22 [d,kidA m' y k] _) hx hk2 fun m1 h1 h2=>kidOK (Q:=fun d=>FnOK Tryz.prog G 22 [exD m1 (x.kids.getD k ex0),d] _) hy hk3 fun m2 _ h4=>ih m1 h1 m2 _ _ h2 h4 (hsx.kid hk2) (hsy.kid hk3)
    ·have h2:(!eqE (rdE (kidA m x k)) (rdE (kidA m' y k)))=true:=h2
     rw[kid_rd hx hk2,kid_rd hy hk3] at h2
     have e2:eqL x.kids y.kids=false:=by
      rw[Bool.eq_false_iff]
      intro hh
      rw[(eqL_iff hkk).1 hh k hk2] at h2
      cases h2
     rw[eqE_eq,e2,Bool.and_false]
    ·exact AS.leA (by kernel_rfl)
    ·rcases Nat.lt_or_ge i k with h3|h3
     ·exact hkd i h3
     ·obtain rfl:i=k:=by omega
      have h2:(!eqE (rdE (kidA m x i)) (rdE (kidA m' y i)))=false:=h2
      rw[kid_rd hx hk2,kid_rd hy hk3] at h2
      simpa using h2
   ·simp only[decide_eq_false_iff_not] at h1
    refine walk (orc:=orcEq) (keep:=[]) (cuts:=[]) (n:=1000) follows ?_
    refine of_tr (fun _ _ _ _=>(((db true):DV)=(db (eqE x y)))) (by kernel_rfl) ?_
    rw[eqE_eq,h,(eqL_iff hkk).2 (fun i hi=>hkd i (by omega))];rfl
/-! slices.EqualFunc on kids. -/
end Go.Proofs
/- Few rules;the reference's Format. -/
namespace Go.Proofs
open Go Go.Ab Go.RowKit
set_option maxHeartbeats 4000000
set_option maxRecDepth 100000
variable {G:IH}
structure RlW (r:Rl):Prop where
 ha:ht r.am≤r.ma
 am:wfE r.am
 hw:ht r.wh≤r.mw
 wh:wfE r.wh
def few1 (r:Rl):Bool:=decide (r.nm.size≤40)&&decide (r.gr.size≤40)&&fewE 20 r.am&&fewE 20 r.wh
def fewR (R:List Rl):Bool:=R.all few1&&decide (R.length≤8)
theorem RlS.of_few {r:Rl} (h:RlW r) (hf:few1 r=true):RlS r:=by
 unfold few1 at hf
 simp only[bAt,decide_eq_true_eq] at hf
 exact⟨by omega,by omega,h.ha,few_sm (M:=20) (by decide) h.am hf.1.2,h.hw,few_sm (M:=20) (by decide) h.wh hf.2⟩
theorem getD_in {α:Type} {l:List α} {x0:α} {i:Nat} (h:i<l.length):l.getD i x0∈l:=by
 rw[List.getD,gEe h];exact List.getElem_mem h
noncomputable def orcFr:Oracle:=fun f a=>match f,a with
 | 20,[e,.con (.int _ M)]=>some (db (fewE M (rdE e)))
 | _,_=>none
noncomputable def S26 (R:List Rl) (k:Nat):AS:=⟨regs Tryz.f26.ntmps [(0,.d (rlsD R)),(5,.d (rlsD R)),(6,vi R.length),(7,vi k)],[]⟩
theorem f26 (R:List Rl) (hR:∀i,i<R.length→RlW (R.getD i rl0)) (hl:R.length≤9223372036854775807):FnOK Tryz.prog G 26 [rlsD R] (db (fewR R)):=by
 refine FnOK.walkK (orc:=orcFr) (keep:=[]) follows Tryz.func26 rfl Tryz.call26 ?_
 refine of_tr (fun ZT ZW ZQ _=>ZW [cd Tryz.f26 [1,0,1,0],(.blk 0),cd Tryz.f26 [1,1]] (stS ZT []) ZQ) (by kernel_rfl) ?_
 refine AWP.loop (c:=cAt (bodyOf Tryz.f26) [1,0,1,0,0]) (by kernel_rfl) (S26 R) (fun k=>k≤R.length∧∀i,i<k→few1 (R.getD i rl0)=true) (fun k=>R.length-k) 0 ?_ ⟨Nat.zero_le _,fun i hi=>by omega⟩ ?_
 ·exact AS.leA (by kernel_rfl)
 ·rintro k ⟨hk,hkd⟩
  refine walkK (orc:=orcFr) (keep:=[]) (cuts:=[]) (n:=1000) follows ?_
  refine of_rd (fun ZT ZW ZQ ZK ZA _=>(fun Za Zb Zc=>((((decide ((↑k:Int)<↑R.length))=true)→(((0≤(↑k:Int))∧((↑k:Int)<↑R.length))∧((((!(decide ((↑(R.getD (↑k:Int).toNat rl0).nm.size:Int)>40)||decide ((↑(R.getD (↑k:Int).toNat rl0).gr.size:Int)>40)))=true)→ZK 20 [Zb,(di 20)] (db (fewE 20 (rdE Zb))))∧(((!(decide ((↑(R.getD (↑k:Int).toNat rl0).nm.size:Int)>40)||decide ((↑(R.getD (↑k:Int).toNat rl0).gr.size:Int)>40)||!fewE 20 (rdE Zb)))=true)→ZK 20 [Zc,(di 20)] (db (fewE 20 (rdE Zc)))))∧((Za=true)→(((db false):DV)=(db (fewR R))))∧((Za=false)→((I64 (↑k+1))∧(ZA (stS ZT [0,1]))))))∧(((decide ((↑k:Int)<↑R.length))=false)→ZW [cd Tryz.f26 [1,1]] (stS ZT [1]) ZQ))) (decide ((↑(R.getD (↑k:Int).toNat rl0).nm.size:Int)>40)||decide ((↑(R.getD (↑k:Int).toNat rl0).gr.size:Int)>40)||!fewE 20 (rdE (ndX (R.getD (↑k:Int).toNat rl0).ma (R.getD (↑k:Int).toNat rl0).am))||!fewE 20 (rdE (ndX (R.getD (↑k:Int).toNat rl0).mw (R.getD (↑k:Int).toNat rl0).wh))) (ndX (R.getD (↑k:Int).toNat rl0).ma (R.getD (↑k:Int).toNat rl0).am) (ndX (R.getD (↑k:Int).toNat rl0).mw (R.getD (↑k:Int).toNat rl0).wh)) (by kernel_rfl) ?_
  try dsimp only
  simp only[Int.toNat_natCast]
  refine⟨fun h=>?_,fun h=>?_⟩
  ·have hk2:k<R.length:=by have:=of_decide_eq_true h;omega
   have hs:=hR k hk2
   have e1:rdE (ndX (R.getD k rl0).ma (R.getD k rl0).am)=(R.getD k rl0).am:=rdE_eq hs.ha
   have e2:rdE (ndX (R.getD k rl0).mw (R.getD k rl0).wh)=(R.getD k rl0).wh:=rdE_eq hs.hw
   simp only[e1,e2]
   have hg:∀n:Nat,decide ((n:Int)>40) = !decide (n≤40):=fun n=>by rw[←decide_not,decide_eq_decide];omega
   have hf:(decide (((R.getD k rl0).nm.size:Int)>40)||decide (((R.getD k rl0).gr.size:Int)>40)||!fewE 20 (R.getD k rl0).am||!fewE 20 (R.getD k rl0).wh) = !few1 (R.getD k rl0):=by
    rw[hg,hg]
    unfold few1
    cases decide ((R.getD k rl0).nm.size≤40)<;>cases decide ((R.getD k rl0).gr.size≤40)<;>cases fewE 20 (R.getD k rl0).am<;>rfl
   rw[hf]
   refine⟨⟨by omega,by omega⟩,⟨fun _=>f20 20 _ _ hs.ha hs.am,fun _=>f20 20 _ _ hs.hw hs.wh⟩,fun h2=>?_,fun h2=>⟨⟨by omega,by omega⟩,Again.mk (k+1) ?_ ⟨hk2,fun i hi=>?_⟩ (by omega)⟩⟩
   ·have h2:few1 (R.getD k rl0)=false:=by simpa using h2
    have h3:R.all few1=false:=by
     rw[Bool.eq_false_iff]
     intro hh
     rw[List.all_eq_true] at hh
     rw[hh _ (getD_in hk2)] at h2
     cases h2
    unfold fewR
    rw[h3];rfl
   ·exact AS.leA (by kernel_rfl)
   ·rcases Nat.lt_or_ge i k with h3|h3
    ·exact hkd i h3
    ·obtain rfl:i=k:=by omega
     simpa using h2
  ·simp only[decide_eq_false_iff_not] at h
   refine walkK (orc:=orcFr) (keep:=[]) (cuts:=[]) (n:=1000) follows ?_
   refine of_tr (fun _ _ _ _=>(((db (decide ((↑R.length:Int)≤8))):DV)=(db (fewR R)))) (by kernel_rfl) ?_
   have h3:R.all few1=true:=by
    rw[List.all_eq_true]
    intro r hr
    obtain ⟨i,hi,rfl⟩:=List.getElem_of_mem hr
    have:=hkd i (by omega)
    rwa [List.getD,gEe hi] at this
   unfold fewR
   rw[h3,Bool.true_and,show decide ((R.length:Int)≤8)=decide (R.length≤8) by rw[decide_eq_decide];omega]
end Go.Proofs
/- The two formats are one. -/
namespace Go.Proofs
open Go Go.Ab Go.RowKit
end Go.Proofs
