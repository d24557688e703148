import Derived.Test.YtcfclncbpeahnaaGreatDoorAcD
import Derived.Test.YtcfclncbpeahnaaGreatDoorG5
import Derived.Test.YtcfclncbpeahnaaGreatDoorG2
import Derived.Defers
import Derived.Recover
import Derived.Tactics
import Derived.Tactics2
import Derived.Laws.Pointers
import Derived.Orders
import Derived.Test.YtcfclncbpeahnaaGreatDoorG4
import Derived.Test.YtcfclncbpeahnaaGreatDoorG3
import Derived.Test.YtcfclncbpeahnaaGreatDoorG0
/- The parser,the program's side: rules. -/
set_option autoImplicit false
namespace Go.Proofs
open Go Go.Ab Go.RowKit
set_option maxHeartbeats 4000000
set_option maxRecDepth 100000
variable {G:IH}
abbrev Lr (kd:Int) (nm gr:ByteArray) (am wh:List AV) (pos:Int):List AV:=[vi kd,vs nm,vs gr]++(am++(wh++[vi pos]))
abbrev Uw:List AV:=Lr 0 ⟨#[]⟩ ⟨#[]⟩ zeroE zeroE 0
noncomputable def rJ (kd:Int) (nm gr:ByteArray) (am wh:List AV) (pos:Int) (t:List Tk) (e:Int):AS:=⟨regs Tryz.f37.ntmps [(0,.box 1000000 0),(2,.box 2 0),(5,.box 5 0)],[(2,Uw),(5,Lr kd nm gr am wh pos),(1000000,pC t e)]⟩
noncomputable def mRu (w:Tk) (b:Bool) (t1:List Tk) (nm:ByteArray) (t2:List Tk) (x:Ex) (r:List Tk) (e:Int):FuncId→List AV→List (Nat×List AV)→Option (AV×List (Nat×List AV)):=fun f _ _=>match f with
 | 75=>some (.d (.ak [qh w,db b]),pB t1 e)
 | 78=>some (.d (ds nm),pB t2 e)
 | 79=>some (.d (qh w),pB t1 e)
 | 44=>some (.d (fD x),pB r e)
 | _=>none
noncomputable def dRu (k:Int):cZ:=fun f _=>match f with
 | 76=>some (xU bP)
 | 77=>some (di k)
 | _=>none
noncomputable def lM (k:Int) (w:Tk) (b:Bool) (t1:List Tk) (nm:ByteArray) (t2:List Tk) (x:Ex) (r:List Tk) (e:Int):dK:={ d:=dRu k,m:=mRu w b t1 nm t2 x r e }
theorem Ye {Q:Exit→AS→Prop} (t:List Tk) (e:Int) (hS:gB t) (hk:dN bP (ah t)=true) (hn:nameB (ah t.tail)=true) (k:aK Tryz.prog G [.code (aY (aC Tryz.f37) [1,1,1,1,0]),.code (aY (aC Tryz.f37) [1,1,1,1,1])] (rJ (eF bP (ah t)) (ah t.tail) .empty zeroE zeroE (hdA e t) t.tail.tail e) Q) :
  aK Tryz.prog G [.code (aC Tryz.f37)] (jV [.box 1000000 0] (pB t e) Tryz.f37.ntmps) Q:=by
 refine aF (aj:=lM (eF bP (ah t)) (dw e t) true t.tail (ah t.tail) t.tail.tail aJ [] e) (keep:=[]) (cuts:=[3,5]) (n:=1000) follows ?_
 refine au (fun ZT ZW ZQ ZK=>((ZK 76 [] (.slc 1 4 (iY bP))∧aA Tryz.prog G 75 [(.box 1000000 0),(.d (.slc 1 4 (iY bP)))] [(1000000,[(.d (.slc 2 t.length (aG t))),(vi e)])] (.d (.ak [(.agg [(ds (ah t)),(di (hdA e t))]),(db true)])) [(1000000,[(.d (.slc 2 t.tail.length (aG t.tail))),(vi e)])])∧((false=true)→ZW [cd Tryz.f37 [1,1,0,1,0],cd Tryz.f37 [1,1,1]] (aB ZT [0]) ZQ)∧((false=false)→((ZK 76 [] (.slc 1 4 (iY bP))∧ZK 77 [(.slc 1 4 (iY bP)),(ds (ah t))] (di (eF bP (ah t)))∧aA Tryz.prog G 78 [(.box 1000000 0)] [(1000000,[(.d (.slc 2 t.tail.length (aG t.tail))),(vi e)])] (vs (ah t.tail)) [(1000000,[(.d (.slc 2 t.tail.tail.length (aG t.tail.tail))),(vi e)])])∧ZW [cd Tryz.f37 [1,1,1,1,0],cd Tryz.f37 [1,1,1,1,1]] (aB ZT [1]) ZQ)))) (by kernel_rfl) ?_
 have hin:inB bP (ah t)=true:=by
  unfold inB;rw[hk,Bool.and_true,decide_eq_true_eq]
  intro h;exact Ib hk (empty_of h)
 refine⟨⟨f76,gY bP t e (by decide) hin⟩,fun c=>(by cases c),fun _=>⟨⟨f76,f77 bP _ (by decide),Og t.tail e (by have:=hS.tail.hd;omega) hn⟩,?_⟩⟩
 refine aK.weaken ?_ k
 refine AS.leZ [] [1] (b:=((T0∧T0∧T0∧True)∧T0∧((some [(vi (eF bP (ah t))),(vs (ah t.tail)),(vs (ByteArray.mk #[])),(vi 0),(vs (ByteArray.mk #[])),(vi 0),(vi 0),(vi 0),(.d (.con (.slice none 0 0))),(vi 0),(vs (ByteArray.mk #[])),(vi 0),(vi 0),(vi 0),(.d (.con (.slice none 0 0))),(vi (hdA e t))]):(Option (List AV)))=(some [(vi (eF bP (ah t))),(vs (ah t.tail)),(vs ByteArray.empty),(vi 0),(vs (ByteArray.mk #[])),(vi 0),(vi 0),(vi 0),(.d (.con (.slice none 0 0))),(vi 0),(vs (ByteArray.mk #[])),(vi 0),(vi 0),(vi 0),(.d (.con (.slice none 0 0))),(vi (hdA e t))])∧T0∧True)) (by kernel_rfl) (by kernel_rfl) ?_
 exact⟨⟨rfl,rfl,rfl,trivial⟩,rfl,rfl,rfl,trivial⟩
theorem ac7 {Q:Exit→AS→Prop} (kd:Int) (nm:ByteArray) (pos:Int) (t:List Tk) (e:Int) (hS:gB t) (hi:ah t=yu) (hn:nameB (ah t.tail)=true) (k:aK Tryz.prog G [.code (aY (aC Tryz.f37) [1,1,1,1,1])] (rJ kd nm (ah t.tail) zeroE zeroE pos t.tail.tail e) Q) :
  aK Tryz.prog G [.code (aY (aC Tryz.f37) [1,1,1,1,0]),.code (aY (aC Tryz.f37) [1,1,1,1,1])] (rJ kd nm .empty zeroE zeroE pos t e) Q:=by
 refine aF (aj:=lM 0 (dw e t) true t.tail (ah t.tail) t.tail.tail aJ [] e) (keep:=[]) (cuts:=[8]) (n:=1000) follows ?_
 refine au (fun ZT ZW ZQ _=>(aA Tryz.prog G 75 [(.box 1000000 0),(.d (.slc 1 1 (aS false 1 [(ds (ByteArray.mk #[105,110]))])))] [(1000000,[(.d (.slc 2 t.length (aG t))),(vi e)])] (.d (.ak [(.agg [(ds (ah t)),(di (hdA e t))]),(db true)])) [(1000000,[(.d (.slc 2 t.tail.length (aG t.tail))),(vi e)])]∧((true=true)→(aA Tryz.prog G 78 [(.box 1000000 0)] [(1000000,[(.d (.slc 2 t.tail.length (aG t.tail))),(vi e)])] (vs (ah t.tail)) [(1000000,[(.d (.slc 2 t.tail.tail.length (aG t.tail.tail))),(vi e)])]∧ZW [cd Tryz.f37 [1,1,1,1,1]] (aB ZT [0]) ZQ))∧((true=false)→ZW [cd Tryz.f37 [1,1,1,1,1]] (aB ZT [1]) ZQ))) (by kernel_rfl) ?_
 refine⟨aA.st (gY [yu] t e (by simp) (by rw[hi];decide +kernel)),fun _=>⟨Og t.tail e (by have:=hS.tail.hd;omega) hn,?_⟩,fun c=>(by cases c)⟩
 refine aK.weaken ?_ k
 exact AS.bV (by kernel_rfl)
theorem abL {Q:Exit→AS→Prop} (kd:Int) (nm gr:ByteArray) (pos:Int) (t:List Tk) (e:Int) (hc:ah t=colonS) (x:Ex) (r:List Tk) (h:jo G 0 t.tail e (.ok x r)) (k:aK Tryz.prog G [.code (aY (aC Tryz.f37) [1,1,1,1,1,1,1,0]),.code (aY (aC Tryz.f37) [1,1,1,1,1,1,1,1])] (rJ kd nm gr (jl (ht x) x) zeroE pos r e) Q) :
  aK Tryz.prog G [.code (aY (aC Tryz.f37) [1,1,1,1,1])] (rJ kd nm gr zeroE zeroE pos t e) Q:=by
 refine aF (aj:=lM 0 (dw e t) true t.tail .empty t.tail.tail x r e) (keep:=[]) (cuts:=[10]) (n:=1000) follows ?_
 refine au (fun ZT ZW ZQ _=>(aA Tryz.prog G 79 [(.box 1000000 0),(vs (ByteArray.mk #[58]))] [(1000000,[(.d (.slc 2 t.length (aG t))),(vi e)])] (.d (.agg [(ds (ah t)),(di (hdA e t))])) [(1000000,[(.d (.slc 2 t.tail.length (aG t.tail))),(vi e)])]∧aA Tryz.prog G 44 [(.box 1000000 0),(vi 0)] [(1000000,[(.d (.slc 2 t.tail.length (aG t.tail))),(vi e)])] (.d (aN (ht x) x)) [(1000000,[(.d (.slc 2 r.length (aG r))),(vi e)])]∧ZW [cd Tryz.f37 [1,1,1,1,1,1,1,0],cd Tryz.f37 [1,1,1,1,1,1,1,1]] (aB ZT []) ZQ)) (by kernel_rfl) ?_
 refine⟨Ag colonS t e (by rw[hc];decide +kernel),h,?_⟩
 refine aK.weaken ?_ k
 exact AS.bV (by kernel_rfl)
theorem acR {Q:Exit→AS→Prop} (kd:Int) (nm gr:ByteArray) (am:Ex) (pos:Int) (t:List Tk) (e:Int) (hc:ah t=ng) (x:Ex) (r:List Tk) (h:jo G 0 t.tail e (.ok x r)) (k:aK Tryz.prog G [.code (aY (aC Tryz.f37) [1,1,1,1,1,1,1,1])] (rJ kd nm gr (jl (ht am) am) (jl (ht x) x) pos r e) Q) :
  aK Tryz.prog G [.code (aY (aC Tryz.f37) [1,1,1,1,1,1,1,0]),.code (aY (aC Tryz.f37) [1,1,1,1,1,1,1,1])] (rJ kd nm gr (jl (ht am) am) zeroE pos t e) Q:=by
 refine aF (aj:=lM 0 (dw e t) true t.tail .empty t.tail.tail x r e) (keep:=[]) (cuts:=[13]) (n:=1000) follows ?_
 refine au (fun ZT ZW ZQ _=>(aA Tryz.prog G 75 [(.box 1000000 0),(.d (.slc 1 1 (aS false 1 [(ds (ByteArray.mk #[105,102]))])))] [(1000000,[(.d (.slc 2 t.length (aG t))),(vi e)])] (.d (.ak [(.agg [(ds (ah t)),(di (hdA e t))]),(db true)])) [(1000000,[(.d (.slc 2 t.tail.length (aG t.tail))),(vi e)])]∧((true=true)→(aA Tryz.prog G 44 [(.box 1000000 0),(vi 0)] [(1000000,[(.d (.slc 2 t.tail.length (aG t.tail))),(vi e)])] (.d (aN (ht x) x)) [(1000000,[(.d (.slc 2 r.length (aG r))),(vi e)])]∧ZW [cd Tryz.f37 [1,1,1,1,1,1,1,1]] (aB ZT [0]) ZQ))∧((true=false)→ZW [cd Tryz.f37 [1,1,1,1,1,1,1,1]] (aB ZT [1]) ZQ))) (by kernel_rfl) ?_
 refine⟨aA.st (gY [ng] t e (by simp) (by rw[hc];decide +kernel)),fun _=>⟨h,?_⟩,fun c=>(by cases c)⟩
 refine aK.weaken ?_ k
 exact AS.bV (by kernel_rfl)
theorem acj (kd:Int) (nm gr:ByteArray) (am wh:Ex) (pos:Int) (t:List Tk) (e:Int) (hc:ah t=jA) :
  aK Tryz.prog G [.code (aY (aC Tryz.f37) [1,1,1,1,1,1,1,1])] (rJ kd nm gr (jl (ht am) am) (jl (ht wh) wh) pos t e) (wC Tryz.prog Tryz.f37 [] (.d (lg ⟨kd,nm,gr,am,wh,pos,ht am,ht wh⟩)) (pB t.tail e)):=by
 refine aF (aj:=lM 0 (dw e t) true t.tail .empty t.tail.tail aJ [] e) (keep:=[]) (cuts:=[]) (n:=1000) follows ?_
 refine au (fun _ _ _ _=>(fun Za=>(aA Tryz.prog G 79 [(.box 1000000 0),(vs (ByteArray.mk #[59]))] [(1000000,[(.d (.slc 2 t.length (aG t))),(vi e)])] (.d (.agg [(ds (ah t)),(di (hdA e t))])) [(1000000,[Za,(vi e)])]∧(ZS ((.d (.agg [(di kd),(ds nm),(ds gr),(di am.k),(ds am.s),(di am.n),(di am.d),(di am.pos),(.slc 6 am.kids.length (lay (cu (ht am)) am.kids)),(di wh.k),(ds wh.s),(di wh.n),(di wh.d),(di wh.pos),(.slc 6 wh.kids.length (lay (cu (ht wh)) wh.kids)),(di pos)])):AV))∧((some [Za,(vi e)]):(Option (List AV)))=(some [Za,(vi e)])∧True)) ((.d (.slc 2 t.tail.length (aG t.tail))):AV)) (by kernel_rfl) ?_
 exact⟨Ag jA t e (by rw[hc];decide +kernel),rfl,rfl,trivial⟩
/-! Without a group,without a condition. -/
theorem abP {Q:Exit→AS→Prop} (kd:Int) (nm:ByteArray) (pos:Int) (t:List Tk) (e:Int) (hi:ah t≠yu) (k:aK Tryz.prog G [.code (aY (aC Tryz.f37) [1,1,1,1,1])] (rJ kd nm .empty zeroE zeroE pos t e) Q) :
  aK Tryz.prog G [.code (aY (aC Tryz.f37) [1,1,1,1,0]),.code (aY (aC Tryz.f37) [1,1,1,1,1])] (rJ kd nm .empty zeroE zeroE pos t e) Q:=by
 refine aF (aj:=lM 0 (dw e t) false t .empty t.tail.tail aJ [] e) (keep:=[]) (cuts:=[7,8]) (n:=1000) follows ?_
 refine au (fun ZT ZW ZQ _=>(aA Tryz.prog G 75 [(.box 1000000 0),(.d (.slc 1 1 (aS false 1 [(ds (ByteArray.mk #[105,110]))])))] [(1000000,[(.d (.slc 2 t.length (aG t))),(vi e)])] (.d (.ak [(.agg [(ds (ah t)),(di (hdA e t))]),(db false)])) [(1000000,[(.d (.slc 2 t.length (aG t))),(vi e)])]∧((false=true)→ZW [cd Tryz.f37 [1,1,1,1,0,1,1,0],cd Tryz.f37 [1,1,1,1,1]] (aB ZT [0]) ZQ)∧((false=false)→ZW [cd Tryz.f37 [1,1,1,1,1]] (aB ZT [1]) ZQ))) (by kernel_rfl) ?_
 refine⟨aA.st (ql [yu] t e (by simp) (by rw[nS _ _ (by decide),decide_eq_false hi])),fun c=>(by cases c),fun _=>?_⟩
 refine aK.weaken ?_ k
 exact AS.bV (by kernel_rfl)
theorem aaM {Q:Exit→AS→Prop} (kd:Int) (nm gr:ByteArray) (am:Ex) (pos:Int) (t:List Tk) (e:Int) (hc:ah t≠ng) (k:aK Tryz.prog G [.code (aY (aC Tryz.f37) [1,1,1,1,1,1,1,1])] (rJ kd nm gr (jl (ht am) am) (jl (ht aJ) aJ) pos t e) Q) :
  aK Tryz.prog G [.code (aY (aC Tryz.f37) [1,1,1,1,1,1,1,0]),.code (aY (aC Tryz.f37) [1,1,1,1,1,1,1,1])] (rJ kd nm gr (jl (ht am) am) zeroE pos t e) Q:=by
 refine aF (aj:=lM 0 (dw e t) false t .empty t.tail.tail aJ [] e) (keep:=[]) (cuts:=[12,13]) (n:=1000) follows ?_
 refine au (fun ZT ZW ZQ _=>(aA Tryz.prog G 75 [(.box 1000000 0),(.d (.slc 1 1 (aS false 1 [(ds (ByteArray.mk #[105,102]))])))] [(1000000,[(.d (.slc 2 t.length (aG t))),(vi e)])] (.d (.ak [(.agg [(ds (ah t)),(di (hdA e t))]),(db false)])) [(1000000,[(.d (.slc 2 t.length (aG t))),(vi e)])]∧((false=true)→ZW [cd Tryz.f37 [1,1,1,1,1,1,1,0,1,1,0],cd Tryz.f37 [1,1,1,1,1,1,1,1]] (aB ZT [0]) ZQ)∧((false=false)→ZW [cd Tryz.f37 [1,1,1,1,1,1,1,1]] (aB ZT [1]) ZQ))) (by kernel_rfl) ?_
 refine⟨aA.st (ql [ng] t e (by simp) (by rw[nS _ _ (by decide),decide_eq_false hc])),fun c=>(by cases c),fun _=>?_⟩
 refine aK.pre (AS.dZ.cell _ 5 14 (l:=Lr kd nm gr (jl (ht am) am) zeroE pos) (x:=.d (.con (.slice none 0 0))) (.d (.slc 6 0 (lay (cu (ht aJ)) []))) (by kernel_rfl) (by kernel_rfl) rfl (by kernel_rfl) (fun β h v hv=>lV hv)) ?_
 refine aK.weaken ?_ k
 refine AS.leZ [] [1] (b:=((T0∧T0∧T0∧True)∧T0∧((some [(vi kd),(vs nm),(vs gr),(vi am.k),(vs am.s),(vi am.n),(vi am.d),(vi am.pos),(.d (.slc 6 am.kids.length (lay (cu (ht am)) am.kids))),(vi 0),(vs (ByteArray.mk #[])),(vi 0),(vi 0),(vi 0),(.d (.slc 6 0 (lay (cu (ht aJ)) []))),(vi pos)]):(Option (List AV)))=(some [(vi kd),(vs nm),(vs gr),(vi am.k),(vs am.s),(vi am.n),(vi am.d),(vi am.pos),(.d (.slc 6 am.kids.length (lay (cu (ht am)) am.kids))),(vi 0),(vs aJ.s),(vi 0),(vi 0),(vi 0),(.d (.slc 6 0 (lay (cu (ht aJ)) aJ.kids))),(vi pos)])∧T0∧True)) (by kernel_rfl) (by kernel_rfl) ?_
 exact⟨⟨rfl,rfl,rfl,trivial⟩,rfl,rfl,rfl,trivial⟩
/-! adY. -/
theorem UW (t:List Tk) (e:Int) (hk:dN bP (ah t)=false):dH Tryz.prog G 37 [.box 1000000 0] (pB t e) (mkV (hdA e t)):=by
 refine dH.aP Tryz.func37 rfl Tryz.call37 ?_
 refine aF (aj:=lM 0 (dw e t) false t .empty t.tail.tail aJ [] e) (keep:=[]) (cuts:=[3,4]) (n:=1000) follows ?_
 refine au (fun ZT ZW ZQ ZK=>((ZK 76 [] (.slc 1 4 (iY bP))∧aA Tryz.prog G 75 [(.box 1000000 0),(.d (.slc 1 4 (iY bP)))] [(1000000,[(.d (.slc 2 t.length (aG t))),(vi e)])] (.d (.ak [(.agg [(ds (ah t)),(di (hdA e t))]),(db false)])) [(1000000,[(.d (.slc 2 t.length (aG t))),(vi e)])])∧((true=true)→ZW [cd Tryz.f37 [1,1,0,1,0],cd Tryz.f37 [1,1,1]] (aB ZT [0]) ZQ)∧((true=false)→ZW [cd Tryz.f37 [1,1,1]] (aB ZT [1]) ZQ))) (by kernel_rfl) ?_
 refine⟨⟨f76,ql bP t e (by decide) (by unfold inB;rw[hk,Bool.and_false])⟩,fun _=>?_,fun c=>(by cases c)⟩
 refine aK.iq follows (lM 0 (dw e t) false t .empty t.tail.tail aJ [] e) 1 (mkV (hdA e t)) ?_
 refine au (fun _ _ _ _=>(dH Tryz.prog G 74 [(.box 1000000 0)] [(1000000,[(.d (.slc 2 t.length (aG t))),(vi e)])] (mkV (hdA e t))∧((.panic [(PanicEntry.mk (mkV (hdA e t)) false false)]):Exit)=(.panic [(PanicEntry.mk (mkV (hdA e t)) false false)])∧((some [.any,.any]):(Option (List AV)))=(some [.any,.any])∧True)) (by kernel_rfl) ?_
 exact⟨f74 t e,rfl,rfl,trivial⟩
theorem VL (t:List Tk) (e:Int) (hS:gB t) (hk:dN bP (ah t)=true) (hn:nameB (ah t.tail)=false):dH Tryz.prog G 37 [.box 1000000 0] (pB t e) (mkV (hdA e t.tail)):=by
 refine dH.aP Tryz.func37 rfl Tryz.call37 ?_
 refine aF (aj:=lM (eF bP (ah t)) (dw e t) true t.tail .empty t.tail.tail aJ [] e) (keep:=[]) (cuts:=[3,4]) (n:=1000) follows ?_
 refine au (fun ZT ZW ZQ ZK=>((ZK 76 [] (.slc 1 4 (iY bP))∧aA Tryz.prog G 75 [(.box 1000000 0),(.d (.slc 1 4 (iY bP)))] [(1000000,[(.d (.slc 2 t.length (aG t))),(vi e)])] (.d (.ak [(.agg [(ds (ah t)),(di (hdA e t))]),(db true)])) [(1000000,[(.d (.slc 2 t.tail.length (aG t.tail))),(vi e)])])∧((false=true)→ZW [cd Tryz.f37 [1,1,0,1,0],cd Tryz.f37 [1,1,1]] (aB ZT [0]) ZQ)∧((false=false)→ZW [cd Tryz.f37 [1,1,1]] (aB ZT [1]) ZQ))) (by kernel_rfl) ?_
 have hin:inB bP (ah t)=true:=by
  unfold inB;rw[hk,Bool.and_true,decide_eq_true_eq]
  intro h;exact Ib hk (empty_of h)
 refine⟨⟨f76,gY bP t e (by decide) hin⟩,fun c=>(by cases c),fun _=>?_⟩
 refine aK.UF follows (lM (eF bP (ah t)) (dw e t) true t.tail .empty t.tail.tail aJ [] e) 7 (mkV (hdA e t.tail)) ?_
 refine au (fun _ _ _ ZK=>((ZK 76 [] (.slc 1 4 (iY bP))∧ZK 77 [(.slc 1 4 (iY bP)),(ds (ah t))] (di (eF bP (ah t)))∧dH Tryz.prog G 78 [(.box 1000000 0)] [(1000000,[(.d (.slc 2 t.tail.length (aG t.tail))),(vi e)])] (mkV (hdA e t.tail)))∧((.panic [(PanicEntry.mk (mkV (hdA e t.tail)) false false)]):Exit)=(.panic [(PanicEntry.mk (mkV (hdA e t.tail)) false false)])∧((some [.any,.any]):(Option (List AV)))=(some [.any,.any])∧True)) (by kernel_rfl) ?_
 exact⟨⟨f76,f77 bP _ (by decide),JO t.tail e (by have:=hS.tail.hd;omega) hn⟩,rfl,rfl,trivial⟩
theorem UY (kd:Int) (nm:ByteArray) (pos:Int) (t pre:List Tk) (e:Int) (hS:gB t) (hi:ah t=yu) (hn:nameB (ah t.tail)=false) :
  aK Tryz.prog G [.code (aY (aC Tryz.f37) [1,1,1,1,0]),.code (aY (aC Tryz.f37) [1,1,1,1,1])] (rJ kd nm .empty zeroE zeroE pos t e) (fun x st=>x=.panic (lQ (mkV (hdA e t.tail)))∧jE (fC st.boxes) (fC (pB pre e))):=by
 refine aF (aj:=lM 0 (dw e t) true t.tail (ah t.tail) t.tail.tail aJ [] e) (keep:=[]) (cuts:=[7,8]) (n:=1000) follows ?_
 refine au (fun ZT ZW ZQ _=>(aA Tryz.prog G 75 [(.box 1000000 0),(.d (.slc 1 1 (aS false 1 [(ds (ByteArray.mk #[105,110]))])))] [(1000000,[(.d (.slc 2 t.length (aG t))),(vi e)])] (.d (.ak [(.agg [(ds (ah t)),(di (hdA e t))]),(db true)])) [(1000000,[(.d (.slc 2 t.tail.length (aG t.tail))),(vi e)])]∧((true=true)→ZW [cd Tryz.f37 [1,1,1,1,0,1,1,0],cd Tryz.f37 [1,1,1,1,1]] (aB ZT [0]) ZQ)∧((true=false)→ZW [cd Tryz.f37 [1,1,1,1,1]] (aB ZT [1]) ZQ))) (by kernel_rfl) ?_
 refine⟨aA.st (gY [yu] t e (by simp) (by rw[hi];decide +kernel)),fun _=>?_,fun c=>(by cases c)⟩
 refine aK.iq follows (lM 0 (dw e t) true t.tail (ah t.tail) t.tail.tail aJ [] e) 1 (mkV (hdA e t.tail)) ?_
 refine au (fun _ _ _ _=>(dH Tryz.prog G 78 [(.box 1000000 0)] [(1000000,[(.d (.slc 2 t.tail.length (aG t.tail))),(vi e)])] (mkV (hdA e t.tail))∧((.panic [(PanicEntry.mk (mkV (hdA e t.tail)) false false)]):Exit)=(.panic [(PanicEntry.mk (mkV (hdA e t.tail)) false false)])∧((some [.any,.any]):(Option (List AV)))=(some [.any,.any])∧True)) (by kernel_rfl) ?_
 exact⟨JO t.tail e (by have:=hS.tail.hd;omega) hn,rfl,rfl,trivial⟩
theorem TR (kd:Int) (nm gr:ByteArray) (pos:Int) (t pre:List Tk) (e:Int) (hc:ah t≠colonS) :
  aK Tryz.prog G [.code (aY (aC Tryz.f37) [1,1,1,1,1])] (rJ kd nm gr zeroE zeroE pos t e) (fun x st=>x=.panic (lQ (mkV (hdA e t)))∧jE (fC st.boxes) (fC (pB pre e))):=by
 refine aK.iq follows (lM 0 (dw e t) true t.tail .empty t.tail.tail aJ [] e) 1 (mkV (hdA e t)) ?_
 refine au (fun _ _ _ _=>(dH Tryz.prog G 79 [(.box 1000000 0),(vs (ByteArray.mk #[58]))] [(1000000,[(.d (.slc 2 t.length (aG t))),(vi e)])] (mkV (hdA e t))∧((.panic [(PanicEntry.mk (mkV (hdA e t)) false false)]):Exit)=(.panic [(PanicEntry.mk (mkV (hdA e t)) false false)])∧((some [.any,.any]):(Option (List AV)))=(some [.any,.any])∧True)) (by kernel_rfl) ?_
 exact⟨AB colonS t e (by rw[nS _ _ (by decide),decide_eq_false hc]),rfl,rfl,trivial⟩
theorem Va (kd:Int) (nm gr:ByteArray) (pos:Int) (t pre:List Tk) (e:Int) (hc:ah t=colonS) (r:List Tk) (h:jo G 0 t.tail e (.bad r)) :
  aK Tryz.prog G [.code (aY (aC Tryz.f37) [1,1,1,1,1])] (rJ kd nm gr zeroE zeroE pos t e) (fun x st=>x=.panic (lQ (mkV (hdA e r)))∧jE (fC st.boxes) (fC (pB pre e))):=by
 refine aF (aj:=lM 0 (dw e t) true t.tail .empty t.tail.tail aJ r e) (keep:=[]) (cuts:=[9]) (n:=1000) follows ?_
 refine au (fun ZT ZW ZQ _=>(aA Tryz.prog G 79 [(.box 1000000 0),(vs (ByteArray.mk #[58]))] [(1000000,[(.d (.slc 2 t.length (aG t))),(vi e)])] (.d (.agg [(ds (ah t)),(di (hdA e t))])) [(1000000,[(.d (.slc 2 t.tail.length (aG t.tail))),(vi e)])]∧ZW [cd Tryz.f37 [1,1,1,1,1,1]] (aB ZT []) ZQ)) (by kernel_rfl) ?_
 refine⟨Ag colonS t e (by rw[hc];decide +kernel),?_⟩
 refine aK.iq follows (lM 0 (dw e t) true t.tail .empty t.tail.tail aJ r e) 1 (mkV (hdA e r)) ?_
 refine au (fun _ _ _ _=>(dH Tryz.prog G 44 [(.box 1000000 0),(vi 0)] [(1000000,[(.d (.slc 2 t.tail.length (aG t.tail))),(vi e)])] (mkV (hdA e r))∧((.panic [(PanicEntry.mk (mkV (hdA e r)) false false)]):Exit)=(.panic [(PanicEntry.mk (mkV (hdA e r)) false false)])∧((some [.any,.any]):(Option (List AV)))=(some [.any,.any])∧True)) (by kernel_rfl) ?_
 exact⟨h,rfl,rfl,trivial⟩
theorem Wh (kd:Int) (nm gr:ByteArray) (am:Ex) (pos:Int) (t pre:List Tk) (e:Int) (hc:ah t=ng) (r:List Tk) (h:jo G 0 t.tail e (.bad r)) :
  aK Tryz.prog G [.code (aY (aC Tryz.f37) [1,1,1,1,1,1,1,0]),.code (aY (aC Tryz.f37) [1,1,1,1,1,1,1,1])] (rJ kd nm gr (jl (ht am) am) zeroE pos t e) (fun x st=>x=.panic (lQ (mkV (hdA e r)))∧jE (fC st.boxes) (fC (pB pre e))):=by
 refine aF (aj:=lM 0 (dw e t) true t.tail .empty t.tail.tail aJ r e) (keep:=[]) (cuts:=[12,13]) (n:=1000) follows ?_
 refine au (fun ZT ZW ZQ _=>(aA Tryz.prog G 75 [(.box 1000000 0),(.d (.slc 1 1 (aS false 1 [(ds (ByteArray.mk #[105,102]))])))] [(1000000,[(.d (.slc 2 t.length (aG t))),(vi e)])] (.d (.ak [(.agg [(ds (ah t)),(di (hdA e t))]),(db true)])) [(1000000,[(.d (.slc 2 t.tail.length (aG t.tail))),(vi e)])]∧((true=true)→ZW [cd Tryz.f37 [1,1,1,1,1,1,1,0,1,1,0],cd Tryz.f37 [1,1,1,1,1,1,1,1]] (aB ZT [0]) ZQ)∧((true=false)→ZW [cd Tryz.f37 [1,1,1,1,1,1,1,1]] (aB ZT [1]) ZQ))) (by kernel_rfl) ?_
 refine⟨aA.st (gY [ng] t e (by simp) (by rw[hc];decide +kernel)),fun _=>?_,fun c=>(by cases c)⟩
 refine aK.iq follows (lM 0 (dw e t) true t.tail .empty t.tail.tail aJ r e) 1 (mkV (hdA e r)) ?_
 refine au (fun _ _ _ _=>(dH Tryz.prog G 44 [(.box 1000000 0),(vi 0)] [(1000000,[(.d (.slc 2 t.tail.length (aG t.tail))),(vi e)])] (mkV (hdA e r))∧((.panic [(PanicEntry.mk (mkV (hdA e r)) false false)]):Exit)=(.panic [(PanicEntry.mk (mkV (hdA e r)) false false)])∧((some [.any,.any]):(Option (List AV)))=(some [.any,.any])∧True)) (by kernel_rfl) ?_
 exact⟨h,rfl,rfl,trivial⟩
theorem Td (kd:Int) (nm gr:ByteArray) (am wh:Ex) (pos:Int) (t pre:List Tk) (e:Int) (hc:ah t≠jA) :
  aK Tryz.prog G [.code (aY (aC Tryz.f37) [1,1,1,1,1,1,1,1])] (rJ kd nm gr (jl (ht am) am) (jl (ht wh) wh) pos t e) (fun x st=>x=.panic (lQ (mkV (hdA e t)))∧jE (fC st.boxes) (fC (pB pre e))):=by
 refine aK.iq follows (lM 0 (dw e t) true t.tail .empty t.tail.tail aJ [] e) 1 (mkV (hdA e t)) ?_
 refine au (fun _ _ _ _=>(dH Tryz.prog G 79 [(.box 1000000 0),(vs (ByteArray.mk #[59]))] [(1000000,[(.d (.slc 2 t.length (aG t))),(vi e)])] (mkV (hdA e t))∧((.panic [(PanicEntry.mk (mkV (hdA e t)) false false)]):Exit)=(.panic [(PanicEntry.mk (mkV (hdA e t)) false false)])∧((some [.any,.any]):(Option (List AV)))=(some [.any,.any])∧True)) (by kernel_rfl) ?_
 exact⟨AB jA t e (by rw[nS _ _ (by decide),decide_eq_false hc]),rfl,rfl,trivial⟩
def adM (G:IH) (t:List Tk) (e:Int):Rr→Prop
 | .ok x r=>aA Tryz.prog G 37 [.box 1000000 0] (pB t e) (.d (lg x)) (pB r e)
 | .bad r=>dH Tryz.prog G 37 [.box 1000000 0] (pB t e) (mkV (hdA e r))
def nU (G:IH) (t0:List Tk) (e:Int) (k:List It) (st:AS):Rr→Prop
 | .ok x r=>aK Tryz.prog G k st (wC Tryz.prog Tryz.f37 [] (.d (lg x)) (pB r e))
 | .bad r=>aK Tryz.prog G k st (fun x st=>x=.panic (lQ (mkV (hdA e r)))∧jE (fC st.boxes) (fC (pB t0 e)))
theorem nU.pass {t0:List Tk} {e:Int} {k k':List It} {st st':AS} (h:∀Q,aK Tryz.prog G k' st' Q→aK Tryz.prog G k st Q):∀{R:Rr},nU G t0 e k' st' R→nU G t0 e k st R
 | .ok _ _,hb=>h _ hb
 | .bad _,hb=>h _ hb
theorem abK (kd:Int) (nm gr:ByteArray) (am wh:Ex) (pos:Int) (t t0:List Tk) (e:Int):nU G t0 e [.code (aY (aC Tryz.f37) [1,1,1,1,1,1,1,1])] (rJ kd nm gr (jl (ht am) am) (jl (ht wh) wh) pos t e) (Cc kd nm gr pos am wh t):=by
 unfold Cc
 by_cases h:ah t=jA
 ·rw[if_pos h];exact acj kd nm gr am wh pos t e h
 ·rw[if_neg h];exact Td kd nm gr am wh pos t t0 e h
theorem aeE (kd:Int) (nm gr:ByteArray) (am:Ex) (pos:Int) (t t0:List Tk) (e:Int) (hl:t.length≤100000) (hS:gB t):nU G t0 e [.code (aY (aC Tryz.f37) [1,1,1,1,1,1,1,0]),.code (aY (aC Tryz.f37) [1,1,1,1,1,1,1,1])] (rJ kd nm gr (jl (ht am) am) zeroE pos t e) (DJ kd nm gr pos am t):=by
 have tl:=dR t
 unfold DJ
 by_cases h:ah t=ng
 ·rw[if_pos h]
  have hx:=f44 (G:=G) 0 (by omega) t.tail e (by omega) hS.tail
  cases hq:pr (.lvl 0) t.tail with
  | ok wh r=>
   rw[hq] at hx
   exact nU.pass (fun Q k=>acR kd nm gr am pos t e h wh r hx k) (abK kd nm gr am wh pos r t0 e)
  | bad r=>
   rw[hq] at hx
   exact Wh kd nm gr am pos t t0 e h r hx
 ·rw[if_neg h]
  exact nU.pass (fun Q k=>aaM kd nm gr am pos t e h k) (abK kd nm gr am aJ pos t t0 e)
theorem abk (kd:Int) (nm gr:ByteArray) (pos:Int) (t t0:List Tk) (e:Int) (hl:t.length≤100000) (hS:gB t):nU G t0 e [.code (aY (aC Tryz.f37) [1,1,1,1,1])] (rJ kd nm gr zeroE zeroE pos t e) (BZ kd nm gr pos t):=by
 have tl:=dR t
 unfold BZ
 by_cases h:ah t=colonS
 ·rw[if_pos h]
  have hx:=f44 (G:=G) 0 (by omega) t.tail e (by omega) hS.tail
  have hle:=mg (.lvl 0) t.tail
  cases hq:pr (.lvl 0) t.tail with
  | ok am r=>
   have hSr:gB r:=hS.tail.rest (md:=.lvl 0) (by rw[hq];rfl)
   rw[hq] at hx hle
   simp only[aQ] at hle
   exact nU.pass (fun Q k=>abL kd nm gr pos t e h am r hx k) (aeE kd nm gr am pos r t0 e (by omega) hSr)
  | bad r=>
   rw[hq] at hx
   exact Va kd nm gr pos t t0 e h r hx
 ·rw[if_neg h];exact TR kd nm gr pos t t0 e h
theorem adN (kd:Int) (nm:ByteArray) (pos:Int) (t t0:List Tk) (e:Int) (hl:t.length≤100000) (hS:gB t):nU G t0 e [.code (aY (aC Tryz.f37) [1,1,1,1,0]),.code (aY (aC Tryz.f37) [1,1,1,1,1])] (rJ kd nm .empty zeroE zeroE pos t e) (Ef kd nm pos t):=by
 have tl:=dR t
 have YK:=dR t.tail
 unfold Ef
 by_cases h:ah t=yu
 ·rw[if_pos h]
  by_cases hn:nameB (ah t.tail)=true
  ·rw[if_pos hn]
   exact nU.pass (fun Q k=>ac7 kd nm pos t e hS h hn k) (abk kd nm _ pos t.tail.tail t0 e (by omega) hS.tail.tail)
  ·rw[if_neg hn]
   exact UY kd nm pos t t0 e hS h (by simpa using hn)
 ·rw[if_neg h]
  exact nU.pass (fun Q k=>abP kd nm pos t e h k) (abk kd nm .empty pos t t0 e hl hS)
theorem f37 (t:List Tk) (e:Int) (hl:t.length≤100000) (hS:gB t):adM G t e (jg t):=by
 have tl:=dR t
 have YK:=dR t.tail
 unfold jg
 by_cases hk:dN bP (ah t)=true
 ·rw[if_pos hk]
  by_cases hn:nameB (ah t.tail)=true
  ·rw[if_pos hn,←jr e (Ib hk)]
   have h:=nU.pass (t0:=t) (fun Q k=>Ye t e hS hk hn k) (adN (G:=G) (eF bP (ah t)) (ah t.tail) (hdA e t) t.tail.tail t e (by omega) hS.tail.tail)
   revert h
   cases Ef (eF bP (ah t)) (ah t.tail) (hdA e t) t.tail.tail with
   | ok x r=>exact fun h=>aA.aP (mv:=[]) (by kernel_rfl) Tryz.func37 rfl Tryz.call37 h
   | bad r=>exact fun h=>dH.aP Tryz.func37 rfl Tryz.call37 h
  ·rw[if_neg hn]
   exact VL t e hS hk (by simpa using hn)
 ·rw[if_neg hk]
  exact UW t e (by simpa using hk)
end Go.Proofs
/- The deferred function of read. -/
set_option maxRecDepth 100000
namespace Go.Proofs
open Go Go.Ab Go.RowKit
theorem aby:Tryz.f73.ntmps=18:=rfl
theorem abf:Tryz.f73.results=#[]:=rfl
theorem ZX (p q:Addr) (w:World) :
  CallsD Tryz.prog 73 #[.pointer (some p),.pointer (some q)] .returning w fun e u' w'=>e=.returned (.tuple #[])∧u'=.returning∧w'=w:=by
 refine callsD_of_wpS Tryz.func73 rfl fun c₀ cs hu=>?_
 apply wpS_seq
 apply wpS_region
 simp[wpOpsS,go_sem,recoverD,hu,aby,Exit.thenS]
 apply wpS_seq
 apply wpS_region
 simp[wpOpsS,go_sem,recoverD,hu,Exit.thenS]
 refine wpS_cond (t:=false) (by simp[Act.eval,Array.replicate]) ?_
 simp only[Bool.false_eq_true,if_false]
 refine wpS_of_wp (wp_skip ?_)
 cases c₀
 simp_all [bodyPostS,results,abf]
theorem Xj (a:Int) (w:World):(Instr.typeAssert (mkV a) 20 98 true).run Tryz.prog w=.ok (.tuple #[.agg #[.int .i64 a],.bool true]) w:=by kernel_rfl
theorem LC (p q:Addr) (w:World) (a:Int) (x y:Value) (older:List PanicEntry) (hc:(w.alloc (.cells #[.int .i64 a] 98)).cell? p=some x) (hz:(w.alloc (.cells #[.int .i64 a] 98)).frozen? p=false)
  (hc2:((w.alloc (.cells #[.int .i64 a] 98)).setCell p (.int .i64 a)).cell? q=some y) (hz2:((w.alloc (.cells #[.int .i64 a] 98)).setCell p (.int .i64 a)).frozen? q=false) :
  CallsD Tryz.prog 73 #[.pointer (some p),.pointer (some q)] (.panicking ({ v:=mkV a,recovered:=false } :: older)) w fun e u' w'=>
   e=.returned (.tuple #[])∧u'=.panicking ({ v:=mkV a,recovered:=true } :: older)∧w'=((w.alloc (.cells #[.int .i64 a] 98)).setCell p (.int .i64 a)).setCell q (.int .i64 3):=by
 refine callsD_of_wpS Tryz.func73 rfl fun c₀ cs hu=>?_
 apply wpS_seq
 apply wpS_region
 simp[wpOpsS,go_sem,recoverD,hu,aby,Exit.thenS]
 apply wpS_seq
 apply wpS_region
 simp[wpOpsS,go_sem,recoverD,hu,Exit.thenS]
 refine wpS_cond (t:=true) (by simp[Act.eval,Array.replicate]) ?_
 simp only[if_true]
 apply wpS_seq
 apply wpS_region
 simp[wpOpsS,go_sem,recoverD,hu,Exit.thenS,Xj]
 apply wpS_seq
 apply wpS_seq
 apply wpS_region
 simp[wpOpsS,go_sem,Exit.thenS]
 refine wpS_cond (t:=false) (by simp[Act.eval,Array.replicate]) ?_
 simp only[Bool.false_eq_true,if_false]
 refine wpS_of_wp (wp_skip ?_)
 simp only[Exit.thenS]
 apply wpS_region
 simp[wpOpsS,go_sem,hc,hz,hc2,hz2]
 simp[bodyPostS,results,abf]
end Go.Proofs
/- read,at worlds. -/
set_option maxRecDepth 100000
set_option maxHeartbeats 4000000
namespace Go.Proofs
open Go Go.Ab Go.RowKit
theorem Uf:Tryz.f35.results=#[.cell 4 3,.cell 5 24]:=rfl
abbrev zD (w:World):World:=(w.alloc (.cells #[.int .i64 0] 3)).alloc (.cells #[.int .i64 0] 24)
abbrev q0 (n:Nat):Addr:=⟨n,0,none⟩
structure Two (w:World) (n:Nat) (x y:Value):Prop where
 a:w.heap[n]?=some (.cells #[x] 3)
 b:w.heap[n+1]?=some (.cells #[y] 24)
theorem Two.c0 {w:World} {n:Nat} {x y:Value} (h:Two w n x y):w.cell? (q0 n)=some x:=by simp[World.cell?,h.a]
theorem Two.z0 {w:World} {n:Nat} {x y:Value} (h:Two w n x y):w.frozen? (q0 n)=false:=by simp[World.frozen?,h.a]
theorem Two.c1 {w:World} {n:Nat} {x y:Value} (h:Two w n x y):w.cell? (q0 (n+1))=some y:=by simp[World.cell?,h.b]
theorem Two.z1 {w:World} {n:Nat} {x y:Value} (h:Two w n x y):w.frozen? (q0 (n+1))=false:=by simp[World.frozen?,h.b]
theorem Two.s0 {w:World} {n:Nat} {x y:Value} (h:Two w n x y) (v:Value):Two (w.setCell (q0 n) v) n v y:=by
 refine⟨?_,?_⟩
 ·simp only[World.setCell,Array.getElem?_modify,if_true,h.a];rfl
 ·simp only[World.setCell,Array.getElem?_modify]
  rw[if_neg (by omega)];exact h.b
theorem Two.s1 {w:World} {n:Nat} {x y:Value} (h:Two w n x y) (v:Value):Two (w.setCell (q0 (n+1)) v) n x v:=by
 refine⟨?_,?_⟩
 ·simp only[World.setCell,Array.getElem?_modify]
  rw[if_neg (by omega)];exact h.a
 ·simp only[World.setCell,Array.getElem?_modify,if_true,h.b];rfl
abbrev jL (w:World) (n:Nat) (a e:Int):World:=(w.setCell (q0 n) (.int .i64 a)).setCell (q0 (n+1)) (.int .i64 e)
theorem ZL {c:FuncId} {vc:Array Value} {w:World} {s:ByteArray} {a0 e0:Int} {R1:World→Prop} {R:Ending→World→Prop}
  (h11:Calls Tryz.prog 11 #[.string s] (zD w) fun e w'=>∃ws,e=.returned (.tuple #[ws,.int .i64 a0,.int .i64 e0])∧R1 w') (he:e0≠0)
  (hk:∀w',R1 w'→Two w' w.heap.size (.int .i64 0) (.int .i64 0))
  (hR:∀w',R1 w'→R (.returned (.tuple #[.int .i64 a0,.int .i64 e0])) (jL (jL w' w.heap.size a0 e0) w.heap.size a0 e0).drew) :
  Calls Tryz.prog 35 #[.string s,.func (.func c) #[] vc] w R:=by
 have mixed:=follows
 have hmf:∀(fn:Fn) (first cap:Array Value) (w:World),(Instr.makeFunc fn first cap).run Tryz.prog w=.ok (.func fn first cap) w:=fun _ _ _ _=>rfl
 go_enter_defers Tryz.func35,(show Tryz.f35.ntmps=35 from rfl)
 go_wp2_with (go_at_call 11;refine h11.mono ?_;rintro e w' ⟨ws,rfl,hw⟩;have T0:=hk w' hw;have c0:=T0.c0;have z0:=T0.z0;have T1:=T0.s0 (.int .i64 a0);have c1:=T1.c1;have z1:=T1.z1;have T2:=T1.s1 (.int .i64 e0);have c2:=T2.c0;have z2:=T2.z0;have c3:=T2.c1;have z3:=T2.z1;have T3:=T2.s0 (.int .i64 a0);have c4:=T3.c1;have z4:=T3.z1;have T4:=T3.s1 (.int .i64 e0);have c5:=T4.c0;have c6:=T4.c1;clear T0 T1 T2 T3 T4)
 go_region_o
 all_goals go_wp2
 all_goals
  have h:=hR w' hw
  simp[bodyPostD,Leaves,settle,results,Uf,go_sem,c5,c6,h]
end Go.Proofs
/- read,at worlds: the text has words. -/
set_option maxRecDepth 100000
set_option maxHeartbeats 4000000
namespace Go.Proofs
open Go Go.Ab Go.RowKit
abbrev nH (w':World) (n:Nat) (ws:Value) (len:Nat):World:=(jL w' n 0 0).alloc (.cells #[ws,.int .i64 len] 66)
abbrev Sl:=Option Addr×Nat×Nat
abbrev nI (x:Sl):Value:=.slice x.1 x.2.1 x.2.2
abbrev Iu (w':World):Addr:=⟨w'.heap.size,0,none⟩
theorem abE {c:FuncId} {vc:Array Value} {w:World} {s:ByteArray} {R1:Sl→World→Prop} {R2:World→World→Prop} {R:Ending→World→Prop} (hcf:∀(us:Array Value) (w:World),(callFunc c us).run Tryz.prog w=.ok (.enter c us) w)
  (h11:Calls Tryz.prog 11 #[.string s] (zD w) fun e w'=>∃x:Sl,e=.returned (.tuple #[nI x,.int .i64 0,.int .i64 0])∧R1 x w')
  (hk:∀x w',R1 x w'→Two w' w.heap.size (.int .i64 0) (.int .i64 0))
  (hc:∀x w',R1 x w'→Calls Tryz.prog c (#[.pointer (some (Iu w'))]++vc) (nH w' w.heap.size (nI x) s.size) fun e w5=>(∃v,e=.returned v)∧R2 w' w5)
  (hk2:∀x w' w5,R1 x w'→R2 w' w5→Two w5 w.heap.size (.int .i64 0) (.int .i64 0)∧∃pp cap,w5.cell? (Iu w')=some (.slice pp 0 cap))
  (hR:∀x w' w5,R1 x w'→R2 w' w5→R (.returned (.tuple #[.int .i64 0,.int .i64 0])) (jL w5 w.heap.size 0 0)) :
  Calls Tryz.prog 35 #[.string s,.func (.func c) #[] vc] w R:=by
 have mixed:=follows
 have hmf:∀(fn:Fn) (first cap:Array Value) (w:World),(Instr.makeFunc fn first cap).run Tryz.prog w=.ok (.func fn first cap) w:=fun _ _ _ _=>rfl
 go_enter_defers Tryz.func35,(show Tryz.f35.ntmps=35 from rfl)
 go_wp2_with (go_at_call 11;refine h11.mono ?_;rintro e w' ⟨⟨p0,k0,cap0⟩,rfl,hw⟩;have T0:=hk _ w' hw;have c0:=T0.c0;have z0:=T0.z0;have T1:=T0.s0 (.int .i64 0);have c1:=T1.c1;have z1:=T1.z1;have T2:=T1.s1 (.int .i64 0);have c2:=T2.c0;have z2:=T2.z0;have c3:=T2.c1;have z3:=T2.z1;have hc:=hc _ w' hw;clear T0 T1 T2)
 refine hc.mono ?_
 rintro e w5 ⟨⟨v,rfl⟩,hw5⟩
 obtain ⟨T3,pp,cap,d0⟩:=hk2 _ w' w5 hw hw5
 have d1:=T3.c0;have y1:=T3.z0
 have T4:=T3.s0 (.int .i64 0)
 have d2:=T4.c1;have y2:=T4.z1
 have T5:=T4.s1 (.int .i64 0)
 have d3:=T5.c0;have d4:=T5.c1
 clear hc T3 T4 T5
 simp only[]
 go_at_K
 go_wp2
 refine leaves_cons (f:=73) (args:=#[.pointer (some (q0 w.heap.size)),.pointer (some (q0 (w.heap.size+1)))]) (by simp) (by simp[go_sem]) ?_
 refine(ZX (q0 w.heap.size) (q0 (w.heap.size+1)) _).mono ?_
 rintro e u' w'' ⟨rfl,rfl,rfl⟩
 have h:=hR _ w' w5 hw hw5
 simp[Leaves,settle,results,Uf,go_sem,d3,d4,h]
abbrev G7 (w5:World) (n:Nat) (a:Int):World:=((w5.alloc (.cells #[.int .i64 a] 98)).setCell (q0 n) (.int .i64 a)).setCell (q0 (n+1)) (.int .i64 3)
theorem Two.al {w:World} {n:Nat} {x y:Value} (h:Two w n x y) (o:Obj):Two (w.alloc o) n x y:=by
 refine⟨?_,?_⟩
 ·show (w.heap.push o)[_]?=_
  rw[Array.getElem?_push,if_neg (by have:=lt_of_heap h.a;omega)];exact h.a
 ·show (w.heap.push o)[_]?=_
  rw[Array.getElem?_push,if_neg (by have:=lt_of_heap h.b;omega)];exact h.b
theorem ZF {c:FuncId} {vc:Array Value} {w:World} {s:ByteArray} {R1:Sl→World→Prop} {R2:World→World→Prop} {a:Int} {R:Ending→World→Prop} (hcf:∀(us:Array Value) (w:World),(callFunc c us).run Tryz.prog w=.ok (.enter c us) w)
  (h11:Calls Tryz.prog 11 #[.string s] (zD w) fun e w'=>∃x:Sl,e=.returned (.tuple #[nI x,.int .i64 0,.int .i64 0])∧R1 x w')
  (hk:∀x w',R1 x w'→Two w' w.heap.size (.int .i64 0) (.int .i64 0))
  (hc:∀x w',R1 x w'→Calls Tryz.prog c (#[.pointer (some (Iu w'))]++vc) (nH w' w.heap.size (nI x) s.size) fun e w5=>e=.panicked (lQ (mkV a))∧R2 w' w5)
  (hk2:∀x w' w5,R1 x w'→R2 w' w5→Two w5 w.heap.size (.int .i64 0) (.int .i64 0))
  (hR:∀x w' w5,R1 x w'→R2 w' w5→R (.returned (.tuple #[.int .i64 a,.int .i64 3])) (G7 w5 w.heap.size a)) :
  Calls Tryz.prog 35 #[.string s,.func (.func c) #[] vc] w R:=by
 have mixed:=follows
 have hmf:∀(fn:Fn) (first cap:Array Value) (w:World),(Instr.makeFunc fn first cap).run Tryz.prog w=.ok (.func fn first cap) w:=fun _ _ _ _=>rfl
 go_enter_defers Tryz.func35,(show Tryz.f35.ntmps=35 from rfl)
 go_wp2_with (go_at_call 11;refine h11.mono ?_;rintro e w' ⟨⟨p0,k0,cap0⟩,rfl,hw⟩;have T0:=hk _ w' hw;have c0:=T0.c0;have z0:=T0.z0;have T1:=T0.s0 (.int .i64 0);have c1:=T1.c1;have z1:=T1.z1;have T2:=T1.s1 (.int .i64 0);have c2:=T2.c0;have z2:=T2.z0;have c3:=T2.c1;have z3:=T2.z1;have hc:=hc _ w' hw;clear T0 T1 T2)
 refine hc.mono ?_
 rintro e w5 ⟨rfl,hw5⟩
 have T3:=(hk2 _ w' w5 hw hw5).al (.cells #[.int .i64 a] 98)
 have d1:=T3.c0;have y1:=T3.z0
 have T4:=T3.s0 (.int .i64 a)
 have d2:=T4.c1;have y2:=T4.z1
 have T5:=T4.s1 (.int .i64 3)
 have d3:=T5.c0;have d4:=T5.c1
 clear hc T3 T4 T5
 simp only[bodyPostD]
 refine leaves_cons (f:=73) (args:=#[.pointer (some (q0 w.heap.size)),.pointer (some (q0 (w.heap.size+1)))]) (by simp) (by simp[go_sem]) ?_
 refine(LC (q0 w.heap.size) (q0 (w.heap.size+1)) w5 a _ _ [] d1 y1 d2 y2).mono ?_
 rintro e u' w'' ⟨rfl,rfl,rfl⟩
 have h:=hR _ w' w5 hw hw5
 simp[Leaves,settle,results,Uf,go_sem,d3,d4,h]
theorem Xt {c:FuncId} {vc:Array Value} {w:World} {s:ByteArray} {R1:Sl→World→Prop} {R2 R3:World→World→Prop} {a:Int} {R:Ending→World→Prop} (hcf:∀(us:Array Value) (w:World),(callFunc c us).run Tryz.prog w=.ok (.enter c us) w)
  (h11:Calls Tryz.prog 11 #[.string s] (zD w) fun e w'=>∃x:Sl,e=.returned (.tuple #[nI x,.int .i64 0,.int .i64 0])∧R1 x w')
  (hk:∀x w',R1 x w'→Two w' w.heap.size (.int .i64 0) (.int .i64 0))
  (hc:∀x w',R1 x w'→Calls Tryz.prog c (#[.pointer (some (Iu w'))]++vc) (nH w' w.heap.size (nI x) s.size) fun e w5=>(∃v,e=.returned v)∧R2 w' w5)
  (hk2:∀x w' w5,R1 x w'→R2 w' w5→∃pp k cap,k≠0∧w5.cell? (Iu w')=some (.slice pp k cap))
  (RZ:∀x w' w5,R1 x w'→R2 w' w5→Calls Tryz.prog 74 #[.pointer (some (Iu w'))] w5 fun e w6=>e=.panicked (lQ (mkV a))∧R3 w' w6)
  (hk3:∀x w' w6,R1 x w'→R3 w' w6→Two w6 w.heap.size (.int .i64 0) (.int .i64 0))
  (hR:∀x w' w6,R1 x w'→R3 w' w6→R (.returned (.tuple #[.int .i64 a,.int .i64 3])) (G7 w6 w.heap.size a)) :
  Calls Tryz.prog 35 #[.string s,.func (.func c) #[] vc] w R:=by
 have mixed:=follows
 have hmf:∀(fn:Fn) (first cap:Array Value) (w:World),(Instr.makeFunc fn first cap).run Tryz.prog w=.ok (.func fn first cap) w:=fun _ _ _ _=>rfl
 go_enter_defers Tryz.func35,(show Tryz.f35.ntmps=35 from rfl)
 go_wp2_with (go_at_call 11;refine h11.mono ?_;rintro e w' ⟨⟨p0,k0,cap0⟩,rfl,hw⟩;have T0:=hk _ w' hw;have c0:=T0.c0;have z0:=T0.z0;have T1:=T0.s0 (.int .i64 0);have c1:=T1.c1;have z1:=T1.z1;have T2:=T1.s1 (.int .i64 0);have c2:=T2.c0;have z2:=T2.z0;have c3:=T2.c1;have z3:=T2.z1;have hc:=hc _ w' hw;clear T0 T1 T2)
 refine hc.mono ?_
 rintro e w5 ⟨⟨v,rfl⟩,hw5⟩
 obtain ⟨pp,k,cap,hk0,d0⟩:=hk2 _ w' w5 hw hw5
 have RZ:=RZ _ w' w5 hw hw5
 clear hc
 simp only[]
 go_at_K
 go_wp2_with (go_at_call 74;refine RZ.mono ?_;rintro e w6 ⟨rfl,hw6⟩)
 have T3:=(hk3 _ w' w6 hw hw6).al (.cells #[.int .i64 a] 98)
 have d1:=T3.c0;have y1:=T3.z0
 have T4:=T3.s0 (.int .i64 a)
 have d2:=T4.c1;have y2:=T4.z1
 have T5:=T4.s1 (.int .i64 3)
 have d3:=T5.c0;have d4:=T5.c1
 clear T3 T4 T5
 simp only[bodyPostD]
 refine leaves_cons (f:=73) (args:=#[.pointer (some (q0 w.heap.size)),.pointer (some (q0 (w.heap.size+1)))]) (by simp) (by simp[go_sem]) ?_
 refine(LC (q0 w.heap.size) (q0 (w.heap.size+1)) w6 a _ _ [] d1 y1 d2 y2).mono ?_
 rintro e u' w'' ⟨rfl,rfl,rfl⟩
 have h:=hR _ w' w6 hw hw6
 simp[Leaves,settle,results,Uf,go_sem,d3,d4,h]
end Go.Proofs
/- read: what it afN on,and what comes back. -/
set_option maxRecDepth 100000
namespace Go.Proofs
open Go Go.Ab Go.RowKit
variable {G:IH}
theorem jF {h:IH} {w:World} {b o:Nat} {v:Value} (hw:h.holds w) (hn:(∀o,h.cell b o=none)∧h.obj b=none):h.holds (w.setCell ⟨b,o,none⟩ v):=by
 have hb:∀k,k≠b→(w.setCell ⟨b,o,none⟩ v).heap[k]?=w.heap[k]?:=fun k hk=>by
  simp only[World.setCell,Array.getElem?_modify]
  rw[if_neg (fun e=>hk e.symm)]
 refine⟨fun k i u e=>?_,fun k u e=>?_⟩
 ·have hne:k≠b:=fun hh=>by subst hh;rw[hn.1] at e;cases e
  have:=hw.1 k i u e
  simp only[World.cell?] at this⊢
  rw[hb k hne];exact this
 ·have hne:k≠b:=fun hh=>by subst hh;rw[hn.2] at e;cases e
  rw[hb k hne];exact hw.2 k u e
abbrev pN:Nat:=1000001
abbrev oN:Nat:=1000000
def Ah (β:Nat→Nat) (bp:Nat):Fr:=⟨fun k=>k=blk β oN∨k=bp,upd β pN bp 66 0⟩
structure wo (h:IH) (w:World) (T:List Tk) (x:Sl) (h':IH) (w':World):Prop where
 ext:h.le h'
 holds:h'.holds w'
 kept:Kept (fun _=>False) (zD w) w'
 old:∀b,b<w.heap.size+2→(∀o,h'.cell b o=h.cell b o)∧h'.obj b=h.obj b
 rel:DV.rel h' (kJ T) (nI x)
theorem oq (w:World):(zD w).heap.size=w.heap.size+2:=by simp[zD]
theorem Yk (w:World):Two (zD w) w.heap.size (.int .i64 0) (.int .i64 0):=by
 refine⟨?_,?_⟩
 ·show ((w.heap.push _).push _)[_]?=_
  rw[Array.getElem?_push,if_neg (by simp),Array.getElem?_push,if_pos rfl]
 ·show ((w.heap.push _).push _)[_]?=_
  rw[Array.getElem?_push,if_pos (by simp)]
theorem wo.two {h:IH} {w:World} {T:List Tk} {x:Sl} {h':IH} {w':World} (r:wo h w T x h' w'):Two w' w.heap.size (.int .i64 0) (.int .i64 0):=by
 have t:=Yk w
 have hs:=oq w
 exact⟨by rw[r.kept.block _ (by omega) id];exact t.a,by rw[r.kept.block _ (by omega) id];exact t.b⟩
theorem wo.none {h:IH} {w:World} {T:List Tk} {x:Sl} {h':IH} {w':World} (hw:h.holds w) (r:wo h w T x h' w'):∀b,w.heap.size≤b→b<w.heap.size+2→(∀o,h'.cell b o=none)∧h'.obj b=none:=fun b h1 h2=>by
 have h3:=r.old b h2
 have h4:=holds_none hw h1
 exact⟨fun o=>(h3.1 o).trans (h4.1 o),h3.2.trans h4.2⟩
theorem vC (w':World) (n:Nat):(jL w' n 0 0).heap.size=w'.heap.size:=by simp[World.setCell]
theorem yw (w':World) (n:Nat) (a e:Int) (k:Nat) (h1:k≠n) (h2:k≠n+1):(jL w' n a e).heap[k]?=w'.heap[k]?:=by
 simp only[World.setCell,Array.getElem?_modify]
 rw[if_neg (fun e=>h2 e.symm),if_neg (fun e=>h1 e.symm)]
theorem SA {F:Fr} {w:World} {h:IH} {β:Nat→Nat} {us:Array Value} {s:ByteArray} {c:FuncId} {Lp:List DV} (hp:bg (Lp.map AV.d)=true)
  (g:aT G F w h ⟨[.d (ds s),.clo (.func c) [] [.box oN 0]],[(oN,Lp.map .d)]⟩ β h us w) {T:List Tk} {x:Sl} {h':IH} {w':World} (r:wo h w T x h' w') :
  aT G (Ah β w'.heap.size) (nH w' w.heap.size (nI x) s.size) h' ⟨[.box pN 0,.box oN 0],[(pN,pC T s.size),(oN,Lp.map .d)]⟩ (upd β pN w'.heap.size 66 0) h' #[.pointer (some (Iu w')),.pointer (some ⟨blk β oN,0,none⟩)] (nH w' w.heap.size (nI x) s.size):=by
 have hsz:=oq w
 have hk:=r.kept.size
 have hno:oN≠pN:=by decide
 obtain ⟨p1,p2⟩:=g.box oN _ rfl
 have hbl:blk β oN<w.heap.size:=Own.lt (Live.plain hp) p2
 have h0:=r.none g.holds
 have hholds:h'.holds (nH w' w.heap.size (nI x) s.size):=lN (jF (jF r.holds (h0 _ (Nat.le_refl _) (by omega))) (h0 _ (by omega) (by omega))) _
 have hlook:∀t l,Go.Ab.look [(pN,pC T s.size),(oN,Lp.map AV.d)] t=some l→(t=pN∧l=pC T s.size)∨(t=oN∧l=Lp.map AV.d):=by
  intro t l hl
  by_cases h1:t=pN
  ·subst h1
   have hl2:some (pC T s.size)=some l:=hl
   exact .inl ⟨rfl,(Option.some.inj hl2).symm⟩
  ·by_cases h2:t=oN
   ·subst h2
    have hl2:some (Lp.map AV.d)=some l:=hl
    exact .inr ⟨rfl,(Option.some.inj hl2).symm⟩
   ·rw[Go.Ab.look,bI (Ne.symm h1),cond_false,Go.Ab.look,bI (Ne.symm h2),cond_false,Go.Ab.look] at hl
    cases hl
 have hsize:(jL w' w.heap.size 0 0).heap.size=w'.heap.size:=vC _ _
 refine⟨g.glob.trans r.ext,hholds,IH.le.refl _,fun _ _ _=>⟨fun _=>rfl,rfl⟩,Kept.refl _ _,fun _ _=>⟨rfl,rfl,rfl⟩,rfl,fun t y hy=>?_,fun t l hl=>?_,fun t t' l l' hl hl' _ _ he=>?_⟩
 ·rcases t with _|_|t
  ·obtain rfl:AV.box pN 0=y:=by simpa using hy
   exact⟨_,rfl,(show Value.pointer (some (Iu w'))=.pointer (some ⟨blk (upd β pN w'.heap.size 66 0) pN,0,none⟩) by rw[dJ])⟩
  ·obtain rfl:AV.box oN 0=y:=by simpa using hy
   exact⟨_,rfl,(show Value.pointer (some ⟨blk β oN,0,none⟩)=.pointer (some ⟨blk (upd β pN w'.heap.size 66 0) oN,0,none⟩) by rw[dA hno])⟩
  ·simp at hy
 ·rcases hlook t l hl with ⟨rfl,rfl⟩|⟨rfl,rfl⟩
  ·rw[dJ]
   refine⟨fun _=>⟨.inl (.inr rfl),holds_none r.holds (Nat.le_refl _)⟩,?_⟩
   rw[Own.plain (by rfl)]
   refine⟨⟨66,by rw[bW]⟩,[nI x,.int .i64 s.size],?_,_,_,rfl,r.rel,_,_,rfl,rfl,rfl⟩
   show ((jL w' w.heap.size 0 0).heap.push _)[_]?=_
   rw[Array.getElem?_push,if_pos (by rw[hsize])]
  ·rw[dA hno]
   have hb2:(nH w' w.heap.size (nI x) s.size).heap[blk β oN]?=w.heap[blk β oN]?:=by
    show ((jL w' w.heap.size 0 0).heap.push _)[_]?=_
    rw[Array.getElem?_push,if_neg (by rw[hsize];omega),yw w' w.heap.size 0 0 _ (by omega) (by omega),r.kept.block _ (by omega) id]
    show ((w.heap.push _).push _)[_]?=_
    rw[Array.getElem?_push_lt (by simp;omega),Array.getElem_push_lt hbl,Array.getElem?_eq_getElem hbl]
   have h3:=r.old (blk β oN) (by omega)
   obtain ⟨_,p3⟩:=p1 (Live.plain hp)
   refine⟨fun _=>⟨.inl (.inl rfl),fun o=>(h3.1 o).trans (p3.1 o),h3.2.trans p3.2⟩,?_⟩
   refine Own.upd hno ?_ (Own.mono r.ext (by rw[hb2];exact p2))
   clear hlook hl hp p1 p2 g
   induction Lp with
   | nil=>rfl
   | cons d l ih=>simp only[List.map_cons,AV.frees,AV.free,Bool.true_and];exact ih
 ·rcases hlook t l hl with ⟨rfl,rfl⟩|⟨rfl,rfl⟩<;>rcases hlook t' l' hl' with ⟨rfl,rfl⟩|⟨rfl,rfl⟩
  ·rfl
  ·rw[dJ,dA hno] at he;omega
  ·rw[dJ,dA hno] at he;omega
  ·rfl
theorem Jg {F:Fr} {w:World} {h:IH} {β:Nat→Nat} {us:Array Value} {st:AS}
  (g:aT G F w h st β h us w) {T:List Tk} {x:Sl} {h':IH} {w':World} (r:wo h w T x h' w') {len:Nat} (hbl:blk β oN<w.heap.size)
  {Y:AS} {β1:Nat→Nat} {h1:IH} {tm:Array Value} {w5:World} (g1:aT G (Ah β w'.heap.size) (nH w' w.heap.size (nI x) len) h' Y β1 h1 tm w5) :
  ∀k,w.heap.size≤k→k<w.heap.size+2→(∀o,h1.cell k o=none)∧h1.obj k=none:=fun k k1 k2=>by
 have hsz:=oq w
 have hk:=r.kept.size
 have TS:(nH w' w.heap.size (nI x) len).heap.size=w'.heap.size+1:=by
  show ((jL w' w.heap.size 0 0).heap.push _).size=_
  rw[Array.size_push,vC]
 have q:=g1.old k (by omega) fun hh=>by
  have hh:k=blk β oN∨k=w'.heap.size:=hh
  rcases hh with e|e<;>omega
 have q2:=r.none g.holds k k1 k2
 exact⟨fun o=>(q.1 o).trans (q2.1 o),q.2.trans q2.2⟩
theorem Oh {w:World} {h:IH} {β:Nat→Nat} {T:List Tk} {x:Sl} {h':IH} {w':World} (r:wo h w T x h' w') {len:Nat} (hbl:blk β oN<w.heap.size)
  {Y:AS} {β1:Nat→Nat} {h1:IH} {tm:Array Value} {w5:World} (g1:aT G (Ah β w'.heap.size) (nH w' w.heap.size (nI x) len) h' Y β1 h1 tm w5):Two w5 w.heap.size (.int .i64 0) (.int .i64 0):=by
 have hsz:=oq w
 have hk:=r.kept.size
 have TS:(nH w' w.heap.size (nI x) len).heap.size=w'.heap.size+1:=by
  show ((jL w' w.heap.size 0 0).heap.push _).size=_
  rw[Array.size_push,vC]
 have t2:Two (nH w' w.heap.size (nI x) len) w.heap.size (.int .i64 0) (.int .i64 0):=((r.two.s0 (.int .i64 0)).s1 (.int .i64 0)).al _
 have hno:∀k,w.heap.size≤k→k<w.heap.size+2→¬(Ah β w'.heap.size).on k:=fun k k1 k2 hh=>by
  have hh:k=blk β oN∨k=w'.heap.size:=hh
  rcases hh with e|e<;>omega
 exact⟨by rw[g1.kept.block _ (by omega) (hno _ (Nat.le_refl _) (by omega))];exact t2.a,by rw[g1.kept.block _ (by omega) (hno _ (by omega) (by omega))];exact t2.b⟩
theorem OX {F:Fr} {w:World} {h:IH} {β:Nat→Nat} {us:Array Value} {s:ByteArray} {c:FuncId} {Lp:List DV} (hp:bg (Lp.map AV.d)=true)
  (g:aT G F w h ⟨[.d (ds s),.clo (.func c) [] [.box oN 0]],[(oN,Lp.map .d)]⟩ β h us w) {T:List Tk} {x:Sl} {h':IH} {w':World} (r:wo h w T x h' w')
  {Y:List AV} {Ul post:List (Nat×List AV)} {β1:Nat→Nat} {h1:IH} {tm:Array Value} {w5:World} (g1:aT G (Ah β w'.heap.size) (nH w' w.heap.size (nI x) s.size) h' ⟨Y,Ul⟩ β1 h1 tm w5)
  (hsub:∀t l,Go.Ab.look post t=some l→Go.Ab.look Ul t=some l∧t≠pN∧AV.frees pN l=true) {W6:World} {h6:IH} (hx:h1.le h6) (hh6:h6.holds W6) (h6o:∀b,b<w5.heap.size→b≠w'.heap.size→(∀o,h6.cell b o=h1.cell b o)∧h6.obj b=h1.obj b) (hpN:∃l0,Go.Ab.look Ul pN=some l0∧bg l0=true) (hw:W6.os=w5.os∧W6.tape=w5.tape∧W6.output=w5.output∧w5.heap.size≤W6.heap.size)
  (hb:∀k,k<w5.heap.size→k≠w.heap.size→k≠w.heap.size+1→k≠w'.heap.size→W6.heap[k]?=w5.heap[k]?) (a b:Int) :
  aT G F w h ⟨[.d (.ak [di a,di b])],post⟩ (upd β1 pN (blk β pN) (room β pN) (many β pN)) h6 #[.tuple #[.int .i64 a,.int .i64 b]] W6:=by
 have hsz:=oq w
 have hk:=r.kept.size
 obtain ⟨p1,p2⟩:=g.box oN _ rfl
 have hbl:blk β oN<w.heap.size:=Own.lt (Live.plain hp) p2
 have hon:F.on (blk β oN):=((p1 (Live.plain hp)).1).resolve_right (by omega)
 have TS:(nH w' w.heap.size (nI x) s.size).heap.size=w'.heap.size+1:=by
  show ((jL w' w.heap.size 0 0).heap.push _).size=_
  rw[Array.size_push,vC]
 have hF:∀k,(Ah β w'.heap.size).on k→k=blk β oN∨k=w'.heap.size:=fun k hk=>hk
 have hbp:blk β1 pN=w'.heap.size:=by rw[(g1.fix pN (by decide)).1];exact dJ
 have hk1:=g1.kept
 have afQ:=hk1.size
 have hold:∀k,k<w.heap.size→(nH w' w.heap.size (nI x) s.size).heap[k]?=w.heap[k]?:=fun k hk=>by
  show ((jL w' w.heap.size 0 0).heap.push _)[_]?=_
  rw[Array.getElem?_push,if_neg (by rw[vC];omega),yw w' w.heap.size 0 0 _ (by omega) (by omega),r.kept.block _ (by omega) id]
  show ((w.heap.push _).push _)[_]?=_
  rw[Array.getElem?_push_lt (by simp;omega),Array.getElem_push_lt hk,Array.getElem?_eq_getElem hk]
 refine⟨g1.glob.trans hx,hh6,(r.ext.trans g1.ext).trans hx,fun k hk hnF=>?_,?_,fun t ht=>?_,rfl,fun t z hz=>?_,fun t l hl=>?_,fun t t' l l' hl hl' k1 k2 he=>?_⟩
 ·have q:=g1.old k (by omega) fun hh=>by
   rcases hF k hh with e|e
   ·exact hnF (e▸hon)
   ·omega
  have q2:=r.old k (by omega)
  have q3:=h6o k (by omega) (by omega)
  exact⟨fun o=>(q3.1 o).trans ((q.1 o).trans (q2.1 o)),q3.2.trans (q.2.trans q2.2)⟩
 ·refine⟨?_,?_,?_,by omega,fun k hk' hnF=>?_⟩
  ·rw[hw.1,hk1.os];exact r.kept.os
  ·rw[hw.2.1,hk1.tape];exact r.kept.tape
  ·rw[hw.2.2.1,hk1.output];exact r.kept.output
  ·rw[hb k (by omega) (by omega) (by omega) (by omega),hk1.block k (by omega) (fun hh=>by
    rcases hF k hh with e|e
    ·exact hnF (e▸hon)
    ·omega),hold k hk']
 ·have q:=g1.fix t ht
  have q2:=g.fix t ht
  by_cases hp':t=pN
  ·subst hp'
   rw[dJ,bW,dL];exact q2
  ·rw[dA hp',gU hp',lI hp']
   have e1:blk (Ah β w'.heap.size).β0 t=blk β t:=dA hp'
   have e2:room (Ah β w'.heap.size).β0 t=room β t:=gU hp'
   have e3:many (Ah β w'.heap.size).β0 t=many β t:=lI hp'
   rw[q.1,q.2.1,q.2.2,e1,e2,e3];exact q2
 ·cases t with
  | zero=>
   obtain rfl:AV.d (.ak [di a,di b])=z:=by simpa using hz
   exact⟨_,rfl,[.int .i64 a,.int .i64 b],rfl,_,_,rfl,rfl,_,_,rfl,rfl,rfl⟩
  | succ t=>simp at hz
 ·obtain ⟨hl0,htp,hfr⟩:=hsub t l hl
  obtain ⟨q1,q2⟩:=g1.box t l hl0
  have QT:Live (upd β1 pN (blk β pN) (room β pN) (many β pN)) t l→Live β1 t l:=fun hL=>by
   unfold Live at hL⊢
   split at hL
   ·rwa [gU htp] at hL
   ·exact hL
   ·trivial
  rw[dA htp]
  have hnp:Live β1 t l→blk β1 t≠w'.heap.size:=fun hL e=>by
   obtain ⟨l0,hl00,hpl0⟩:=hpN
   exact htp (g1.inj t pN l l0 hl0 hl00 hL (Live.plain hpl0) (by rw[e,hbp]))
  refine⟨fun hL=>?_,?_⟩
  ·obtain ⟨u1,u2⟩:=q1 (QT hL)
   have hlt:=Own.lt (QT hL) q2
   have q3:=h6o _ hlt (hnp (QT hL))
   refine⟨?_,fun o=>(q3.1 o).trans (u2.1 o),q3.2.trans u2.2⟩
   rcases u1 with u1|u1
   ·rcases hF _ u1 with e|e
    ·exact .inl (e▸hon)
    ·exact .inr (by omega)
   ·exact .inr (by omega)
  ·refine Own.upd htp hfr (Own.move (fun hL=>?_) hx q2)
   have hlt:=Own.lt hL q2
   have hne:∀m,w.heap.size≤m→m<w.heap.size+2→blk β1 t≠m:=fun m m1 m2 e=>by
    rcases (q1 hL).1 with u1|u1
    ·rcases hF _ u1 with e|e<;>omega
    ·omega
   exact hb _ hlt (hne _ (Nat.le_refl _) (by omega)) (hne _ (by omega) (by omega)) (hnp hL)
 ·obtain ⟨a1,a2,a3⟩:=hsub t l hl
  obtain ⟨b1,b2,b3⟩:=hsub t' l' hl'
  have QT:∀t l,t≠pN→Live (upd β1 pN (blk β pN) (room β pN) (many β pN)) t l→Live β1 t l:=fun t l htp hL=>by
   unfold Live at hL⊢
   split at hL
   ·rwa [gU htp] at hL
   ·exact hL
   ·trivial
  rw[dA a2,dA b2] at he
  exact g1.inj t t' l l' a1 b1 (QT t l a2 k1) (QT t' l' b2 k2) he
end Go.Proofs
/- read: its contracts. -/
set_option maxRecDepth 100000
namespace Go.Proofs
open Go Go.Ab Go.RowKit
variable {G:IH}
theorem AU {w:World} {h:IH} (hG:G.le h) (hw:h.holds w) (s:ByteArray) (hs:s.size≤900000) {T:List Tk} {a e:Int} (hW:bG s=(T,a,e)) :
  Calls Tryz.prog 11 #[.string s] (zD w) fun e' w'=>∃x:Sl,e'=.returned (.tuple #[nI x,.int .i64 a,.int .i64 e])∧∃h',wo h w T x h' w':=by
 refine((f11 (G:=G) s hs).2 (zD w) h [.string s] hG (lN (lN hw _) _) ⟨_,_,rfl,rfl,rfl⟩).mono ?_
 rintro e' w' ⟨v,h',rfl,hv,h1,h2,h3,h4⟩
 rw[hW] at hv
 obtain ⟨us,rfl,v1,u1,rfl,q1,v2,u2,rfl,q2,v3,u3,rfl,q3,q4⟩:=hv
 have q2:v2=.int .i64 a:=q2
 have q3:v3=.int .i64 e:=q3
 have q4:u3=[]:=q4
 subst q2;subst q3;subst q4
 obtain ⟨p,cap,e1,_⟩:=id q1
 exact⟨(p,T.length,cap),by rw[e1],h',h1,h2,h3,fun b hb=>h4 b (by rw[oq];exact hb),by rw[e1] at q1;exact q1⟩
theorem ML {F:Fr} {w:World} {h:IH} {β:Nat→Nat} {us:Array Value} {s:ByteArray} {c:FuncId} {bx:List (Nat×List AV)}
  (g:aT G F w h ⟨[.d (ds s),.clo (.func c) [] [.box oN 0]],bx⟩ β h us w):us=#[.string s,.func (.func c) #[] #[.pointer (some ⟨blk β oN,0,none⟩)]]:=by
 have hs:us.size=2:=g.size
 obtain ⟨v0,e0,r0⟩:=g.regs 0 _ rfl
 obtain ⟨v1,e1,va,vc,rfl,hva,wJ⟩:=g.regs 1 _ rfl
 have r0:v0=.string s:=r0
 have hva:va=[]:=hva
 obtain ⟨u,vs',rfl,hu,hn⟩:=wJ
 have hu:u=.pointer (some ⟨blk β oN,0,none⟩):=hu
 have hn:vs'=[]:=hn
 subst r0;subst hva;subst hu;subst hn
 apply Array.ext
 ·simpa using hs
 ·intro i h1 h2
  rcases i with _|_|i
  ·simpa using (Array.getElem?_eq_some_iff.1 e0).2
  ·simpa using (Array.getElem?_eq_some_iff.1 e1).2
  ·simp at h2;omega
def noP (post:List (Nat×List AV)):Bool:=post.all fun b=>!(Nat.beq b.1 pN)&&AV.frees pN b.2
theorem PD:∀{post:List (Nat×List AV)} {s:Nat} {l:List AV},noP post=true→Go.Ab.look post s=some l→s≠pN∧AV.frees pN l=true
 | [],_,_,_,h=>by cases h
 | (t,c) :: post,s,l,hn,h=>by
  unfold noP at hn
  simp only[List.all_cons,aV] at hn
  simp only[Go.Ab.look] at h
  cases hb:Nat.beq t s with
  | true=>
   rw[hb,cond_true] at h
   injection h with h
   subst h
   have hts:=Nat.eq_of_beq_eq_true hb
   refine⟨fun e=>?_,hn.1.2⟩
   rw[hts,e] at hn
   simp at hn
  | false=>
   rw[hb,cond_false] at h
   exact PD (post:=post) hn.2 h
theorem OW {t s:Nat} {c:List AV} {post:List (Nat×List AV)} (h:s≠t):Go.Ab.look ((t,c) :: post) s=Go.Ab.look post s:=by
 simp only[Go.Ab.look,bI (Ne.symm h),cond_false]
theorem V4 (w5:World) (n:Nat) (a e:Int):((jL w5 n a e).os=w5.os∧(jL w5 n a e).tape=w5.tape∧(jL w5 n a e).output=w5.output∧w5.heap.size≤(jL w5 n a e).heap.size):=⟨rfl,rfl,rfl,by simp[World.setCell]⟩
theorem Vr {c:FuncId} {s:ByteArray} (hs:s.size≤900000) {T:List Tk} (hW:bG s=(T,0,0)) {Lp:List DV} (hp:bg (Lp.map AV.d)=true) {post:List (Nat×List AV)} {rr:AV} (hpost:noP post=true)
  (hc:aA Tryz.prog G c [.box pN 0,.box oN 0] [(pN,pC T s.size),(oN,Lp.map .d)] rr ((pN,pC [] s.size) :: post)) :
  aA Tryz.prog G 35 [.d (ds s),.clo (.func c) [] [.box oN 0]] [(oN,Lp.map .d)] (.d (.ak [di 0,di 0])) post:=by
 refine⟨Tryz.call35,fun F w h β us g=>?_⟩
 obtain rfl:=ML g
 have hbl:blk β oN<w.heap.size:=Own.lt (Live.plain hp) (g.box oN _ rfl).2
 refine abE (R1:=fun x w'=>∃h',wo h w T x h' w') (R2:=fun w' w5=>∃x h' v β1 h1,wo h w T x h' w'∧aT G (Ah β w'.heap.size) (nH w' w.heap.size (nI x) s.size) h' ⟨[rr],(pN,pC [] s.size) :: post⟩ β1 h1 #[v] w5) hc.1 (AU g.glob g.holds s hs hW) (fun x w' ⟨h',r⟩=>r.two) (fun x w' ⟨h',r⟩=>?_) (fun x w' w5 ⟨h',r⟩ ⟨x2,h2,v,β1,h1,r2,g1⟩=>?_) (fun x w' w5 ⟨h',r⟩ ⟨x2,h2,v,β1,h1,r2,g1⟩=>?_)
 ·refine(hc.2 _ _ _ _ _ (SA hp g r)).mono ?_
  rintro e w5 ⟨v,β1,h1,rfl,g1⟩
  exact⟨⟨v,rfl⟩,x,h',v,β1,h1,r,g1⟩
 ·refine⟨Oh r2 hbl g1,?_⟩
  have hbp:blk β1 pN=w'.heap.size:=by rw[(g1.fix pN (by decide)).1];exact dJ
  have hO:=(g1.box pN _ rfl).2
  rw[Own.plain (by rfl)] at hO
  obtain ⟨Ty,vs,e1,v1,u1,rfl,q1,v2,u2,rfl,q2,q3⟩:=hO
  obtain ⟨p,cap,rfl,_⟩:=q1
  rw[hbp] at e1
  exact⟨p,cap,by simp[World.cell?,e1]⟩
 ·have hn:=Jg g r2 hbl g1
  have hb:∀k,k≠w.heap.size→k≠w.heap.size+1→(jL w5 w.heap.size 0 0).heap[k]?=w5.heap[k]?:=fun k h1 h2=>yw _ _ _ _ _ h1 h2
  refine⟨_,_,h1,rfl,OX hp g r2 g1 (fun t l hl=>?_) (IH.le.refl _) (jF (jF g1.holds (hn _ (Nat.le_refl _) (by omega))) (hn _ (by omega) (by omega))) (fun _ _ _=>⟨fun _=>rfl,rfl⟩) ⟨_,rfl,rfl⟩ (V4 w5 _ 0 0) (fun k _ h1 h2 _=>hb k h1 h2) 0 0⟩
  obtain ⟨q1,q2⟩:=PD hpost hl
  exact⟨by rw[OW q1];exact hl,q1,q2⟩
end Go.Proofs
/- Rules leave words of the text. -/
namespace Go.Proofs
theorem Rz (kd:Int) (nm gr:ByteArray) (pos:Int) (am wh:Ex) (t:List Tk):jm (Cc kd nm gr pos am wh t) <:+ t:=by
 unfold Cc;split
 ·exact List.tail_suffix t
 ·exact List.suffix_refl _
theorem aap (kd:Int) (nm gr:ByteArray) (pos:Int) (am:Ex) (t:List Tk):jm (DJ kd nm gr pos am t) <:+ t:=by
 have h:=oQ (.lvl 0) t.tail
 unfold DJ;split
 ·cases e:pr (.lvl 0) t.tail with
  | ok wh r=>
   rw[e] at h;simp only[aQ] at h
   exact(Rz kd nm gr pos am wh r).trans (h.trans (List.tail_suffix t))
  | bad r=>rw[e] at h;simp only[aQ] at h;exact h.trans (List.tail_suffix t)
 ·exact Rz _ _ _ _ _ _ _
theorem RS (kd:Int) (nm gr:ByteArray) (pos:Int) (t:List Tk):jm (BZ kd nm gr pos t) <:+ t:=by
 have h:=oQ (.lvl 0) t.tail
 unfold BZ;split
 ·cases e:pr (.lvl 0) t.tail with
  | ok am r=>
   rw[e] at h;simp only[aQ] at h
   exact(aap kd nm gr pos am r).trans (h.trans (List.tail_suffix t))
  | bad r=>rw[e] at h;simp only[aQ] at h;exact h.trans (List.tail_suffix t)
 ·exact List.suffix_refl _
theorem Z5 (kd:Int) (nm:ByteArray) (pos:Int) (t:List Tk):jm (Ef kd nm pos t) <:+ t:=by
 unfold Ef;split
 ·split
  ·exact(RS kd nm _ pos t.tail.tail).trans ((List.tail_suffix _).trans (List.tail_suffix t))
  ·exact List.tail_suffix t
 ·exact RS _ _ _ _ _
theorem Ac (t:List Tk):jm (jg t) <:+ t:=by
 unfold jg;split
 ·split
  ·exact(Z5 _ _ _ t.tail.tail).trans ((List.tail_suffix _).trans (List.tail_suffix t))
  ·exact List.tail_suffix t
 ·exact List.suffix_refl _
def Ps.app (L:List Rl):Ps→Ps
 | .ok l=>.ok (L++l)
 | .bad r=>.bad r
theorem Ps.ET:∀p:Ps,p.app []=p
 | .ok _=>rfl
 | .bad _=>rfl
theorem Ps.uV (L:List Rl) (x:Rl):∀p:Ps,(p.cons x).app L=p.app (L++[x])
 | .ok l=>by simp[Ps.cons,Ps.app]
 | .bad _=>rfl
theorem Ej {t:List Tk} {x:Rl} {r:List Tk} (h:jg t=.ok x r):oL t=(oL r).cons x:=by
 have hne:t≠[]:=by rintro rfl;have:=rE h;simp at this
 rw[NY hne,h]
theorem zY {t:List Tk} (hne:t≠[]) {r:List Tk} (h:jg t=.bad r):oL t=.bad r:=by
 rw[NY hne,h]
end Go.Proofs
/- The parser,the program's side: several rules. -/
namespace Go.Proofs
open Go Go.Ab Go.RowKit
set_option maxHeartbeats 4000000
set_option maxRecDepth 100000
variable {G:IH}
abbrev CU:RK:=⟨true,68,false,none⟩
noncomputable def WQ (e:Int) (x:List Rl×List Tk):AS:=⟨regs Tryz.f36.ntmps [(0,.box pN 0),(1,.box oN 0)],[(pN,pC x.2 e),(oN,[.vec 900 16 0 x.1.length]),(900,[.arr CU 16 (kT x.1)])]⟩
noncomputable def mRs (x:Rl) (r:List Tk) (e:Int):FuncId→List AV→List (Nat×List AV)→Option (AV×List (Nat×List AV)):=fun f _ _=>match f with
 | 37=>some (.d (lg x),pB r e)
 | _=>none
noncomputable def EX (x:Rl) (r:List Tk) (e:Int):dK:={ d:=fun _ _=>none,m:=mRs x r e }
abbrev D5:AV:=.d (.con (.slice none 0 0))
theorem Nl {Q:Exit→AS→Prop} (t:List Tk) (e:Int) (k:aK Tryz.prog G [.code (aY (aC Tryz.f36) [0]),.blk 0] (WQ e ([],t)) Q) :
  aK Tryz.prog G [.code (aC Tryz.f36)] (jV [.box pN 0,.box oN 0] [(pN,pC t e),(oN,[D5])] Tryz.f36.ntmps) Q:=by
 refine aF (aj:=EX aU [] e) (keep:=[]) (cuts:=[]) (n:=1000) follows ?_
 refine au (fun ZT ZW ZQ _=>ZW [cd Tryz.f36 [0],(.blk 0)] (aB ZT []) ZQ) (by kernel_rfl) ?_
 refine aK.pre (.Ar _ oN 0 900 16 CU (kT []) (by kernel_rfl) (by kernel_rfl)) ?_
 refine aK.weaken ?_ k
 exact AS.bV (by kernel_rfl)
theorem Nz {Q:Exit→AS→Prop} {I:List Rl×List Tk→Prop} (e:Int) (L:List Rl) (t r:List Tk) (y:Rl) (hy:jg t=.ok y r) (hl:t.length≤100000) (hS:gB t) (hL:L.length≤1000000) (hI:I (L++[y],r)) :
  aK Tryz.prog G [.code (aY (aC Tryz.f36) [0,0])] (WQ e (L,t)) (nR Tryz.prog G [.blk 0] Q (WQ e) I (fun x=>x.2.length) (L,t)):=by
 have h:=f37 (G:=G) t e hl hS
 rw[hy] at h
 have hlt:=rE hy
 refine aF (aj:=EX y r e) (keep:=[]) (cuts:=[]) (n:=1000) follows ?_
 refine bZ (fun ZT ZW _ _ ZA _=>((((decide ((↑t.length:Int)>0))=true)→((aA Tryz.prog G 37 [(.box 1000000 0)] [(1000000,[(.d (.slc 2 t.length (aG t))),(vi e)])] (.d (lg y)) [(1000000,[(.d (.slc 2 r.length (aG r))),(vi e)])]∧(((L.length+1)*192≤1099511627776)∧(L.length+1≤1099511627776))∧(∀(i:Nat),i<1→lC true 16 (aS true 16 [di y.kind,ds y.nm,ds y.gr,di y.am.k,ds y.am.s,di y.am.n,di y.am.d,di y.am.pos,DV.slc 6 y.am.kids.length (lay (cu y.ma) y.am.kids),di y.wh.k,ds y.wh.s,di y.wh.n,di y.wh.d,di y.wh.pos,DV.slc 6 y.wh.kids.length (lay (cu y.mw) y.wh.kids),di y.pos] i)=true))∧(ZA (aB ZT [0]))))∧(((decide ((↑t.length:Int)>0))=false)→ZW [] (aB ZT [1]) Q))) (by kernel_rfl) ?_
 refine⟨fun _=>⟨⟨h,⟨by omega,by omega⟩,fun i hi=>?_⟩,?_⟩,fun c=>?_⟩
 ·obtain rfl:i=0:=by omega
  rfl
 ·refine⟨(L++[y],r),(AS.dZ.moves [(13,900)] _ rfl).trans ((AS.dZ.rowB _ oN 0 900 (L.length+1) (l:=[.vec 900 16 0 (L.length+1)]) (agg:=CU) (sz:=16) (f:=fun i=>bif Nat.blt i L.length then kT L i else aS true 16 [di y.kind,ds y.nm,ds y.gr,di y.am.k,ds y.am.s,di y.am.n,di y.am.d,di y.am.pos,.slc 6 y.am.kids.length (lay (cu y.ma) y.am.kids),di y.wh.k,ds y.wh.s,di y.wh.n,di y.wh.d,di y.wh.pos,.slc 6 y.wh.kids.length (lay (cu y.mw) y.wh.kids),di y.pos] (i-L.length)) (kT (L++[y])) (by kernel_rfl) (by kernel_rfl) (by kernel_rfl) (by kernel_rfl) (by kernel_rfl) (by kernel_rfl) rfl (by kernel_rfl) (fun i hi=>?_)).trans (.of_le ?_)),hI,hlt⟩
  ·unfold kT
   rcases Nat.lt_or_ge i L.length with h4|h4
   ·rw[show Nat.blt i L.length=true from by rw[Nat.blt_eq];exact h4,tq h4];rfl
   ·obtain rfl:i=L.length:=by omega
    rw[show Nat.blt L.length L.length=false from by rw[Bool.eq_false_iff,ne_eq,Nat.blt_eq];omega,tJ (Nat.le_refl _),Nat.sub_self];rfl
  ·refine AS.leZ [] [1] (b:=((T0∧T0∧True)∧T0∧((some [(.vec 900 16 0 (L.length+1))]):(Option (List AV)))=(some [(.vec 900 16 0 (L++[y]).length)])∧T0∧True)) (by kernel_rfl) (by kernel_rfl) ?_
   rw[show (L++[y]).length=L.length+1 by simp]
   exact⟨⟨rfl,rfl,trivial⟩,rfl,rfl,rfl,trivial⟩
 ·simp only[decide_eq_false_iff_not] at c;omega
theorem acZ (t:List Tk) (e:Int) (hl:t.length≤100000) (hS:gB t) (R:List Rl) (hp:oL t=.ok R) :
  aA Tryz.prog G 36 [.box pN 0,.box oN 0] [(pN,pC t e),(oN,[D5])] (.d (.ak [])) [(pN,pC [] e),(oN,[.d (jZ R)])]:=by
 refine aA.aP (mv:=[]) (by kernel_rfl) Tryz.func36 rfl Tryz.call36 ?_
 refine Nl t e ?_
 refine aK.loop (c:=aY (aC Tryz.f36) [0,0]) (by kernel_rfl) (WQ e) (fun x=>x.1.length+x.2.length≤100000∧gB x.2∧(oL x.2).app x.1=.ok R) (fun x=>x.2.length) ([],t) (by refine AS.leZ [] [] (b:=((T0∧T0∧True)∧T0∧T0∧T0∧True)) (by kernel_rfl) (by kernel_rfl) ?_;exact⟨⟨rfl,rfl,trivial⟩,rfl,rfl,rfl,trivial⟩) ⟨by simpa using hl,hS,by rw[hp];rfl⟩ ?_
 rintro ⟨L,s⟩ ⟨h1,h2,h3⟩
 dsimp only at h1 h2 h3
 by_cases hs:s=[]
 ·subst hs
  have h3:L=R:=by
   have:Ps.ok (L++[])=.ok R:=h3
   rw[List.append_nil] at this
   injection this
  subst h3
  refine aF (aj:=EX aU [] e) (keep:=[]) (cuts:=[]) (n:=1000) follows ?_
  refine bZ (fun ZT ZW ZQ _ ZA _=>(((false=true)→((aA Tryz.prog G 37 [(.box 1000000 0)] [(1000000,[(.d (.slc 2 0 (aG []))),(vi e)])] (.d (.agg [(di 0),(ds ByteArray.empty),(ds ByteArray.empty),(di 0),(ds aJ.s),(di 0),(di 0),(di 0),(.slc 6 0 (lay (cu 0) aJ.kids)),(di 0),(ds aJ.s),(di 0),(di 0),(di 0),(.slc 6 0 (lay (cu 0) aJ.kids)),(di 0)])) [(1000000,[(.d (.slc 2 0 (aG []))),(vi e)])]∧(((L.length+1)*192≤1099511627776)∧(L.length+1≤1099511627776))∧(∀(i:Nat),i<1→lC true 16 (aS true 16 [di 0,ds ByteArray.empty,ds ByteArray.empty,di 0,ds aJ.s,di 0,di 0,di 0,DV.slc 6 0 (lay (cu 0) aJ.kids),di 0,ds aJ.s,di 0,di 0,di 0,DV.slc 6 0 (lay (cu 0) aJ.kids),di 0] i)=true))∧(ZA (aB ZT [0]))))∧((false=false)→ZW [] (aB ZT [1]) ZQ))) (by kernel_rfl) ?_
  refine⟨fun c=>(by cases c),fun _=>?_⟩
  refine aK.freeze 900 (agg:=CU) (sz:=16) (f:=kT L) (by kernel_rfl) ?_
  refine aF (aj:=EX aU [] e) (keep:=[]) (cuts:=[]) (n:=1000) follows ?_
  refine au (fun _ _ _ _=>((ZS ((.d (.ak [])):AV))∧((some [(.d (.slc 2 0 (aG []))),(vi e)]):(Option (List AV)))=(some [(.d (.slc 2 0 (aG []))),(vi e)])∧((some [(.d (.slc 16 L.length (fun i=>kT L (0+i))))]):(Option (List AV)))=(some [(.d (.slc 16 L.length (kT L)))])∧True)) (by kernel_rfl) ?_
  have e1:(fun i=>kT L (0+i))=kT L:=funext fun i=>by rw[Nat.zero_add]
  rw[e1]
  exact⟨rfl,rfl,rfl,trivial⟩
 ·cases hq:jg s with
  | ok y r=>
   have hlt:=rE hq
   have hsf:=Ac s
   rw[hq] at hsf
   refine Nz e L s r y hq (by omega) h2 (by omega) ⟨?_,h2.suf hsf,?_⟩
   ·simp only[List.length_append,List.length_singleton];omega
   ·rw[Ej hq,Ps.uV] at h3;exact h3
  | bad r=>rw[zY hs hq] at h3;cases h3
theorem aaP (t:List Tk) (e:Int) (hl:t.length≤100000) (hS:gB t) (R:List Tk) (hp:oL t=.bad R) :
  dH Tryz.prog G 36 [.box pN 0,.box oN 0] [(pN,pC t e),(oN,[D5])] (mkV (hdA e R)):=by
 refine dH.aP Tryz.func36 rfl Tryz.call36 ?_
 refine Nl t e ?_
 refine aK.loop (c:=aY (aC Tryz.f36) [0,0]) (by kernel_rfl) (WQ e) (fun x=>x.1.length+x.2.length≤100000∧gB x.2∧(oL x.2).app x.1=.bad R) (fun x=>x.2.length) ([],t) (by refine AS.leZ [] [] (b:=((T0∧T0∧True)∧T0∧T0∧T0∧True)) (by kernel_rfl) (by kernel_rfl) ?_;exact⟨⟨rfl,rfl,trivial⟩,rfl,rfl,rfl,trivial⟩) ⟨by simpa using hl,hS,by rw[hp];rfl⟩ ?_
 rintro ⟨L,s⟩ ⟨h1,h2,h3⟩
 dsimp only at h1 h2 h3
 have hs:s≠[]:=by rintro rfl;cases h3
 have hpos:0<s.length:=by cases s with
  | nil=>exact absurd rfl hs
  | cons a b=>simp
 cases hq:jg s with
 | ok y r=>
  have hlt:=rE hq
  have hsf:=Ac s
  rw[hq] at hsf
  refine Nz e L s r y hq (by omega) h2 (by omega) ⟨?_,h2.suf hsf,?_⟩
  ·simp only[List.length_append,List.length_singleton];omega
  ·rw[Ej hq,Ps.uV] at h3;exact h3
 | bad r=>
  rw[zY hs hq] at h3
  injection h3 with h3
  subst h3
  have h:=f37 (G:=G) s e (by omega) h2
  rw[hq] at h
  refine aF (aj:=EX aU [] e) (keep:=[]) (cuts:=[1]) (n:=1000) follows ?_
  refine bZ (fun ZT ZW ZQ _ _ ZR=>((((decide ((↑s.length:Int)>0))=true)→ZW [cd Tryz.f36 [0,0,1,0],(.blk 1)] (aB ZT [0]) ZR)∧(((decide ((↑s.length:Int)>0))=false)→ZW [] (aB ZT [1]) ZQ))) (by kernel_rfl) ?_
  refine⟨fun _=>?_,fun c=>?_⟩
  ·refine aK.UF follows (EX aU [] e) 2 (mkV (hdA e r)) ?_
   refine bZ (fun _ _ _ _ _ _=>(dH Tryz.prog G 37 [(.box 1000000 0)] [(1000000,[(.d (.slc 2 s.length (aG s))),(vi e)])] (mkV (hdA e r))∧((.panic [(PanicEntry.mk (mkV (hdA e r)) false false)]):Exit)=(.panic [(PanicEntry.mk (mkV (hdA e r)) false false)])∧((some [.any,.any]):(Option (List AV)))=(some [.any,.any])∧((some [.any]):(Option (List AV)))=(some [.any])∧True)) (by kernel_rfl) ?_
   exact⟨h,rfl,rfl,rfl,trivial⟩
  ·simp only[decide_eq_false_iff_not] at c;omega
end Go.Proofs
/- The parser,the program's side: one expression. -/
namespace Go.Proofs
open Go Go.Ab Go.RowKit
set_option maxHeartbeats 4000000
set_option maxRecDepth 100000
variable {G:IH}
noncomputable def mEx (x:Ex) (r:List Tk) (e:Int):FuncId→List AV→List (Nat×List AV)→Option (AV×List (Nat×List AV)):=fun f _ _=>match f with
 | 44=>some (.d (fD x),pB r e)
 | _=>none
noncomputable def Yw (x:Ex) (r:List Tk) (e:Int):dK:={ d:=fun _ _=>none,m:=mEx x r e }
theorem Y5 (t:List Tk) (e:Int) (hl:t.length≤100000) (hS:gB t) (x:Ex) (r:List Tk) (hp:pr (.lvl 0) t=.ok x r) :
  aA Tryz.prog G 43 [.box pN 0,.box oN 0] [(pN,pC t e),(oN,zeroE)] (.d (.ak [])) [(pN,pC r e),(oN,jl (ht x) x)]:=by
 have h:=f44 (G:=G) 0 (by omega) t e hl hS
 rw[hp] at h
 refine aA.aP (mv:=[]) (by kernel_rfl) Tryz.func43 rfl Tryz.call43 ?_
 refine aF (aj:=Yw x r e) (keep:=[]) (cuts:=[]) (n:=1000) follows ?_
 refine au (fun _ _ _ _=>(fun Za=>(aA Tryz.prog G 44 [(.box 1000000 0),(vi 0)] [(1000000,[(.d (.slc 2 t.length (aG t))),(vi e)])] (.d (aN (ht x) x)) [(1000000,[(.d (.slc 2 r.length (aG r))),(vi e)])]∧(ZS ((.d (.ak [])):AV))∧((some [(.d (.slc 2 r.length (aG r))),(vi e)]):(Option (List AV)))=(some [(.d (.slc 2 r.length (aG r))),(vi e)])∧(Za:(Option (List AV)))=Za∧True)) (some [(vi x.k),(vs x.s),(vi x.n),(vi x.d),(vi x.pos),(.d (.slc 6 x.kids.length (lay (cu (ht x)) x.kids)))])) (by kernel_rfl) ?_
 exact⟨h,rfl,rfl,rfl,trivial⟩
theorem ab8 (t:List Tk) (e:Int) (hl:t.length≤100000) (hS:gB t) (r:List Tk) (hp:pr (.lvl 0) t=.bad r) :
  dH Tryz.prog G 43 [.box pN 0,.box oN 0] [(pN,pC t e),(oN,zeroE)] (mkV (hdA e r)):=by
 have h:=f44 (G:=G) 0 (by omega) t e hl hS
 rw[hp] at h
 refine dH.aP Tryz.func43 rfl Tryz.call43 ?_
 refine aK.iq follows (Yw aJ r e) 1 (mkV (hdA e r)) ?_
 refine au (fun _ _ _ _=>(dH Tryz.prog G 44 [(.box 1000000 0),(vi 0)] [(1000000,[(.d (.slc 2 t.length (aG t))),(vi e)])] (mkV (hdA e r))∧((.panic [(PanicEntry.mk (mkV (hdA e r)) false false)]):Exit)=(.panic [(PanicEntry.mk (mkV (hdA e r)) false false)])∧((some [.any,.any]):(Option (List AV)))=(some [.any,.any])∧((some [.any,.any,.any,.any,.any,.any]):(Option (List AV)))=(some [.any,.any,.any,.any,.any,.any])∧True)) (by kernel_rfl) ?_
 exact⟨h,rfl,rfl,rfl,trivial⟩
end Go.Proofs
/- read: words left,panics,texts without words. -/
set_option maxRecDepth 100000
namespace Go.Proofs
open Go Go.Ab Go.RowKit
variable {G:IH}
theorem Yr (Lp:List DV) (hp:bg (Lp.map AV.d)=true):qX (Lp.map AV.d)=Lp.map fun _=>AV.any:=by
 unfold qX;rw[hp];simp
theorem Ll (s:Nat):∀l:List DV,AV.frees s (l.map fun _=>AV.any)=true
 | []=>rfl
 | _ :: l=>by simp only[List.map_cons,AV.frees,AV.free,Bool.true_and];exact Ll s l
abbrev XJ (Lp:List DV):List (Nat×List AV):=[(oN,Lp.map fun _=>AV.any)]
theorem X9 {Lp:List DV} {t:Nat} {l:List AV} (hl:Go.Ab.look (XJ Lp) t=some l):t=oN∧l=Lp.map fun _=>AV.any:=by
 simp only[Go.Ab.look] at hl
 by_cases h2:oN=t
 ·subst h2;simp at hl;exact⟨rfl,hl.symm⟩
 ·simp[bI h2] at hl
theorem Zv {Lp:List DV} (hp:bg (Lp.map AV.d)=true) (Z:List AV) (t:Nat) (l:List AV) (hl:Go.Ab.look (XJ Lp) t=some l):Go.Ab.look (fC [(pN,Z),(oN,Lp.map .d)]) t=some l∧t≠pN∧AV.frees pN l=true:=by
 obtain ⟨rfl,rfl⟩:=X9 hl
 refine⟨?_,by decide,Ll _ _⟩
 rw[AP]
 show (some (Lp.map AV.d)).map qX=_
 rw[Option.map_some,Yr Lp hp]
theorem NM (w5:World) (n:Nat) (a:Int):((G7 w5 n a).os=w5.os∧(G7 w5 n a).tape=w5.tape∧(G7 w5 n a).output=w5.output∧w5.heap.size≤(G7 w5 n a).heap.size):=⟨rfl,rfl,rfl,by simp[World.setCell]⟩
theorem Nb (w5:World) (n:Nat) (a:Int) (k:Nat) (hk:k<w5.heap.size) (h1:k≠n) (h2:k≠n+1):(G7 w5 n a).heap[k]?=w5.heap[k]?:=by
 simp only[World.setCell,Array.getElem?_modify]
 rw[if_neg (fun e=>h2 e.symm),if_neg (fun e=>h1 e.symm)]
 show (w5.heap.push _)[_]?=_
 rw[Array.getElem?_push,if_neg (by omega)]
theorem Qp {c:FuncId} {s:ByteArray} (hs:s.size≤900000) {T:List Tk} (hW:bG s=(T,0,0)) {Lp:List DV} (hp:bg (Lp.map AV.d)=true) {a:Int}
  (hc:dH Tryz.prog G c [.box pN 0,.box oN 0] [(pN,pC T s.size),(oN,Lp.map .d)] (mkV a)) :
  aA Tryz.prog G 35 [.d (ds s),.clo (.func c) [] [.box oN 0]] [(oN,Lp.map .d)] (.d (.ak [di a,di 3])) (XJ Lp):=by
 refine⟨Tryz.call35,fun F w h β us g=>?_⟩
 obtain rfl:=ML g
 have hbl:blk β oN<w.heap.size:=Own.lt (Live.plain hp) (g.box oN _ rfl).2
 refine ZF (a:=a) (R1:=fun x w'=>∃h',wo h w T x h' w') (R2:=fun w' w5=>∃x h' β1 h1,wo h w T x h' w'∧aT G (Ah β w'.heap.size) (nH w' w.heap.size (nI x) s.size) h' ⟨[],fC [(pN,pC T s.size),(oN,Lp.map .d)]⟩ β1 h1 #[] w5) hc.1 (AU g.glob g.holds s hs hW) (fun x w' ⟨h',r⟩=>r.two) (fun x w' ⟨h',r⟩=>?_) (fun x w' w5 ⟨h',r⟩ ⟨x2,h2,β1,h1,r2,g1⟩=>Oh r2 hbl g1) (fun x w' w5 ⟨h',r⟩ ⟨x2,h2,β1,h1,r2,g1⟩=>?_)
 ·refine(hc.2 _ _ _ _ _ (SA hp g r)).mono ?_
  rintro e w5 ⟨rfl,β1,h1,g1⟩
  exact⟨rfl,x,h',β1,h1,r,g1⟩
 ·have hn:=Jg g r2 hbl g1
  exact⟨_,_,h1,rfl,OX hp g r2 g1 (Zv hp _) (IH.le.refl _) (jF (jF (lN g1.holds _) (hn _ (Nat.le_refl _) (by omega))) (hn _ (by omega) (by omega))) (fun _ _ _=>⟨fun _=>rfl,rfl⟩) ⟨_,rfl,rfl⟩ (NM w5 _ a) (fun k hk h1 h2 _=>Nb _ _ _ _ hk h1 h2) a 3⟩
theorem Ya {c:FuncId} {s:ByteArray} (hs:s.size≤900000) {T:List Tk} (hW:bG s=(T,0,0)) {Lp:List DV} (hp:bg (Lp.map AV.d)=true) {L2:List AV} {rr:AV} {T':List Tk} (hT:T'≠[])
  (hfr:AV.frees pN L2=true)
  (hc:aA Tryz.prog G c [.box pN 0,.box oN 0] [(pN,pC T s.size),(oN,Lp.map .d)] rr [(pN,pC T' s.size),(oN,L2)]) :
  aA Tryz.prog G 35 [.d (ds s),.clo (.func c) [] [.box oN 0]] [(oN,Lp.map .d)] (.d (.ak [di (hdA s.size T'),di 3])) [(oN,L2)]:=by
 refine⟨Tryz.call35,fun F w h β us g=>?_⟩
 obtain rfl:=ML g
 have hbl:blk β oN<w.heap.size:=Own.lt (Live.plain hp) (g.box oN _ rfl).2
 have hsz0:=oq w
 refine Xt (a:=hdA s.size T') (R1:=fun x w'=>∃h',wo h w T x h' w')
  (R2:=fun w' w5=>∃x h' v β1 h1,wo h w T x h' w'∧aT G (Ah β w'.heap.size) (nH w' w.heap.size (nI x) s.size) h' ⟨[rr],[(pN,pC T' s.size),(oN,L2)]⟩ β1 h1 #[v] w5)
  (R3:=fun w' w6=>∃x h' v β1 h1 w5 β6 h6,wo h w T x h' w'∧aT G (Ah β w'.heap.size) (nH w' w.heap.size (nI x) s.size) h' ⟨[rr],[(pN,pC T' s.size),(oN,L2)]⟩ β1 h1 #[v] w5∧aT G ⟨fun k=>k=w'.heap.size,upd β1 1000000 w'.heap.size 66 0⟩ w5 h1 ⟨[],fC (pB T' s.size)⟩ β6 h6 #[] w6)
  hc.1 (AU g.glob g.holds s hs hW) (fun x w' ⟨h',r⟩=>r.two) (fun x w' ⟨h',r⟩=>?_) (fun x w' w5 ⟨h',r⟩ ⟨x2,h2,v,β1,h1,r2,g1⟩=>?_) (fun x w' w5 ⟨h',r⟩ ⟨x2,h2,v,β1,h1,r2,g1⟩=>?_) (fun x w' w6 ⟨h',r⟩ ⟨x2,h2,v,β1,h1,w5,β6,h6,r2,g1,g6⟩=>?_) (fun x w' w6 ⟨h',r⟩ ⟨x2,h2,v,β1,h1,w5,β6,h6,r2,g1,g6⟩=>?_)
 ·refine(hc.2 _ _ _ _ _ (SA hp g r)).mono ?_
  rintro e w5 ⟨v,β1,h1,rfl,g1⟩
  exact⟨⟨v,rfl⟩,x,h',v,β1,h1,r,g1⟩
 ·have hbp:blk β1 pN=w'.heap.size:=by rw[(g1.fix pN (by decide)).1];exact dJ
  have hO:=(g1.box pN _ rfl).2
  rw[Own.plain (by rfl)] at hO
  obtain ⟨Ty,vs,e1,v1,u1,rfl,q1,v2,u2,rfl,q2,q3⟩:=hO
  obtain ⟨p,cap,rfl,_⟩:=q1
  rw[hbp] at e1
  exact⟨p,T'.length,cap,by simpa using hT,by simp[World.cell?,e1]⟩
 ·have hbp:blk β1 pN=w'.heap.size:=by rw[(g1.fix pN (by decide)).1];exact dJ
  have hrm:room β1 pN=66:=by rw[(g1.fix pN (by decide)).2.1];exact bW
  obtain ⟨q1,q2⟩:=g1.box pN _ rfl
  have q1:=q1 (Live.plain (by rfl))
  have hlt:=Own.lt (Live.plain (by rfl)) q2
  rw[hbp] at hlt q1 q2
  refine((f74 (G:=G) T' s.size).2 ⟨fun k=>k=w'.heap.size,upd β1 1000000 w'.heap.size 66 0⟩ w5 h1 (upd β1 1000000 w'.heap.size 66 0) #[.pointer (some (Iu w'))] ⟨g1.glob,g1.holds,IH.le.refl _,fun _ _ _=>⟨fun _=>rfl,rfl⟩,Kept.refl _ _,fun _ _=>⟨rfl,rfl,rfl⟩,rfl,fun t z hz=>?_,fun t l hl=>?_,fun t t' l l' hl hl' _ _ _=>?_⟩).mono ?_
  ·cases t with
   | zero=>
    obtain rfl:AV.box 1000000 0=z:=by simpa using hz
    refine⟨_,rfl,?_⟩
    show _=Value.pointer (some ⟨blk (upd β1 1000000 w'.heap.size 66 0) 1000000,0,none⟩)
    rw[dJ]
    rfl
   | succ t=>simp at hz
  ·have hl:Go.Ab.look [(1000000,pC T' s.size)] t=some l:=hl
   simp only[Go.Ab.look] at hl
   by_cases h2:1000000=t
   ·subst h2
    simp at hl;subst hl
    rw[dJ]
    refine⟨fun _=>⟨.inl rfl,q1.2⟩,?_⟩
    rw[Own.plain (by rfl)] at q2⊢
    obtain ⟨⟨Ty,hTy⟩,vs,e1,e2⟩:=q2
    refine⟨⟨Ty,by rw[hTy,hrm,bW]⟩,vs,e1,?_⟩
    exact e2
   ·simp[bI h2] at hl
  ·have hl:Go.Ab.look [(1000000,pC T' s.size)] t=some l:=hl
   have hl':Go.Ab.look [(1000000,pC T' s.size)] t'=some l':=hl'
   have hh:∀{t l},Go.Ab.look [(1000000,pC T' s.size)] t=some l→t=1000000:=fun {t l} hl=>by
    simp only[Go.Ab.look] at hl
    by_cases h2:1000000=t
    ·exact h2.symm
    ·simp[bI h2] at hl
   rw[hh hl,hh hl']
  ·rintro e w6 ⟨rfl,β6,h6,g6⟩
   exact⟨rfl,x2,h2,v,β1,h1,w5,β6,h6,r2,g1,g6⟩
 ·have t5:=Oh r2 hbl g1
  have hk5:=g1.kept.size
  have hks:=r2.kept.size
  have TS:(nH w' w.heap.size (nI x2) s.size).heap.size=w'.heap.size+1:=by
   show ((jL w' w.heap.size 0 0).heap.push _).size=_
   rw[Array.size_push,vC]
  exact⟨by rw[g6.kept.block _ (by omega) (fun e=>by have e:w.heap.size=w'.heap.size:=e;omega)];exact t5.a,by rw[g6.kept.block _ (by omega) (fun e=>by have e:w.heap.size+1=w'.heap.size:=e;omega)];exact t5.b⟩
 ·have hk5:=g1.kept.size
  have hks:=r2.kept.size
  have hk6:=g6.kept.size
  have TS:(nH w' w.heap.size (nI x2) s.size).heap.size=w'.heap.size+1:=by
   show ((jL w' w.heap.size 0 0).heap.push _).size=_
   rw[Array.size_push,vC]
  have hn1:=Jg g r2 hbl g1
  have hn:∀k,w.heap.size≤k→k<w.heap.size+2→(∀o,h6.cell k o=none)∧h6.obj k=none:=fun k k1 k2=>by
   have q:=hn1 k k1 k2
   have q2:=g6.old k (by omega) (fun e=>by have e:k=w'.heap.size:=e;omega)
   exact⟨fun o=>(q2.1 o).trans (q.1 o),q2.2.trans q.2⟩
  refine⟨_,_,h6,rfl,OX hp g r2 g1 (fun t l hl=>?_) g6.ext (jF (jF (lN g6.holds _) (hn _ (Nat.le_refl _) (by omega))) (hn _ (by omega) (by omega))) (fun b b1 b2=>g6.old b b1 b2) ⟨_,rfl,rfl⟩ ⟨g6.kept.os,g6.kept.tape,g6.kept.output,?_⟩ (fun k hk h1 h2 h3=>?_) _ 3⟩
  ·simp only[Go.Ab.look] at hl
   by_cases h5:oN=t
   ·subst h5;simp at hl;subst hl
    exact⟨rfl,by decide,hfr⟩
   ·simp[bI h5] at hl
  ·exact Nat.le_trans hk6 (NM w6 w.heap.size (hdA s.size T')).2.2.2
  ·rw[Nb _ _ _ _ (by have:=g6.kept.size;omega) h1 h2,g6.kept.block _ hk h3]
end Go.Proofs
/- read: a text without words. -/
set_option maxRecDepth 100000
namespace Go.Proofs
open Go Go.Ab Go.RowKit
variable {G:IH}
theorem Ru {c:FuncId} {s:ByteArray} (hs:s.size≤900000) {T:List Tk} {a e:Int} (hW:bG s=(T,a,e)) (he:e≠0) {Lp:List DV} (hp:bg (Lp.map AV.d)=true) :
  aA Tryz.prog G 35 [.d (ds s),.clo (.func c) [] [.box oN 0]] [(oN,Lp.map .d)] (.d (.ak [di a,di e])) [(oN,Lp.map .d)]:=by
 refine⟨Tryz.call35,fun F w h β us g=>?_⟩
 obtain rfl:=ML g
 have hbl:blk β oN<w.heap.size:=Own.lt (Live.plain hp) (g.box oN _ rfl).2
 have hsz:=oq w
 refine ZL (a0:=a) (e0:=e) (R1:=fun w'=>∃x h',wo h w T x h' w') ?_ he (fun w' ⟨x,h',r⟩=>r.two) (fun w' ⟨x,h',r⟩=>?_)
 ·refine(AU g.glob g.holds s hs hW).mono ?_
  rintro e' w' ⟨x,rfl,h',r⟩
  exact⟨nI x,rfl,x,h',r⟩
 ·have hk:=r.kept.size
  have hn:=r.none g.holds
  have n1:=hn _ (Nat.le_refl _) (by omega)
  have n2:=hn (w.heap.size+1) (by omega) (by omega)
  have hh:h'.holds (jL (jL w' w.heap.size a e) w.heap.size a e):=jF (jF (jF (jF r.holds n1) n2) n1) n2
  have hold:∀k,k<w.heap.size→(jL (jL w' w.heap.size a e) w.heap.size a e).heap[k]?=w.heap[k]?:=fun k hk=>by
   rw[yw _ _ _ _ _ (by omega) (by omega),yw _ _ _ _ _ (by omega) (by omega),r.kept.block _ (by omega) id]
   show ((w.heap.push _).push _)[_]?=_
   rw[Array.getElem?_push_lt (by simp;omega),Array.getElem_push_lt hk,Array.getElem?_eq_getElem hk]
  have g2:aT G F w h ⟨[.d (.ak [di a,di e])],[(oN,Lp.map .d)]⟩ β h' #[.tuple #[.int .i64 a,.int .i64 e]] (jL (jL w' w.heap.size a e) w.heap.size a e):=by
   refine⟨g.glob.trans r.ext,hh,r.ext,fun k hk hnF=>r.old k (by omega),⟨r.kept.os,r.kept.tape,r.kept.output,?_,fun k hk _=>hold k hk⟩,g.fix,rfl,fun t z hz=>?_,fun t l hl=>?_,g.inj⟩
   ·show w.heap.size≤(jL (jL w' w.heap.size a e) w.heap.size a e).heap.size
    simp only[World.setCell,Array.size_modify];omega
   ·cases t with
    | zero=>
     obtain rfl:AV.d (.ak [di a,di e])=z:=by simpa using hz
     exact⟨_,rfl,[.int .i64 a,.int .i64 e],rfl,_,_,rfl,rfl,_,_,rfl,rfl,rfl⟩
    | succ t=>simp at hz
   ·obtain ⟨q1,q2⟩:=g.box t l hl
    refine⟨fun hL=>?_,Own.move (fun hL=>hold _ (Own.lt hL q2)) r.ext q2⟩
    obtain ⟨u1,u2⟩:=q1 hL
    have q3:=r.old _ (Nat.lt_of_lt_of_le (Own.lt hL q2) (by omega:w.heap.size≤w.heap.size+2))
    exact⟨u1,fun o=>(q3.1 o).trans (u2.1 o),q3.2.trans u2.2⟩
  exact⟨_,_,h',rfl,g2.drew _⟩
end Go.Proofs
/- What the words of a text are,in numbers. -/
namespace Go.Proofs
theorem Gp (l:List UInt8):(iZ l).size=l.length:=by simp[iZ,ByteArray.size]
theorem Z8:∀(k at_:Nat) (l:List UInt8) (t:List Tk),toks k at_ l=.ok t→t.length≤l.length∧∀w∈t,w.1.size≤l.length∧(at_:Int)≤w.2∧w.2≤((at_+l.length:Nat):Int):=by
 intro k
 induction k with
 | zero=>intro at_ l t h;cases h
 | succ k ih=>
  intro at_ l t h
  unfold toks at h
  split at h
  ·injection h with h;subst h
   exact⟨Nat.zero_le _,fun w hw=>by cases hw⟩
  ·rename_i h1
   split at h
   ·cases h
   ·rename_i h2
    have h2:(dB (l.drop (bH false l))).2=0:=by simpa using h2
    have hne:l.drop (bH false l)≠[]:=fun hh=>by
     have:=congrArg List.length hh
     rw[List.length_drop] at this;simp at this;omega
    obtain ⟨p1,p2⟩:=tV hne h2
    rw[List.length_drop] at p2
    cases e:toks k (at_+bH false l+(dB (l.drop (bH false l))).1.toNat) (l.drop (bH false l+(dB (l.drop (bH false l))).1.toNat)) with
    | bad a b=>rw[e] at h;cases h
    | ok T=>
     rw[e] at h
     injection h with h
     subst h
     obtain ⟨q1,q2⟩:=ih _ _ _ e
     rw[List.length_drop] at q1
     refine⟨by simp only[List.length_cons];omega,fun w hw=>?_⟩
     rcases List.mem_cons.1 hw with rfl|hw
     ·dsimp only
      rw[Gp,List.length_take,List.length_drop]
      omega
     ·obtain ⟨r1,r2,r3⟩:=q2 w hw
      rw[List.length_drop] at r1 r3
      omega
theorem Xy:∀(k at_:Nat) (l:List UInt8) (a e:Int),toks k at_ l=.bad a e→e≠0∧(at_:Int)≤a∧a≤((at_+l.length:Nat):Int):=by
 intro k
 induction k with
 | zero=>
  intro at_ l a e h
  simp only[toks] at h
  injection h with h1 h2
  subst h1;subst h2
  exact⟨by decide,by omega,by omega⟩
 | succ k ih=>
  intro at_ l a e h
  unfold toks at h
  split at h
  ·cases h
  ·rename_i h1
   split at h
   ·rename_i h2
    injection h with q1 q2
    subst q1;subst q2
    exact⟨h2,by omega,by omega⟩
   ·rename_i h2
    have h2:(dB (l.drop (bH false l))).2=0:=by simpa using h2
    have hne:l.drop (bH false l)≠[]:=fun hh=>by
     have:=congrArg List.length hh
     rw[List.length_drop] at this;simp at this;omega
    obtain ⟨p1,p2⟩:=tV hne h2
    rw[List.length_drop] at p2
    cases e2:toks k (at_+bH false l+(dB (l.drop (bH false l))).1.toNat) (l.drop (bH false l+(dB (l.drop (bH false l))).1.toNat)) with
    | ok T=>rw[e2] at h;cases h
    | bad a2 b2=>
     rw[e2] at h
     simp only[Ws.cons] at h
     injection h with q1 q2
     subst q1;subst q2
     obtain ⟨r1,r2,r3⟩:=ih _ _ _ _ e2
     rw[List.length_drop] at r3
     exact⟨r1,by omega,by omega⟩
def Jq (n:Nat) (t:List Tk):Prop:=∀w∈t,0≤w.2∧w.2≤(n:Int)
theorem Jq.suf {n:Nat} {t r:List Tk} (h:Jq n t) (hs:r <:+ t):Jq n r:=fun w hw=>h w (hs.subset hw)
theorem Jq.hd {n:Nat} {t:List Tk} (h:Jq n t):0≤hdA (n:Int) t∧hdA (n:Int) t≤(n:Int):=by
 cases t with
 | nil=>exact⟨Int.natCast_nonneg n,Int.le_refl _⟩
 | cons w t=>exact h w (by simp)
structure ad4 (s:ByteArray) (T:List Tk):Prop where
 size:s.size≤16384
 toks:toks (s.size+1) 0 s.data.toList=.ok T
 len:T.length≤s.size
 sm:gB T
 ok:GV T
 off:Jq s.size T
 wd:∀w∈T,w.1.size≤s.size
theorem uJ {s:ByteArray} {T:List Tk} {a:Int} (h:bG s=(T,a,0)):a=0∧ad4 s T:=by
 unfold bG at h
 have hl:s.data.toList.length=s.size:=Array.length_toList
 split at h
 ·cases h
 ·rename_i h0
  cases e:toks (s.size+1) 0 s.data.toList with
  | bad a2 b2=>
   rw[e] at h
   injection h with _ h
   injection h with _ h
   exact absurd h (Xy _ _ _ _ _ e).1
  | ok t=>
   rw[e] at h
   injection h with h1 h
   injection h with h2 h
   subst h1;subst h2
   obtain ⟨q1,q2⟩:=Z8 _ _ _ _ e
   rw[hl] at q1 q2
   exact⟨rfl,by omega,e,q1,fun w hw=>by have:=(q2 w hw).1;omega,ZY _ _ _ _ e,fun w hw=>by have:=q2 w hw;omega,fun w hw=>(q2 w hw).1⟩
def lK (s:ByteArray):List Rl×Int×Int:=if (bG s).2.2≠0 then ([],(bG s).2.1,(bG s).2.2) else match oL (bG s).1 with
 | .ok R=>(R,0,0)
 | .bad r=>([],hdA s.size r,3)
def jO (s:ByteArray):Ex×Int×Int:=if (bG s).2.2≠0 then (aJ,(bG s).2.1,(bG s).2.2) else match pr (.lvl 0) (bG s).1 with
 | .ok x []=>(x,0,0)
 | .ok _ r=>(aJ,hdA s.size r,3)
 | .bad r=>(aJ,hdA s.size r,3)
end Go.Proofs
/- Parse. -/
namespace Go.Proofs
open Go Go.Ab Go.RowKit
set_option maxHeartbeats 4000000
set_option maxRecDepth 100000
variable {G:IH}
noncomputable def mRd (a e:Int) (post:List (Nat×List AV)):FuncId→List AV→List (Nat×List AV)→Option (AV×List (Nat×List AV)):=fun f _ _=>match f with
 | 35=>some (.d (.ak [di a,di e]),post)
 | _=>none
noncomputable def dRd (b:Bool):cZ:=fun f a=>match f,a with
 | 38,[_,_]=>some (db b)
 | _,_=>none
noncomputable def TW (b:Bool) (a e:Int) (post:List (Nat×List AV)):dK:={ d:=dRd b,m:=mRd a e post }
def rU (R:List Rl):Bool:=decide ((R.length:Int)>32)||R.any fE
def eG (s:ByteArray):List Rl×Int×Int:=if (lK s).2.2≠0 then lK s else if rU (lK s).1=true then ([],0,8) else lK s
def wK (x:List Rl×Int×Int):DV:=.ak [if x.2.2=0 then jZ x.1 else .con (.slice none 0 0),di x.2.1,di x.2.2]
theorem abM (s:ByteArray) {a e:Int} (he:e≠0) (h:aA Tryz.prog G 35 [.d (ds s),.clo (.func 36) [] [.box oN 0]] [(oN,[D5])] (.d (.ak [di a,di e])) [(oN,[D5])]) :
  ay Tryz.prog G 13 [ds s] (.ak [.con (.slice none 0 0),di a,di e]):=by
 have he1:(e==0)=false:=by rw[beq_eq_false_iff_ne];exact he
 have he2:(e != 0)=true:=by simp[he]
 refine ay.aP Tryz.func13 rfl Tryz.call13 ?_
 refine aF (aj:=TW false a e [(oN,[D5])]) (keep:=[]) (cuts:=[]) (n:=1000) follows ?_
 refine au (fun _ _ _ ZK=>(fun Za=>(aA Tryz.prog G 35 [(vs s),(.clo (.func 36) [] [(.box 1000000 0)])] [(1000000,[(.d (.con (.slice none 0 0)))])] (.d (.ak [(di a),(di e)])) [(1000000,[(.d (.con (.slice none 0 0)))])]∧(((e==0&&!decide ((↑0:Int)>32))=true)→ZK 38 [(.con (.slice none 0 0)),(.con (.func (.func 39) ⟨[]⟩ ⟨[]⟩))] (db false))∧(((e==0&&(decide ((↑0:Int)>32)||false))=true)→(((true=true)→(((.ak [(.con (.slice none 0 0)),(di a),(di 8)]):DV)=Za))∧((true=false)→(((.ak [(.con (.slice none 0 0)),(di 0),(di 0)]):DV)=Za))))∧(((e==0&&(decide ((↑0:Int)>32)||false))=false)→((((e != 0)=true)→(ZS (Za:DV)))∧(((e != 0)=false)→(((.ak [(.con (.slice none 0 0)),(di 0),(di 0)]):DV)=Za)))))) ((.ak [(.con (.slice none 0 0)),(di a),(di e)]):DV)) (by kernel_rfl) ?_
 try dsimp only
 rw[he1,he2]
 exact⟨h,fun c=>(by cases c),fun c=>(by cases c),fun _=>⟨fun _=>rfl,fun c=>(by cases c)⟩⟩
theorem aag (s:ByteArray) {a:Int} (h:aA Tryz.prog G 35 [.d (ds s),.clo (.func 36) [] [.box oN 0]] [(oN,[D5])] (.d (.ak [di a,di 3])) [(oN,[.any])]) :
  ay Tryz.prog G 13 [ds s] (.ak [.con (.slice none 0 0),di a,di 3]):=by
 refine ay.aP Tryz.func13 rfl Tryz.call13 ?_
 refine aF (aj:=TW false a 3 [(oN,[.any])]) (keep:=[]) (cuts:=[]) (n:=1000) follows ?_
 refine au (fun _ _ _ _=>(aA Tryz.prog G 35 [(vs s),(.clo (.func 36) [] [(.box 1000000 0)])] [(1000000,[(.d (.con (.slice none 0 0)))])] (.d (.ak [(di a),(di 3)])) [(1000000,[.any])]∧((false=true)→(((true=true)→(((.ak [(.con (.slice none 0 0)),(di a),(di 8)]):DV)=(.ak [(.con (.slice none 0 0)),(di a),(di 3)])))∧((true=false)→False)))∧((false=false)→(((true=true)→(ZS ((.ak [(.con (.slice none 0 0)),(di a),(di 3)]):DV)))∧((true=false)→False))))) (by kernel_rfl) ?_
 exact⟨h,fun c=>(by cases c),fun _=>⟨fun _=>rfl,fun c=>(by cases c)⟩⟩
theorem abQ (s:ByteArray) (R:List Rl) (h:aA Tryz.prog G 35 [.d (ds s),.clo (.func 36) [] [.box oN 0]] [(oN,[D5])] (.d (.ak [di 0,di 0])) [(oN,[.d (jZ R)])]) (h38:ay Tryz.prog G 38 [jZ R,.con (.func (.func 39) #[] #[])] (db (R.any fE))) :
  ay Tryz.prog G 13 [ds s] (wK (if rU R=true then ([],0,8) else (R,0,0))):=by
 refine ay.aP Tryz.func13 rfl Tryz.call13 ?_
 refine aF (aj:=TW (R.any fE) 0 0 [(oN,[.d (jZ R)])]) (keep:=[]) (cuts:=[]) (n:=1000) follows ?_
 refine au (fun _ _ _ ZK=>(fun Za=>(aA Tryz.prog G 35 [(vs s),(.clo (.func 36) [] [(.box 1000000 0)])] [(1000000,[(.d (.con (.slice none 0 0)))])] (.d (.ak [(di 0),(di 0)])) [(1000000,[(.d (.slc 16 R.length (kT R)))])]∧((((0:Int)==(0:Int)&&!decide ((↑(List.length R):Int)>(32:Int)))=true)→ZK 38 [(.slc 16 R.length (kT R)),(.con (.func (.func 39) ⟨[]⟩ ⟨[]⟩))] (db (R.any fE)))∧((Za=true)→(((true=true)→(((.ak [(.con (.slice none 0 0)),(di 0),(di 8)]):DV)=(wK (if rU R=true then ([],0,8) else (R,0,0)))))∧((true=false)→(((.ak [(.slc 16 R.length (kT R)),(di 0),(di 0)]):DV)=(wK (if rU R=true then ([],0,8) else (R,0,0)))))))∧((Za=false)→(((false=true)→(((.ak [(.con (.slice none 0 0)),(di 0),(di 0)]):DV)=(wK (if rU R=true then ([],0,8) else (R,0,0)))))∧((false=false)→(((.ak [(.slc 16 R.length (kT R)),(di 0),(di 0)]):DV)=(wK (if rU R=true then ([],0,8) else (R,0,0))))))))) ((0:Int)==(0:Int)&&(decide ((↑(List.length R):Int)>(32:Int))||List.any R fE))) (by kernel_rfl) ?_
 try dsimp only
 have e0:((0:Int)==0)=true:=rfl
 rw[e0,Bool.true_and,Bool.true_and]
 refine⟨h,fun _=>h38,fun c=>⟨fun _=>?_,fun c2=>(by cases c2)⟩,fun c=>⟨fun c2=>(by cases c2),fun _=>?_⟩⟩
 ·have c:rU R=true:=c
  rw[if_pos c];rfl
 ·have c:rU R=false:=c
  rw[if_neg (by rw[c];decide)];rfl
def Rj (s:ByteArray):Prop:=∀r∈(lK s).1,pJ r
theorem getD_mem {α:Type} {l:List α} {x0:α} {i:Nat} (h:i<l.length):l.getD i x0∈l:=by
 rw[List.getD,iT h];exact List.getElem_mem h
theorem Ep:∀(n:Nat) (t:List Tk) (R:List Rl),t.length≤n→oL t=.ok R→R.length≤t.length
 | 0,t,R,hn,h=>by
  have:t=[]:=List.eq_nil_of_length_eq_zero (by omega)
  subst this
  injection h with h;subst h;exact Nat.le_refl _
 | n+1,t,R,hn,h=>by
  by_cases hne:t=[]
  ·subst hne;injection h with h;subst h;exact Nat.le_refl _
  ·cases e:jg t with
   | ok x q=>
    rw[Ej e] at h
    have hlt:=rE e
    cases e2:oL q with
    | ok l=>
     rw[e2] at h
     injection h with h
     subst h
     have:=Ep n q l (by omega) e2
     simp only[List.length_cons];omega
    | bad r2=>rw[e2] at h;cases h
   | bad q=>rw[zY hne e] at h;cases h
theorem aeF (s:ByteArray) (hs:s.size≤900000) (hR:Rj s):ay Tryz.prog G 13 [ds s] (wK (eG s)):=by
 have hp:bg ([DV.con (.slice none 0 0)].map AV.d)=true:=rfl
 unfold Rj at hR
 unfold eG
 by_cases he:(bG s).2.2=0
 ·obtain ⟨T,a,e,hW⟩:∃T a e,bG s=(T,a,e):=⟨_,_,_,rfl⟩
  rw[hW] at he
  have he:e=0:=he
  subst he
  obtain ⟨rfl,hO⟩:=uJ hW
  have hsz:=hO.size
  have hln:=hO.len
  cases hq:oL T with
  | ok R=>
   have e1:lK s=(R,0,0):=by unfold lK;rw[hW,if_neg (by simp)];simp only[hq]
   rw[e1] at hR⊢
   rw[if_neg (by simp)]
   have hRl:=Ep _ T R (Nat.le_refl _) hq
   exact abQ s R (Vr hs hW (Lp:=[.con (.slice none 0 0)]) hp (post:=[(oN,[.d (jZ R)])]) (by rfl) (acZ T s.size (by omega) hO.sm R hq)) (f38 R (fun i hi=>hR _ (getD_mem hi)) (by omega))
  | bad r=>
   have e1:lK s=([],hdA s.size r,3):=by unfold lK;rw[hW,if_neg (by simp)];simp only[hq]
   rw[e1,if_pos (by simp)]
   exact aag s (Qp hs hW (Lp:=[.con (.slice none 0 0)]) hp (aaP T s.size (by omega) hO.sm r hq))
 ·obtain ⟨T,a,e,hW⟩:∃T a e,bG s=(T,a,e):=⟨_,_,_,rfl⟩
  have e1:lK s=([],a,e):=by unfold lK;rw[if_pos he,hW]
  rw[hW] at he
  have he:e≠0:=he
  rw[e1,if_pos he]
  have h:=abM s he (Ru (G:=G) (c:=36) hs hW he (Lp:=[.con (.slice none 0 0)]) hp)
  unfold wK
  rw[if_neg he]
  exact h
theorem Px {s:ByteArray} (h:(eG s).2.2≠0):(eG s).1=[]:=by
 unfold eG at h⊢
 by_cases h1:(lK s).2.2≠0
 ·rw[if_pos h1]
  unfold lK at h1⊢
  by_cases h2:(bG s).2.2≠0
  ·rw[if_pos h2]
  ·rw[if_neg h2] at h1⊢
   cases hq:oL (bG s).1 with
   | ok R=>rw[hq] at h1;exact absurd rfl h1
   | bad r=>rfl
 ·rw[if_neg h1] at h⊢
  by_cases h2:rU (lK s).1=true
  ·rw[if_pos h2]
  ·rw[if_neg h2] at h;exact absurd h h1
theorem f13 (s:ByteArray) (hs:s.size≤900000) (hR:Rj s):ay Tryz.prog G 13 [ds s] (.ak [jZ (eG s).1,di (eG s).2.1,di (eG s).2.2]):=by
 refine ay.res (aeF s hs hR) fun k v hv=>?_
 unfold wK at hv
 by_cases h:(eG s).2.2=0
 ·rw[if_pos h] at hv;exact hv
 ·rw[if_neg h] at hv
  obtain ⟨us,rfl,a1,u1,rfl,h1,r⟩:=hv
  refine⟨_,rfl,a1,u1,rfl,?_,r⟩
  rw[Px h]
  exact lV h1
end Go.Proofs
/- Expression. -/
namespace Go.Proofs
open Go Go.Ab Go.RowKit
set_option maxHeartbeats 4000000
set_option maxRecDepth 100000
variable {G:IH}
noncomputable def dRx (n:Int):cZ:=fun f a=>match f,a with
 | 45,[_]=>some (di n)
 | _,_=>none
noncomputable def MC (n:Int) (a e:Int) (post:List (Nat×List AV)):dK:={ d:=dRx n,m:=mRd a e post }
abbrev oM:DV:=.agg [di 0,ds ⟨#[]⟩,di 0,di 0,di 0,.con (.slice none 0 0)]
abbrev Bq:List DV:=[di 0,ds ⟨#[]⟩,di 0,di 0,di 0,.con (.slice none 0 0)]
theorem Qs {k:IH} {v:Value} (hv:DV.rel k oM v):DV.rel k (fD aJ) v:=by
 obtain ⟨vs,rfl,v1,u1,rfl,a1,v2,u2,rfl,a2,v3,u3,rfl,a3,v4,u4,rfl,a4,v5,u5,rfl,a5,v6,u6,rfl,a6,a7⟩:=hv
 exact⟨_,rfl,v1,_,rfl,a1,v2,_,rfl,a2,v3,_,rfl,a3,v4,_,rfl,a4,v5,_,rfl,a5,v6,_,rfl,lV a6,a7⟩
def eY (s:ByteArray):Ex×Int×Int:=if (jO s).2.2≠0 then jO s else if (ht (jO s).1:Int)+1>32 then (aJ,0,8) else jO s
theorem aaG (s:ByteArray) {a e:Int} (he:e≠0) (h:aA Tryz.prog G 35 [.d (ds s),.clo (.func 43) [] [.box oN 0]] [(oN,zeroE)] (.d (.ak [di a,di e])) [(oN,zeroE)]) :
  ay Tryz.prog G 15 [ds s] (.ak [oM,di a,di e]):=by
 have he1:(e==0)=false:=by rw[beq_eq_false_iff_ne];exact he
 have he2:(e != 0)=true:=by simp[he]
 refine ay.aP Tryz.func15 rfl Tryz.call15 ?_
 refine aF (aj:=MC 0 a e [(oN,zeroE)]) (keep:=[]) (cuts:=[]) (n:=1000) follows ?_
 refine au (fun _ _ _ ZK=>(fun Za=>(aA Tryz.prog G 35 [(vs s),(.clo (.func 43) [] [(.box 1000000 0)])] [(1000000,[(vi 0),(vs (ByteArray.mk #[])),(vi 0),(vi 0),(vi 0),(.d (.con (.slice none 0 0)))])] (.d (.ak [(di a),(di e)])) [(1000000,[(vi 0),(vs (ByteArray.mk #[])),(vi 0),(vi 0),(vi 0),(.d (.con (.slice none 0 0)))])]∧(((e==0)=true)→ZK 45 [Za] (di 0))∧(((e==(0:Int)&&decide ((0:Int)>(32:Int)))=true)→(((true=true)→(((.ak [Za,(di a),(di 8)]):DV)=(.ak [oM,(di a),(di e)])))∧((true=false)→(((.ak [Za,(di 0),(di 0)]):DV)=(.ak [oM,(di a),(di e)])))))∧(((e==(0:Int)&&decide ((0:Int)>(32:Int)))=false)→((((e != 0)=true)→(ZS ((.ak [oM,(di a),(di e)]):DV)))∧(((e != 0)=false)→(((.ak [Za,(di 0),(di 0)]):DV)=(.ak [oM,(di a),(di e)]))))))) ((.agg [(di 0),(ds (ByteArray.mk #[])),(di 0),(di 0),(di 0),(.con (.slice none 0 0))]):DV)) (by kernel_rfl) ?_
 try dsimp only
 rw[he1,he2]
 exact⟨h,fun c=>(by cases c),fun c=>(by cases c),fun _=>⟨fun _=>rfl,fun c=>(by cases c)⟩⟩
theorem Q8 (s:ByteArray) {a:Int} {L:List AV} (hL:L=(Bq.map fun _=>AV.any)∨∃x,L=jl (ht x) x) (h:aA Tryz.prog G 35 [.d (ds s),.clo (.func 43) [] [.box oN 0]] [(oN,zeroE)] (.d (.ak [di a,di 3])) [(oN,L)]) :
  ay Tryz.prog G 15 [ds s] (.ak [oM,di a,di 3]):=by
 refine ay.aP Tryz.func15 rfl Tryz.call15 ?_
 rcases hL with rfl|⟨x,rfl⟩
 ·refine aF (aj:=MC 0 a 3 [(oN,Bq.map fun _=>AV.any)]) (keep:=[]) (cuts:=[]) (n:=1000) follows ?_
  refine au (fun _ _ _ _=>(aA Tryz.prog G 35 [(vs s),(.clo (.func 43) [] [(.box 1000000 0)])] [(1000000,[(vi 0),(vs (ByteArray.mk #[])),(vi 0),(vi 0),(vi 0),(.d (.con (.slice none 0 0)))])] (.d (.ak [(di a),(di 3)])) [(1000000,[.any,.any,.any,.any,.any,.any])]∧((false=true)→(((true=true)→(((.ak [(.agg [(di 0),(ds (ByteArray.mk #[])),(di 0),(di 0),(di 0),(.con (.slice none 0 0))]),(di a),(di 8)]):DV)=(.ak [oM,(di a),(di 3)])))∧((true=false)→False)))∧((false=false)→(((true=true)→(ZS ((.ak [oM,(di a),(di 3)]):DV)))∧((true=false)→False))))) (by kernel_rfl) ?_
  exact⟨h,fun c=>(by cases c),fun _=>⟨fun _=>rfl,fun c=>(by cases c)⟩⟩
 ·refine aF (aj:=MC 0 a 3 [(oN,jl (ht x) x)]) (keep:=[]) (cuts:=[]) (n:=1000) follows ?_
  refine au (fun _ _ _ ZK=>(aA Tryz.prog G 35 [(vs s),(.clo (.func 43) [] [(.box 1000000 0)])] [(1000000,[(vi 0),(vs (ByteArray.mk #[])),(vi 0),(vi 0),(vi 0),(.d (.con (.slice none 0 0)))])] (.d (.ak [(di a),(di 3)])) [(1000000,[(vi x.k),(vs x.s),(vi x.n),(vi x.d),(vi x.pos),(.d (.slc 6 x.kids.length (lay (cu (ht x)) x.kids)))])]∧((false=true)→ZK 45 [(aN (ht x) x)] (di 0))∧((false=true)→(((true=true)→(((.ak [(.agg [(di 0),(ds (ByteArray.mk #[])),(di 0),(di 0),(di 0),(.con (.slice none 0 0))]),(di a),(di 8)]):DV)=(.ak [oM,(di a),(di 3)])))∧((true=false)→(((.ak [(aN (ht x) x),(di 0),(di 0)]):DV)=(.ak [oM,(di a),(di 3)])))))∧((false=false)→(((true=true)→(ZS ((.ak [oM,(di a),(di 3)]):DV)))∧((true=false)→(((.ak [(aN (ht x) x),(di 0),(di 0)]):DV)=(.ak [oM,(di a),(di 3)]))))))) (by kernel_rfl) ?_
  exact⟨h,fun c=>(by cases c),fun c=>(by cases c),fun _=>⟨fun _=>rfl,fun c=>(by cases c)⟩⟩
theorem ab7 (s:ByteArray) (x:Ex) (h:aA Tryz.prog G 35 [.d (ds s),.clo (.func 43) [] [.box oN 0]] [(oN,zeroE)] (.d (.ak [di 0,di 0])) [(oN,jl (ht x) x)]) (h45:ay Tryz.prog G 45 [fD x] (di ((ht x:Int)+1))) :
  ay Tryz.prog G 15 [ds s] (if (ht x:Int)+1>32 then .ak [oM,di 0,di 8] else .ak [fD x,di 0,di 0]):=by
 refine ay.aP Tryz.func15 rfl Tryz.call15 ?_
 refine aF (aj:=MC ((ht x:Int)+1) 0 0 [(oN,jl (ht x) x)]) (keep:=[]) (cuts:=[]) (n:=1000) follows ?_
 refine au (fun _ _ _ ZK=>(fun Za Zb=>(aA Tryz.prog G 35 [(vs s),(.clo (.func 43) [] [(.box 1000000 0)])] [(1000000,[(vi 0),(vs (ByteArray.mk #[])),(vi 0),(vi 0),(vi 0),(.d (.con (.slice none 0 0)))])] (.d (.ak [(di 0),(di 0)])) [(1000000,[(vi x.k),(vs x.s),(vi x.n),(vi x.d),(vi x.pos),(.d (.slc 6 x.kids.length (lay (cu (ht x)) x.kids)))])]∧((true=true)→ZK 45 [(aN (ht x) x)] (di (↑(ht x)+1)))∧((Zb=true)→(((true=true)→(((.ak [Za,(di 0),(di 8)]):DV)=(if (↑(ht x):Int)+1>32 then DV.ak [oM,di 0,di 8] else DV.ak [fD x,di 0,di 0])))∧((true=false)→(((.ak [(aN (ht x) x),(di 0),(di 0)]):DV)=(if (↑(ht x):Int)+1>32 then DV.ak [oM,di 0,di 8] else DV.ak [fD x,di 0,di 0])))))∧((Zb=false)→(((false=true)→(((.ak [Za,(di 0),(di 0)]):DV)=(if (↑(ht x):Int)+1>32 then DV.ak [oM,di 0,di 8] else DV.ak [fD x,di 0,di 0])))∧((false=false)→(((.ak [(aN (ht x) x),(di 0),(di 0)]):DV)=(if (↑(ht x):Int)+1>32 then DV.ak [oM,di 0,di 8] else DV.ak [fD x,di 0,di 0]))))))) ((.agg [(di 0),(ds (ByteArray.mk #[])),(di 0),(di 0),(di 0),(.con (.slice none 0 0))]):DV) ((0:Int)==(0:Int)&&decide ((↑(ht x):Int)+(1:Int)>(32:Int)))) (by kernel_rfl) ?_
 try dsimp only
 have e0:((0:Int)==0)=true:=rfl
 rw[e0,Bool.true_and]
 refine⟨h,fun _=>h45,fun c=>⟨fun _=>?_,fun c2=>(by cases c2)⟩,fun c=>⟨fun c2=>(by cases c2),fun _=>?_⟩⟩
 ·rw[if_pos (of_decide_eq_true c)]
 ·rw[if_neg (of_decide_eq_false c)];rfl
def QJ (s:ByteArray):Prop:=Sm (jO s).1
noncomputable def vP (x:Ex×Int×Int):DV:=.ak [if x.2.2=0 then fD x.1 else oM,di x.2.1,di x.2.2]
theorem aeI (s:ByteArray) (hs:s.size≤900000) (hR:QJ s):ay Tryz.prog G 15 [ds s] (vP (eY s)):=by
 have hp:bg (Bq.map AV.d)=true:=rfl
 unfold QJ at hR
 unfold eY
 by_cases he:(bG s).2.2=0
 ·obtain ⟨T,a,e,hW⟩:∃T a e,bG s=(T,a,e):=⟨_,_,_,rfl⟩
  rw[hW] at he
  have he:e=0:=he
  subst he
  obtain ⟨rfl,hO⟩:=uJ hW
  have hsz:=hO.size
  have hln:=hO.len
  cases hq:pr (.lvl 0) T with
  | ok x r=>
   cases r with
   | nil=>
    have e1:jO s=(x,0,0):=by unfold jO;rw[hW,if_neg (by simp)];simp only[hq]
    rw[e1] at hR⊢
    rw[if_neg (by simp)]
    have h:=ab7 s x (Vr (G:=G) hs hW (Lp:=Bq) hp (post:=[(oN,jl (ht x) x)]) (by rfl) (Y5 T s.size (by omega) hO.sm x [] hq)) (f45 _ x (Nat.le_refl _) hR)
    by_cases hd:(ht x:Int)+1>32
    ·rw[if_pos hd] at h;rw[if_pos hd];exact h
    ·rw[if_neg hd] at h;rw[if_neg hd];exact h
   | cons w r=>
    have e1:jO s=(aJ,hdA s.size (w :: r),3):=by unfold jO;rw[hW,if_neg (by simp)];simp only[hq]
    rw[e1,if_pos (by simp)]
    exact Q8 s (.inr ⟨x,rfl⟩) (Ya (G:=G) hs hW (Lp:=Bq) hp (L2:=jl (ht x) x) (List.cons_ne_nil w r) (by rfl) (Y5 T s.size (by omega) hO.sm x (w :: r) hq))
  | bad r=>
   have e1:jO s=(aJ,hdA s.size r,3):=by unfold jO;rw[hW,if_neg (by simp)];simp only[hq]
   rw[e1,if_pos (by simp)]
   exact Q8 s (.inl rfl) (Qp (G:=G) hs hW (Lp:=Bq) hp (ab8 T s.size (by omega) hO.sm r hq))
 ·obtain ⟨T,a,e,hW⟩:∃T a e,bG s=(T,a,e):=⟨_,_,_,rfl⟩
  have e1:jO s=(aJ,a,e):=by unfold jO;rw[if_pos he,hW]
  rw[hW] at he
  have he:e≠0:=he
  rw[e1,if_pos he]
  have h:=aaG s he (Ru (G:=G) (c:=43) hs hW he (Lp:=Bq) hp)
  unfold vP
  rw[if_neg he]
  exact h
theorem acn {s:ByteArray} (h:(jO s).2.2≠0):(jO s).1=aJ:=by
 unfold jO at h⊢
 by_cases h2:(bG s).2.2≠0
 ·rw[if_pos h2]
 ·rw[if_neg h2] at h⊢
  cases hq:pr (.lvl 0) (bG s).1 with
  | ok x r=>
   cases r with
   | nil=>rw[hq] at h;exact absurd rfl h
   | cons w r=>rfl
  | bad r=>rfl
theorem U2 {s:ByteArray} (h:(eY s).2.2≠0):(eY s).1=aJ:=by
 unfold eY at h⊢
 by_cases h1:(jO s).2.2≠0
 ·rw[if_pos h1];exact acn h1
 ·rw[if_neg h1] at h⊢
  by_cases h2:(ht (jO s).1:Int)+1>32
  ·rw[if_pos h2]
  ·rw[if_neg h2] at h;exact absurd h h1
theorem f15 (s:ByteArray) (hs:s.size≤900000) (hR:QJ s):ay Tryz.prog G 15 [ds s] (.ak [fD (eY s).1,di (eY s).2.1,di (eY s).2.2]):=by
 refine ay.res (aeI s hs hR) fun k v hv=>?_
 unfold vP at hv
 by_cases h:(eY s).2.2=0
 ·rw[if_pos h] at hv;exact hv
 ·rw[if_neg h] at hv
  obtain ⟨us,rfl,a1,u1,rfl,h1,r⟩:=hv
  refine⟨_,rfl,a1,u1,rfl,?_,r⟩
  rw[U2 h]
  exact Qs h1
/-! The two ways in which rules are valid are one. -/
end Go.Proofs
/- Equal expressions. -/
namespace Go.Proofs
open Go Go.Ab Go.RowKit
set_option maxHeartbeats 4000000
set_option maxRecDepth 100000
variable {G:IH}
mutual
def mQ:Ex→Ex→Bool
 | .mk k s n d _ l,.mk k' s' n' d' _ l'=>(decide (k=k')&&decide (s=s')&&(decide (n=n')&&decide (d=d'))&&decide (l.length=l'.length))&&FN l l'
def FN:List Ex→List Ex→Bool
 | x :: l,y :: l'=>mQ x y&&FN l l'
 | _,_=>true
end
def Nw (x y:Ex):Bool:=decide (x.k=y.k)&&decide (x.s=y.s)&&(decide (x.n=y.n)&&decide (x.d=y.d))&&decide (x.kids.length=y.kids.length)
theorem NV (x y:Ex):mQ x y=(Nw x y&&FN x.kids y.kids):=by
 cases x;cases y;simp only[mQ,Nw,Ex.k,Ex.s,Ex.n,Ex.d,Ex.kids];rfl
theorem Jj:∀{l l':List Ex},l.length=l'.length→(FN l l'=true↔∀i,i<l.length→mQ (l.getD i aJ) (l'.getD i aJ)=true)
 | [],l',_=>⟨fun _ i hi=>absurd hi (Nat.not_lt_zero _),fun _=>by unfold FN;rfl⟩
 | x :: l,[],h=>by simp at h
 | x :: l,y :: l',h=>by
  have h2:l.length=l'.length:=by simpa using h
  simp only[FN,aV,Jj h2]
  constructor
  ·rintro ⟨h3,h4⟩ i hi
   cases i with
   | zero=>exact h3
   | succ i=>exact h4 i (by simpa using hi)
  ·intro h3
   exact⟨h3 0 (by simp),fun i hi=>h3 (i+1) (by simpa using hi)⟩
theorem Zp (x y:Ex):(x.k != y.k||!x.s.toList==y.s.toList||!Bool.rec false (x.d==y.d) (x.n==y.n)||(x.kids.length:Int) != (y.kids.length:Int)) = !Nw x y:=by
 have e1:∀a b:Int,(a==b)=decide (a=b):=fun a b=>rfl
 have e2:∀a b:Nat,((a:Int)==(b:Int))=decide (a=b):=fun a b=>by rw[e1,decide_eq_decide];omega
 rw[gQ,bne,bne,e1,e1,e1,e2]
 unfold Nw
 cases decide (x.k=y.k)<;>cases decide (x.s=y.s)<;>cases decide (x.n=y.n)<;>cases decide (x.d=y.d)<;>cases decide (x.kids.length=y.kids.length)<;>rfl
noncomputable def Tn:cZ:=fun f a=>match f,a with
 | 22,[e,e']=>some (db (mQ (aO e) (aO e')))
 | _,_=>none
noncomputable def S22 (m:Nat) (x:Ex) (m':Nat) (y:Ex) (k:Nat):AS:=⟨regs Tryz.f22.ntmps [(2,.box 2 0),(3,.box 3 0),(5,vi k)],[(2,jl m x),(3,jl m' y)]⟩
theorem f22 (m:Nat):∀(m':Nat) (x y:Ex),ht x≤m→ht y≤m'→Sm x→Sm y→ay Tryz.prog G 22 [jG m x,jG m' y] (db (mQ x y)):=by
 induction m using Nat.strongRecOn with
 | _ m ih=>
 intro m' x y hx hy hsx hsy
 have hl:=hsx.len.1
 have hl2:=hsy.len.1
 refine ay.walk (aj:=Tn) (keep:=[]) follows Tryz.func22 rfl Tryz.call22 ?_
 refine au (fun ZT ZW ZQ _=>(fun Za=>(((Za=true)→(((db false):DV)=(db (mQ x y))))∧((Za=false)→ZW [cd Tryz.f22 [1,1,0,1,0],(.blk 0),cd Tryz.f22 [1,1,1]] (aB ZT [1]) ZQ))) (x.k != y.k||!x.s.toList==y.s.toList||!Bool.rec false (x.d==y.d) (x.n==y.n)||(↑x.kids.length:Int) != ↑y.kids.length)) (by kernel_rfl) ?_
 try dsimp only
 rw[Zp]
 refine⟨fun h=>?_,fun h=>?_⟩
 ·have h:Nw x y=false:=by simpa using h
  rw[NV,h];rfl
 ·have h:Nw x y=true:=by simpa using h
  have hkk:x.kids.length=y.kids.length:=by
   unfold Nw at h
   simp only[aV,decide_eq_true_eq] at h
   exact h.2
  refine aK.loop (c:=aY (aC Tryz.f22) [1,1,0,1,0,0]) (by kernel_rfl) (S22 m x m' y) (fun k=>k≤x.kids.length∧∀i,i<k→mQ (x.kids.getD i aJ) (y.kids.getD i aJ)=true) (fun k=>x.kids.length-k) 0 ?_ ⟨Nat.zero_le _,fun i hi=>absurd hi (Nat.not_lt_zero _)⟩ ?_
  ·exact AS.bV (by kernel_rfl)
  ·rintro k ⟨hk,hkd⟩
   refine walk (aj:=Tn) (keep:=[]) (cuts:=[]) (n:=1000) follows ?_
   refine bZ (fun ZT ZW ZQ ZK ZA _=>(fun Za Zb=>((((decide ((↑k:Int)<↑x.kids.length))=true)→((((0≤(↑k:Int))∧((↑k:Int)<↑x.kids.length))∧((0≤(↑k:Int))∧((↑k:Int)<↑y.kids.length))∧ZK 22 [Zb,Za] (db (mQ (aO Zb) (aO Za))))∧(((!mQ (aO Zb) (aO Za))=true)→(((db false):DV)=(db (mQ x y))))∧(((!mQ (aO Zb) (aO Za))=false)→((I64 (↑k+1))∧(ZA (aB ZT [0,1]))))))∧(((decide ((↑k:Int)<↑x.kids.length))=false)→ZW [cd Tryz.f22 [1,1,1]] (aB ZT [1]) ZQ))) (kC m' (y.kids.getD (↑k:Int).toNat aJ)) (kC m (x.kids.getD (↑k:Int).toNat aJ))) (by kernel_rfl) ?_
   try dsimp only
   simp only[Int.toNat_natCast]
   refine⟨fun h1=>?_,fun h1=>?_⟩
   ·have hk2:k<x.kids.length:=by have:=of_decide_eq_true h1;omega
    have hk3:k<y.kids.length:=by omega
    have e1:IntKind.wrap .i64 ((k:Int)+1)=(k+1:Nat):=rV ⟨by omega,by omega⟩
    refine⟨⟨⟨by omega,by omega⟩,⟨by omega,by omega⟩,?_⟩,fun h2=>?_,fun h2=>⟨⟨by omega,by omega⟩,Again.mk (k+1) ?_ ⟨hk2,fun i hi=>?_⟩ (by omega)⟩⟩
    ·show ay Tryz.prog G 22 [iF m x k,iF m' y k] (db (mQ (aO (iF m x k)) (aO (iF m' y k))))
     rw[kK hx hk2,kK hy hk3]
     exact wZ (Q:=fun d=>ay Tryz.prog G 22 [d,iF m' y k] _) hx hk2 fun m1 h1 h2=>wZ (Q:=fun d=>ay Tryz.prog G 22 [jG m1 (x.kids.getD k aJ),d] _) hy hk3 fun m2 _ h4=>ih m1 h1 m2 _ _ h2 h4 (hsx.kid hk2) (hsy.kid hk3)
    ·have h2:(!mQ (aO (iF m x k)) (aO (iF m' y k)))=true:=h2
     rw[kK hx hk2,kK hy hk3] at h2
     have e2:FN x.kids y.kids=false:=by
      rw[Bool.eq_false_iff]
      intro hh
      rw[(Jj hkk).1 hh k hk2] at h2
      cases h2
     rw[NV,e2,Bool.and_false]
    ·exact AS.bV (by kernel_rfl)
    ·rcases Nat.lt_or_ge i k with h3|h3
     ·exact hkd i h3
     ·obtain rfl:i=k:=by omega
      have h2:(!mQ (aO (iF m x i)) (aO (iF m' y i)))=false:=h2
      rw[kK hx hk2,kK hy hk3] at h2
      simpa using h2
   ·simp only[decide_eq_false_iff_not] at h1
    refine walk (aj:=Tn) (keep:=[]) (cuts:=[]) (n:=1000) follows ?_
    refine au (fun _ _ _ _=>(((db true):DV)=(db (mQ x y)))) (by kernel_rfl) ?_
    rw[NV,h,(Jj hkk).2 (fun i hi=>hkd i (by omega))];rfl
/-! slices.EqualFunc on kids. -/
end Go.Proofs
/- Few rules;the reference's Format. -/
namespace Go.Proofs
open Go Go.Ab Go.RowKit
set_option maxHeartbeats 4000000
set_option maxRecDepth 100000
variable {G:IH}
theorem getD_in {α:Type} {l:List α} {x0:α} {i:Nat} (h:i<l.length):l.getD i x0∈l:=by
 rw[List.getD,iT h];exact List.getElem_mem h
end Go.Proofs
/- The two formats are one. -/
namespace Go.Proofs
open Go Go.Ab Go.RowKit
end Go.Proofs
