import Derived.Test.YtcfclncbpeahnaaGreatDoorAcD
import Derived.Test.YtcfclncbpeahnaaGreatDoorG4
import Derived.Test.YtcfclncbpeahnaaGreatDoorG3
import Derived.Test.YtcfclncbpeahnaaGreatDoorG2
import Derived.Tactics2
import Derived.WalkSmall
import Derived.Laws.IdiomRangeMap
import Derived.LoopTactic
import Derived.LoopN
/- The words of a text,the reference's side. -/
set_option autoImplicit false
namespace Go.Proofs
open Go Go.Ab Go.RowKit
set_option maxHeartbeats 1000000
set_option maxRecDepth 100000
variable {G:IH}
end Go.Proofs
/- The parser,the program's side: the next word,taking one. -/
namespace Go.Proofs
open Go Go.Ab Go.RowKit
set_option maxHeartbeats 1000000
set_option maxRecDepth 100000
variable {G:IH}
abbrev pC (t:List Tk) (e:Int):List AV:=[.d (wdsD t),.d (di e)]
abbrev pB (t:List Tk) (e:Int):List (Nat×List AV):=[(1000000,pC t e)]
abbrev hdT (e:Int) (t:List Tk):Tk:=(hdS t,hdA e t)
theorem tk_tail (t:List Tk):(fun i=>tkF t (1+i))=tkF t.tail:=by
 funext i
 unfold tkF
 cases t with
 | nil=>rfl
 | cons w t=>rw[Nat.add_comm];rfl
theorem f110 (t:List Tk) (e:Int):FnM Tryz.prog G 110 [.box 1000000 0] (pB t e) (.d (tkD (hdT e t))) (pB t e):=by
 refine FnM.of_body (mv:=[]) (by kernel_rfl) Tryz.func110 rfl Tryz.call110 ?_
 refine walkK (orc:=noO) (keep:=[]) (cuts:=[]) (n:=1000) follows ?_
 refine of_tr (fun _ _ _ _=>(fun Za=>(((((↑t.length:Int)==0)=true)→(((.d (.agg [(ds (ByteArray.mk #[])),(di e)])):AV)=(.d (.agg [(ds (hdS t)),(di (hdA e t))]))∧(Za:(Option (List AV)))=Za∧True))∧((((↑t.length:Int)==0)=false)→((((0:Int)≤(0:Int))∧(0<(↑t.length:Int)))∧((.d (.agg [(ds (t.getD (Int.toNat 0) tk0).fst),(di (t.getD (Int.toNat 0) tk0).snd)])):AV)=(.d (.agg [(ds (hdS t)),(di (hdA e t))]))∧(Za:(Option (List AV)))=Za∧True)))) (some [(.d (.slc 2 t.length (tkF t))),(vi e)])) (by kernel_rfl) ?_
 try dsimp only
 cases t with
 | nil=>exact⟨fun _=>⟨rfl,rfl,trivial⟩,fun h=>(by cases h)⟩
 | cons w t=>
  have hn:((((w :: t).length:Nat):Int)==0)=false:=by rw[beq_eq_false_iff_ne];simp only[List.length_cons];omega
  exact⟨fun h=>(by rw[hn] at h;cases h),fun _=>⟨⟨by omega,by simp only[List.length_cons];omega⟩,rfl,rfl,trivial⟩⟩
noncomputable def m75 (w:Tk) (t:List Tk) (e:Int):FuncId→List AV→List (Nat×List AV)→Option (AV×List (Nat×List AV)):=fun f _ _=>match f with
 | 110=>some (.d (tkD w),pB t e)
 | _=>none
noncomputable def d75 (b:Bool):Oracle:=fun f _=>match f with
 | 111=>some (db b)
 | 92=>some (db b)
 | _=>none
noncomputable def orc75 (b:Bool) (w:Tk) (t:List Tk) (e:Int):Orc:={ d:=d75 b,m:=m75 w t e }
def inB (l:List ByteArray) (s:ByteArray):Bool:=decide (s.size≠0)&&anyB l s
theorem inB_eq (l:List ByteArray) (s:ByteArray):((ByteArray.toList s==ByteArray.toList { data:=#[] })||!anyB l s) = !inB l s:=by
 rw[emp_beq];unfold inB
 by_cases h:s.size=0
 ·simp[h]
 ·simp[h]
theorem cons_of {t:List Tk} {l:List ByteArray} (h:inB l (hdS t)=true):1≤t.length∧t.tail.length=t.length-1:=by
 cases t with
 | nil=>unfold inB at h;simp[hdS] at h
 | cons w t=>simp
theorem f75_yes (l:List ByteArray) (t:List Tk) (e:Int) (hl:l.length≤1000000) (h:inB l (hdS t)=true):FnM Tryz.prog G 75 [.box 1000000 0,.d (wdD l)] (pB t e) (.d (.tup [tkD (hdT e t),db true])) (pB t.tail e):=by
 obtain ⟨h1,h2⟩:=cons_of h
 refine FnM.of_body (mv:=[]) (by kernel_rfl) Tryz.func75 rfl Tryz.call75 ?_
 refine walkK (orc:=orc75 (anyB l (hdS t)) (hdT e t) t e) (keep:=[]) (cuts:=[]) (n:=1000) follows ?_
 refine of_tr (fun _ _ _ ZK=>(fun Za=>(FnM Tryz.prog G 110 [(.box 1000000 0)] [(1000000,[(.d (.slc 2 t.length (tkF t))),(vi e)])] (.d Za) [(1000000,[(.d (.slc 2 t.length (tkF t))),(vi e)])]∧(((!(hdS t).toList==(ByteArray.mk #[]).toList)=true)→ZK 111 [(.slc 1 l.length (stF l)),(ds (hdS t))] (db (anyB l (hdS t))))∧((((hdS t).toList==(ByteArray.mk #[]).toList||!anyB l (hdS t))=true)→(((.d (.tup [Za,(db false)])):AV)=(.d (.tup [Za,(db true)]))∧((some [(.d (.slc 2 t.length (tkF t))),(vi e)]):(Option (List AV)))=(some [(.d (.slc 2 t.tail.length (tkF t.tail))),(vi e)])∧True))∧((((hdS t).toList==(ByteArray.mk #[]).toList||!anyB l (hdS t))=false)→((((0:Int)≤(1:Int))∧(1≤(↑t.length:Int))∧((↑t.length:Int)≤↑t.length))∧(ZS ((.d (.tup [Za,(db true)])):AV))∧((some [(.d (.slc 2 ((↑t.length:Int)-1).toNat (fun i=>tkF t (Int.toNat 1+i)))),(vi e)]):(Option (List AV)))=(some [(.d (.slc 2 t.tail.length (tkF t.tail))),(vi e)])∧True)))) ((.agg [(ds (hdS t)),(di (hdA e t))]):DV)) (by kernel_rfl) ?_
 try dsimp only
 rw[inB_eq,h]
 have e1:((t.length:Int)-1).toNat=t.tail.length:=by omega
 have e2:(fun i=>tkF t (Int.toNat 1+i))=tkF t.tail:=tk_tail t
 rw[e1,e2]
 exact⟨f110 t e,fun _=>f111 l _ hl,fun c=>(by cases c),fun _=>⟨⟨by omega,by omega,by omega⟩,rfl,rfl,trivial⟩⟩
theorem f75_no (l:List ByteArray) (t:List Tk) (e:Int) (hl:l.length≤1000000) (h:inB l (hdS t)=false):FnM Tryz.prog G 75 [.box 1000000 0,.d (wdD l)] (pB t e) (.d (.tup [tkD (hdT e t),db false])) (pB t e):=by
 refine FnM.of_body (mv:=[]) (by kernel_rfl) Tryz.func75 rfl Tryz.call75 ?_
 refine walkK (orc:=orc75 (anyB l (hdS t)) (hdT e t) t e) (keep:=[]) (cuts:=[]) (n:=1000) follows ?_
 refine of_tr (fun _ _ _ ZK=>(fun Za Zb=>(FnM Tryz.prog G 110 [(.box 1000000 0)] [(1000000,[Za,(vi e)])] (.d Zb) [(1000000,[Za,(vi e)])]∧(((!(hdS t).toList==(ByteArray.mk #[]).toList)=true)→ZK 111 [(.slc 1 l.length (stF l)),(ds (hdS t))] (db (anyB l (hdS t))))∧((((hdS t).toList==(ByteArray.mk #[]).toList||!anyB l (hdS t))=true)→((ZS ((.d (.tup [Zb,(db false)])):AV))∧((some [Za,(vi e)]):(Option (List AV)))=(some [Za,(vi e)])∧True))∧((((hdS t).toList==(ByteArray.mk #[]).toList||!anyB l (hdS t))=false)→((((0:Int)≤(1:Int))∧(1≤(↑t.length:Int))∧((↑t.length:Int)≤↑t.length))∧((.d (.tup [Zb,(db true)])):AV)=(.d (.tup [Zb,(db false)]))∧((some [(.d (.slc 2 ((↑t.length:Int)-1).toNat (fun i=>tkF t (Int.toNat 1+i)))),(vi e)]):(Option (List AV)))=(some [Za,(vi e)])∧True)))) ((.d (.slc 2 t.length (tkF t))):AV) ((.agg [(ds (hdS t)),(di (hdA e t))]):DV)) (by kernel_rfl) ?_
 try dsimp only
 rw[inB_eq,h]
 exact⟨f110 t e,fun _=>f111 l _ hl,fun _=>⟨rfl,rfl,trivial⟩,fun c=>(by cases c)⟩
theorem FnM.st {f:FuncId} {l:List ByteArray} {p:AV} {pre post:List (Nat×List AV)} {r:AV} (h:FnM Tryz.prog G f [p,.d (wdD l)] pre r post):FnM Tryz.prog G f [p,.d (st1 l)] pre r post:=
 ⟨h.1,fun F w h0 β us g=>h.2 F w h0 β us ⟨g.glob,g.holds,g.ext,g.old,g.kept,g.fix,g.size,fun t x hx=>by
  cases t with
  | zero=>exact g.regs 0 x hx
  | succ t=>cases t with
   | zero=>
    obtain rfl:AV.d (wdD l)=x:=by simpa using hx
    obtain ⟨v,e,hr⟩:=g.regs 1 (.d (st1 l)) rfl
    exact⟨v,e,st1_rel hr⟩
   | succ t=>exact g.regs (t+2) x hx,g.box,g.inj⟩⟩
theorem inB_one (w s:ByteArray) (h:w.size≠0):inB [w] s=decide (s=w):=by
 unfold inB anyB
 by_cases hs:s=w
 ·subst hs;simp[h]
 ·have:¬w=s:=fun e=>hs e.symm
  simp[hs,this]
abbrev mkV (a:Int):Value:=.iface 98 (.agg #[.int .i64 a])
theorem run_field54 (s:ByteArray) (a:Int) (w:World):(Instr.field 54 (.agg #[.string s,.int .i64 a]) 1).run Tryz.prog w=.ok (.int .i64 a) w:=by kernel_rfl
theorem t74 {v:Value} {w:World} {s:ByteArray} {a:Int} {RR:World→Prop} (hcf:∀(us:Array Value) (w:World),(callFunc 110 us).run Tryz.prog w=.ok (.enter 110 us) w)
  (hc:Calls Tryz.prog 110 #[v] w fun e w'=>e=.returned (.agg #[.string s,.int .i64 a])∧RR w'):Calls Tryz.prog 74 #[v] w fun e w'=>e=.panicked (pch (mkV a))∧RR w':=by
 go_enter Tryz.func74,(show Tryz.f74.ntmps=7 from rfl)
 go_wp2_with (go_at_call 110;refine hc.mono ?_;rintro e w' ⟨rfl,hb⟩)
 rw[run_field54]
 go_wp2
 exact⟨rfl,rfl,hb⟩
theorem tk_value {h:IH} {s:ByteArray} {a:Int} {v:Value} (hv:DV.rel h (tkD (s,a)) v):v=.agg #[.string s,.int .i64 a]:=by
 obtain ⟨us,rfl,v1,u1,rfl,h1,v2,u2,rfl,h2,h3⟩:=hv
 have h1:v1=.string s:=h1
 have h2:v2=.int .i64 a:=h2
 have h3:u2=[]:=h3
 subst h1;subst h2;subst h3;rfl
theorem f74 (t:List Tk) (e:Int):FnMX Tryz.prog G 74 [.box 1000000 0] (pB t e) (mkV (hdA e t)):=by
 refine⟨Tryz.call74,fun F w h β us g=>?_⟩
 obtain ⟨v,rfl,_⟩:=arg1 g
 refine t74 (s:=hdS t) (RR:=fun w'=>∃β' h',Gam G F w h ⟨[],smash (pB t e)⟩ β' h' #[] w') (f110 (G:=G) t e).1 (((f110 t e).2 F w h β #[v] g).mono ?_)
 rintro e' w' ⟨r,β',h',rfl,g1⟩
 obtain ⟨r',e1,hr⟩:=g1.regs 0 _ rfl
 obtain rfl:r=r':=by simpa using e1
 refine⟨by rw[tk_value hr],β',h',?_⟩
 have g2:=Gam.smash g1
 exact⟨g2.glob,g2.holds,g2.ext,g2.old,g2.kept,g2.fix,rfl,fun t x hx=>(by simp at hx),g2.box,g2.inj⟩
end Go.Proofs
/- The parser,the program's side: words that must be there. -/
namespace Go.Proofs
open Go Go.Ab Go.RowKit
set_option maxHeartbeats 1000000
set_option maxRecDepth 100000
variable {G:IH}
noncomputable def mTk (b:Bool) (w:Tk) (t:List Tk) (e:Int):FuncId→List AV→List (Nat×List AV)→Option (AV×List (Nat×List AV)):=fun f _ _=>match f with
 | 110=>some (.d (tkD w),pB t e)
 | 75=>some (.d (.tup [tkD w,db b]),pB t e)
 | _=>none
noncomputable def orcTk (b:Bool) (w:Tk) (t:List Tk) (e:Int):Orc:={ d:=d75 b,m:=mTk b w t e }
theorem f79_ok (w:ByteArray) (t:List Tk) (e:Int) (h:inB [w] (hdS t)=true):FnM Tryz.prog G 79 [.box 1000000 0,.d (ds w)] (pB t e) (.d (tkD (hdT e t))) (pB t.tail e):=by
 refine FnM.of_body (mv:=[]) (by kernel_rfl) Tryz.func79 rfl Tryz.call79 ?_
 refine walkK (orc:=orcTk true (hdT e t) t.tail e) (keep:=[]) (cuts:=[3]) (n:=1000) follows ?_
 refine of_tr (fun ZT ZW ZQ _=>(fun Za=>(FnM Tryz.prog G 75 [(.box 1000000 0),(.d (.slc 1 1 (elemF false 1 [(ds w)])))] [(1000000,[(.d (.slc 2 t.length (tkF t))),(vi e)])] (.d (.tup [(.agg [(ds (hdS t)),(di (hdA e t))]),(db true)])) [(1000000,[Za,(vi e)])]∧((false=true)→ZW [cd Tryz.f79 [1,1,0,1,0],cd Tryz.f79 [1,1,1]] (stS ZT [0]) ZQ)∧((false=false)→((ZS ((.d (.agg [(ds (hdS t)),(di (hdA e t))])):AV))∧((some [Za,(vi e)]):(Option (List AV)))=(some [Za,(vi e)])∧True)))) ((.d (.slc 2 t.tail.length (tkF t.tail))):AV)) (by kernel_rfl) ?_
 exact⟨FnM.st (f75_yes [w] t e (by simp) h),fun c=>(by cases c),fun _=>⟨rfl,rfl,trivial⟩⟩
theorem f79_bad (w:ByteArray) (t:List Tk) (e:Int) (h:inB [w] (hdS t)=false):FnMX Tryz.prog G 79 [.box 1000000 0,.d (ds w)] (pB t e) (mkV (hdA e t)):=by
 refine FnMX.of_body Tryz.func79 rfl Tryz.call79 ?_
 refine walkK (orc:=orcTk false (hdT e t) t e) (keep:=[]) (cuts:=[3,4]) (n:=1000) follows ?_
 refine of_tr (fun ZT ZW ZQ _=>(FnM Tryz.prog G 75 [(.box 1000000 0),(.d (.slc 1 1 (elemF false 1 [(ds w)])))] [(1000000,[(.d (.slc 2 t.length (tkF t))),(vi e)])] (.d (.tup [(.agg [(ds (hdS t)),(di (hdA e t))]),(db false)])) [(1000000,[(.d (.slc 2 t.length (tkF t))),(vi e)])]∧((true=true)→ZW [cd Tryz.f79 [1,1,0,1,0],cd Tryz.f79 [1,1,1]] (stS ZT [0]) ZQ)∧((true=false)→ZW [cd Tryz.f79 [1,1,1]] (stS ZT [1]) ZQ))) (by kernel_rfl) ?_
 refine⟨FnM.st (f75_no [w] t e (by simp) h),fun _=>?_,fun c=>(by cases c)⟩
 refine AWP.panicX follows (orcTk false (hdT e t) t e) 1 (mkV (hdA e t)) ?_
 refine of_tr (fun _ _ _ _=>(FnMX Tryz.prog G 74 [(.box 1000000 0)] [(1000000,[(.d (.slc 2 t.length (tkF t))),(vi e)])] (mkV (hdA e t))∧((.panic [(PanicEntry.mk (mkV (hdA e t)) false false)]):Exit)=(.panic [(PanicEntry.mk (mkV (hdA e t)) false false)])∧((some [.any,.any]):(Option (List AV)))=(some [.any,.any])∧True)) (by kernel_rfl) ?_
 exact⟨f74 t e,rfl,rfl,trivial⟩
theorem f78_ok (t:List Tk) (e:Int) (hs:(hdS t).size≤1000000) (h:nameB (hdS t)=true):FnM Tryz.prog G 78 [.box 1000000 0] (pB t e) (.d (ds (hdS t))) (pB t.tail e):=by
 obtain ⟨h1,h2⟩:1≤t.length∧t.tail.length=t.length-1:=by
  cases t with
  | nil=>exact absurd h (by decide +kernel)
  | cons w t=>simp
 refine FnM.of_body (mv:=[]) (by kernel_rfl) Tryz.func78 rfl Tryz.call78 ?_
 refine walkK (orc:=orcTk (nameB (hdS t)) (hdT e t) t e) (keep:=[]) (cuts:=[3]) (n:=1000) follows ?_
 refine of_tr (fun ZT ZW ZQ ZK=>(FnM Tryz.prog G 110 [(.box 1000000 0)] [(1000000,[(.d (.slc 2 t.length (tkF t))),(vi e)])] (.d (.agg [(ds (hdS t)),(di (hdA e t))])) [(1000000,[(.d (.slc 2 t.length (tkF t))),(vi e)])]∧ZK 92 [(ds (hdS t))] (db (nameB (hdS t)))∧(((!nameB (hdS t))=true)→ZW [cd Tryz.f78 [1,1,0,1,0],cd Tryz.f78 [1,1,1]] (stS ZT [0]) ZQ)∧(((!nameB (hdS t))=false)→((((0:Int)≤(1:Int))∧(1≤(↑t.length:Int))∧((↑t.length:Int)≤↑t.length))∧(ZS ((vs (hdS t)):AV))∧((some [(.d (.slc 2 ((↑t.length:Int)-1).toNat (fun i=>tkF t (Int.toNat 1+i)))),(vi e)]):(Option (List AV)))=(some [(.d (.slc 2 t.tail.length (tkF t.tail))),(vi e)])∧True)))) (by kernel_rfl) ?_
 rw[h]
 have e1:((t.length:Int)-1).toNat=t.tail.length:=by omega
 have e2:(fun i=>tkF t (Int.toNat 1+i))=tkF t.tail:=tk_tail t
 rw[e1,e2]
 exact⟨f110 t e,by rw[←h];exact f92 _ hs,fun c=>(by cases c),fun _=>⟨⟨by omega,by omega,by omega⟩,rfl,rfl,trivial⟩⟩
theorem f78_bad (t:List Tk) (e:Int) (hs:(hdS t).size≤1000000) (h:nameB (hdS t)=false):FnMX Tryz.prog G 78 [.box 1000000 0] (pB t e) (mkV (hdA e t)):=by
 refine FnMX.of_body Tryz.func78 rfl Tryz.call78 ?_
 refine walkK (orc:=orcTk (nameB (hdS t)) (hdT e t) t e) (keep:=[]) (cuts:=[3,4]) (n:=1000) follows ?_
 refine of_tr (fun ZT ZW ZQ ZK=>(FnM Tryz.prog G 110 [(.box 1000000 0)] [(1000000,[(.d (.slc 2 t.length (tkF t))),(vi e)])] (.d (.agg [(ds (hdS t)),(di (hdA e t))])) [(1000000,[(.d (.slc 2 t.length (tkF t))),(vi e)])]∧ZK 92 [(ds (hdS t))] (db (nameB (hdS t)))∧(((!nameB (hdS t))=true)→ZW [cd Tryz.f78 [1,1,0,1,0],cd Tryz.f78 [1,1,1]] (stS ZT [0]) ZQ)∧(((!nameB (hdS t))=false)→ZW [cd Tryz.f78 [1,1,1]] (stS ZT [1]) ZQ))) (by kernel_rfl) ?_
 rw[h]
 refine⟨f110 t e,by rw[←h];exact f92 _ hs,fun _=>?_,fun c=>(by cases c)⟩
 refine AWP.panicX follows (orcTk (nameB (hdS t)) (hdT e t) t e) 1 (mkV (hdA e t)) ?_
 refine of_tr (fun _ _ _ _=>(FnMX Tryz.prog G 74 [(.box 1000000 0)] [(1000000,[(.d (.slc 2 t.length (tkF t))),(vi e)])] (mkV (hdA e t))∧((.panic [(PanicEntry.mk (mkV (hdA e t)) false false)]):Exit)=(.panic [(PanicEntry.mk (mkV (hdA e t)) false false)])∧((some [.any,.any]):(Option (List AV)))=(some [.any,.any])∧True)) (by kernel_rfl) ?_
 exact⟨f74 t e,rfl,rfl,trivial⟩
end Go.Proofs
/- What is asked of the tape leaves the tape. -/
namespace Go.Ab
open Go
def Calm {α:Type}:Sem α→Prop
 | .pure _=>True
 | .load _ _ k=>∀v,Calm (k v)
 | .store _ _ _ _=>False
 | .new _ k=>∀n,Calm (k n)
 | .shape _ k=>∀x,Calm (k x)
 | .freeze _ _ _=>False
 | .frozen _ k=>∀x,Calm (k x)
 | .getObj _ k=>∀o,Calm (k o)
 | .setObj _ _ k=>Calm k
 | .choose _ k=>∀n,Calm (k n)
 | .sys _ _=>False
 | .program k=>∀p,Calm (k p)
 | .mark _ k=>Calm k
 | .halt _=>True
theorem calm_bind {α β:Type} {f:α→Sem β} (h2:∀a,Calm (f a)):∀{s:Sem α},Calm s→Calm (s.bind f)
 | .pure a,_=>h2 a
 | .load _ _ _,h1=>fun v=>calm_bind h2 (h1 v)
 | .store _ _ _ _,h1=>h1.elim
 | .new _ _,h1=>fun v=>calm_bind h2 (h1 v)
 | .shape _ _,h1=>fun v=>calm_bind h2 (h1 v)
 | .freeze _ _ _,h1=>h1.elim
 | .frozen _ _,h1=>fun v=>calm_bind h2 (h1 v)
 | .getObj _ _,h1=>fun v=>calm_bind h2 (h1 v)
 | .setObj _ _ k,h1=>calm_bind h2 (s:=k) h1
 | .choose _ _,h1=>fun v=>calm_bind h2 (h1 v)
 | .sys _ _,h1=>h1.elim
 | .program _,h1=>fun v=>calm_bind h2 (h1 v)
 | .mark _ k,h1=>calm_bind h2 (s:=k) h1
 | .halt _,_=>trivial
theorem calm_tape {α:Type} {P:Program}:∀{s:Sem α} {w w':World} {a:α},Calm s→s.run P w=.ok a w'→w'.tape=w.tape
 | .pure _,w,w',a,_,h=>by simp only[Sem.run,Result.ok.injEq] at h;rw[←h.2]
 | .load m p k,w,w',a,hc,h=>by
  simp only[Sem.run] at h
  split at h
  ·exact calm_tape (hc _) h
  ·split at h
   ·exact calm_tape (hc _) h
   ·cases h
 | .store _ _ _ _,_,_,_,hc,_=>hc.elim
 | .new _ k,w,w',a,hc,h=>by simp only[Sem.run] at h;have:=calm_tape (hc _) h;exact this
 | .shape _ k,w,w',a,hc,h=>by simp only[Sem.run] at h;exact calm_tape (hc _) h
 | .freeze _ _ _,_,_,_,hc,_=>hc.elim
 | .frozen _ k,w,w',a,hc,h=>by simp only[Sem.run] at h;exact calm_tape (hc _) h
 | .getObj _ k,w,w',a,hc,h=>by
  simp only[Sem.run] at h
  split at h
  ·cases h
  ·exact calm_tape (hc _) h
  ·cases h
 | .setObj _ _ k,w,w',a,hc,h=>by
  simp only[Sem.run] at h
  split at h
  ·cases h
  ·have:=calm_tape (s:=k) hc h
   exact this
  ·cases h
 | .choose _ k,w,w',a,hc,h=>by
  simp only[Sem.run] at h
  split at h
  ·exact calm_tape (hc _) h
  ·have:=calm_tape (hc _) h
   exact this
 | .sys _ _,_,_,_,hc,_=>hc.elim
 | .program k,w,w',a,hc,h=>by simp only[Sem.run] at h;exact calm_tape (hc _) h
 | .mark _ k,w,w',a,hc,h=>by simp only[Sem.run] at h;exact calm_tape (s:=k) hc h
 | .halt _,_,_,_,_,h=>by simp only[Sem.run] at h;cases h
theorem calm_next (r:Nat) (ty:TypeId):Calm (Instr.next (.pointer (some ⟨r,0,none⟩)) false ty):=by
 unfold Instr.next
 refine calm_bind (fun o=>?_) (fun o=>trivial)
 split
 ·rename_i h;cases h
 ·exact trivial
 ·refine calm_bind (fun o2=>?_) (fun o=>trivial)
  split
  ·dsimp only
   split
   ·trivial
   ·refine calm_bind (fun n=>?_) (fun n=>trivial)
    split<;>trivial
  ·exact trivial
 ·exact trivial
end Go.Ab
/- The kind of an operator: a range over a map. -/
namespace Go.Proofs
open Go Go.Ab Go.RowKit
set_option maxHeartbeats 4000000
set_option maxRecDepth 1000000
variable {G:IH}
theorem f94m:FnM Tryz.prog G 94 [] [] (.mapv 900) [(900,[.mp (some .i64) (binM fun _=>ds .empty) binN])]:=by
 refine FnM.of_body (mv:=[(1,900)]) (by kernel_rfl) Tryz.func94 rfl Tryz.call94 ?_
 refine walkK (orc:=noO) (keep:=[]) (cuts:=[]) (n:=1000) follows ?_
 refine of_tr (fun _ _ _ _=>((ZS ((.mapv 900):AV))∧((some [(.mp (some .i64) (putF (Value.int IntKind.i64 20) (ds (ByteArray.mk #[111,114])) (putF (Value.int IntKind.i64 19) (ds (ByteArray.mk #[97,110,100])) (putF (Value.int IntKind.i64 17) (ds (ByteArray.mk #[62,61])) (putF (Value.int IntKind.i64 16) (ds (ByteArray.mk #[62])) (putF (Value.int IntKind.i64 15) (ds (ByteArray.mk #[60,61])) (putF (Value.int IntKind.i64 14) (ds (ByteArray.mk #[60])) (putF (Value.int IntKind.i64 13) (ds (ByteArray.mk #[33,61])) (putF (Value.int IntKind.i64 12) (ds (ByteArray.mk #[61,61])) (putF (Value.int IntKind.i64 9) (ds (ByteArray.mk #[47])) (putF (Value.int IntKind.i64 8) (ds (ByteArray.mk #[42])) (putF (Value.int IntKind.i64 7) (ds (ByteArray.mk #[45])) (putF (Value.int IntKind.i64 6) (ds (ByteArray.mk #[43])) fun x=>ds (ByteArray.mk #[]))))))))))))) (putH (Value.int IntKind.i64 20) (putH (Value.int IntKind.i64 19) (putH (Value.int IntKind.i64 17) (putH (Value.int IntKind.i64 16) (putH (Value.int IntKind.i64 15) (putH (Value.int IntKind.i64 14) (putH (Value.int IntKind.i64 13) (putH (Value.int IntKind.i64 12) (putH (Value.int IntKind.i64 9) (putH (Value.int IntKind.i64 8) (putH (Value.int IntKind.i64 7) (putH (Value.int IntKind.i64 6) fun x=>false)))))))))))))]):(Option (List AV)))=(some [(.mp (some .i64) (binM fun x=>ds ByteArray.empty) binN)])∧True)) (by kernel_rfl) ?_
 exact⟨rfl,rfl,trivial⟩
structure OpM (w:World) (bm:Nat) (es:Array MapEntry) (clock:Nat):Prop where
 hb:w.heap[bm]?=some (.map es clock)
 st:MapKept.Stamped es clock
 en:∀x∈es.toList,∃k,x.key=.int .i64 k∧x.val=.string (opS k)∧opB k=true
 al:∀k,opB k=true→∃x∈es.toList,x.key=.int .i64 k
theorem opK_of {k:Int} (h:opB k=true):opK (opS k)=k:=by
 have hk:k=6∨k=7∨k=8∨k=9∨k=12∨k=13∨k=14∨k=15∨k=16∨k=17∨k=19∨k=20:=by
  unfold opB at h;simp only[decide_eq_true_eq] at h;omega
 rcases hk with rfl|rfl|rfl|rfl|rfl|rfl|rfl|rfl|rfl|rfl|rfl|rfl<;>decide +kernel
theorem opK_none {s:ByteArray} (h:∀k,opB k=true→opS k≠s):opK s=0:=by
 unfold opK
 rw[List.find?_eq_none.2]
 ·rfl
 ·intro k hk
  have:opB k=true:=by
   have:∀k∈([6,7,8,9,12,13,14,15,16,17,19,20]:List Int),opB k=true:=by decide +kernel
   exact this k hk
  simp[h k this]
theorem t88 (s:ByteArray) (w:World) {RR:World→Prop} (h94:Calls Tryz.prog 94 #[] w fun e w'=>∃bm es clock,e=.returned (.map (some bm))∧OpM w' bm es clock∧RR w') :
  Calls Tryz.prog 88 #[.string s] w fun e w'=>e=.returned (.int .i64 (opK s))∧∃(w0 w1:World) (o:Obj),RR w0∧w1.Alike w0∧w1.tape=w0.tape∧w'=w1.alloc o:=by
 go_enter Tryz.func88,(show Tryz.f88.ntmps=16 from rfl)
 go_wp2_with (go_at_call 94;refine h94.mono ?_;rintro e w0 ⟨bm,es,clock,rfl,M,hR⟩)
 have hrg:=run_range_map (P:=Tryz.prog) w0 117 3 9 bm es clock Tryz.underlying117 M.hb
 rw[hrg]
 go_wp2
 go_loopw [] (fun w'=>∃(w1:World) (seen:Array Nat),w1.Alike w0∧w1.tape=w0.tape∧w'=w1.alloc (.mapIter (some bm) clock seen clock)∧∀x∈es.toList,seen.contains x.born=true→x.val≠.string s) (fun w'=>(leftOf es (w'.iterSeen w0.heap.size)).size)
 case atStart=>exact⟨w0,#[],⟨rfl,rfl,rfl⟩,rfl,rfl,fun x _ h=>by simp at h⟩
 case round=>
  obtain ⟨w1,seen,hal,htp,rfl,hno⟩:=hrel
  have hsz:w1.heap.size=w0.heap.size:=by rw[hal.1]
  have hb1:w1.heap[bm]?=some (.map es clock):=by rw[hal.1];exact M.hb
  have law:=run_next_map (P:=Tryz.prog) w1 0 bm clock clock seen es clock hb1 M.st.1 (Nat.le_refl _)
  rw[hsz] at law
  rcases law with ⟨h0,hrun⟩|⟨e,he,w2,hal2,hrun⟩
  ·have hnx:∀ty,(Instr.next (.pointer (some ⟨w0.heap.size,0,none⟩)) false ty).run Tryz.prog (w1.alloc (.mapIter (some bm) clock seen clock))=_:=fun _=>hrun
   go_wp2
   go_ret
   have hk:opK s=0:=by
    refine opK_none fun k hk he=>?_
    obtain ⟨x,hx,hxk⟩:=M.al k hk
    obtain ⟨k',h1,h2,h3⟩:=M.en x hx
    rw[hxk] at h1
    injection h1 with _ h1
    subst h1
    exact hno x hx (all_seen es seen h0 x hx) (by rw[h2,he])
   rw[hk]
   exact⟨rfl,w0,w1,_,hR,hal,htp,rfl⟩
  ·have htp2:w2.tape=w1.tape:=by
    have:=calm_tape (calm_next w0.heap.size 0) hrun
    exact this
   obtain ⟨k,hek,hev,hkb⟩:=M.en e (mem_left he).1
   rw[hek,hev] at hrun
   have hnx:∀ty,(Instr.next (.pointer (some ⟨w0.heap.size,0,none⟩)) false ty).run Tryz.prog (w1.alloc (.mapIter (some bm) clock seen clock))=_:=fun _=>hrun
   have hsz2:w2.heap.size=w0.heap.size:=by rw[hal2.1,hal.1]
   have hb2:w2.heap[bm]?=some (.map es clock):=by rw[hal2.1];exact hb1
   have hen:=run_entry_map (P:=Tryz.prog) w2 bm clock seen es clock e hb2 (mem_left he).1 M.st.2.1
   rw[hsz2,hek,hev] at hen
   have hal3:w2.Alike w0:=⟨hal2.1.trans hal.1,hal2.2.1.trans hal.2.1,hal2.2.2.trans hal.2.2⟩
   go_wp2
   ·rename_i heq
    go_ret
    have hs:opS k=s:=by
     rw[toList_beq] at heq
     simpa using heq
    subst hs
    rw[opK_of hkb]
    exact⟨rfl,w0,w2,_,hR,hal3,htp2.trans htp,rfl⟩
   ·rename_i hne
    go_roundw
    case rel=>
     refine⟨w2,seen.push e.born,hal3,htp2.trans htp,rfl,fun x hx hc=>?_⟩
     rw[contains_push] at hc
     rcases Bool.or_eq_true _ _▸hc with h1|h1
     ·exact hno x hx h1
     ·have:x=e:=born_inj M.st.2.1 hx (mem_left he).1 (beq_iff_eq.1 h1)
      subst this
      rw[hev]
      intro hh
      injection hh with hh
      rw[toList_beq] at hne
      simp[hh] at hne
    case measure=>
     rw[←hsz2,World.iterSeen_alloc,hsz2,←hsz,World.iterSeen_alloc]
     exact left_shrinks es seen e he
theorem f88 (s:ByteArray):FnOK Tryz.prog G 88 [ds s] (di (opK s)):=by
 refine⟨Tryz.call88,fun w h us hG hw hu=>?_⟩
 obtain ⟨v,us',rfl,hv,hu'⟩:=hu
 have hv:v=.string s:=hv
 have hu':us'=[]:=hu'
 subst hv;subst hu'
 have g:Gam G ⟨fun _=>False,fun _=>0⟩ w h ⟨[],[]⟩ (fun _=>0) h #[] w:=
  ⟨hG,hw,IH.le.refl _,fun _ _ _=>⟨fun _=>rfl,rfl⟩,Kept.refl _ _,fun _ _=>⟨rfl,rfl,rfl⟩,rfl,fun t x hx=>(by simp at hx),fun s l hb=>(by simp[AS.box,Go.Ab.look] at hb),fun s s' l l' hb=>(by simp[AS.box,Go.Ab.look] at hb)⟩
 refine(t88 s w (RR:=fun w0=>∃h',h.le h'∧h'.holds w0∧Kept (fun _=>False) w w0∧∀b,b<w.heap.size→(∀o,h'.cell b o=h.cell b o)∧h'.obj b=h.obj b) ?_).mono ?_
 ·refine((f94m (G:=G)).2 _ w h _ #[] g).mono ?_
  rintro e w0 ⟨r,β',h',rfl,g1⟩
  obtain ⟨r',e1,hr⟩:=g1.regs 0 _ rfl
  obtain rfl:r=r':=by simpa using e1
  obtain ⟨_,hO⟩:=g1.box 900 _ rfl
  obtain ⟨es,clock,q1,q2,q3,q4⟩:=id hO
  have hr:r=.map (some (blk β' 900)):=hr
  refine⟨blk β' 900,es,clock,by rw[hr],⟨q1,q2,fun x hx=>?_,fun k hk=>?_⟩,h',g1.ext,g1.holds,g1.kept.mono fun _ h=>h,fun b hb=>g1.old b hb id⟩
  ·obtain ⟨p1,p2,p3⟩:=q3 x hx
   cases hk:x.key<;>rw[hk] at p1<;>simp only[keyT,MapKept.IsKey] at p1
   subst p1
   rename_i n
   rw[hk] at p2 p3
   refine⟨n,rfl,?_,?_⟩
   ·simp only[binM,putF,keyEq,decide_true,Bool.true_and,ds_cond] at p3
    exact p3
   ·simp only[binN,putH,keyEq,decide_true,Bool.true_and,Bool.or_false] at p2
    unfold opB
    simp only[Bool.or_eq_true,decide_eq_true_eq] at p2
    exact decide_eq_true (by omega)
  ·refine q4 (.int .i64 k) (by simp[keyT,MapKept.IsKey]) ?_
   unfold opB at hk
   have hk:=of_decide_eq_true hk
   simp only[binN,putH,keyEq,decide_true,Bool.true_and,Bool.or_false,Bool.or_eq_true,decide_eq_true_eq]
   omega
 ·rintro e w' ⟨rfl,w0,w1,o,⟨h',p1,p2,p3,p4⟩,hal,htp,rfl⟩
  have hh:h'.holds (w1.alloc o):=by
   refine holds_alloc (?_:h'.holds w1) o
   refine⟨fun b o v e=>?_,fun b o e=>?_⟩
   ·have:=p2.1 b o v e
    simp only[World.cell?] at this⊢
    rw[hal.1];exact this
   ·rw[hal.1];exact p2.2 b o e
  refine⟨_,h',rfl,rfl,p1,hh,?_,p4⟩
  refine⟨hal.2.1.trans p3.os,htp.trans p3.tape,hal.2.2.trans p3.output,?_,fun k hk hn=>?_⟩
  ·have:=p3.size
   show w.heap.size≤(w1.heap.push o).size
   rw[hal.1,Array.size_push];omega
  ·have:=p3.size
   show (w1.heap.push o)[k]?=_
   rw[hal.1,Array.getElem?_push_lt (by omega),←p3.block k hk hn,Array.getElem?_eq_getElem (by omega)]
end Go.Proofs
/- A cell of a box is seen as something weaker. -/
namespace Go.Ab
open Go Go.RowKit
theorem rels_setI {β:Nat→Nat} {h:IH} {x y:AV} (hxy:∀v,x.rel β h v→y.rel β h v):∀{l:List AV} {us:List Value} {i:Nat},l[i]?=some x→AV.rels β h l us→AV.rels β h (l.set i y) us
 | [],_,_,hx,_=>by simp at hx
 | z :: l,_,0,hx,⟨v,us,e,r,rs⟩=>by
  simp only[List.getElem?_cons_zero,oSi] at hx
  subst hx
  exact⟨v,us,e,hxy v r,rs⟩
 | z :: l,_,i+1,hx,⟨v,us,e,r,rs⟩=>⟨v,us,e,r,rels_setI hxy (by simpa using hx) rs⟩
theorem AS.leX.cell (st:AS) (b i:Nat) {l:List AV} {x:AV} (y:AV) (hl:st.box b=some l) (hpl:plainB l=true) (hx:l[i]?=some x) (_:plainB (l.set i y)=true) (hxy:∀(β:Nat→Nat) (h:IH) (v:Value),x.rel β h v→y.rel β h v):st.leX ⟨st.regs,setCells b i y st.boxes⟩:=by
 intro G F w0 h0 β h tm w g
 have key:∀t l1,look (setCells b i y st.boxes) t=some l1→∃l0,st.box t=some l0∧(Live β t l1→Live β t l0)∧(Own β h t l0 w.heap[blk β t]?→Own β h t l1 w.heap[blk β t]?):=by
  intro t l1 h1
  rw[look_setCells] at h1
  split at h1
  ·rename_i ht
   subst ht
   have hb:look st.boxes t=some l:=hl
   rw[hb] at h1
   simp only[Option.map_some,oSi] at h1
   subst h1
   refine⟨l,hl,fun _=>Live.plain hpl,fun hO=>?_⟩
   rw[Own.plain hpl] at hO
   obtain ⟨T,us,e,r⟩:=hO
   exact Own.of (T:=T.1) T.2 e (rels_setI (hxy β h) hx r)
  ·exact⟨l1,h1,id,id⟩
 refine⟨β,g.glob,g.holds,g.ext,g.old,g.kept,g.fix,g.size,g.regs,fun t l1 h1=>?_,fun t t' l1 l2 h1 h2 k1 k2 he=>?_⟩
 ·obtain ⟨l0,e0,hL,hO⟩:=key t l1 h1
  obtain ⟨p1,p2⟩:=g.box t l0 e0
  exact⟨fun hl=>p1 (hL hl),hO p2⟩
 ·obtain ⟨l0,e0,hL,_⟩:=key t l1 h1
  obtain ⟨l0',e0',hL',_⟩:=key t' l2 h2
  exact g.inj t t' l0 l0' e0 e0' (hL k1) (hL' k2) he
end Go.Ab
/- The parser,the program's side: expressions of a level: prefixes. -/
namespace Go.Proofs
open Go Go.Ab Go.RowKit
set_option maxHeartbeats 4000000
set_option maxRecDepth 100000
variable {G:IH}
abbrev exW (x:Ex):DV:=exD (ht x) x
theorem rel_exD_imp:∀(m M:Nat) (x:Ex),ht x≤m→ht x≤M→∀(h:IH) (v:Value),DV.rel h (exD m x) v→DV.rel h (exD M x) v:=by
 intro m
 induction m with
 | zero=>
  intro M x hx _ h v hv
  have hk:x.kids=[]:=by
   refine Classical.byContradiction fun hh=>?_
   have:0<x.kids.length:=List.length_pos_iff.2 hh
   have:=ht_kid this
   omega
  have e:∀f g:Nat→DV,∀w,DV.rel h (.slc 6 x.kids.length f) w→DV.rel h (.slc 6 x.kids.length g) w:=fun f g w ⟨p,cap,e,hc,r⟩=>⟨p,cap,e,hc,.inl (by rw[hk];rfl)⟩
  obtain ⟨vs,rfl,v1,u1,rfl,a1,v2,u2,rfl,a2,v3,u3,rfl,a3,v4,u4,rfl,a4,v5,u5,rfl,a5,v6,u6,rfl,a6,a7⟩:=hv
  exact⟨_,rfl,v1,_,rfl,a1,v2,_,rfl,a2,v3,_,rfl,a3,v4,_,rfl,a4,v5,_,rfl,a5,v6,_,rfl,e _ _ _ a6,a7⟩
 | succ m ih=>
  intro M x hx hM h v hv
  have e:∀w,DV.rel h (.slc 6 x.kids.length (lay (exG (m+1)) x.kids)) w→DV.rel h (.slc 6 x.kids.length (lay (exG M) x.kids)) w:=by
   rintro w ⟨p,cap,e,hc,r⟩
   refine⟨p,cap,e,hc,r.imp id ?_⟩
   rintro ⟨b,off,hp,r⟩
   refine⟨b,off,hp,fun i hi=>?_⟩
   obtain ⟨u,hu,h1,h2⟩:=r i hi
   have k1:=ht_kid hi
   obtain ⟨M',rfl⟩:∃M',M=M'+1:=⟨M-1,by omega⟩
   exact⟨u,ih M' (x.kids.getD i ex0) (by omega) (by omega) h u hu,h1,h2⟩
  obtain ⟨vs,rfl,v1,u1,rfl,a1,v2,u2,rfl,a2,v3,u3,rfl,a3,v4,u4,rfl,a4,v5,u5,rfl,a5,v6,u6,rfl,a6,a7⟩:=hv
  exact⟨_,rfl,v1,_,rfl,a1,v2,_,rfl,a2,v3,_,rfl,a3,v4,_,rfl,a4,v5,_,rfl,a5,v6,_,rfl,e _ a6,a7⟩
theorem kids_imp {l:List Ex} {f:Nat→DV} {x:Ex} (hx:x.kids=l) {h:IH} (hf:∀i,i<l.length→∀v,DV.rel h (f i) v→DV.rel h (exW (l.getD i ex0)) v) {v:Value} (hv:DV.rel h (.slc 6 l.length f) v):DV.rel h (.slc 6 l.length (lay (exG (ht x)) l)) v:=by
 subst hx
 refine rel_slc_imp (fun i hi v hv=>?_) hv
 have k1:=ht_kid hi
 obtain ⟨M,hM⟩:∃M,ht x=M+1:=⟨ht x-1,by omega⟩
 have h1:=rel_exD_imp _ M (x.kids.getD i ex0) (Nat.le_refl _) (by omega) h v (hf i hi v hv)
 rw[hM]
 exact h1
theorem one_imp {x y:Ex} (hx:x.kids=[y]) {h:IH} {v:Value} (hv:DV.rel h (.slc 6 1 (elemF true 6 [di y.k,ds y.s,di y.n,di y.d,di y.pos,.slc 6 y.kids.length (lay (exG (ht y)) y.kids)])) v):DV.rel h (.slc 6 1 (lay (exG (ht x)) [y])) v:=by
 refine kids_imp hx (l:=[y]) (fun i hi v hv=>?_) hv
 have hi:i<1:=hi
 obtain rfl:i=0:=by omega
 exact hv
theorem two_imp {x y z:Ex} (hx:x.kids=[y,z]) {h:IH} {v:Value} (hv:DV.rel h (.slc 6 2 (elemF true 6 [di y.k,ds y.s,di y.n,di y.d,di y.pos,.slc 6 y.kids.length (lay (exG (ht y)) y.kids),di z.k,ds z.s,di z.n,di z.d,di z.pos,.slc 6 z.kids.length (lay (exG (ht z)) z.kids)])) v):DV.rel h (.slc 6 2 (lay (exG (ht x)) [y,z])) v:=by
 refine kids_imp hx (l:=[y,z]) (fun i hi v hv=>?_) hv
 rcases i with _|_|i
 ·exact hv
 ·exact hv
 ·have hi:i+2<2:=hi
  omega
theorem node_one {k a:Int} {y:Ex} {h:IH} {v:Value} (hv:DV.rel h (.agg [di k,ds .empty,di 0,di 0,di a,.slc 6 1 (elemF true 6 [di y.k,ds y.s,di y.n,di y.d,di y.pos,.slc 6 y.kids.length (lay (exG (ht y)) y.kids)])]) v):DV.rel h (exW (.mk k .empty 0 0 a [y])) v:=by
 obtain ⟨vs,rfl,v1,u1,rfl,a1,v2,u2,rfl,a2,v3,u3,rfl,a3,v4,u4,rfl,a4,v5,u5,rfl,a5,v6,u6,rfl,a6,a7⟩:=hv
 exact⟨_,rfl,v1,_,rfl,a1,v2,_,rfl,a2,v3,_,rfl,a3,v4,_,rfl,a4,v5,_,rfl,a5,v6,_,rfl,one_imp (x:=.mk k .empty 0 0 a [y]) rfl a6,a7⟩
theorem FnM.resD {f:FuncId} {args:List AV} {pre post:List (Nat×List AV)} {d d':DV} (h:FnM Tryz.prog G f args pre (.d d) post) (hd:∀(k:IH) (v:Value),DV.rel k d v→DV.rel k d' v):FnM Tryz.prog G f args pre (.d d') post:=
 ⟨h.1,fun F w h0 β us g=>(h.2 F w h0 β us g).mono fun e w' ⟨v,β',h',e1,g1⟩=>⟨v,β',h',e1,g1.glob,g1.holds,g1.ext,g1.old,g1.kept,g1.fix,g1.size,fun t x hx=>by
  cases t with
  | zero=>
   obtain rfl:AV.d d'=x:=by simpa using hx
   obtain ⟨u,e2,hr⟩:=g1.regs 0 (.d d) rfl
   exact⟨u,e2,hd h' u hr⟩
  | succ t=>simp at hx,g1.box,g1.inj⟩⟩
noncomputable def mPl (b:Bool) (w:Tk) (t1:List Tk) (x:Ex) (r:List Tk) (e:Int):FuncId→List AV→List (Nat×List AV)→Option (AV×List (Nat×List AV)):=fun f _ _=>match f with
 | 75=>some (.d (.tup [tkD w,db b]),pB t1 e)
 | 44=>some (.d (exW x),pB r e)
 | 86=>some (.d (exW x),pB r e)
 | _=>none
noncomputable def dPl (k:Int):Oracle:=fun f _=>match f with
 | 87=>some lvD
 | 88=>some (di k)
 | _=>none
noncomputable def orcPl (b:Bool) (w:Tk) (t1:List Tk) (x:Ex) (r:List Tk) (e k:Int):Orc:={ d:=dPl k,m:=mPl b w t1 x r e }
def LvOK (G:IH) (n:Nat) (t:List Tk) (e:Int):Rs→Prop
 | .ok x r=>FnM Tryz.prog G 44 [.box 1000000 0,.d (di n)] (pB t e) (.d (exW x)) (pB r e)
 | .bad r=>FnMX Tryz.prog G 44 [.box 1000000 0,.d (di n)] (pB t e) (mkV (hdA e r))
def PrOK (G:IH) (t:List Tk) (e:Int):Rs→Prop
 | .ok x r=>FnM Tryz.prog G 86 [.box 1000000 0] (pB t e) (.d (exW x)) (pB r e)
 | .bad r=>FnMX Tryz.prog G 86 [.box 1000000 0] (pB t e) (mkV (hdA e r))
theorem hdA_ne {t:List Tk} (e:Int) (h:hdS t≠.empty):hdA e t=hdA 0 t:=by
 cases t with
 | nil=>exact absurd rfl h
 | cons w t=>rfl
theorem lv_not (t:List Tk) (e:Int) (hh:hdS t=notS) (R:Rs) (h:LvOK G 2 t.tail e R):LvOK G 2 t e (R.mapX fun x=>.mk 18 .empty 0 0 (hdA 0 t) [x]):=by
 have h75:FnM Tryz.prog G 75 [.box 1000000 0,.d (st1 [notS])] (pB t e) (.d (.tup [tkD (hdT e t),db true])) (pB t.tail e):=FnM.st (f75_yes [notS] t e (by simp) (by rw[hh];decide +kernel))
 rw[←hdA_ne e (show hdS t≠.empty by rw[hh];decide)]
 cases R with
 | ok x r=>
  refine FnM.resD (d:=.agg [di 18,ds .empty,di 0,di 0,di (hdA e t),.slc 6 1 (elemF true 6 [di x.k,ds x.s,di x.n,di x.d,di x.pos,.slc 6 x.kids.length (lay (exG (ht x)) x.kids)])]) ?_ fun k v hv=>node_one hv
  refine FnM.of_body (mv:=[]) (by kernel_rfl) Tryz.func44 rfl Tryz.call44 ?_
  refine walkK (orc:=orcPl true (hdT e t) t.tail x r e 0) (keep:=[]) (cuts:=[7,8]) (n:=1000) follows ?_
  refine of_tr (fun ZT ZW ZQ _=>(fun Za=>(((true=true)→(FnM Tryz.prog G 75 [(.box 1000000 0),(.d (.slc 1 1 (elemF false 1 [(ds (ByteArray.mk #[110,111,116]))])))] [(1000000,[(.d (.slc 2 t.length (tkF t))),(vi e)])] (.d (.tup [(.agg [(ds (hdS t)),(di (hdA e t))]),(db true)])) [(1000000,[(.d (.slc 2 t.tail.length (tkF t.tail))),(vi e)])]∧((true=true)→(FnM Tryz.prog G 44 [(.box 1000000 0),(vi 2)] [(1000000,[(.d (.slc 2 t.tail.length (tkF t.tail))),(vi e)])] (.d (ndX (ht x) x)) [(1000000,[(.d (.slc 2 r.length (tkF r))),(vi e)])]∧((.d (.agg [(di 18),(ds (ByteArray.mk #[])),(di 0),(di 0),(di (hdA e t)),Za])):AV)=(.d (.agg [(di 18),(ds ByteArray.empty),(di 0),(di 0),(di (hdA e t)),Za]))∧((some [(.d (.slc 2 r.length (tkF r))),(vi e)]):(Option (List AV)))=(some [(.d (.slc 2 r.length (tkF r))),(vi e)])∧True))∧((true=false)→ZW [cd Tryz.f44 [1,1,0,1,0,1,0,1],(.blk 0),cd Tryz.f44 [1,1,1]] (stS ZT [0,1]) ZQ)))∧((true=false)→ZW [cd Tryz.f44 [1,1,0,1,0,1,1],(.blk 0),cd Tryz.f44 [1,1,1]] (stS ZT [1]) ZQ))) ((.slc 6 1 (elemF true 6 [(di x.k),(ds x.s),(di x.n),(di x.d),(di x.pos),(.slc 6 x.kids.length (lay (exG (ht x)) x.kids))])):DV)) (by kernel_rfl) ?_
  exact⟨fun _=>⟨h75,fun _=>⟨h,rfl,rfl,trivial⟩,fun c=>(by cases c)⟩,fun c=>(by cases c)⟩
 | bad r=>
  refine FnMX.of_body Tryz.func44 rfl Tryz.call44 ?_
  refine walkK (orc:=orcPl true (hdT e t) t.tail ex0 [] e 0) (keep:=[]) (cuts:=[6,7,8]) (n:=1000) follows ?_
  refine of_tr (fun ZT ZW ZQ _=>(((true=true)→(FnM Tryz.prog G 75 [(.box 1000000 0),(.d (.slc 1 1 (elemF false 1 [(ds (ByteArray.mk #[110,111,116]))])))] [(1000000,[(.d (.slc 2 t.length (tkF t))),(vi e)])] (.d (.tup [(.agg [(ds (hdS t)),(di (hdA e t))]),(db true)])) [(1000000,[(.d (.slc 2 t.tail.length (tkF t.tail))),(vi e)])]∧((true=true)→ZW [cd Tryz.f44 [1,1,0,1,0,1,0,0,1,1,0],cd Tryz.f44 [1,1,0,1,0,1,0,1],(.blk 0),cd Tryz.f44 [1,1,1]] (stS ZT [0,0]) ZQ)∧((true=false)→ZW [cd Tryz.f44 [1,1,0,1,0,1,0,1],(.blk 0),cd Tryz.f44 [1,1,1]] (stS ZT [0,1]) ZQ)))∧((true=false)→ZW [cd Tryz.f44 [1,1,0,1,0,1,1],(.blk 0),cd Tryz.f44 [1,1,1]] (stS ZT [1]) ZQ))) (by kernel_rfl) ?_
  refine⟨fun _=>⟨h75,fun _=>?_,fun c=>(by cases c)⟩,fun c=>(by cases c)⟩
  refine AWP.panicX follows (orcPl true (hdT e t) t.tail ex0 [] e 0) 3 (mkV (hdA e r)) ?_
  refine of_tr (fun _ _ _ _=>(FnMX Tryz.prog G 44 [(.box 1000000 0),(vi 2)] [(1000000,[(.d (.slc 2 t.tail.length (tkF t.tail))),(vi e)])] (mkV (hdA e r))∧((.panic [(PanicEntry.mk (mkV (hdA e r)) false false)]):Exit)=(.panic [(PanicEntry.mk (mkV (hdA e r)) false false)])∧((some [.any,.any]):(Option (List AV)))=(some [.any,.any])∧True)) (by kernel_rfl) ?_
  exact⟨h,rfl,rfl,trivial⟩
theorem lv_not' (t:List Tk) (e:Int) (hh:hdS t≠notS) (R:Rs) (h:LvOK G 3 t e R):LvOK G 2 t e R:=by
 have h75:FnM Tryz.prog G 75 [.box 1000000 0,.d (st1 [notS])] (pB t e) (.d (.tup [tkD (hdT e t),db false])) (pB t e):=FnM.st (f75_no [notS] t e (by simp) (by rw[inB_one _ _ (by decide),decide_eq_false hh]))
 cases R with
 | ok x r=>
  refine FnM.of_body (mv:=[]) (by kernel_rfl) Tryz.func44 rfl Tryz.call44 ?_
  refine walkK (orc:=orcPl false (hdT e t) t x r e 0) (keep:=[]) (cuts:=[6,8]) (n:=1000) follows ?_
  refine of_tr (fun ZT ZW ZQ _=>(((true=true)→(FnM Tryz.prog G 75 [(.box 1000000 0),(.d (.slc 1 1 (elemF false 1 [(ds (ByteArray.mk #[110,111,116]))])))] [(1000000,[(.d (.slc 2 t.length (tkF t))),(vi e)])] (.d (.tup [(.agg [(ds (hdS t)),(di (hdA e t))]),(db false)])) [(1000000,[(.d (.slc 2 t.length (tkF t))),(vi e)])]∧((false=true)→ZW [cd Tryz.f44 [1,1,0,1,0,1,0,0,1,1,0],cd Tryz.f44 [1,1,0,1,0,1,0,1],(.blk 0),cd Tryz.f44 [1,1,1]] (stS ZT [0,0]) ZQ)∧((false=false)→(((I64 (2+1))∧FnM Tryz.prog G 44 [(.box 1000000 0),(vi 3)] [(1000000,[(.d (.slc 2 t.length (tkF t))),(vi e)])] (.d (ndX (ht x) x)) [(1000000,[(.d (.slc 2 r.length (tkF r))),(vi e)])])∧(ZS ((.d (ndX (ht x) x)):AV))∧((some [(.d (.slc 2 r.length (tkF r))),(vi e)]):(Option (List AV)))=(some [(.d (.slc 2 r.length (tkF r))),(vi e)])∧True))))∧((true=false)→ZW [cd Tryz.f44 [1,1,0,1,0,1,1],(.blk 0),cd Tryz.f44 [1,1,1]] (stS ZT [1]) ZQ))) (by kernel_rfl) ?_
  exact⟨fun _=>⟨h75,fun c=>(by cases c),fun _=>⟨⟨⟨by omega,by omega⟩,h⟩,rfl,rfl,trivial⟩⟩,fun c=>(by cases c)⟩
 | bad r=>
  refine FnMX.of_body Tryz.func44 rfl Tryz.call44 ?_
  refine walkK (orc:=orcPl false (hdT e t) t ex0 [] e 0) (keep:=[]) (cuts:=[6,7,8]) (n:=1000) follows ?_
  refine of_tr (fun ZT ZW ZQ _=>(((true=true)→(FnM Tryz.prog G 75 [(.box 1000000 0),(.d (.slc 1 1 (elemF false 1 [(ds (ByteArray.mk #[110,111,116]))])))] [(1000000,[(.d (.slc 2 t.length (tkF t))),(vi e)])] (.d (.tup [(.agg [(ds (hdS t)),(di (hdA e t))]),(db false)])) [(1000000,[(.d (.slc 2 t.length (tkF t))),(vi e)])]∧((false=true)→ZW [cd Tryz.f44 [1,1,0,1,0,1,0,0,1,1,0],cd Tryz.f44 [1,1,0,1,0,1,0,1],(.blk 0),cd Tryz.f44 [1,1,1]] (stS ZT [0,0]) ZQ)∧((false=false)→ZW [cd Tryz.f44 [1,1,0,1,0,1,0,1],(.blk 0),cd Tryz.f44 [1,1,1]] (stS ZT [0,1]) ZQ)))∧((true=false)→ZW [cd Tryz.f44 [1,1,0,1,0,1,1],(.blk 0),cd Tryz.f44 [1,1,1]] (stS ZT [1]) ZQ))) (by kernel_rfl) ?_
  refine⟨fun _=>⟨h75,fun c=>(by cases c),fun _=>?_⟩,fun c=>(by cases c)⟩
  refine AWP.panicX follows (orcPl false (hdT e t) t ex0 [] e 0) 3 (mkV (hdA e r)) ?_
  refine of_tr (fun _ _ _ _=>(((I64 (↑2+1))∧FnMX Tryz.prog G 44 [(.box 1000000 0),(vi 3)] [(1000000,[(.d (.slc 2 t.length (tkF t))),(vi e)])] (mkV (hdA e r)))∧((.panic [(PanicEntry.mk (mkV (hdA e r)) false false)]):Exit)=(.panic [(PanicEntry.mk (mkV (hdA e r)) false false)])∧((some [.any,.any]):(Option (List AV)))=(some [.any,.any])∧True)) (by kernel_rfl) ?_
  exact⟨⟨⟨by omega,by omega⟩,h⟩,rfl,rfl,trivial⟩
theorem lv_neg (t:List Tk) (e:Int) (hh:hdS t=minusS) (R:Rs) (h:LvOK G 6 t.tail e R):LvOK G 6 t e (R.mapX fun x=>.mk 5 .empty 0 0 (hdA 0 t) [x]):=by
 have h75:FnM Tryz.prog G 75 [.box 1000000 0,.d (st1 [minusS])] (pB t e) (.d (.tup [tkD (hdT e t),db true])) (pB t.tail e):=FnM.st (f75_yes [minusS] t e (by simp) (by rw[hh];decide +kernel))
 rw[←hdA_ne e (show hdS t≠.empty by rw[hh];decide)]
 cases R with
 | ok x r=>
  refine FnM.resD (d:=.agg [di 5,ds .empty,di 0,di 0,di (hdA e t),.slc 6 1 (elemF true 6 [di x.k,ds x.s,di x.n,di x.d,di x.pos,.slc 6 x.kids.length (lay (exG (ht x)) x.kids)])]) ?_ fun k v hv=>node_one hv
  refine FnM.of_body (mv:=[]) (by kernel_rfl) Tryz.func44 rfl Tryz.call44 ?_
  refine walkK (orc:=orcPl true (hdT e t) t.tail x r e 0) (keep:=[]) (cuts:=[4,12,13]) (n:=1000) follows ?_
  refine of_tr (fun ZT ZW ZQ _=>(fun Za=>(((false=true)→ZW [cd Tryz.f44 [1,1,0,1,0,1,0,0],cd Tryz.f44 [1,1,0,1,0,1,0,1],(.blk 0),cd Tryz.f44 [1,1,1]] (stS ZT [0]) ZQ)∧((false=false)→(((true=true)→(FnM Tryz.prog G 75 [(.box 1000000 0),(.d (.slc 1 1 (elemF false 1 [(ds (ByteArray.mk #[45]))])))] [(1000000,[(.d (.slc 2 t.length (tkF t))),(vi e)])] (.d (.tup [(.agg [(ds (hdS t)),(di (hdA e t))]),(db true)])) [(1000000,[(.d (.slc 2 t.tail.length (tkF t.tail))),(vi e)])]∧((true=true)→(FnM Tryz.prog G 44 [(.box 1000000 0),(vi 6)] [(1000000,[(.d (.slc 2 t.tail.length (tkF t.tail))),(vi e)])] (.d (ndX (ht x) x)) [(1000000,[(.d (.slc 2 r.length (tkF r))),(vi e)])]∧((.d (.agg [(di 5),(ds (ByteArray.mk #[])),(di 0),(di 0),(di (hdA e t)),Za])):AV)=(.d (.agg [(di 5),(ds ByteArray.empty),(di 0),(di 0),(di (hdA e t)),Za]))∧((some [(.d (.slc 2 r.length (tkF r))),(vi e)]):(Option (List AV)))=(some [(.d (.slc 2 r.length (tkF r))),(vi e)])∧True))∧((true=false)→ZW [cd Tryz.f44 [1,1,0,1,0,1,1,1,0,1],(.blk 0),cd Tryz.f44 [1,1,1]] (stS ZT [1,0,1]) ZQ)))∧((true=false)→ZW [cd Tryz.f44 [1,1,0,1,0,1,1,1,1],(.blk 0),cd Tryz.f44 [1,1,1]] (stS ZT [1,1]) ZQ))))) ((.slc 6 1 (elemF true 6 [(di x.k),(ds x.s),(di x.n),(di x.d),(di x.pos),(.slc 6 x.kids.length (lay (exG (ht x)) x.kids))])):DV)) (by kernel_rfl) ?_
  exact⟨fun c=>(by cases c),fun _=>⟨fun _=>⟨h75,fun _=>⟨h,rfl,rfl,trivial⟩,fun c=>(by cases c)⟩,fun c=>(by cases c)⟩⟩
 | bad r=>
  refine FnMX.of_body Tryz.func44 rfl Tryz.call44 ?_
  refine walkK (orc:=orcPl true (hdT e t) t.tail ex0 [] e 0) (keep:=[]) (cuts:=[4,11,12,13]) (n:=1000) follows ?_
  refine of_tr (fun ZT ZW ZQ _=>(((false=true)→ZW [cd Tryz.f44 [1,1,0,1,0,1,0,0],cd Tryz.f44 [1,1,0,1,0,1,0,1],(.blk 0),cd Tryz.f44 [1,1,1]] (stS ZT [0]) ZQ)∧((false=false)→(((true=true)→(FnM Tryz.prog G 75 [(.box 1000000 0),(.d (.slc 1 1 (elemF false 1 [(ds (ByteArray.mk #[45]))])))] [(1000000,[(.d (.slc 2 t.length (tkF t))),(vi e)])] (.d (.tup [(.agg [(ds (hdS t)),(di (hdA e t))]),(db true)])) [(1000000,[(.d (.slc 2 t.tail.length (tkF t.tail))),(vi e)])]∧((true=true)→ZW [cd Tryz.f44 [1,1,0,1,0,1,1,1,0,0,1,1,0],cd Tryz.f44 [1,1,0,1,0,1,1,1,0,1],(.blk 0),cd Tryz.f44 [1,1,1]] (stS ZT [1,0,0]) ZQ)∧((true=false)→ZW [cd Tryz.f44 [1,1,0,1,0,1,1,1,0,1],(.blk 0),cd Tryz.f44 [1,1,1]] (stS ZT [1,0,1]) ZQ)))∧((true=false)→ZW [cd Tryz.f44 [1,1,0,1,0,1,1,1,1],(.blk 0),cd Tryz.f44 [1,1,1]] (stS ZT [1,1]) ZQ))))) (by kernel_rfl) ?_
  refine⟨fun c=>(by cases c),fun _=>⟨fun _=>⟨h75,fun _=>?_,fun c=>(by cases c)⟩,fun c=>(by cases c)⟩⟩
  refine AWP.panicX follows (orcPl true (hdT e t) t.tail ex0 [] e 0) 3 (mkV (hdA e r)) ?_
  refine of_tr (fun _ _ _ _=>(FnMX Tryz.prog G 44 [(.box 1000000 0),(vi 6)] [(1000000,[(.d (.slc 2 t.tail.length (tkF t.tail))),(vi e)])] (mkV (hdA e r))∧((.panic [(PanicEntry.mk (mkV (hdA e r)) false false)]):Exit)=(.panic [(PanicEntry.mk (mkV (hdA e r)) false false)])∧((some [.any,.any]):(Option (List AV)))=(some [.any,.any])∧True)) (by kernel_rfl) ?_
  exact⟨h,rfl,rfl,trivial⟩
theorem lv_neg' (t:List Tk) (e:Int) (hh:hdS t≠minusS) (R:Rs) (h:LvOK G 7 t e R):LvOK G 6 t e R:=by
 have h75:FnM Tryz.prog G 75 [.box 1000000 0,.d (st1 [minusS])] (pB t e) (.d (.tup [tkD (hdT e t),db false])) (pB t e):=FnM.st (f75_no [minusS] t e (by simp) (by rw[inB_one _ _ (by decide),decide_eq_false hh]))
 cases R with
 | ok x r=>
  refine FnM.of_body (mv:=[]) (by kernel_rfl) Tryz.func44 rfl Tryz.call44 ?_
  refine walkK (orc:=orcPl false (hdT e t) t x r e 0) (keep:=[]) (cuts:=[4,11,13]) (n:=1000) follows ?_
  refine of_tr (fun ZT ZW ZQ _=>(((false=true)→ZW [cd Tryz.f44 [1,1,0,1,0,1,0,0],cd Tryz.f44 [1,1,0,1,0,1,0,1],(.blk 0),cd Tryz.f44 [1,1,1]] (stS ZT [0]) ZQ)∧((false=false)→(((true=true)→(FnM Tryz.prog G 75 [(.box 1000000 0),(.d (.slc 1 1 (elemF false 1 [(ds (ByteArray.mk #[45]))])))] [(1000000,[(.d (.slc 2 t.length (tkF t))),(vi e)])] (.d (.tup [(.agg [(ds (hdS t)),(di (hdA e t))]),(db false)])) [(1000000,[(.d (.slc 2 t.length (tkF t))),(vi e)])]∧((false=true)→ZW [cd Tryz.f44 [1,1,0,1,0,1,1,1,0,0,1,1,0],cd Tryz.f44 [1,1,0,1,0,1,1,1,0,1],(.blk 0),cd Tryz.f44 [1,1,1]] (stS ZT [1,0,0]) ZQ)∧((false=false)→(((I64 (6+1))∧FnM Tryz.prog G 44 [(.box 1000000 0),(vi 7)] [(1000000,[(.d (.slc 2 t.length (tkF t))),(vi e)])] (.d (ndX (ht x) x)) [(1000000,[(.d (.slc 2 r.length (tkF r))),(vi e)])])∧(ZS ((.d (ndX (ht x) x)):AV))∧((some [(.d (.slc 2 r.length (tkF r))),(vi e)]):(Option (List AV)))=(some [(.d (.slc 2 r.length (tkF r))),(vi e)])∧True))))∧((true=false)→ZW [cd Tryz.f44 [1,1,0,1,0,1,1,1,1],(.blk 0),cd Tryz.f44 [1,1,1]] (stS ZT [1,1]) ZQ))))) (by kernel_rfl) ?_
  exact⟨fun c=>(by cases c),fun _=>⟨fun _=>⟨h75,fun c=>(by cases c),fun _=>⟨⟨⟨by omega,by omega⟩,h⟩,rfl,rfl,trivial⟩⟩,fun c=>(by cases c)⟩⟩
 | bad r=>
  refine FnMX.of_body Tryz.func44 rfl Tryz.call44 ?_
  refine walkK (orc:=orcPl false (hdT e t) t ex0 [] e 0) (keep:=[]) (cuts:=[4,11,12,13]) (n:=1000) follows ?_
  refine of_tr (fun ZT ZW ZQ _=>(((false=true)→ZW [cd Tryz.f44 [1,1,0,1,0,1,0,0],cd Tryz.f44 [1,1,0,1,0,1,0,1],(.blk 0),cd Tryz.f44 [1,1,1]] (stS ZT [0]) ZQ)∧((false=false)→(((true=true)→(FnM Tryz.prog G 75 [(.box 1000000 0),(.d (.slc 1 1 (elemF false 1 [(ds (ByteArray.mk #[45]))])))] [(1000000,[(.d (.slc 2 t.length (tkF t))),(vi e)])] (.d (.tup [(.agg [(ds (hdS t)),(di (hdA e t))]),(db false)])) [(1000000,[(.d (.slc 2 t.length (tkF t))),(vi e)])]∧((false=true)→ZW [cd Tryz.f44 [1,1,0,1,0,1,1,1,0,0,1,1,0],cd Tryz.f44 [1,1,0,1,0,1,1,1,0,1],(.blk 0),cd Tryz.f44 [1,1,1]] (stS ZT [1,0,0]) ZQ)∧((false=false)→ZW [cd Tryz.f44 [1,1,0,1,0,1,1,1,0,1],(.blk 0),cd Tryz.f44 [1,1,1]] (stS ZT [1,0,1]) ZQ)))∧((true=false)→ZW [cd Tryz.f44 [1,1,0,1,0,1,1,1,1],(.blk 0),cd Tryz.f44 [1,1,1]] (stS ZT [1,1]) ZQ))))) (by kernel_rfl) ?_
  refine⟨fun c=>(by cases c),fun _=>⟨fun _=>⟨h75,fun c=>(by cases c),fun _=>?_⟩,fun c=>(by cases c)⟩⟩
  refine AWP.panicX follows (orcPl false (hdT e t) t ex0 [] e 0) 3 (mkV (hdA e r)) ?_
  refine of_tr (fun _ _ _ _=>(((I64 (↑6+1))∧FnMX Tryz.prog G 44 [(.box 1000000 0),(vi 7)] [(1000000,[(.d (.slc 2 t.length (tkF t))),(vi e)])] (mkV (hdA e r)))∧((.panic [(PanicEntry.mk (mkV (hdA e r)) false false)]):Exit)=(.panic [(PanicEntry.mk (mkV (hdA e r)) false false)])∧((some [.any,.any]):(Option (List AV)))=(some [.any,.any])∧True)) (by kernel_rfl) ?_
  exact⟨⟨⟨by omega,by omega⟩,h⟩,rfl,rfl,trivial⟩
theorem lv_prim (t:List Tk) (e:Int) (R:Rs) (h:PrOK G t e R):LvOK G 7 t e R:=by
 cases R with
 | ok x r=>
  refine FnM.of_body (mv:=[]) (by kernel_rfl) Tryz.func44 rfl Tryz.call44 ?_
  refine walkK (orc:=orcPl false (hdT e t) t x r e 0) (keep:=[]) (cuts:=[4,9,15]) (n:=1000) follows ?_
  refine of_tr (fun ZT ZW ZQ _=>(((false=true)→ZW [cd Tryz.f44 [1,1,0,1,0,1,0,0],cd Tryz.f44 [1,1,0,1,0,1,0,1],(.blk 0),cd Tryz.f44 [1,1,1]] (stS ZT [0]) ZQ)∧((false=false)→(((false=true)→ZW [cd Tryz.f44 [1,1,0,1,0,1,1,1,0,0],cd Tryz.f44 [1,1,0,1,0,1,1,1,0,1],(.blk 0),cd Tryz.f44 [1,1,1]] (stS ZT [1,0]) ZQ)∧((false=false)→(((true=true)→(FnM Tryz.prog G 86 [(.box 1000000 0)] [(1000000,[(.d (.slc 2 t.length (tkF t))),(vi e)])] (.d (ndX (ht x) x)) [(1000000,[(.d (.slc 2 r.length (tkF r))),(vi e)])]∧(ZS ((.d (ndX (ht x) x)):AV))∧((some [(.d (.slc 2 r.length (tkF r))),(vi e)]):(Option (List AV)))=(some [(.d (.slc 2 r.length (tkF r))),(vi e)])∧True))∧((true=false)→ZW [cd Tryz.f44 [1,1,1]] (stS ZT [1,1,1]) ZQ))))))) (by kernel_rfl) ?_
  exact⟨fun c=>(by cases c),fun _=>⟨fun c=>(by cases c),fun _=>⟨fun _=>⟨h,rfl,rfl,trivial⟩,fun c=>(by cases c)⟩⟩⟩
 | bad r=>
  refine FnMX.of_body Tryz.func44 rfl Tryz.call44 ?_
  refine walkK (orc:=orcPl false (hdT e t) t ex0 [] e 0) (keep:=[]) (cuts:=[4,9,14,15]) (n:=1000) follows ?_
  refine of_tr (fun ZT ZW ZQ _=>(((false=true)→ZW [cd Tryz.f44 [1,1,0,1,0,1,0,0],cd Tryz.f44 [1,1,0,1,0,1,0,1],(.blk 0),cd Tryz.f44 [1,1,1]] (stS ZT [0]) ZQ)∧((false=false)→(((false=true)→ZW [cd Tryz.f44 [1,1,0,1,0,1,1,1,0,0],cd Tryz.f44 [1,1,0,1,0,1,1,1,0,1],(.blk 0),cd Tryz.f44 [1,1,1]] (stS ZT [1,0]) ZQ)∧((false=false)→(((true=true)→ZW [cd Tryz.f44 [1,1,0,1,0,1,1,1,1,1,0],(.blk 0),cd Tryz.f44 [1,1,1]] (stS ZT [1,1,0]) ZQ)∧((true=false)→ZW [cd Tryz.f44 [1,1,1]] (stS ZT [1,1,1]) ZQ))))))) (by kernel_rfl) ?_
  refine⟨fun c=>(by cases c),fun _=>⟨fun c=>(by cases c),fun _=>⟨fun _=>?_,fun c=>(by cases c)⟩⟩⟩
  refine AWP.panicX follows (orcPl false (hdT e t) t ex0 [] e 0) 1 (mkV (hdA e r)) ?_
  refine of_tr (fun _ _ _ _=>(FnMX Tryz.prog G 86 [(.box 1000000 0)] [(1000000,[(.d (.slc 2 t.length (tkF t))),(vi e)])] (mkV (hdA e r))∧((.panic [(PanicEntry.mk (mkV (hdA e r)) false false)]):Exit)=(.panic [(PanicEntry.mk (mkV (hdA e r)) false false)])∧((some [.any,.any]):(Option (List AV)))=(some [.any,.any])∧True)) (by kernel_rfl) ?_
  exact⟨h,rfl,rfl,trivial⟩
end Go.Proofs
/- What is left behind reading is an end of the words. -/
namespace Go.Proofs
open Go Go.Ab
theorem rd_suf:∀(k:Nat) (md:Md) (t:List Tk),restOf (rd k md t) <:+ t:=by
 intro k
 induction k with
 | zero=>intro md t;exact List.suffix_refl _
 | succ k ih=>
  intro md t
  have tl:=List.tail_suffix t
  cases md with
  | lvl n=>
   simp only[rd]
   split
   ·split
    ·rw[mapX_rest];exact(ih (.lvl 2) t.tail).trans tl
    ·exact ih _ _
   split
   ·split
    ·rw[mapX_rest];exact(ih (.lvl 6) t.tail).trans tl
    ·exact ih _ _
   split
   ·exact ih _ _
   ·have h1:=ih (.lvl (n+1)) t
    split
    ·rename_i x r e
     rw[e] at h1
     exact(ih (.loop n x) r).trans h1
    ·rename_i r e
     rw[e] at h1;exact h1
  | loop n x=>
   simp only[rd]
   split
   ·have h1:=ih (.lvl (n+1)) t.tail
    split
    ·rename_i y r e
     rw[e] at h1
     split
     ·exact h1.trans tl
     ·exact(ih _ r).trans (h1.trans tl)
    ·rename_i r e
     rw[e] at h1;exact h1.trans tl
   ·exact List.suffix_refl _
  | args x=>
   simp only[rd]
   have h1:=ih (.lvl 0) t
   split
   ·rename_i y r e
    rw[e] at h1
    have tr:=List.tail_suffix r
    split
    ·exact(ih _ r.tail).trans (tr.trans h1)
    ·split
     ·exact tr.trans h1
     ·exact h1
   ·rename_i r e
    rw[e] at h1;exact h1
  | prim=>
   simp only[rd]
   split
   ·have h1:=ih (.lvl 0) t.tail
    split
    ·rename_i x r e
     rw[e] at h1
     split
     ·exact(List.tail_suffix r).trans (h1.trans tl)
     ·exact h1.trans tl
    ·rename_i r e
     rw[e] at h1;exact h1.trans tl
   split
   ·split
    ·exact(ih _ t.tail.tail).trans ((List.tail_suffix _).trans tl)
    ·exact tl
   ·unfold leafX
    split
    ·exact tl
    split
    ·exact tl
    split
    ·exact tl
    split
    ·exact tl
    ·exact List.suffix_refl _
theorem pr_suf (md:Md) (t:List Tk):restOf (pr md t) <:+ t:=rd_suf _ _ _
def tkS (t:List Tk):Prop:=∀w∈t,w.1.size≤900000
theorem tkS.suf {t r:List Tk} (h:tkS t) (hs:r <:+ t):tkS r:=fun w hw=>h w (hs.subset hw)
theorem tkS.tail {t:List Tk} (h:tkS t):tkS t.tail:=h.suf (List.tail_suffix t)
theorem tkS.hd {t:List Tk} (h:tkS t):(hdS t).size≤900000:=by
 cases t with
 | nil=>exact Nat.zero_le _
 | cons w t=>exact h w (by simp)
theorem tkS.rest {t r:List Tk} {md:Md} (h:tkS t) (e:restOf (pr md t)=r):tkS r:=h.suf (e▸pr_suf md t)
end Go.Proofs
/- The parser,the program's side: expressions of a level: operators between two. -/
namespace Go.Proofs
open Go Go.Ab Go.RowKit
set_option maxHeartbeats 4000000
set_option maxRecDepth 100000
variable {G:IH}
noncomputable def S44l (n:Nat) (e:Int) (x:Ex×List Tk):AS:=⟨regs Tryz.f44.ntmps [(0,.box 1000000 0),(1,vi n),(4,.box 4 0),(5,.clo (.func 44) [.box 1000000 0] []),(10,.box 10 0)],[(4,[vi 0,vs ⟨#[]⟩,vi 0,vi 0,vi 0,.d (.con (.slice none 0 0))]),(10,exC (ht x.1) x.1),(1000000,pC x.2 e)]⟩
abbrev kid2 (x y:Ex):DV:=.slc 6 2 (elemF true 6 [di x.k,ds x.s,di x.n,di x.d,di x.pos,.slc 6 x.kids.length (lay (exG (ht x)) x.kids),di y.k,ds y.s,di y.n,di y.d,di y.pos,.slc 6 y.kids.length (lay (exG (ht y)) y.kids)])
theorem lv_len (n:Nat):(lvL.getD n []).length≤1000000:=by
 rcases Nat.lt_or_ge n 6 with h|h
 ·have:∀n,n<6→(lvL.getD n []).length≤1000000:=by decide +kernel
  exact this n h
 ·rw[List.getD,List.getElem?_eq_none (by exact h)];exact Nat.zero_le _
theorem lv_tail_ok (n:Nat) (e:Int) (x:Ex) (t:List Tk) (Y:Ex) (R:List Tk) {I:Ex×List Tk→Prop} {K:List It} (x0:Ex×List Tk) (h3:n=3→Y=x∧R=t) (hI:n≠3→I (x,t)) (hμ:t.length<x0.2.length) :
  AWP Tryz.prog G [.code (cAt (bodyOf Tryz.f44) [1,1,1,1,0,0,0,1,1,1]),.blk 2] (S44l n e (x,t)) (RoundQ Tryz.prog G K (RetM Tryz.prog Tryz.f44 [] (.d (exW Y)) (pB R e)) (S44l n e) I (fun x=>x.2.length) x0):=by
 refine walkK (orc:=orcPl true tk0 [] ex0 [] e 0) (keep:=[]) (cuts:=[]) (n:=1000) follows ?_
 refine of_rd (fun ZT _ _ _ ZA _=>(((((↑n:Int)==3)=true)→(((.d (ndX (ht x) x)):AV)=(.d (ndX (ht Y) Y))∧((some [(.d (.slc 2 t.length (tkF t))),(vi e)]):(Option (List AV)))=(some [(.d (.slc 2 R.length (tkF R))),(vi e)])∧True))∧((((↑n:Int)==3)=false)→(ZA (stS ZT [1]))))) (by kernel_rfl) ?_
 refine⟨fun c=>?_,fun c=>?_⟩
 ·have c:n=3:=by have:=eq_of_beq c;omega
  obtain ⟨rfl,rfl⟩:=h3 c
  exact⟨rfl,rfl,trivial⟩
 ·have c:n≠3:=fun h=>by rw[h] at c;cases c
  refine Again.mk (x,t) ?_ (hI c) hμ
  exact AS.leA (by kernel_rfl)
theorem lv_bin_ok (n:Nat) (hn:binL n) (e:Int) (x:Ex) (t r:List Tk) (h:LvOK G (n+1) t e (.ok x r)) (y:Ex) (r2:List Tk) (hr:pr (.loop n x) r=.ok y r2) (hS:tkS r) (hC:∀t',t'.length<r.length→tkS t'→LvOK G (n+1) t' e (pr (.lvl (n+1)) t')):FnM Tryz.prog G 44 [.box 1000000 0,.d (di n)] (pB t e) (.d (exW y)) (pB r2 e):=by
 have hn5:n≠2∧n≠6∧n≠7∧n≤5:=by unfold binL at hn;omega
 refine FnM.of_body (mv:=[]) (by kernel_rfl) Tryz.func44 rfl Tryz.call44 ?_
 refine walkK (orc:=orcPl false (hdT e t) t x r e 0) (keep:=[]) (cuts:=[4,9,14]) (n:=1000) follows ?_
 refine of_tr (fun ZT ZW ZQ _=>(((((↑n:Int)==2)=true)→ZW [cd Tryz.f44 [1,1,0,1,0,1,0,0],cd Tryz.f44 [1,1,0,1,0,1,0,1],(.blk 0),cd Tryz.f44 [1,1,1]] (stS ZT [0]) ZQ)∧((((↑n:Int)==2)=false)→(((((↑n:Int)==6)=true)→ZW [cd Tryz.f44 [1,1,0,1,0,1,1,1,0,0],cd Tryz.f44 [1,1,0,1,0,1,1,1,0,1],(.blk 0),cd Tryz.f44 [1,1,1]] (stS ZT [1,0]) ZQ)∧((((↑n:Int)==6)=false)→(((((↑n:Int)==7)=true)→ZW [cd Tryz.f44 [1,1,0,1,0,1,1,1,1,1,0],(.blk 0),cd Tryz.f44 [1,1,1]] (stS ZT [1,1,0]) ZQ)∧((((↑n:Int)==7)=false)→(((I64 (↑n+1))∧FnM Tryz.prog G 44 [(.box 1000000 0),(vi (↑n+1))] [(1000000,[(.d (.slc 2 t.length (tkF t))),(vi e)])] (.d (ndX (ht x) x)) [(1000000,[(.d (.slc 2 r.length (tkF r))),(vi e)])])∧ZW [cd Tryz.f44 [1,1,1,1,0],(.blk 1)] (stS ZT [1,1,1]) ZQ)))))))) (by kernel_rfl) ?_
 refine⟨fun c=>absurd (eq_of_beq c) (by omega),fun _=>⟨fun c=>absurd (eq_of_beq c) (by omega),fun _=>⟨fun c=>absurd (eq_of_beq c) (by omega),fun _=>⟨⟨⟨by omega,by omega⟩,h⟩,?_⟩⟩⟩⟩
 refine AWP.loop (c:=cAt (bodyOf Tryz.f44) [1,1,1,1,0,0]) (by kernel_rfl) (S44l n e) (fun z=>z.2.length≤r.length∧tkS z.2∧pr (.loop n z.1) z.2=.ok y r2) (fun z=>z.2.length) (x,r) ?_ ⟨Nat.le_refl _,hS,hr⟩ ?_
 ·exact AS.leA (by kernel_rfl)
 ·rintro ⟨x,t⟩ ⟨hl,hSs,hp⟩
  dsimp only at hl hp hSs
  have hlv:lvL.getD n []=lvL.getD n []:=rfl
  cases ho:opAt n (hdS t) with
  | false=>
   refine walkK (orc:=orcPl false (hdT e t) t ex0 [] e 0) (keep:=[]) (cuts:=[19]) (n:=1000) follows ?_
   refine of_rd (fun ZT ZW _ ZK _ ZR=>((ZK 87 [] (.slc 1 6 lvF)∧((0≤(↑n:Int))∧((↑n:Int)<↑6))∧FnM Tryz.prog G 75 [(.box 1000000 0),(.d (.slc 1 (lvL.getD (↑n:Int).toNat []).length (stF (lvL.getD (↑n:Int).toNat []))))] [(1000000,[(.d (.slc 2 t.length (tkF t))),(vi e)])] (.d (.tup [(.agg [(ds (hdS t)),(di (hdA e t))]),(db false)])) [(1000000,[(.d (.slc 2 t.length (tkF t))),(vi e)])])∧((true=true)→(((.d (ndX (ht x) x)):AV)=(.d (ndX (ht y) y))∧((some [(.d (.slc 2 t.length (tkF t))),(vi e)]):(Option (List AV)))=(some [(.d (.slc 2 r2.length (tkF r2))),(vi e)])∧True))∧((true=false)→ZW [cd Tryz.f44 [1,1,1,1,0,0,0,1,1],(.blk 2)] (stS ZT [1]) ZR))) (by kernel_rfl) ?_
   rw[pr_stop ho] at hp
   injection hp with hp1 hp2
   subst hp1;subst hp2
   rw[Int.toNat_natCast]
   exact⟨⟨f87,⟨by omega,by omega⟩,f75_no _ t e (lv_len n) ho⟩,fun _=>⟨rfl,rfl,trivial⟩,fun c=>(by cases c)⟩
  | true=>
   rw[pr_go hn5.2.2.2 ho] at hp
   have hlt:=tail_len (opAt_ne ho)
   have hc:=hC t.tail (by omega) hSs.tail
   cases hq:pr (.lvl (n+1)) t.tail with
   | bad r'=>rw[hq] at hp;cases hp
   | ok z r'=>
    rw[hq] at hp hc
    refine walkK (orc:=orcPl true (hdT e t) t.tail z r' e (opK (hdS t))) (keep:=[]) (cuts:=[18,20]) (n:=1000) follows ?_
    refine of_rd (fun ZT ZW _ ZK _ ZR=>((ZK 87 [] (.slc 1 6 lvF)∧((0≤(↑n:Int))∧((↑n:Int)<↑6))∧FnM Tryz.prog G 75 [(.box 1000000 0),(.d (.slc 1 (lvL.getD (↑n:Int).toNat []).length (stF (lvL.getD (↑n:Int).toNat []))))] [(1000000,[(.d (.slc 2 t.length (tkF t))),(vi e)])] (.d (.tup [(.agg [(ds (hdS t)),(di (hdA e t))]),(db true)])) [(1000000,[(.d (.slc 2 t.tail.length (tkF t.tail))),(vi e)])])∧((false=true)→ZW [cd Tryz.f44 [1,1,1,1,0,0,0,1,0,1,0],cd Tryz.f44 [1,1,1,1,0,0,0,1,1],(.blk 2)] (stS ZT [0]) ZR)∧((false=false)→((ZK 88 [(ds (hdS t))] (di (opK (hdS t)))∧(I64 (↑n+1))∧FnM Tryz.prog G 44 [(.box 1000000 0),(vi (↑n+1))] [(1000000,[(.d (.slc 2 t.tail.length (tkF t.tail))),(vi e)])] (.d (ndX (ht z) z)) [(1000000,[(.d (.slc 2 r'.length (tkF r'))),(vi e)])])∧ZW [cd Tryz.f44 [1,1,1,1,0,0,0,1,1,1],(.blk 2)] (stS ZT [1]) ZR)))) (by kernel_rfl) ?_
    rw[Int.toNat_natCast]
    refine⟨⟨f87,⟨by omega,by omega⟩,f75_yes _ t e (lv_len n) ho⟩,fun c=>(by cases c),fun _=>⟨⟨f88 _,⟨by omega,by omega⟩,hc⟩,?_⟩⟩
    have ha:hdA e t=hdA 0 t:=hdA_ne e (opAt_ne ho)
    refine AWP.pre (AS.leX.cell _ 10 5 (l:=[vi (opK (hdS t)),vs ⟨#[]⟩,vi 0,vi 0,vi (hdA e t),.d (kid2 x z)]) (x:=.d (kid2 x z)) (.d (.slc 6 2 (lay (exG (ht (.mk (opK (hdS t)) .empty 0 0 (hdA 0 t) [x,z]))) [x,z]))) (by kernel_rfl) (by kernel_rfl) rfl (by kernel_rfl) (fun β h v hv=>two_imp (x:=.mk (opK (hdS t)) .empty 0 0 (hdA 0 t) [x,z]) rfl hv)) ?_
    refine AWP.weaken ?_ (lv_tail_ok n e (.mk (opK (hdS t)) .empty 0 0 (hdA 0 t) [x,z]) r' y r2 (x,t) ?_ ?_ ?_)
    ·refine AS.leZ [] [1] (b:=((T0∧T0∧T0∧T0∧T0∧True)∧T0∧((some [(vi (opK (hdS t))),(vs (ByteArray.mk #[])),(vi 0),(vi 0),(vi (hdA e t)),(.d (.slc 6 2 (lay (exG (ht (Ex.mk (opK (hdS t)) ByteArray.empty 0 0 (hdA 0 t) [x,z]))) [x,z])))]):(Option (List AV)))=(some [(vi (Ex.mk (opK (hdS t)) ByteArray.empty 0 0 (hdA 0 t) [x,z]).k),(vs (Ex.mk (opK (hdS t)) ByteArray.empty 0 0 (hdA 0 t) [x,z]).s),(vi (Ex.mk (opK (hdS t)) ByteArray.empty 0 0 (hdA 0 t) [x,z]).n),(vi (Ex.mk (opK (hdS t)) ByteArray.empty 0 0 (hdA 0 t) [x,z]).d),(vi (Ex.mk (opK (hdS t)) ByteArray.empty 0 0 (hdA 0 t) [x,z]).pos),(.d (.slc 6 2 (lay (exG (ht (Ex.mk (opK (hdS t)) ByteArray.empty 0 0 (hdA 0 t) [x,z]))) (Ex.mk (opK (hdS t)) ByteArray.empty 0 0 (hdA 0 t) [x,z]).kids)))])∧T0∧True)) (by kernel_rfl) (by kernel_rfl) ?_
     rw[ha]
     exact⟨⟨rfl,rfl,rfl,rfl,rfl,trivial⟩,rfl,rfl,rfl,trivial⟩
    ·intro h3
     dsimp only at hp
     rw[if_pos h3] at hp
     injection hp with hp1 hp2
     exact⟨hp1.symm,hp2.symm⟩
    ·intro h3
     dsimp only at hp
     rw[if_neg h3] at hp
     refine⟨?_,hSs.tail.rest (md:=.lvl (n+1)) (by rw[hq];rfl),hp⟩
     have:=pr_le (.lvl (n+1)) t.tail
     rw[hq] at this
     simp only[restOf] at this
     show r'.length≤r.length
     omega
    ·have:=pr_le (.lvl (n+1)) t.tail
     rw[hq] at this
     simp only[restOf] at this
     show r'.length<t.length
     omega
theorem lv_bin_bad0 (n:Nat) (hn:binL n) (e:Int) (t r:List Tk) (h:LvOK G (n+1) t e (.bad r)):LvOK G n t e (.bad r):=by
 have hn5:n≠2∧n≠6∧n≠7∧n≤5:=by unfold binL at hn;omega
 refine FnMX.of_body Tryz.func44 rfl Tryz.call44 ?_
 refine walkK (orc:=orcPl false (hdT e t) t ex0 r e 0) (keep:=[]) (cuts:=[4,9,14,15]) (n:=1000) follows ?_
 refine of_tr (fun ZT ZW ZQ _=>(((((↑n:Int)==2)=true)→ZW [cd Tryz.f44 [1,1,0,1,0,1,0,0],cd Tryz.f44 [1,1,0,1,0,1,0,1],(.blk 0),cd Tryz.f44 [1,1,1]] (stS ZT [0]) ZQ)∧((((↑n:Int)==2)=false)→(((((↑n:Int)==6)=true)→ZW [cd Tryz.f44 [1,1,0,1,0,1,1,1,0,0],cd Tryz.f44 [1,1,0,1,0,1,1,1,0,1],(.blk 0),cd Tryz.f44 [1,1,1]] (stS ZT [1,0]) ZQ)∧((((↑n:Int)==6)=false)→(((((↑n:Int)==7)=true)→ZW [cd Tryz.f44 [1,1,0,1,0,1,1,1,1,1,0],(.blk 0),cd Tryz.f44 [1,1,1]] (stS ZT [1,1,0]) ZQ)∧((((↑n:Int)==7)=false)→ZW [cd Tryz.f44 [1,1,1]] (stS ZT [1,1,1]) ZQ))))))) (by kernel_rfl) ?_
 refine⟨fun c=>absurd (eq_of_beq c) (by omega),fun _=>⟨fun c=>absurd (eq_of_beq c) (by omega),fun _=>⟨fun c=>absurd (eq_of_beq c) (by omega),fun _=>?_⟩⟩⟩
 refine AWP.panicX follows (orcPl false (hdT e t) t ex0 r e 0) 3 (mkV (hdA e r)) ?_
 refine of_tr (fun _ _ _ _=>(((I64 (↑n+1))∧FnMX Tryz.prog G 44 [(.box 1000000 0),(vi (↑n+1))] [(1000000,[(.d (.slc 2 t.length (tkF t))),(vi e)])] (mkV (hdA e r)))∧((.panic [(PanicEntry.mk (mkV (hdA e r)) false false)]):Exit)=(.panic [(PanicEntry.mk (mkV (hdA e r)) false false)])∧((some [.any,.any]):(Option (List AV)))=(some [.any,.any])∧True)) (by kernel_rfl) ?_
 exact⟨⟨⟨by omega,by omega⟩,h⟩,rfl,rfl,trivial⟩
theorem lv_tail_bad (n:Nat) (e:Int) (x:Ex) (t:List Tk) {I:Ex×List Tk→Prop} {K:List It} (x0:Ex×List Tk) {pv:Value} {pre:List (Nat×List AV)} (h3:n≠3) (hI:I (x,t)) (hμ:t.length<x0.2.length) :
  AWP Tryz.prog G [.code (cAt (bodyOf Tryz.f44) [1,1,1,1,0,0,0,1,1,1]),.blk 2] (S44l n e (x,t)) (RoundQ Tryz.prog G K (fun e st=>e=.panic (pch pv)∧leBoxes (smash st.boxes) (smash pre)) (S44l n e) I (fun x=>x.2.length) x0):=by
 refine walkK (orc:=orcPl true tk0 [] ex0 [] e 0) (keep:=[]) (cuts:=[21]) (n:=1000) follows ?_
 refine of_rd (fun ZT ZW _ _ ZA ZR=>(((((↑n:Int)==3)=true)→ZW [cd Tryz.f44 [1,1,1,1,0,0,0,1,1,1,1,0],(.blk 2)] (stS ZT [0]) ZR)∧((((↑n:Int)==3)=false)→(ZA (stS ZT [1]))))) (by kernel_rfl) ?_
 refine⟨fun c=>?_,fun c=>?_⟩
 ·have c:n=3:=by have:=eq_of_beq c;omega
  exact absurd c h3
 ·refine Again.mk (x,t) ?_ hI hμ
  exact AS.leA (by kernel_rfl)
theorem lv_bin_bad (n:Nat) (hn:binL n) (e:Int) (x:Ex) (t r:List Tk) (h:LvOK G (n+1) t e (.ok x r)) (r2:List Tk) (hr:pr (.loop n x) r=.bad r2) (hS:tkS r) (hC:∀t',t'.length<r.length→tkS t'→LvOK G (n+1) t' e (pr (.lvl (n+1)) t')):LvOK G n t e (.bad r2):=by
 have hn5:n≠2∧n≠6∧n≠7∧n≤5:=by unfold binL at hn;omega
 refine FnMX.of_body Tryz.func44 rfl Tryz.call44 ?_
 refine walkK (orc:=orcPl false (hdT e t) t x r e 0) (keep:=[]) (cuts:=[4,9,14]) (n:=1000) follows ?_
 refine of_tr (fun ZT ZW ZQ _=>(((((↑n:Int)==2)=true)→ZW [cd Tryz.f44 [1,1,0,1,0,1,0,0],cd Tryz.f44 [1,1,0,1,0,1,0,1],(.blk 0),cd Tryz.f44 [1,1,1]] (stS ZT [0]) ZQ)∧((((↑n:Int)==2)=false)→(((((↑n:Int)==6)=true)→ZW [cd Tryz.f44 [1,1,0,1,0,1,1,1,0,0],cd Tryz.f44 [1,1,0,1,0,1,1,1,0,1],(.blk 0),cd Tryz.f44 [1,1,1]] (stS ZT [1,0]) ZQ)∧((((↑n:Int)==6)=false)→(((((↑n:Int)==7)=true)→ZW [cd Tryz.f44 [1,1,0,1,0,1,1,1,1,1,0],(.blk 0),cd Tryz.f44 [1,1,1]] (stS ZT [1,1,0]) ZQ)∧((((↑n:Int)==7)=false)→(((I64 (↑n+1))∧FnM Tryz.prog G 44 [(.box 1000000 0),(vi (↑n+1))] [(1000000,[(.d (.slc 2 t.length (tkF t))),(vi e)])] (.d (ndX (ht x) x)) [(1000000,[(.d (.slc 2 r.length (tkF r))),(vi e)])])∧ZW [cd Tryz.f44 [1,1,1,1,0],(.blk 1)] (stS ZT [1,1,1]) ZQ)))))))) (by kernel_rfl) ?_
 refine⟨fun c=>absurd (eq_of_beq c) (by omega),fun _=>⟨fun c=>absurd (eq_of_beq c) (by omega),fun _=>⟨fun c=>absurd (eq_of_beq c) (by omega),fun _=>⟨⟨⟨by omega,by omega⟩,h⟩,?_⟩⟩⟩⟩
 refine AWP.loop (c:=cAt (bodyOf Tryz.f44) [1,1,1,1,0,0]) (by kernel_rfl) (S44l n e) (fun z=>z.2.length≤r.length∧tkS z.2∧pr (.loop n z.1) z.2=.bad r2) (fun z=>z.2.length) (x,r) ?_ ⟨Nat.le_refl _,hS,hr⟩ ?_
 ·exact AS.leA (by kernel_rfl)
 ·rintro ⟨x,t⟩ ⟨hl,hSs,hp⟩
  dsimp only at hl hp hSs
  cases ho:opAt n (hdS t) with
  | false=>rw[pr_stop ho] at hp;cases hp
  | true=>
   rw[pr_go hn5.2.2.2 ho] at hp
   have hlt:=tail_len (opAt_ne ho)
   have hc:=hC t.tail (by omega) hSs.tail
   cases hq:pr (.lvl (n+1)) t.tail with
   | bad r'=>
    rw[hq] at hp hc
    injection hp with hp
    subst hp
    refine walkK (orc:=orcPl true (hdT e t) t.tail ex0 r' e (opK (hdS t))) (keep:=[]) (cuts:=[18,19]) (n:=1000) follows ?_
    refine of_rd (fun ZT ZW _ ZK _ ZR=>((ZK 87 [] (.slc 1 6 lvF)∧((0≤(↑n:Int))∧((↑n:Int)<↑6))∧FnM Tryz.prog G 75 [(.box 1000000 0),(.d (.slc 1 (lvL.getD (↑n:Int).toNat []).length (stF (lvL.getD (↑n:Int).toNat []))))] [(1000000,[(.d (.slc 2 t.length (tkF t))),(vi e)])] (.d (.tup [(.agg [(ds (hdS t)),(di (hdA e t))]),(db true)])) [(1000000,[(.d (.slc 2 t.tail.length (tkF t.tail))),(vi e)])])∧((false=true)→ZW [cd Tryz.f44 [1,1,1,1,0,0,0,1,0,1,0],cd Tryz.f44 [1,1,1,1,0,0,0,1,1],(.blk 2)] (stS ZT [0]) ZR)∧((false=false)→ZW [cd Tryz.f44 [1,1,1,1,0,0,0,1,1],(.blk 2)] (stS ZT [1]) ZR))) (by kernel_rfl) ?_
    rw[Int.toNat_natCast]
    refine⟨⟨f87,⟨by omega,by omega⟩,f75_yes _ t e (lv_len n) ho⟩,fun c=>(by cases c),fun _=>?_⟩
    refine AWP.panicX follows (orcPl true (hdT e t) t.tail ex0 r' e (opK (hdS t))) 9 (mkV (hdA e r')) ?_
    refine of_rd (fun _ _ _ ZK _ _=>((ZK 88 [(ds (hdS t))] (di (opK (hdS t)))∧(I64 (↑n+1))∧FnMX Tryz.prog G 44 [(.box 1000000 0),(vi (↑n+1))] [(1000000,[(.d (.slc 2 t.tail.length (tkF t.tail))),(vi e)])] (mkV (hdA e r')))∧((.panic [(PanicEntry.mk (mkV (hdA e r')) false false)]):Exit)=(.panic [(PanicEntry.mk (mkV (hdA e r')) false false)])∧((some [.any,.any]):(Option (List AV)))=(some [.any,.any])∧True)) (by kernel_rfl) ?_
    exact⟨⟨f88 _,⟨by omega,by omega⟩,hc⟩,rfl,rfl,trivial⟩
   | ok z r'=>
    rw[hq] at hp hc
    have h3:n≠3:=fun h3=>by
     dsimp only at hp
     rw[if_pos h3] at hp;cases hp
    refine walkK (orc:=orcPl true (hdT e t) t.tail z r' e (opK (hdS t))) (keep:=[]) (cuts:=[18,20]) (n:=1000) follows ?_
    refine of_rd (fun ZT ZW _ ZK _ ZR=>((ZK 87 [] (.slc 1 6 lvF)∧((0≤(↑n:Int))∧((↑n:Int)<↑6))∧FnM Tryz.prog G 75 [(.box 1000000 0),(.d (.slc 1 (lvL.getD (↑n:Int).toNat []).length (stF (lvL.getD (↑n:Int).toNat []))))] [(1000000,[(.d (.slc 2 t.length (tkF t))),(vi e)])] (.d (.tup [(.agg [(ds (hdS t)),(di (hdA e t))]),(db true)])) [(1000000,[(.d (.slc 2 t.tail.length (tkF t.tail))),(vi e)])])∧((false=true)→ZW [cd Tryz.f44 [1,1,1,1,0,0,0,1,0,1,0],cd Tryz.f44 [1,1,1,1,0,0,0,1,1],(.blk 2)] (stS ZT [0]) ZR)∧((false=false)→((ZK 88 [(ds (hdS t))] (di (opK (hdS t)))∧(I64 (↑n+1))∧FnM Tryz.prog G 44 [(.box 1000000 0),(vi (↑n+1))] [(1000000,[(.d (.slc 2 t.tail.length (tkF t.tail))),(vi e)])] (.d (ndX (ht z) z)) [(1000000,[(.d (.slc 2 r'.length (tkF r'))),(vi e)])])∧ZW [cd Tryz.f44 [1,1,1,1,0,0,0,1,1,1],(.blk 2)] (stS ZT [1]) ZR)))) (by kernel_rfl) ?_
    rw[Int.toNat_natCast]
    refine⟨⟨f87,⟨by omega,by omega⟩,f75_yes _ t e (lv_len n) ho⟩,fun c=>(by cases c),fun _=>⟨⟨f88 _,⟨by omega,by omega⟩,hc⟩,?_⟩⟩
    have ha:hdA e t=hdA 0 t:=hdA_ne e (opAt_ne ho)
    refine AWP.pre (AS.leX.cell _ 10 5 (l:=[vi (opK (hdS t)),vs ⟨#[]⟩,vi 0,vi 0,vi (hdA e t),.d (kid2 x z)]) (x:=.d (kid2 x z)) (.d (.slc 6 2 (lay (exG (ht (.mk (opK (hdS t)) .empty 0 0 (hdA 0 t) [x,z]))) [x,z]))) (by kernel_rfl) (by kernel_rfl) rfl (by kernel_rfl) (fun β h v hv=>two_imp (x:=.mk (opK (hdS t)) .empty 0 0 (hdA 0 t) [x,z]) rfl hv)) ?_
    have hle:=pr_le (.lvl (n+1)) t.tail
    rw[hq] at hle
    simp only[restOf] at hle
    refine AWP.weaken ?_ (lv_tail_bad n e (.mk (opK (hdS t)) .empty 0 0 (hdA 0 t) [x,z]) r' (x,t) h3 ?_ ?_)
    ·refine AS.leZ [] [1] (b:=((T0∧T0∧T0∧T0∧T0∧True)∧T0∧((some [(vi (opK (hdS t))),(vs (ByteArray.mk #[])),(vi 0),(vi 0),(vi (hdA e t)),(.d (.slc 6 2 (lay (exG (ht (Ex.mk (opK (hdS t)) ByteArray.empty 0 0 (hdA 0 t) [x,z]))) [x,z])))]):(Option (List AV)))=(some [(vi (Ex.mk (opK (hdS t)) ByteArray.empty 0 0 (hdA 0 t) [x,z]).k),(vs (Ex.mk (opK (hdS t)) ByteArray.empty 0 0 (hdA 0 t) [x,z]).s),(vi (Ex.mk (opK (hdS t)) ByteArray.empty 0 0 (hdA 0 t) [x,z]).n),(vi (Ex.mk (opK (hdS t)) ByteArray.empty 0 0 (hdA 0 t) [x,z]).d),(vi (Ex.mk (opK (hdS t)) ByteArray.empty 0 0 (hdA 0 t) [x,z]).pos),(.d (.slc 6 2 (lay (exG (ht (Ex.mk (opK (hdS t)) ByteArray.empty 0 0 (hdA 0 t) [x,z]))) (Ex.mk (opK (hdS t)) ByteArray.empty 0 0 (hdA 0 t) [x,z]).kids)))])∧T0∧True)) (by kernel_rfl) (by kernel_rfl) ?_
     rw[ha]
     exact⟨⟨rfl,rfl,rfl,rfl,rfl,trivial⟩,rfl,rfl,rfl,trivial⟩
    ·dsimp only at hp
     rw[if_neg h3] at hp
     refine⟨?_,hSs.tail.rest (md:=.lvl (n+1)) (by rw[hq];rfl),hp⟩
     show r'.length≤r.length
     omega
    ·show r'.length<t.length
     omega
end Go.Proofs
/- The parser,the program's side: primaries: parentheses,truths,numbers,names. -/
namespace Go.Proofs
open Go Go.Ab Go.RowKit
set_option maxHeartbeats 4000000
set_option maxRecDepth 100000
variable {G:IH}
noncomputable def mPm (w:Tk) (b:Bool) (t1:List Tk) (x:Ex) (r:List Tk) (w2:Tk) (r2:List Tk) (e:Int) (nm:ByteArray):FuncId→List AV→List (Nat×List AV)→Option (AV×List (Nat×List AV)):=fun f _ _=>match f with
 | 75=>some (.d (.tup [tkD w,db b]),pB t1 e)
 | 44=>some (.d (exW x),pB r e)
 | 79=>some (.d (tkD w2),pB r2 e)
 | 78=>some (.d (ds nm),pB t1 e)
 | 110=>some (.d (tkD w),pB t1 e)
 | _=>none
noncomputable def mPn (w:Tk) (t1 t2:List Tk) (e:Int) (nm:ByteArray):FuncId→List AV→List (Nat×List AV)→Option (AV×List (Nat×List AV)):=fun f _ _=>match f with
 | 78=>some (.d (ds nm),pB t2 e)
 | 110=>some (.d (tkD w),pB t1 e)
 | _=>none
noncomputable def dPm (b:Bool) (n d er:Int):Oracle:=fun f a=>match f,a with
 | 63,_=>some (db b)
 | 106,_=>some (.tup [fr n d,di er])
 | _,_=>none
noncomputable def orcPm (w:Tk) (b:Bool) (t1:List Tk) (x:Ex) (r:List Tk) (w2:Tk) (r2:List Tk) (e:Int):Orc:={ d:=dPm false 0 0 0,m:=mPm w b t1 x r w2 r2 e .empty }
noncomputable def orcPw (w:Tk) (t1:List Tk) (e:Int) (b:Bool) (n d er:Int) (nm:ByteArray):Orc:={ d:=dPm b n d er,m:=mPm w false t1 ex0 [] tk0 [] e nm }
abbrev zeroE:List AV:=[vi 0,vs ⟨#[]⟩,vi 0,vi 0,vi 0,.d (.con (.slice none 0 0))]
noncomputable def S86p (t:List Tk) (e:Int):AS:=⟨regs Tryz.f86.ntmps [(0,.box 1000000 0),(2,.box 2 0)],[(2,zeroE),(1000000,pC t e)]⟩
theorem pm_pass0 {Q:Exit→AS→Prop} (t:List Tk) (e:Int) (h:hdS t≠opnS) (k:AWP Tryz.prog G [.code (cAt (bodyOf Tryz.f86) [1,1,0]),.code (cAt (bodyOf Tryz.f86) [1,1,1])] (S86p t e) Q):AWP Tryz.prog G [.code (bodyOf Tryz.f86)] (entryM [.box 1000000 0] (pB t e) Tryz.f86.ntmps) Q:=by
 refine walkK (orc:=orcPm (hdT e t) false t ex0 [] tk0 [] e) (keep:=[]) (cuts:=[3,6]) (n:=1000) follows ?_
 refine of_tr (fun ZT ZW ZQ _=>(FnM Tryz.prog G 75 [(.box 1000000 0),(.d (.slc 1 1 (elemF false 1 [(ds (ByteArray.mk #[40]))])))] [(1000000,[(.d (.slc 2 t.length (tkF t))),(vi e)])] (.d (.tup [(.agg [(ds (hdS t)),(di (hdA e t))]),(db false)])) [(1000000,[(.d (.slc 2 t.length (tkF t))),(vi e)])]∧((false=true)→ZW [cd Tryz.f86 [1,0,1,1,0],cd Tryz.f86 [1,1]] (stS ZT [0]) ZQ)∧((false=false)→ZW [cd Tryz.f86 [1,1,0],cd Tryz.f86 [1,1,1]] (stS ZT [1]) ZQ))) (by kernel_rfl) ?_
 refine⟨FnM.st (f75_no [opnS] t e (by simp) (by rw[inB_one _ _ (by decide),decide_eq_false h])),fun c=>(by cases c),fun _=>?_⟩
 refine AWP.weaken ?_ k
 exact AS.leA (by kernel_rfl)
theorem pm_pass1 {Q:Exit→AS→Prop} (t:List Tk) (e:Int) (h:inB [trueS,falseS] (hdS t)=false) (k:AWP Tryz.prog G [.code (cAt (bodyOf Tryz.f86) [1,1,1,0]),.code (cAt (bodyOf Tryz.f86) [1,1,1,1])] (S86p t e) Q):AWP Tryz.prog G [.code (cAt (bodyOf Tryz.f86) [1,1,0]),.code (cAt (bodyOf Tryz.f86) [1,1,1])] (S86p t e) Q:=by
 refine walkK (orc:=orcPm (hdT e t) false t ex0 [] tk0 [] e) (keep:=[]) (cuts:=[8,11]) (n:=1000) follows ?_
 refine of_tr (fun ZT ZW ZQ _=>(FnM Tryz.prog G 75 [(.box 1000000 0),(.d (.slc 1 2 (elemF false 1 [(ds (ByteArray.mk #[116,114,117,101])),(ds (ByteArray.mk #[102,97,108,115,101]))])))] [(1000000,[(.d (.slc 2 t.length (tkF t))),(vi e)])] (.d (.tup [(.agg [(ds (hdS t)),(di (hdA e t))]),(db false)])) [(1000000,[(.d (.slc 2 t.length (tkF t))),(vi e)])]∧((false=true)→ZW [cd Tryz.f86 [1,1,0,1,1,0,0],cd Tryz.f86 [1,1,0,1,1,0,1],cd Tryz.f86 [1,1,1]] (stS ZT [0]) ZQ)∧((false=false)→ZW [cd Tryz.f86 [1,1,1,0],cd Tryz.f86 [1,1,1,1]] (stS ZT [1]) ZQ))) (by kernel_rfl) ?_
 refine⟨FnM.st (f75_no [trueS,falseS] t e (by simp) h),fun c=>(by cases c),fun _=>?_⟩
 refine AWP.weaken ?_ k
 exact AS.leA (by kernel_rfl)
theorem pm_pass2 {Q:Exit→AS→Prop} (t:List Tk) (e:Int) (h:inB [minS,maxS] (hdS t)=false) (k:AWP Tryz.prog G [.code (cAt (bodyOf Tryz.f86) [1,1,1,1])] (S86p t e) Q):AWP Tryz.prog G [.code (cAt (bodyOf Tryz.f86) [1,1,1,0]),.code (cAt (bodyOf Tryz.f86) [1,1,1,1])] (S86p t e) Q:=by
 refine walkK (orc:=orcPm (hdT e t) false t ex0 [] tk0 [] e) (keep:=[]) (cuts:=[13,23]) (n:=1000) follows ?_
 refine of_tr (fun ZT ZW ZQ _=>(FnM Tryz.prog G 75 [(.box 1000000 0),(.d (.slc 1 2 (elemF false 1 [(ds (ByteArray.mk #[109,105,110])),(ds (ByteArray.mk #[109,97,120]))])))] [(1000000,[(.d (.slc 2 t.length (tkF t))),(vi e)])] (.d (.tup [(.agg [(ds (hdS t)),(di (hdA e t))]),(db false)])) [(1000000,[(.d (.slc 2 t.length (tkF t))),(vi e)])]∧((false=true)→ZW [cd Tryz.f86 [1,1,1,0,1,1,0],cd Tryz.f86 [1,1,1,1]] (stS ZT [0]) ZQ)∧((false=false)→ZW [cd Tryz.f86 [1,1,1,1]] (stS ZT [1]) ZQ))) (by kernel_rfl) ?_
 refine⟨FnM.st (f75_no [minS,maxS] t e (by simp) h),fun c=>(by cases c),fun _=>?_⟩
 refine AWP.weaken ?_ k
 exact AS.leA (by kernel_rfl)
theorem pm_open (t:List Tk) (e:Int) (hh:hdS t=opnS) (x:Ex) (r:List Tk) (h:LvOK G 0 t.tail e (.ok x r)) (hc:hdS r=clsS):PrOK G t e (.ok x r.tail):=by
 refine FnM.of_body (mv:=[]) (by kernel_rfl) Tryz.func86 rfl Tryz.call86 ?_
 refine walkK (orc:=orcPm (hdT e t) true t.tail x r (hdT e r) r.tail e) (keep:=[]) (cuts:=[6]) (n:=1000) follows ?_
 refine of_tr (fun ZT ZW ZQ _=>(fun Za=>(FnM Tryz.prog G 75 [(.box 1000000 0),(.d (.slc 1 1 (elemF false 1 [(ds (ByteArray.mk #[40]))])))] [(1000000,[(.d (.slc 2 t.length (tkF t))),(vi e)])] (.d (.tup [(.agg [(ds (hdS t)),(di (hdA e t))]),(db true)])) [(1000000,[(.d (.slc 2 t.tail.length (tkF t.tail))),(vi e)])]∧((true=true)→(FnM Tryz.prog G 44 [(.box 1000000 0),(vi 0)] [(1000000,[(.d (.slc 2 t.tail.length (tkF t.tail))),(vi e)])] (.d (ndX (ht x) x)) [(1000000,[(.d (.slc 2 r.length (tkF r))),(vi e)])]∧FnM Tryz.prog G 79 [(.box 1000000 0),(vs (ByteArray.mk #[41]))] [(1000000,[(.d (.slc 2 r.length (tkF r))),(vi e)])] (.d (.agg [(ds (hdS r)),(di (hdA e r))])) [(1000000,[Za,(vi e)])]∧(ZS ((.d (ndX (ht x) x)):AV))∧((some [Za,(vi e)]):(Option (List AV)))=(some [Za,(vi e)])∧True))∧((true=false)→ZW [cd Tryz.f86 [1,1,0],cd Tryz.f86 [1,1,1]] (stS ZT [1]) ZQ))) ((.d (.slc 2 r.tail.length (tkF r.tail))):AV)) (by kernel_rfl) ?_
 exact⟨FnM.st (f75_yes [opnS] t e (by simp) (by rw[hh];decide +kernel)),fun _=>⟨h,f79_ok clsS r e (by rw[hc];decide +kernel),rfl,rfl,trivial⟩,fun c=>(by cases c)⟩
theorem pm_open_bad (t:List Tk) (e:Int) (hh:hdS t=opnS) (r:List Tk) (h:LvOK G 0 t.tail e (.bad r)):PrOK G t e (.bad r):=by
 refine FnMX.of_body Tryz.func86 rfl Tryz.call86 ?_
 refine walkK (orc:=orcPm (hdT e t) true t.tail ex0 r (hdT e r) r.tail e) (keep:=[]) (cuts:=[3,6]) (n:=1000) follows ?_
 refine of_tr (fun ZT ZW ZQ _=>(FnM Tryz.prog G 75 [(.box 1000000 0),(.d (.slc 1 1 (elemF false 1 [(ds (ByteArray.mk #[40]))])))] [(1000000,[(.d (.slc 2 t.length (tkF t))),(vi e)])] (.d (.tup [(.agg [(ds (hdS t)),(di (hdA e t))]),(db true)])) [(1000000,[(.d (.slc 2 t.tail.length (tkF t.tail))),(vi e)])]∧((true=true)→ZW [cd Tryz.f86 [1,0,1,1,0],cd Tryz.f86 [1,1]] (stS ZT [0]) ZQ)∧((true=false)→ZW [cd Tryz.f86 [1,1,0],cd Tryz.f86 [1,1,1]] (stS ZT [1]) ZQ))) (by kernel_rfl) ?_
 refine⟨FnM.st (f75_yes [opnS] t e (by simp) (by rw[hh];decide +kernel)),fun _=>?_,fun c=>(by cases c)⟩
 refine AWP.panicX follows (orcPm (hdT e t) true t.tail ex0 r (hdT e r) r.tail e) 1 (mkV (hdA e r)) ?_
 refine of_tr (fun _ _ _ _=>(FnMX Tryz.prog G 44 [(.box 1000000 0),(vi 0)] [(1000000,[(.d (.slc 2 t.tail.length (tkF t.tail))),(vi e)])] (mkV (hdA e r))∧((.panic [(PanicEntry.mk (mkV (hdA e r)) false false)]):Exit)=(.panic [(PanicEntry.mk (mkV (hdA e r)) false false)])∧((some [.any,.any]):(Option (List AV)))=(some [.any,.any])∧True)) (by kernel_rfl) ?_
 exact⟨h,rfl,rfl,trivial⟩
theorem pm_open_cls (t:List Tk) (e:Int) (hh:hdS t=opnS) (x:Ex) (r:List Tk) (h:LvOK G 0 t.tail e (.ok x r)) (hc:hdS r≠clsS):PrOK G t e (.bad r):=by
 refine FnMX.of_body Tryz.func86 rfl Tryz.call86 ?_
 refine walkK (orc:=orcPm (hdT e t) true t.tail x r (hdT e r) r.tail e) (keep:=[]) (cuts:=[4,6]) (n:=1000) follows ?_
 refine of_tr (fun ZT ZW ZQ _=>(FnM Tryz.prog G 75 [(.box 1000000 0),(.d (.slc 1 1 (elemF false 1 [(ds (ByteArray.mk #[40]))])))] [(1000000,[(.d (.slc 2 t.length (tkF t))),(vi e)])] (.d (.tup [(.agg [(ds (hdS t)),(di (hdA e t))]),(db true)])) [(1000000,[(.d (.slc 2 t.tail.length (tkF t.tail))),(vi e)])]∧((true=true)→(FnM Tryz.prog G 44 [(.box 1000000 0),(vi 0)] [(1000000,[(.d (.slc 2 t.tail.length (tkF t.tail))),(vi e)])] (.d (ndX (ht x) x)) [(1000000,[(.d (.slc 2 r.length (tkF r))),(vi e)])]∧ZW [cd Tryz.f86 [1,0,1,1,0,1],cd Tryz.f86 [1,1]] (stS ZT [0]) ZQ))∧((true=false)→ZW [cd Tryz.f86 [1,1,0],cd Tryz.f86 [1,1,1]] (stS ZT [1]) ZQ))) (by kernel_rfl) ?_
 refine⟨FnM.st (f75_yes [opnS] t e (by simp) (by rw[hh];decide +kernel)),fun _=>⟨h,?_⟩,fun c=>(by cases c)⟩
 refine AWP.panicX follows (orcPm (hdT e t) true t.tail x r (hdT e r) r.tail e) 1 (mkV (hdA e r)) ?_
 refine of_tr (fun _ _ _ _=>(FnMX Tryz.prog G 79 [(.box 1000000 0),(vs (ByteArray.mk #[41]))] [(1000000,[(.d (.slc 2 r.length (tkF r))),(vi e)])] (mkV (hdA e r))∧((.panic [(PanicEntry.mk (mkV (hdA e r)) false false)]):Exit)=(.panic [(PanicEntry.mk (mkV (hdA e r)) false false)])∧((some [.any,.any]):(Option (List AV)))=(some [.any,.any])∧True)) (by kernel_rfl) ?_
 exact⟨f79_bad clsS r e (by rw[inB_one _ _ (by decide),decide_eq_false hc]),rfl,rfl,trivial⟩
theorem leaf_imp {k n d a:Int} {s:ByteArray} {h:IH} {v:Value} (hv:DV.rel h (.agg [di k,ds s,di n,di d,di a,.con (.slice none 0 0)]) v):DV.rel h (exW (.mk k s n d a [])) v:=by
 obtain ⟨vs,rfl,v1,u1,rfl,a1,v2,u2,rfl,a2,v3,u3,rfl,a3,v4,u4,rfl,a4,v5,u5,rfl,a5,v6,u6,rfl,a6,a7⟩:=hv
 exact⟨_,rfl,v1,_,rfl,a1,v2,_,rfl,a2,v3,_,rfl,a3,v4,_,rfl,a4,v5,_,rfl,a5,v6,_,rfl,nil_slc a6,a7⟩
theorem tf_eq {s w:ByteArray} {b:Bool} (h:decide (s=w)=b):(ByteArray.toList s==ByteArray.toList w)=b:=by rw[toList_beq];exact h
theorem pm_true (t:List Tk) (e:Int) (hh:hdS t=trueS):PrOK G t e (.ok (.mk 3 .empty 0 0 (hdA 0 t) []) t.tail):=by
 refine FnM.resD (d:=.agg [di 3,ds .empty,di 0,di 0,di (hdA 0 t),.con (.slice none 0 0)]) ?_ fun k v hv=>leaf_imp hv
 rw[←hdA_ne e (show hdS t≠.empty by rw[hh];decide)]
 refine FnM.of_body (mv:=[]) (by kernel_rfl) Tryz.func86 rfl Tryz.call86 ?_
 refine pm_pass0 t e (by rw[hh];decide) ?_
 refine walkK (orc:=orcPm (hdT e t) true t.tail ex0 [] tk0 [] e) (keep:=[]) (cuts:=[10,11]) (n:=1000) follows ?_
 refine of_tr (fun ZT ZW ZQ _=>(fun Za=>(FnM Tryz.prog G 75 [(.box 1000000 0),(.d (.slc 1 2 (elemF false 1 [(ds (ByteArray.mk #[116,114,117,101])),(ds (ByteArray.mk #[102,97,108,115,101]))])))] [(1000000,[(.d (.slc 2 t.length (tkF t))),(vi e)])] (.d (.tup [(.agg [(ds (hdS t)),(di (hdA e t))]),(db true)])) [(1000000,[Za,(vi e)])]∧((true=true)→(((((hdS t).toList==(ByteArray.mk #[116,114,117,101]).toList)=true)→(((.d (.agg [(di 3),(ds (ByteArray.mk #[])),(di 0),(di 0),(di (hdA e t)),(.con (.slice none 0 0))])):AV)=(.d (.agg [(di 3),(ds ByteArray.empty),(di 0),(di 0),(di (hdA e t)),(.con (.slice none 0 0))]))∧((some [Za,(vi e)]):(Option (List AV)))=(some [Za,(vi e)])∧True))∧((((hdS t).toList==(ByteArray.mk #[116,114,117,101]).toList)=false)→ZW [cd Tryz.f86 [1,1,0,1,1,0,1],cd Tryz.f86 [1,1,1]] (stS ZT [0,1]) ZQ)))∧((true=false)→ZW [cd Tryz.f86 [1,1,1,0],cd Tryz.f86 [1,1,1,1]] (stS ZT [1]) ZQ))) ((.d (.slc 2 t.tail.length (tkF t.tail))):AV)) (by kernel_rfl) ?_
 refine⟨FnM.st (f75_yes [trueS,falseS] t e (by simp) (by rw[hh];decide +kernel)),fun _=>⟨fun _=>⟨rfl,rfl,trivial⟩,fun c=>?_⟩,fun c=>(by cases c)⟩
 have c2:=(tf_eq (s:=hdS t) (w:=trueS) (b:=true) (by rw[decide_eq_true hh])).symm.trans c
 cases c2
theorem pm_false (t:List Tk) (e:Int) (hh:hdS t=falseS):PrOK G t e (.ok (.mk 4 .empty 0 0 (hdA 0 t) []) t.tail):=by
 refine FnM.resD (d:=.agg [di 4,ds .empty,di 0,di 0,di (hdA 0 t),.con (.slice none 0 0)]) ?_ fun k v hv=>leaf_imp hv
 rw[←hdA_ne e (show hdS t≠.empty by rw[hh];decide)]
 refine FnM.of_body (mv:=[]) (by kernel_rfl) Tryz.func86 rfl Tryz.call86 ?_
 refine pm_pass0 t e (by rw[hh];decide) ?_
 refine walkK (orc:=orcPm (hdT e t) true t.tail ex0 [] tk0 [] e) (keep:=[]) (cuts:=[9,11]) (n:=1000) follows ?_
 refine of_tr (fun ZT ZW ZQ _=>(fun Za=>(FnM Tryz.prog G 75 [(.box 1000000 0),(.d (.slc 1 2 (elemF false 1 [(ds (ByteArray.mk #[116,114,117,101])),(ds (ByteArray.mk #[102,97,108,115,101]))])))] [(1000000,[(.d (.slc 2 t.length (tkF t))),(vi e)])] (.d (.tup [(.agg [(ds (hdS t)),(di (hdA e t))]),(db true)])) [(1000000,[Za,(vi e)])]∧((true=true)→(((((hdS t).toList==(ByteArray.mk #[116,114,117,101]).toList)=true)→ZW [cd Tryz.f86 [1,1,0,1,1,0,0,1,0],cd Tryz.f86 [1,1,0,1,1,0,1],cd Tryz.f86 [1,1,1]] (stS ZT [0,0]) ZQ)∧((((hdS t).toList==(ByteArray.mk #[116,114,117,101]).toList)=false)→(((.d (.agg [(di 4),(ds (ByteArray.mk #[])),(di 0),(di 0),(di (hdA e t)),(.con (.slice none 0 0))])):AV)=(.d (.agg [(di 4),(ds ByteArray.empty),(di 0),(di 0),(di (hdA e t)),(.con (.slice none 0 0))]))∧((some [Za,(vi e)]):(Option (List AV)))=(some [Za,(vi e)])∧True))))∧((true=false)→ZW [cd Tryz.f86 [1,1,1,0],cd Tryz.f86 [1,1,1,1]] (stS ZT [1]) ZQ))) ((.d (.slc 2 t.tail.length (tkF t.tail))):AV)) (by kernel_rfl) ?_
 refine⟨FnM.st (f75_yes [trueS,falseS] t e (by simp) (by rw[hh];decide +kernel)),fun _=>⟨fun c=>?_,fun _=>⟨rfl,rfl,trivial⟩⟩,fun c=>(by cases c)⟩
 have c2:=(tf_eq (s:=hdS t) (w:=trueS) (b:=false) (by rw[hh];decide)).symm.trans c
 cases c2
def plainW (s:ByteArray):Prop:=s≠opnS∧inB [trueS,falseS] s=false∧inB [minS,maxS] s=false
theorem pm_num (t:List Tk) (e:Int) (hh:plainW (hdS t)) (hs:(hdS t).size≤900000) (hd:digB (byteAt (hdS t) 0)=true):PrOK G t e (.ok (.mk 1 .empty (prs (hdS t)).1 (prs (hdS t)).2.1 (hdA 0 t) []) t.tail):=by
 have hne:hdS t≠.empty:=fun h=>by rw[h] at hd;exact absurd hd (by decide +kernel)
 have hsz:(hdS t).size≠0:=fun h=>hne (empty_of h)
 have h106:FnOK Tryz.prog G 106 [ds (hdS t)] (fe (prs (hdS t))):=f106 _ hs
 refine FnM.resD (d:=.agg [di 1,ds .empty,di (prs (hdS t)).1,di (prs (hdS t)).2.1,di (hdA 0 t),.con (.slice none 0 0)]) ?_ fun k v hv=>leaf_imp hv
 rw[←hdA_ne e hne]
 revert h106
 obtain ⟨a,b,c⟩:=prs (hdS t)
 intro h106
 obtain ⟨h1,h2⟩:1≤t.length∧t.tail.length=t.length-1:=by
  cases t with
  | nil=>exact absurd rfl hne
  | cons w t=>simp
 refine FnM.of_body (mv:=[]) (by kernel_rfl) Tryz.func86 rfl Tryz.call86 ?_
 refine pm_pass0 t e hh.1 (pm_pass1 t e hh.2.1 (pm_pass2 t e hh.2.2 ?_))
 refine walkK (orc:=orcPw (hdT e t) t e true a b c .empty) (keep:=[]) (cuts:=[28]) (n:=1000) follows ?_
 refine of_tr (fun ZT ZW ZQ ZK=>(FnM Tryz.prog G 110 [(.box 1000000 0)] [(1000000,[(.d (.slc 2 t.length (tkF t))),(vi e)])] (.d (.agg [(ds (hdS t)),(di (hdA e t))])) [(1000000,[(.d (.slc 2 t.length (tkF t))),(vi e)])]∧((((!(hdS t).toList==(ByteArray.mk #[]).toList)=true)→(((0:Int)≤(0:Int))∧(0<(↑(hdS t).size:Int))))∧(((!(hdS t).toList==(ByteArray.mk #[]).toList)=true)→ZK 63 [(.con (.int .u8 (byteAt (hdS t) (Int.toNat 0))))] (db true)))∧(((!(hdS t).toList==(ByteArray.mk #[]).toList&&true)=true)→((((0:Int)≤(1:Int))∧(1≤(↑t.length:Int))∧((↑t.length:Int)≤↑t.length))∧ZK 106 [(ds (hdS t))] (.tup [(.agg [(di a),(di b)]),(di c)])∧((.d (.agg [(di 1),(ds (ByteArray.mk #[])),(di a),(di b),(di (hdA e t)),(.con (.slice none 0 0))])):AV)=(.d (.agg [(di 1),(ds ByteArray.empty),(di a),(di b),(di (hdA e t)),(.con (.slice none 0 0))]))∧((some [(.d (.slc 2 ((↑t.length:Int)-1).toNat (fun i=>tkF t (Int.toNat 1+i)))),(vi e)]):(Option (List AV)))=(some [(.d (.slc 2 t.tail.length (tkF t.tail))),(vi e)])∧True))∧(((!(hdS t).toList==(ByteArray.mk #[]).toList&&true)=false)→ZW [cd Tryz.f86 [1,1,1,1,1,1]] (stS ZT [1]) ZQ))) (by kernel_rfl) ?_
 have e1:((t.length:Int)-1).toNat=t.tail.length:=by omega
 have e2:(fun i=>tkF t (Int.toNat 1+i))=tkF t.tail:=tk_tail t
 rw[e1,e2]
 have hpos:(!(ByteArray.toList (hdS t)==ByteArray.toList { data:=#[] }))=true→(0:Int)≤(0:Int)∧(0:Int)<((hdS t).size:Int):=fun c=>by
  rw[emp_beq] at c
  simp only[Bool.not_eq_true',decide_eq_false_iff_not] at c
  exact⟨by omega,by omega⟩
 refine⟨f110 t e,⟨hpos,fun _=>by rw[←hd];exact f63 _⟩,fun _=>⟨⟨by omega,by omega,by omega⟩,h106,rfl,rfl,trivial⟩,fun c=>?_⟩
 rw[emp_beq,decide_eq_false hsz] at c
 cases c
theorem pm_name (t:List Tk) (e:Int) (hh:plainW (hdS t)) (hs:(hdS t).size≤900000) (hd:digB (byteAt (hdS t) 0)=false) (hn:nameB (hdS t)=true):PrOK G t e (.ok (.mk 2 (hdS t) 0 0 (hdA 0 t) []) t.tail):=by
 have hne:hdS t≠.empty:=fun h=>by rw[h] at hn;exact absurd hn (by decide +kernel)
 refine FnM.resD (d:=.agg [di 2,ds (hdS t),di 0,di 0,di (hdA 0 t),.con (.slice none 0 0)]) ?_ fun k v hv=>leaf_imp hv
 rw[←hdA_ne e hne]
 refine FnM.of_body (mv:=[]) (by kernel_rfl) Tryz.func86 rfl Tryz.call86 ?_
 refine pm_pass0 t e hh.1 (pm_pass1 t e hh.2.1 (pm_pass2 t e hh.2.2 ?_))
 refine walkK (orc:={ d:=dPm false 0 0 0,m:=mPn (hdT e t) t t.tail e (hdS t) }) (keep:=[]) (cuts:=[25]) (n:=1000) follows ?_
 refine of_tr (fun ZT ZW ZQ ZK=>(fun Za=>(FnM Tryz.prog G 110 [(.box 1000000 0)] [(1000000,[(.d (.slc 2 t.length (tkF t))),(vi e)])] (.d (.agg [(ds (hdS t)),(di (hdA e t))])) [(1000000,[(.d (.slc 2 t.length (tkF t))),(vi e)])]∧((((!(hdS t).toList==(ByteArray.mk #[]).toList)=true)→(((0:Int)≤(0:Int))∧(0<(↑(hdS t).size:Int))))∧(((!(hdS t).toList==(ByteArray.mk #[]).toList)=true)→ZK 63 [(.con (.int .u8 (byteAt (hdS t) (Int.toNat 0))))] (db false)))∧(((!(hdS t).toList==(ByteArray.mk #[]).toList&&false)=true)→ZW [cd Tryz.f86 [1,1,1,1,1,0,1,0],cd Tryz.f86 [1,1,1,1,1,1]] (stS ZT [0]) ZQ)∧(((!(hdS t).toList==(ByteArray.mk #[]).toList&&false)=false)→(FnM Tryz.prog G 78 [(.box 1000000 0)] [(1000000,[(.d (.slc 2 t.length (tkF t))),(vi e)])] (vs (hdS t)) [(1000000,[Za,(vi e)])]∧(ZS ((.d (.agg [(di 2),(ds (hdS t)),(di 0),(di 0),(di (hdA e t)),(.con (.slice none 0 0))])):AV))∧((some [Za,(vi e)]):(Option (List AV)))=(some [Za,(vi e)])∧True)))) ((.d (.slc 2 t.tail.length (tkF t.tail))):AV)) (by kernel_rfl) ?_
 try dsimp only
 have hpos:(!(ByteArray.toList (hdS t)==ByteArray.toList { data:=#[] }))=true→(0:Int)≤(0:Int)∧(0:Int)<((hdS t).size:Int):=fun c=>by
  rw[emp_beq] at c
  simp only[Bool.not_eq_true',decide_eq_false_iff_not] at c
  exact⟨by omega,by omega⟩
 refine⟨f110 t e,⟨hpos,fun _=>by rw[←hd];exact f63 _⟩,fun c=>?_,fun _=>⟨f78_ok t e (by omega) hn,rfl,rfl,trivial⟩⟩
 rw[Bool.and_false] at c;cases c
theorem pm_bad (t:List Tk) (e:Int) (hh:plainW (hdS t)) (hs:(hdS t).size≤900000) (hd:digB (byteAt (hdS t) 0)=false) (hn:nameB (hdS t)=false):PrOK G t e (.bad t):=by
 refine FnMX.of_body Tryz.func86 rfl Tryz.call86 ?_
 refine pm_pass0 t e hh.1 (pm_pass1 t e hh.2.1 (pm_pass2 t e hh.2.2 ?_))
 refine walkK (orc:={ d:=dPm false 0 0 0,m:=mPn (hdT e t) t t.tail e (hdS t) }) (keep:=[]) (cuts:=[25,28]) (n:=1000) follows ?_
 refine of_tr (fun ZT ZW ZQ ZK=>(FnM Tryz.prog G 110 [(.box 1000000 0)] [(1000000,[(.d (.slc 2 t.length (tkF t))),(vi e)])] (.d (.agg [(ds (hdS t)),(di (hdA e t))])) [(1000000,[(.d (.slc 2 t.length (tkF t))),(vi e)])]∧((((!(hdS t).toList==(ByteArray.mk #[]).toList)=true)→(((0:Int)≤(0:Int))∧(0<(↑(hdS t).size:Int))))∧(((!(hdS t).toList==(ByteArray.mk #[]).toList)=true)→ZK 63 [(.con (.int .u8 (byteAt (hdS t) (Int.toNat 0))))] (db false)))∧(((!(hdS t).toList==(ByteArray.mk #[]).toList&&false)=true)→ZW [cd Tryz.f86 [1,1,1,1,1,0,1,0],cd Tryz.f86 [1,1,1,1,1,1]] (stS ZT [0]) ZQ)∧(((!(hdS t).toList==(ByteArray.mk #[]).toList&&false)=false)→ZW [cd Tryz.f86 [1,1,1,1,1,1]] (stS ZT [1]) ZQ))) (by kernel_rfl) ?_
 have hpos:(!(ByteArray.toList (hdS t)==ByteArray.toList { data:=#[] }))=true→(0:Int)≤(0:Int)∧(0:Int)<((hdS t).size:Int):=fun c=>by
  rw[emp_beq] at c
  simp only[Bool.not_eq_true',decide_eq_false_iff_not] at c
  exact⟨by omega,by omega⟩
 refine⟨f110 t e,⟨hpos,fun _=>by rw[←hd];exact f63 _⟩,fun c=>?_,fun _=>?_⟩
 ·rw[Bool.and_false] at c;cases c
 refine AWP.panicX follows ({ d:=dPm false 0 0 0,m:=mPn (hdT e t) t t.tail e (hdS t) }:Orc) 1 (mkV (hdA e t)) ?_
 refine of_tr (fun _ _ _ _=>(FnMX Tryz.prog G 78 [(.box 1000000 0)] [(1000000,[(.d (.slc 2 t.length (tkF t))),(vi e)])] (mkV (hdA e t))∧((.panic [(PanicEntry.mk (mkV (hdA e t)) false false)]):Exit)=(.panic [(PanicEntry.mk (mkV (hdA e t)) false false)])∧((some [.any,.any]):(Option (List AV)))=(some [.any,.any])∧True)) (by kernel_rfl) ?_
 exact⟨f78_bad t e (by omega) hn,rfl,rfl,trivial⟩
end Go.Proofs
/- The parser,the program's side: min and max. -/
namespace Go.Proofs
open Go Go.Ab Go.RowKit
set_option maxHeartbeats 4000000
set_option maxRecDepth 100000
variable {G:IH}
abbrev xRK:RK:=⟨true,34,false,none⟩
def exsW (l:List Ex) (i:Nat):DV:=exW (l.getD i ex0)
noncomputable def S86l (k a e:Int) (x:List Ex×List Tk×Bool):AS:=⟨regs Tryz.f86.ntmps [(0,.box 1000000 0),(2,.box 2 0),(10,.box 10 0),(11,vb x.2.2)],[(2,zeroE),(10,[vi k,vs ⟨#[]⟩,vi 0,vi 0,vi a,.vec 900 6 0 x.1.length]),(900,[.arr xRK 6 (exsW x.1)]),(1000000,pC x.2.1 e)]⟩
noncomputable def mPx (w:Tk) (b:Bool) (t1:List Tk) (x:Ex) (r:List Tk) (w2:Tk) (r2:List Tk) (e:Int):FuncId→List AV→List (Nat×List AV)→Option (AV×List (Nat×List AV)):=fun f _ _=>match f with
 | 75=>some (.d (.tup [tkD w,db b]),pB t1 e)
 | 44=>some (.d (exW x),pB r e)
 | 79=>some (.d (tkD w2),pB r2 e)
 | _=>none
noncomputable def orcPx (w:Tk) (b:Bool) (t1:List Tk) (x:Ex) (r:List Tk) (w2:Tk) (r2:List Tk) (e:Int):Orc:={ d:=dPm false 0 0 0,m:=mPx w b t1 x r w2 r2 e }
noncomputable def S86m (k a e:Int) (t:List Tk):AS:=⟨regs Tryz.f86.ntmps [(0,.box 1000000 0),(2,.box 2 0),(10,.box 10 0)],[(2,zeroE),(10,[vi k,vs ⟨#[]⟩,vi 0,vi 0,vi a,.d (.con (.slice none 0 0))]),(1000000,pC t e)]⟩
def mmK (s:ByteArray):Int:=if s=maxS then 11 else 10
theorem pm_mm {Q:Exit→AS→Prop} (t:List Tk) (e:Int) (hh:inB [minS,maxS] (hdS t)=true) (ho:hdS t.tail=opnS) (k:AWP Tryz.prog G [.code (cAt (bodyOf Tryz.f86) [1,1,1,0,1,1,0,1,1,1,0]),.code (cAt (bodyOf Tryz.f86) [1,1,1,0,1,1,0,1,1,1,1]),.code (cAt (bodyOf Tryz.f86) [1,1,1,1])] (S86m (mmK (hdS t)) (hdA e t) e t.tail.tail) Q) :
  AWP Tryz.prog G [.code (cAt (bodyOf Tryz.f86) [1,1,1,0]),.code (cAt (bodyOf Tryz.f86) [1,1,1,1])] (S86p t e) Q:=by
 refine walkK (orc:=orcPx (hdT e t) true t.tail ex0 [] (hdT e t.tail) t.tail.tail e) (keep:=[]) (cuts:=[17,23]) (n:=1000) follows ?_
 refine of_tr (fun ZT ZW ZQ _=>(fun Za=>(FnM Tryz.prog G 75 [(.box 1000000 0),(.d (.slc 1 2 (elemF false 1 [(ds (ByteArray.mk #[109,105,110])),(ds (ByteArray.mk #[109,97,120]))])))] [(1000000,[(.d (.slc 2 t.length (tkF t))),(vi e)])] (.d (.tup [(.agg [(ds (hdS t)),(di (hdA e t))]),(db true)])) [(1000000,[Za,(vi e)])]∧((true=true)→(((((hdS t).toList==(ByteArray.mk #[109,97,120]).toList)=true)→(FnM Tryz.prog G 79 [(.box 1000000 0),(vs (ByteArray.mk #[40]))] [(1000000,[Za,(vi e)])] (.d (.agg [(ds (hdS t.tail)),(di (hdA e t.tail))])) [(1000000,[(.d (.slc 2 t.tail.tail.length (tkF t.tail.tail))),(vi e)])]∧ZW [cd Tryz.f86 [1,1,1,0,1,1,0,1,1,1,0],cd Tryz.f86 [1,1,1,0,1,1,0,1,1,1,1],cd Tryz.f86 [1,1,1,1]] (stS ZT [0,0]) ZQ))∧((((hdS t).toList==(ByteArray.mk #[109,97,120]).toList)=false)→(FnM Tryz.prog G 79 [(.box 1000000 0),(vs (ByteArray.mk #[40]))] [(1000000,[Za,(vi e)])] (.d (.agg [(ds (hdS t.tail)),(di (hdA e t.tail))])) [(1000000,[(.d (.slc 2 t.tail.tail.length (tkF t.tail.tail))),(vi e)])]∧ZW [cd Tryz.f86 [1,1,1,0,1,1,0,1,1,1,0],cd Tryz.f86 [1,1,1,0,1,1,0,1,1,1,1],cd Tryz.f86 [1,1,1,1]] (stS ZT [0,1]) ZQ))))∧((true=false)→ZW [cd Tryz.f86 [1,1,1,1]] (stS ZT [1]) ZQ))) ((.d (.slc 2 t.tail.length (tkF t.tail))):AV)) (by kernel_rfl) ?_
 try dsimp only
 have h79:=f79_ok (G:=G) opnS t.tail e (by rw[ho];decide +kernel)
 refine⟨FnM.st (f75_yes [minS,maxS] t e (by simp) hh),fun _=>⟨fun c=>⟨h79,?_⟩,fun c=>⟨h79,?_⟩⟩,fun c=>(by cases c)⟩
 ·have hm:hdS t=maxS:=by rw[toList_beq] at c;exact of_decide_eq_true c
  refine AWP.weaken ?_ k
  rw[show mmK (hdS t)=11 by unfold mmK;rw[if_pos hm]]
  exact AS.leA (by kernel_rfl)
 ·have hm:hdS t≠maxS:=by rw[toList_beq] at c;exact of_decide_eq_false c
  refine AWP.weaken ?_ k
  rw[show mmK (hdS t)=10 by unfold mmK;rw[if_neg hm]]
  exact AS.leA (by kernel_rfl)
theorem pm_mm_bad (t:List Tk) (e:Int) (hh:inB [minS,maxS] (hdS t)=true) (h1:hdS t≠opnS) (h2:inB [trueS,falseS] (hdS t)=false) (ho:hdS t.tail≠opnS):PrOK G t e (.bad t.tail):=by
 have h79:=f79_bad (G:=G) opnS t.tail e (by rw[inB_one _ _ (by decide),decide_eq_false ho])
 refine FnMX.of_body Tryz.func86 rfl Tryz.call86 ?_
 refine pm_pass0 t e h1 (pm_pass1 t e h2 ?_)
 refine walkK (orc:=orcPx (hdT e t) true t.tail ex0 [] (hdT e t.tail) t.tail.tail e) (keep:=[]) (cuts:=[16,23]) (n:=1000) follows ?_
 refine of_tr (fun ZT ZW ZQ _=>(FnM Tryz.prog G 75 [(.box 1000000 0),(.d (.slc 1 2 (elemF false 1 [(ds (ByteArray.mk #[109,105,110])),(ds (ByteArray.mk #[109,97,120]))])))] [(1000000,[(.d (.slc 2 t.length (tkF t))),(vi e)])] (.d (.tup [(.agg [(ds (hdS t)),(di (hdA e t))]),(db true)])) [(1000000,[(.d (.slc 2 t.tail.length (tkF t.tail))),(vi e)])]∧((true=true)→(((((hdS t).toList==(ByteArray.mk #[109,97,120]).toList)=true)→ZW [cd Tryz.f86 [1,1,1,0,1,1,0,1,1],cd Tryz.f86 [1,1,1,1]] (stS ZT [0,0]) ZQ)∧((((hdS t).toList==(ByteArray.mk #[109,97,120]).toList)=false)→ZW [cd Tryz.f86 [1,1,1,0,1,1,0,1,1],cd Tryz.f86 [1,1,1,1]] (stS ZT [0,1]) ZQ)))∧((true=false)→ZW [cd Tryz.f86 [1,1,1,1]] (stS ZT [1]) ZQ))) (by kernel_rfl) ?_
 refine⟨FnM.st (f75_yes [minS,maxS] t e (by simp) hh),fun _=>⟨fun c=>?_,fun c=>?_⟩,fun c=>(by cases c)⟩
 ·refine AWP.panicX follows (orcPx (hdT e t) true t.tail ex0 [] (hdT e t.tail) t.tail.tail e) 1 (mkV (hdA e t.tail)) ?_
  refine of_tr (fun _ _ _ _=>(FnMX Tryz.prog G 79 [(.box 1000000 0),(vs (ByteArray.mk #[40]))] [(1000000,[(.d (.slc 2 t.tail.length (tkF t.tail))),(vi e)])] (mkV (hdA e t.tail))∧((.panic [(PanicEntry.mk (mkV (hdA e t.tail)) false false)]):Exit)=(.panic [(PanicEntry.mk (mkV (hdA e t.tail)) false false)])∧((some [.any,.any]):(Option (List AV)))=(some [.any,.any])∧True)) (by kernel_rfl) ?_
  exact⟨h79,rfl,rfl,trivial⟩
 ·refine AWP.panicX follows (orcPx (hdT e t) true t.tail ex0 [] (hdT e t.tail) t.tail.tail e) 1 (mkV (hdA e t.tail)) ?_
  refine of_tr (fun _ _ _ _=>(FnMX Tryz.prog G 79 [(.box 1000000 0),(vs (ByteArray.mk #[40]))] [(1000000,[(.d (.slc 2 t.tail.length (tkF t.tail))),(vi e)])] (mkV (hdA e t.tail))∧((.panic [(PanicEntry.mk (mkV (hdA e t.tail)) false false)]):Exit)=(.panic [(PanicEntry.mk (mkV (hdA e t.tail)) false false)])∧((some [.any,.any]):(Option (List AV)))=(some [.any,.any])∧True)) (by kernel_rfl) ?_
  exact⟨h79,rfl,rfl,trivial⟩
def mmR (k a:Int) (x:List Ex×List Tk×Bool):Rs:=if x.2.2=true then pr (.args (.mk k .empty 0 0 a x.1)) x.2.1 else if hdS x.2.1=clsS then .ok (.mk k .empty 0 0 a x.1) x.2.1.tail else .bad x.2.1
noncomputable def mmKs:List It:=[.blk 0,.code (cAt (bodyOf Tryz.f86) [1,1,1,0,1,1,0,1,1,1,1]),.code (cAt (bodyOf Tryz.f86) [1,1,1,1])]
theorem mm_round {Q:Exit→AS→Prop} {I:List Ex×List Tk×Bool→Prop} (k a e:Int) (L:List Ex) (t r:List Tk) (y:Ex) (h:LvOK G 0 t e (.ok y r)) (hL:L.length≤1000000) (hle:r.length≤t.length)
  (hI:I (L++[y],(if hdS r=commaS then r.tail else r),decide (hdS r=commaS))):AWP Tryz.prog G [.code (cAt (bodyOf Tryz.f86) [1,1,1,0,1,1,0,1,1,1,0,1,0,0])] (S86l k a e (L,t,true)) (RoundQ Tryz.prog G mmKs Q (S86l k a e) I (fun x=>2*x.2.1.length+if x.2.2=true then 1 else 0) (L,t,true)):=by
 refine walkK (orc:=orcPx (hdT e r) (decide (hdS r=commaS)) (if hdS r=commaS then r.tail else r) y r tk0 [] e) (keep:=[]) (cuts:=[]) (n:=1000) follows ?_
 refine of_rd (fun ZT ZW _ _ ZA _=>(((true=true)→((FnM Tryz.prog G 44 [(.box 1000000 0),(vi 0)] [(1000000,[(.d (.slc 2 t.length (tkF t))),(vi e)])] (.d (ndX (ht y) y)) [(1000000,[(.d (.slc 2 r.length (tkF r))),(vi e)])]∧(((L.length+1)*72≤1099511627776)∧(L.length+1≤1099511627776))∧(∀(i:Nat),i<1→elemOK true 6 (elemF true 6 [di y.k,ds y.s,di y.n,di y.d,di y.pos,DV.slc 6 y.kids.length (lay (exG (ht y)) y.kids)] i)=true))∧FnM Tryz.prog G 75 [(.box 1000000 0),(.d (.slc 1 1 (elemF false 1 [(ds (ByteArray.mk #[44]))])))] [(1000000,[(.d (.slc 2 r.length (tkF r))),(vi e)])] (.d (.tup [(.agg [(ds (hdS r)),(di (hdA e r))]),(db (decide (hdS r=commaS)))])) [(1000000,[(.d (.slc 2 (if hdS r=commaS then r.tail else r).length (tkF (if hdS r=commaS then r.tail else r)))),(vi e)])]∧(ZA (stS ZT [0]))))∧((true=false)→ZW [cd Tryz.f86 [1,1,1,0,1,1,0,1,1,1,1],cd Tryz.f86 [1,1,1,1]] (stS ZT [1]) Q))) (by kernel_rfl) ?_
 have h75:FnM Tryz.prog G 75 [.box 1000000 0,.d (st1 [commaS])] (pB r e) (.d (.tup [tkD (hdT e r),db (decide (hdS r=commaS))])) (pB (if hdS r=commaS then r.tail else r) e):=by
  by_cases hc:hdS r=commaS
  ·rw[if_pos hc,decide_eq_true hc]
   exact FnM.st (f75_yes [commaS] r e (by simp) (by rw[hc];decide +kernel))
  ·rw[if_neg hc,decide_eq_false hc]
   exact FnM.st (f75_no [commaS] r e (by simp) (by rw[inB_one _ _ (by decide),decide_eq_false hc]))
 refine⟨fun _=>⟨⟨h,⟨by omega,by omega⟩,fun i hi=>?_⟩,h75,?_⟩,fun c=>(by cases c)⟩
 ·obtain rfl:i=0:=by omega
  rfl
 ·refine⟨(L++[y],(if hdS r=commaS then r.tail else r),decide (hdS r=commaS)),(AS.leX.moves [(71,900)] _ rfl).trans ((AS.leX.rowB _ 10 5 900 (L.length+1) (l:=[vi k,vs ⟨#[]⟩,vi 0,vi 0,vi a,.vec 900 6 0 (L.length+1)]) (agg:=xRK) (sz:=6) (f:=fun i=>bif Nat.blt i L.length then exsW L i else elemF true 6 [di y.k,ds y.s,di y.n,di y.d,di y.pos,.slc 6 y.kids.length (lay (exG (ht y)) y.kids)] (i-L.length)) (exsW (L++[y])) (by kernel_rfl) (by kernel_rfl) (by kernel_rfl) (by kernel_rfl) (by kernel_rfl) (by kernel_rfl) rfl (by kernel_rfl) (fun i hi=>?_)).trans (.of_le ?_)),hI,?_⟩
  ·unfold exsW
   rcases Nat.lt_or_ge i L.length with h4|h4
   ·rw[show Nat.blt i L.length=true from by rw[Nat.blt_eq];exact h4,getD_appL h4];rfl
   ·obtain rfl:i=L.length:=by omega
    rw[show Nat.blt L.length L.length=false from by rw[Bool.eq_false_iff,ne_eq,Nat.blt_eq];omega,getD_appR (Nat.le_refl _),Nat.sub_self];rfl
  ·refine AS.leZ [] [1] (b:=((T0∧T0∧T0∧T0∧True)∧T0∧((some [(vi k),(vs (ByteArray.mk #[])),(vi 0),(vi 0),(vi a),(.vec 900 6 0 (L.length+1))]):(Option (List AV)))=(some [(vi k),(vs (ByteArray.mk #[])),(vi 0),(vi 0),(vi a),(.vec 900 6 0 (L++[y]).length)])∧T0∧T0∧True)) (by kernel_rfl) (by kernel_rfl) ?_
   rw[show (L++[y]).length=L.length+1 by simp]
   exact⟨⟨rfl,rfl,rfl,rfl,trivial⟩,rfl,rfl,rfl,rfl,trivial⟩
  ·by_cases hc:hdS r=commaS
   ·have:=tail_len (t:=r) (by rw[hc];decide)
    simp only[hc,if_true,decide_true]
    omega
   ·simp only[hc,if_false,decide_false]
    simp
    omega
theorem mmR_step {k a:Int} {L:List Ex} {t r:List Tk} {y:Ex} (h:pr (.lvl 0) t=.ok y r):mmR k a (L++[y],(if hdS r=commaS then r.tail else r),decide (hdS r=commaS))=mmR k a (L,t,true):=by
 have e1:mmR k a (L,t,true)=pr (.args (.mk k .empty 0 0 a L)) t:=rfl
 rw[e1,pr_args,h]
 unfold mmR
 try dsimp only
 by_cases hc:hdS r=commaS
 ·rw[if_pos hc,if_pos hc,decide_eq_true hc,if_pos rfl];rfl
 ·rw[if_neg hc,if_neg hc,decide_eq_false hc,if_neg (by decide)];rfl
theorem mm_bad0 {k a:Int} {L:List Ex} {t r:List Tk} (h:pr (.lvl 0) t=.bad r):mmR k a (L,t,true)=.bad r:=by
 have e1:mmR k a (L,t,true)=pr (.args (.mk k .empty 0 0 a L)) t:=rfl
 rw[e1,pr_args,h]
theorem exs_imp {k a:Int} {L:List Ex} {h:IH} {v:Value} (hv:DV.rel h (.slc 6 L.length fun i=>exsW L (0+i)) v):DV.rel h (.slc 6 L.length (lay (exG (ht (.mk k .empty 0 0 a L))) L)) v:=
 kids_imp (x:=.mk k .empty 0 0 a L) rfl (fun i _ v hv=>by rw[Nat.zero_add] at hv;exact hv) hv
theorem mm_ok (k a e:Int) (t:List Tk) (hn:t.length≤100000) (Y:Ex) (R:List Tk) (hp:pr (.args (.mk k .empty 0 0 a [])) t=.ok Y R) (hS:tkS t) (hC:∀t',t'.length≤t.length→tkS t'→LvOK G 0 t' e (pr (.lvl 0) t')) :
  AWP Tryz.prog G [.code (cAt (bodyOf Tryz.f86) [1,1,1,0,1,1,0,1,1,1,0]),.code (cAt (bodyOf Tryz.f86) [1,1,1,0,1,1,0,1,1,1,1]),.code (cAt (bodyOf Tryz.f86) [1,1,1,1])] (S86m k a e t) (RetM Tryz.prog Tryz.f86 [] (.d (exW Y)) (pB R e)):=by
 refine walkK (orc:=orcPx tk0 true t ex0 [] tk0 [] e) (keep:=[]) (cuts:=[]) (n:=1000) follows ?_
 refine of_tr (fun ZT ZW ZQ _=>ZW [cd Tryz.f86 [1,1,1,0,1,1,0,1,1,1,0,1,0],(.blk 0),cd Tryz.f86 [1,1,1,0,1,1,0,1,1,1,1],cd Tryz.f86 [1,1,1,1]] (stS ZT []) ZQ) (by kernel_rfl) ?_
 refine AWP.pre (.nilCell _ 10 5 900 6 xRK (exsW []) (by kernel_rfl) (by kernel_rfl)) ?_
 refine AWP.loop (c:=cAt (bodyOf Tryz.f86) [1,1,1,0,1,1,0,1,1,1,0,1,0,0]) (by kernel_rfl) (S86l k a e) (fun x=>x.2.1.length≤t.length∧tkS x.2.1∧x.1.length+x.2.1.length+(if x.2.2=true then 1 else 0)≤100001∧mmR k a x=.ok Y R) (fun x=>2*x.2.1.length+if x.2.2=true then 1 else 0) ([],t,true) ?_ ⟨Nat.le_refl _,hS,by show 0+t.length+1≤_;omega,hp⟩ ?_
 ·exact AS.leA (by kernel_rfl)
 ·rintro ⟨L,s,m⟩ ⟨h1,hSs,h2,h3⟩
  dsimp only at h1 h2 hSs
  cases m with
  | true=>
   have hc:=hC s h1 hSs
   cases hq:pr (.lvl 0) s with
   | bad r=>rw[mm_bad0 hq] at h3;cases h3
   | ok y r=>
    rw[hq] at hc
    have hle:=pr_le (.lvl 0) s
    rw[hq] at hle
    simp only[restOf] at hle
    have htl:=tail_le r
    have hSr:tkS r:=hSs.rest (md:=.lvl 0) (by rw[hq];rfl)
    refine mm_round k a e L s r y hc (by omega) hle ⟨?_,?_,?_,?_⟩
    ·dsimp only;split<;>omega
    ·dsimp only;split
     ·exact hSr.tail
     ·exact hSr
    ·simp only[if_true] at h2
     simp only[List.length_append,List.length_singleton]
     by_cases hc2:hdS r=commaS
     ·have:=tail_len (t:=r) (by rw[hc2];decide)
      rw[if_pos hc2,decide_eq_true hc2,if_pos rfl];omega
     ·rw[if_neg hc2,decide_eq_false hc2,if_neg (by decide)];omega
    ·rw[mmR_step hq];exact h3
  | false=>
   refine walkK (orc:=orcPx tk0 true t ex0 [] tk0 [] e) (keep:=[]) (cuts:=[]) (n:=1000) follows ?_
   refine of_rd (fun ZT ZW ZQ _ ZA _=>(((false=true)→((FnM Tryz.prog G 44 [(.box 1000000 0),(vi 0)] [(1000000,[(.d (.slc 2 s.length (tkF s))),(vi e)])] (.d (.agg [(di 0),(ds ex0.s),(di 0),(di 0),(di 0),(.slc 6 0 (lay (exG (ht ex0)) ex0.kids))])) [(1000000,[(.d (.slc 2 0 (tkF []))),(vi e)])]∧(((L.length+1)*72≤1099511627776)∧(L.length+1≤1099511627776))∧(∀(i:Nat),i<1→elemOK true 6 (elemF true 6 [di 0,ds ex0.s,di 0,di 0,di 0,DV.slc 6 0 (lay (exG (ht ex0)) ex0.kids)] i)=true))∧FnM Tryz.prog G 75 [(.box 1000000 0),(.d (.slc 1 1 (elemF false 1 [(ds (ByteArray.mk #[44]))])))] [(1000000,[(.d (.slc 2 0 (tkF []))),(vi e)])] (.d (.tup [(.agg [(ds ByteArray.empty),(di 0)]),(db true)])) [(1000000,[(.d (.slc 2 t.length (tkF t))),(vi e)])]∧(ZA (stS ZT [0]))))∧((false=false)→ZW [cd Tryz.f86 [1,1,1,0,1,1,0,1,1,1,1],cd Tryz.f86 [1,1,1,1]] (stS ZT [1]) ZQ))) (by kernel_rfl) ?_
   refine⟨fun c=>(by cases c),fun _=>?_⟩
   have e1:mmR k a (L,s,false)=if hdS s=clsS then .ok (.mk k .empty 0 0 a L) s.tail else .bad s:=rfl
   rw[e1] at h3
   by_cases hc:hdS s=clsS
   ·rw[if_pos hc] at h3
    injection h3 with q1 q2
    subst q1;subst q2
    refine AWP.freeze 900 (agg:=xRK) (sz:=6) (f:=exsW L) (by kernel_rfl) ?_
    refine AWP.pre (AS.leX.cell _ 10 5 (l:=[vi k,vs ⟨#[]⟩,vi 0,vi 0,vi a,.d (.slc 6 L.length fun i=>exsW L (0+i))]) (x:=.d (.slc 6 L.length fun i=>exsW L (0+i))) (.d (.slc 6 L.length (lay (exG (ht (.mk k .empty 0 0 a L))) L))) (by kernel_rfl) (by kernel_rfl) rfl (by kernel_rfl) (fun β h v hv=>exs_imp hv)) ?_
    refine walkK (orc:=orcPx tk0 true s ex0 [] (hdT e s) s.tail e) (keep:=[]) (cuts:=[]) (n:=1000) follows ?_
    refine of_tr (fun _ _ _ _=>(fun Za=>(FnM Tryz.prog G 79 [(.box 1000000 0),(vs (ByteArray.mk #[41]))] [(1000000,[(.d (.slc 2 s.length (tkF s))),(vi e)])] (.d (.agg [(ds (hdS s)),(di (hdA e s))])) [(1000000,[Za,(vi e)])]∧((.d (.agg [(di k),(ds (ByteArray.mk #[])),(di 0),(di 0),(di a),(.slc 6 L.length (lay (exG (ht (Ex.mk k ByteArray.empty 0 0 a L))) L))])):AV)=(.d (ndX (ht (Ex.mk k ByteArray.empty 0 0 a L)) (Ex.mk k ByteArray.empty 0 0 a L)))∧((some [Za,(vi e)]):(Option (List AV)))=(some [Za,(vi e)])∧True)) ((.d (.slc 2 s.tail.length (tkF s.tail))):AV)) (by kernel_rfl) ?_
    exact⟨f79_ok clsS s e (by rw[hc];decide +kernel),rfl,rfl,trivial⟩
   ·rw[if_neg hc] at h3;cases h3
theorem mm_bad (k a e:Int) (t:List Tk) (hn:t.length≤100000) (R:List Tk) (pre:List Tk) (hp:pr (.args (.mk k .empty 0 0 a [])) t=.bad R) (hS:tkS t) (hC:∀t',t'.length≤t.length→tkS t'→LvOK G 0 t' e (pr (.lvl 0) t')) :
  AWP Tryz.prog G [.code (cAt (bodyOf Tryz.f86) [1,1,1,0,1,1,0,1,1,1,0]),.code (cAt (bodyOf Tryz.f86) [1,1,1,0,1,1,0,1,1,1,1]),.code (cAt (bodyOf Tryz.f86) [1,1,1,1])] (S86m k a e t) (fun x st=>x=.panic (pch (mkV (hdA e R)))∧leBoxes (smash st.boxes) (smash (pB pre e))):=by
 refine walkK (orc:=orcPx tk0 true t ex0 [] tk0 [] e) (keep:=[]) (cuts:=[]) (n:=1000) follows ?_
 refine of_tr (fun ZT ZW ZQ _=>ZW [cd Tryz.f86 [1,1,1,0,1,1,0,1,1,1,0,1,0],(.blk 0),cd Tryz.f86 [1,1,1,0,1,1,0,1,1,1,1],cd Tryz.f86 [1,1,1,1]] (stS ZT []) ZQ) (by kernel_rfl) ?_
 refine AWP.pre (.nilCell _ 10 5 900 6 xRK (exsW []) (by kernel_rfl) (by kernel_rfl)) ?_
 refine AWP.loop (c:=cAt (bodyOf Tryz.f86) [1,1,1,0,1,1,0,1,1,1,0,1,0,0]) (by kernel_rfl) (S86l k a e) (fun x=>x.2.1.length≤t.length∧tkS x.2.1∧x.1.length+x.2.1.length+(if x.2.2=true then 1 else 0)≤100001∧mmR k a x=.bad R) (fun x=>2*x.2.1.length+if x.2.2=true then 1 else 0) ([],t,true) ?_ ⟨Nat.le_refl _,hS,by show 0+t.length+1≤_;omega,hp⟩ ?_
 ·exact AS.leA (by kernel_rfl)
 ·rintro ⟨L,s,m⟩ ⟨h1,hSs,h2,h3⟩
  dsimp only at h1 h2 hSs
  cases m with
  | true=>
   have hc:=hC s h1 hSs
   cases hq:pr (.lvl 0) s with
   | bad r=>
    rw[mm_bad0 hq] at h3
    injection h3 with h3
    subst h3
    rw[hq] at hc
    refine walkK (orc:=orcPx tk0 true s ex0 [] tk0 [] e) (keep:=[]) (cuts:=[20]) (n:=1000) follows ?_
    refine of_rd (fun ZT ZW ZQ _ _ ZR=>(((true=true)→ZW [cd Tryz.f86 [1,1,1,0,1,1,0,1,1,1,0,1,0,0,1,0,0],(.blk 1),cd Tryz.f86 [1,1,1,0,1,1,0,1,1,1,0,1,0,0,1,1]] (stS ZT [0]) ZR)∧((true=false)→ZW [cd Tryz.f86 [1,1,1,0,1,1,0,1,1,1,1],cd Tryz.f86 [1,1,1,1]] (stS ZT [1]) ZQ))) (by kernel_rfl) ?_
    refine⟨fun _=>?_,fun c=>(by cases c)⟩
    refine AWP.panicX follows (orcPx tk0 true s ex0 [] tk0 [] e) 3 (mkV (hdA e r)) ?_
    refine of_rd (fun _ _ _ _ _ _=>(FnMX Tryz.prog G 44 [(.box 1000000 0),(vi 0)] [(1000000,[(.d (.slc 2 s.length (tkF s))),(vi e)])] (mkV (hdA e r))∧((.panic [(PanicEntry.mk (mkV (hdA e r)) false false)]):Exit)=(.panic [(PanicEntry.mk (mkV (hdA e r)) false false)])∧((some [.any,.any]):(Option (List AV)))=(some [.any,.any])∧True)) (by kernel_rfl) ?_
    exact⟨hc,rfl,rfl,trivial⟩
   | ok y r=>
    rw[hq] at hc
    have hle:=pr_le (.lvl 0) s
    rw[hq] at hle
    simp only[restOf] at hle
    have htl:=tail_le r
    have hSr:tkS r:=hSs.rest (md:=.lvl 0) (by rw[hq];rfl)
    refine mm_round k a e L s r y hc (by omega) hle ⟨?_,?_,?_,?_⟩
    ·dsimp only;split<;>omega
    ·dsimp only;split
     ·exact hSr.tail
     ·exact hSr
    ·simp only[if_true] at h2
     simp only[List.length_append,List.length_singleton]
     by_cases hc2:hdS r=commaS
     ·have:=tail_len (t:=r) (by rw[hc2];decide)
      rw[if_pos hc2,decide_eq_true hc2,if_pos rfl];omega
     ·rw[if_neg hc2,decide_eq_false hc2,if_neg (by decide)];omega
    ·rw[mmR_step hq];exact h3
  | false=>
   refine walkK (orc:=orcPx tk0 true t ex0 [] tk0 [] e) (keep:=[]) (cuts:=[]) (n:=1000) follows ?_
   refine of_rd (fun ZT ZW ZQ _ ZA _=>(((false=true)→((FnM Tryz.prog G 44 [(.box 1000000 0),(vi 0)] [(1000000,[(.d (.slc 2 s.length (tkF s))),(vi e)])] (.d (.agg [(di 0),(ds ex0.s),(di 0),(di 0),(di 0),(.slc 6 0 (lay (exG (ht ex0)) ex0.kids))])) [(1000000,[(.d (.slc 2 0 (tkF []))),(vi e)])]∧(((L.length+1)*72≤1099511627776)∧(L.length+1≤1099511627776))∧(∀(i:Nat),i<1→elemOK true 6 (elemF true 6 [di 0,ds ex0.s,di 0,di 0,di 0,DV.slc 6 0 (lay (exG (ht ex0)) ex0.kids)] i)=true))∧FnM Tryz.prog G 75 [(.box 1000000 0),(.d (.slc 1 1 (elemF false 1 [(ds (ByteArray.mk #[44]))])))] [(1000000,[(.d (.slc 2 0 (tkF []))),(vi e)])] (.d (.tup [(.agg [(ds ByteArray.empty),(di 0)]),(db true)])) [(1000000,[(.d (.slc 2 t.length (tkF t))),(vi e)])]∧(ZA (stS ZT [0]))))∧((false=false)→ZW [cd Tryz.f86 [1,1,1,0,1,1,0,1,1,1,1],cd Tryz.f86 [1,1,1,1]] (stS ZT [1]) ZQ))) (by kernel_rfl) ?_
   refine⟨fun c=>(by cases c),fun _=>?_⟩
   have e1:mmR k a (L,s,false)=if hdS s=clsS then .ok (.mk k .empty 0 0 a L) s.tail else .bad s:=rfl
   rw[e1] at h3
   by_cases hc:hdS s=clsS
   ·rw[if_pos hc] at h3;cases h3
   ·rw[if_neg hc] at h3
    injection h3 with h3
    subst h3
    refine AWP.panicX follows (orcPx tk0 true s ex0 [] (hdT e s) s.tail e) 1 (mkV (hdA e s)) ?_
    refine of_tr (fun _ _ _ _=>(FnMX Tryz.prog G 79 [(.box 1000000 0),(vs (ByteArray.mk #[41]))] [(1000000,[(.d (.slc 2 s.length (tkF s))),(vi e)])] (mkV (hdA e s))∧((.panic [(PanicEntry.mk (mkV (hdA e s)) false false)]):Exit)=(.panic [(PanicEntry.mk (mkV (hdA e s)) false false)])∧((some [.any,.any]):(Option (List AV)))=(some [.any,.any])∧True)) (by kernel_rfl) ?_
    exact⟨f79_bad clsS s e (by rw[inB_one _ _ (by decide),decide_eq_false hc]),rfl,rfl,trivial⟩
end Go.Proofs
/- The parser,the program's side: expressions. -/
namespace Go.Proofs
open Go Go.Ab Go.RowKit
variable {G:IH}
theorem inB_two (a b s:ByteArray) (ha:a.size≠0) (hb:b.size≠0):inB [a,b] s=true↔s=a∨s=b:=by
 unfold inB anyB
 simp only[List.any_cons,List.any_nil,Bool.or_false,bAt,Bool.or_eq_true,decide_eq_true_eq]
 constructor
 ·rintro ⟨_,h|h⟩
  ·exact .inl h.symm
  ·exact .inr h.symm
 ·rintro (h|h)
  ·exact⟨by rw[h];exact ha,.inl h.symm⟩
  ·exact⟨by rw[h];exact hb,.inr h.symm⟩
theorem inB_two_no {a b s:ByteArray} (ha:a.size≠0) (hb:b.size≠0) (h1:s≠a) (h2:s≠b):inB [a,b] s=false:=by
 rw[Bool.eq_false_iff]
 intro h
 rcases (inB_two a b s ha hb).1 h with h|h
 ·exact h1 h
 ·exact h2 h
theorem lv_pr:∀(N:Nat) (t:List Tk) (e:Int),t.length≤100000→tkS t→(∀n,n≤7→ms (.lvl n) t<N→LvOK G n t e (pr (.lvl n) t))∧(ms .prim t<N→PrOK G t e (pr .prim t)):=by
 intro N
 induction N with
 | zero=>intro t e _ _;exact⟨fun n _ h=>absurd h (Nat.not_lt_zero _),fun h=>absurd h (Nat.not_lt_zero _)⟩
 | succ N ih=>
  intro t e hl hS
  have tl:=tail_le t
  refine⟨fun n hn hm=>?_,fun hm=>?_⟩
  ·simp only[ms] at hm
   by_cases h2:n=2
   ·subst h2
    by_cases hh:hdS t=notS
    ·have:=tail_len (t:=t) (by rw[hh];decide)
     rw[pr_not hh]
     exact lv_not t e hh _ ((ih t.tail e (by omega) hS.tail).1 2 (by omega) (by simp only[ms];omega))
    ·rw[pr_not' hh]
     exact lv_not' t e hh _ ((ih t e hl hS).1 3 (by omega) (by simp only[ms];omega))
   by_cases h6:n=6
   ·subst h6
    by_cases hh:hdS t=minusS
    ·have:=tail_len (t:=t) (by rw[hh];decide)
     rw[pr_neg hh]
     exact lv_neg t e hh _ ((ih t.tail e (by omega) hS.tail).1 6 (by omega) (by simp only[ms];omega))
    ·rw[pr_neg' hh]
     exact lv_neg' t e hh _ ((ih t e hl hS).1 7 (by omega) (by simp only[ms];omega))
   by_cases h7:n=7
   ·subst h7
    rw[pr_seven]
    exact lv_prim t e _ ((ih t e hl hS).2 (by simp only[ms];omega))
   have hb:binL n:=by unfold binL;omega
   have hx:=(ih t e hl hS).1 (n+1) (by omega) (by simp only[ms];omega)
   have hle:=pr_le (.lvl (n+1)) t
   rw[pr_bin hb]
   cases hq:pr (.lvl (n+1)) t with
   | bad r=>
    rw[hq] at hx
    exact lv_bin_bad0 n hb e t r hx
   | ok x r=>
    have hSr:tkS r:=hS.rest (md:=.lvl (n+1)) (by rw[hq];rfl)
    rw[hq] at hx hle
    simp only[restOf] at hle
    have hC:∀t',t'.length<r.length→tkS t'→LvOK G (n+1) t' e (pr (.lvl (n+1)) t'):=fun t' h1 h2=>(ih t' e (by omega) h2).1 (n+1) (by omega) (by simp only[ms];omega)
    try dsimp only
    cases hp:pr (.loop n x) r with
    | ok y r2=>exact lv_bin_ok n hb e x t r hx y r2 hp hSr hC
    | bad r2=>exact lv_bin_bad n hb e x t r hx r2 hp hSr hC
  ·simp only[ms] at hm
   rw[pr_prim]
   by_cases ho:hdS t=opnS
   ·have:=tail_len (t:=t) (by rw[ho];decide)
    rw[if_pos ho]
    have hx:=(ih t.tail e (by omega) hS.tail).1 0 (by omega) (by simp only[ms];omega)
    cases hq:pr (.lvl 0) t.tail with
    | bad r=>rw[hq] at hx;exact pm_open_bad t e ho r hx
    | ok x r=>
     rw[hq] at hx
     try dsimp only
     by_cases hc:hdS r=clsS
     ·rw[if_pos hc];exact pm_open t e ho x r hx hc
     ·rw[if_neg hc];exact pm_open_cls t e ho x r hx hc
   ·rw[if_neg ho]
    by_cases hm2:hdS t=minS∨hdS t=maxS
    ·rw[if_pos hm2]
     have hin:inB [minS,maxS] (hdS t)=true:=(inB_two minS maxS _ (by decide) (by decide)).2 hm2
     have htf:inB [trueS,falseS] (hdS t)=false:=by rcases hm2 with h|h<;>rw[h]<;>decide +kernel
     have hne:hdS t≠.empty:=by rcases hm2 with h|h<;>rw[h]<;>decide
     have:=tail_len hne
     by_cases ho2:hdS t.tail=opnS
     ·have h3:=tail_len (t:=t.tail) (by rw[ho2];decide)
      rw[if_pos ho2]
      have hC:∀t',t'.length≤t.tail.tail.length→tkS t'→LvOK G 0 t' e (pr (.lvl 0) t'):=fun t' h1 h2=>(ih t' e (by omega) h2).1 0 (by omega) (by simp only[ms];omega)
      have hk:(if hdS t=maxS then (11:Int) else 10)=mmK (hdS t):=rfl
      rw[hk,←hdA_ne e hne]
      cases hp:pr (.args (.mk (mmK (hdS t)) .empty 0 0 (hdA e t) [])) t.tail.tail with
      | ok Y R=>
       refine FnM.of_body (mv:=[]) (by kernel_rfl) Tryz.func86 rfl Tryz.call86 ?_
       exact pm_pass0 t e ho (pm_pass1 t e htf (pm_mm t e hin ho2 (mm_ok _ _ e _ (by omega) Y R hp hS.tail.tail hC)))
      | bad R=>
       refine FnMX.of_body Tryz.func86 rfl Tryz.call86 ?_
       exact pm_pass0 t e ho (pm_pass1 t e htf (pm_mm t e hin ho2 (mm_bad _ _ e _ (by omega) R t hp hS.tail.tail hC)))
     ·rw[if_neg ho2]
      exact pm_mm_bad t e hin ho htf ho2
    ·rw[if_neg hm2]
     unfold leafX
     have hmm:inB [minS,maxS] (hdS t)=false:=inB_two_no (by decide) (by decide) (fun h=>hm2 (.inl h)) (fun h=>hm2 (.inr h))
     by_cases ht:hdS t=trueS
     ·rw[if_pos ht];exact pm_true t e ht
     rw[if_neg ht]
     by_cases hf:hdS t=falseS
     ·rw[if_pos hf];exact pm_false t e hf
     rw[if_neg hf]
     have hpl:plainW (hdS t):=⟨ho,inB_two_no (by decide) (by decide) ht hf,hmm⟩
     by_cases hd:digB (byteAt (hdS t) 0)=true
     ·rw[if_pos hd];exact pm_num t e hpl hS.hd hd
     rw[if_neg hd]
     have hd:digB (byteAt (hdS t) 0)=false:=by simpa using hd
     by_cases hnm:nameB (hdS t)=true
     ·rw[if_pos hnm];exact pm_name t e hpl hS.hd hd hnm
     ·rw[if_neg hnm];exact pm_bad t e hpl hS.hd hd (by simpa using hnm)
theorem f44 (n:Nat) (hn:n≤7) (t:List Tk) (e:Int) (hl:t.length≤100000) (hS:tkS t):LvOK G n t e (pr (.lvl n) t):=(lv_pr _ t e hl hS).1 n hn (Nat.lt_succ_self _)
end Go.Proofs
