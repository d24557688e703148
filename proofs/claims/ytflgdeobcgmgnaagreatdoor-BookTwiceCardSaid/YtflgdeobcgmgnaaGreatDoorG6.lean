import Derived.Test.YtflgdeobcgmgnaaGreatDoorAcD
import Derived.Test.YtflgdeobcgmgnaaGreatDoorG5
import Derived.Test.YtflgdeobcgmgnaaGreatDoorRows
import Derived.Lib.LaidTab
import Derived.ProofKit
import Derived.LaidMore
import Derived.OpenShut
import Derived.Stop.Joined
import Derived.Test.YtflgdeobcgmgnaaGreatDoorG0
/- The law BookTwice. -/
set_option autoImplicit false
namespace Go.Proofs
open Go Go.Ab Go.RowKit
set_option maxHeartbeats 4000000
set_option maxRecDepth 100000
variable {G:IH}
def orc55D (few:Bool) (b c:Bk) (x:Ev) (h:Bool):Oracle:=fun f a=>match f,a with
 | 11,_=>some (db true)
 | 12,[_,.con (.int _ n)]=>some (db (if n=24 then few else fewE [x] 1))
 | 13,_=>some (bkD b)
 | 14,_=>some (.tup [bkD (apB okE c x),di (apC okE c x)])
 | 20,_=>some (db h)
 | 24,[y]=>some (evsD (evsB (xBk y)))
 | _,_=>none
def orc55 (few:Bool) (b c:Bk) (x:Ev) (h:Bool):Orc:={ d:=orc55D few b c x h,rows:=fun n=>Nat.beq n 17 }
theorem f12e (e:Ev) {f:Nat→DV} (hf:f 0=evD e):FnOK Tryz.prog G 12 [.slc 9 1 f,di 1] (db (fewE [e] 1)):=
 FnOK.args (f12 [e] 1 (show 1≤9223372036854775807 by decide)) fun _ us hh=>DV.rels_cons (fun _ hv=>DV.rel_slc_congr (fun i hi=>by
  have hi:i<1:=hi
  obtain rfl:i=0:=by omega
  exact hf) hv) (fun _ h=>h) us hh
theorem few_one {x:Ev} (h:fewE [x] 1=true):x.k.st.size≤1000000∧x.k.ex.size≤1000000:=by
 have:=(few_of h).1 x (by simp)
 exact⟨by omega,by omega⟩
theorem few_l {l:List Ev} (h:fewE l 24=true):l.length≤24∧∀e∈l,e.k.st.size≤1000000∧e.k.ex.size≤1000000:=by
 obtain ⟨h1,h2⟩:=few_of h
 refine⟨by omega,fun e he=>?_⟩
 have:=h1 e he
 exact⟨by omega,by omega⟩
theorem f24v (b:Bk) (h:valB okE b=true):FnOK Tryz.prog G 24 [bkD b] (evsD (evsB b)):=by
 have:=f24 (G:=G) b (bkS_val h)
 rwa [if_pos h] at this
noncomputable def S5 (x:Ev) (b c:Bk):AS:=⟨regs Tryz.f5.ntmps [(3,.box 3 0),(4,vb false),(5,.box 5 0),(6,.box 6 0)],[(3,(evL x).map .d),(5,(bkL b).map .d),(6,(bkL c).map .d)]⟩
theorem f5 (hT:Tab G) (l:List Ev) (x:Ev) (hl:l.length≤9223372036854775807):FnOK Tryz.prog G 5 [evsD l,evD x] (db true):=by
 cases hf:fewE l 24 with
 | false=>
  refine FnOK.walkK (orc:=orc55 false bk0 bk0 x true) (keep:=[]) follows Tryz.func5 rfl Tryz.call5 ?_
  have h12:=f12 (G:=G) l 24 hl
  rw[hf] at h12
  refine of_tr (fun _ _ _ ZK=>(fun Za Zb Zc Zd Ze Zf=>(ZK 11 [] (db true)∧((false=true)→(((db false):DV)=(db true)))∧((false=false)→((ZK 12 [(.slc 9 l.length (evF l)),(di 24)] (db (if (24:Int)=(24:Int) then false else fewE [x] (1:Int)))∧(((!!if (24:Int)=(24:Int) then false else fewE [x] (1:Int))=true)→ZK 12 [(db false),(di 1)] (db (if (1:Int)=(24:Int) then false else fewE [x] (1:Int)))))∧((((!if (24:Int)=(24:Int) then false else fewE [x] (1:Int))||!if (1:Int)=(24:Int) then false else fewE [x] (1:Int))=true)→(ZS ((db true):DV)))∧((((!if (24:Int)=(24:Int) then false else fewE [x] (1:Int))||!if (1:Int)=(24:Int) then false else fewE [x] (1:Int))=false)→(ZK 13 [(.slc 9 l.length (evF l))] Zf∧ZK 14 [Zf,Zb] (.tup [Za,(di (apC okE bk0 x))])∧ZK 20 [Zf,Zb] (db true)∧(((!(apC okE bk0 x==6)==true)=true)→(((db false):DV)=(db true)))∧(((!(apC okE bk0 x==6)==true)=false)→((((apC okE bk0 x != 0)=true)→(((db ((↑(apB okE bk0 x).es.length:Int)==0&&(apB okE bk0 x).t==0)):DV)=(db true)))∧(((apC okE bk0 x != 0)=false)→(ZK 14 [Za,Zb] (.tup [Za,(di (apC okE bk0 x))])∧(ZK 20 [Za,Zb] (db true)∧((Ze=true)→ZK 24 [Za] (.slc 9 Zc.length (evF Zc)))∧((Ze=true)→ZK 24 [Zf] (.slc 9 0 (evF Zd)))∧((Ze=true)→(I64 (↑Zd.length+1))))∧((db (true&&apC okE bk0 x==6&&(↑(apB okE bk0 x).es.length:Int)==0&&(↑Zc.length:Int)==↑Zd.length+1)):DV)=(db true))))))))))) ((.agg [(di (apB okE bk0 x).t),(.slc 7 (apB okE bk0 x).es.length (enF (apB okE bk0 x).es))]):DV) ((.agg [(di x.kind),(ds x.k.st),(ds x.k.ex),(di x.k.n),(di x.t),(di x.v),(di x.h),(ds x.s),(db x.acc)]):DV) (evsB (xBk (DV.agg [DV.con (Value.int IntKind.i64 (apB okE bk0 x).t),DV.slc 7 (apB okE bk0 x).es.length (enF (apB okE bk0 x).es)]))) (evsB (xBk (DV.agg [di 0,DV.slc 7 0 (enF [])]))) (true&&apC okE bk0 x==6&&(↑(apB okE bk0 x).es.length:Int)==0) ((.agg [(di 0),(.slc 7 0 (enF []))]):DV)) (by kernel_rfl) ?_
  exact⟨f11 hT,fun c=>(by cases c),fun _=>⟨⟨h12,fun c=>(by cases c)⟩,fun _=>rfl,fun c=>(by cases c)⟩⟩
 | true=>
  obtain ⟨l24,lk⟩:=few_l hf
  have hv:=mk_valE l
  have tw:=twice (ok:=okE) (fun _=>ok_form) l x
  have h13:=f13 (G:=G) l (by omega) lk
  have h12:=f12 (G:=G) l 24 hl
  rw[hf] at h12
  generalize mkB okE l=b at hv tw h13
  obtain ⟨t6,t0⟩:=tw
  refine FnOK.of_body Tryz.func5 rfl Tryz.call5 ?_
  refine walkK (orc:=orc55 true b b x (okE x&&(valB okE b&&hasB b.es x))) (keep:=[]) (cuts:=[11]) (n:=1000) follows ?_
  refine of_tr (fun ZT ZW ZQ ZK=>(fun Za Zb Zc=>(ZK 11 [] (db true)∧((false=true)→(((db false):DV)=(db true)))∧((false=false)→((ZK 12 [(.slc 9 l.length (evF l)),(di 24)] (db (if (24:Int)=(24:Int) then true else fewE [x] (1:Int)))∧(((!!if (24:Int)=(24:Int) then true else fewE [x] (1:Int))=true)→ZK 12 [(.slc 9 1 (fun i=>elemF true 9 [di x.kind,ds x.k.st,ds x.k.ex,di x.k.n,di x.t,di x.v,di x.h,ds x.s,DV.con (Value.bool x.acc)] (0+i))),(di 1)] (db (if (1:Int)=(24:Int) then true else fewE [x] (1:Int)))))∧((((!if (24:Int)=(24:Int) then true else fewE [x] (1:Int))||!if (1:Int)=(24:Int) then true else fewE [x] (1:Int))=true)→(ZS ((db true):DV)))∧((((!if (24:Int)=(24:Int) then true else fewE [x] (1:Int))||!if (1:Int)=(24:Int) then true else fewE [x] (1:Int))=false)→(ZK 13 [(.slc 9 l.length (evF l))] Zb∧ZK 14 [Zb,Za] (.tup [(.agg [(di (apB okE b x).t),(.slc 7 (apB okE b x).es.length (enF (apB okE b x).es))]),(di (apC okE b x))])∧ZK 20 [Zb,Za] (db Zc)∧(((!(apC okE b x==6)==Zc)=true)→(((db false):DV)=(db true)))∧(((!(apC okE b x==6)==Zc)=false)→((((apC okE b x != 0)=true)→(((db ((↑(apB okE b x).es.length:Int)==0&&(apB okE b x).t==0)):DV)=(db true)))∧(((apC okE b x != 0)=false)→ZW [cd Tryz.f5 [1,1,1,1,1,1,1]] (stS ZT [1,1,1,1]) ZQ))))))))) ((.agg [(di x.kind),(ds x.k.st),(ds x.k.ex),(di x.k.n),(di x.t),(di x.v),(di x.h),(ds x.s),(db x.acc)]):DV) ((.agg [(di b.t),(.slc 7 b.es.length (enF b.es))]):DV) (okE x&&(valB okE b&&hasB b.es x))) (by kernel_rfl) ?_
  refine⟨f11 hT,fun c=>(by cases c),fun _=>⟨⟨h12,fun _=>f12e x rfl⟩,fun _=>rfl,fun c=>?_⟩⟩
  have hx:fewE [x] 1=true:=by
   cases q:fewE [x] 1 with
   | true=>rfl
   | false=>rw[q] at c;cases c
  obtain ⟨x1,x2⟩:=few_one hx
  refine⟨h13,f14 b x (bkS_val hv) x1 x2,f20 b x (bkS_val hv) x1 x2,fun c=>?_,fun _=>⟨fun c=>?_,fun c=>?_⟩⟩
  ·exfalso
   rw[hv,Bool.true_and] at c
   by_cases h6:apC okE b x=6
   ·obtain ⟨a1,a2⟩:=t6.1 h6
    rw[h6,a1,a2] at c;cases c
   ·have:(okE x&&hasB b.es x)=false:=by
     rw[Bool.eq_false_iff]
     intro q
     rw[bAt] at q
     exact h6 (t6.2 q)
    rw[this] at c
    have e6:(apC okE b x==6)=false:=by simpa using h6
    rw[e6] at c;cases c
  ·have c:apC okE b x≠0:=by simpa using c
   have:apB okE b x=bk0:=by unfold apB;rw[if_neg c]
   rw[this];rfl
  ·have c:apC okE b x=0:=by simpa using c
   obtain ⟨p6,ph,po,pv,pl⟩:=t0 c
   have hab:apB okE b x=appB b x:=by unfold apB;rw[if_pos c]
   refine AWP.weaken (st':=S5 x b (apB okE b x)) ?_ ?_
   ·exact AS.leA (by kernel_rfl)
   rw[hab]
   generalize appB b x=d at p6 ph pv pl⊢
   refine walkK (orc:=orc55 true b d x true) (keep:=[]) (cuts:=[]) (n:=1000) follows ?_
   refine of_tr (fun _ _ _ ZK=>(fun Za Zb Zc Zd Ze=>(ZK 14 [Ze,Zd] (.tup [(.agg [(di (apB okE d x).t),(.slc 7 (apB okE d x).es.length (enF (apB okE d x).es))]),(di (apC okE d x))])∧(ZK 20 [Ze,Zd] (db true)∧((Zc=true)→ZK 24 [Ze] (.slc 9 Zb.length (evF Zb)))∧((Zc=true)→ZK 24 [(.agg [(di b.t),(.slc 7 b.es.length (enF b.es))])] (.slc 9 Za.length (evF Za)))∧((Zc=true)→(I64 (↑Za.length+1))))∧((db (true&&apC okE d x==6&&(↑(apB okE d x).es.length:Int)==0&&(↑Zb.length:Int)==↑Za.length+1)):DV)=(db true))) (evsB (xBk (DV.agg [di b.t,DV.slc 7 b.es.length (enF b.es)]))) (evsB (xBk (DV.agg [di d.t,DV.slc 7 d.es.length (enF d.es)]))) (true&&apC okE d x==6&&(↑(apB okE d x).es.length:Int)==0) ((.agg [(di x.kind),(ds x.k.st),(ds x.k.ex),(di x.k.n),(di x.t),(di x.v),(di x.h),(ds x.s),(db x.acc)]):DV) ((.agg [(di d.t),(.slc 7 d.es.length (enF d.es))]):DV)) (by kernel_rfl) ?_
   try dsimp only
   simp only[xBk_eq]
   have h20:=f20 (G:=G) d x (bkS_val pv) x1 x2
   rw[po,pv,ph] at h20
   have hd0:apB okE d x=bk0:=by unfold apB;rw[if_neg (by rw[p6];decide)]
   have hb:=(bkS_val hv).evs
   refine⟨f14 d x (bkS_val pv) x1 x2,⟨h20,fun _=>f24v d pv,fun _=>f24v b hv,fun _=>⟨by omega,by omega⟩⟩,congrArg db ?_⟩
   rw[p6,hd0,pl]
   show (true&&true&&true&&_)=true
   simp
end Go.Proofs
namespace Go.Proofs.YtflgdeobcgmgnaaGreatDoor
open Go Go.Ab Go.ChangeShapes Go.WideShapes Go.ChangeAt Go.RowKit
set_option maxRecDepth 100000
theorem own:ownKnob Tryz.prog.godebug=none:=by kernel_rfl
theorem laidOut:laidOutB Tryz.prog=true:=by kernel_rfl
theorem gPow : Tryz.prog.globalNamed "internal/strconv.uint64pow10" = some 2 := by kernel_rfl
theorem tPow:(Tryz.prog.globals[2]?).map (·.type)=some 185:=by kernel_rfl
theorem laidVars_get {P:Program} {W:World}:∀{l:List (String×DataW Unit)} {ps:List MemPlace},DataW.LaidVars P W l ps→
  ∀{i:Nat} {n:String} {d:DataW Unit},l[i]?=some (n,d)→∃g t cs fuel p,P.globalNamed n=some g∧(P.globals[g]?).map (·.type)=some t∧W.var? P n=some cs∧DataW.trod (fun _=>()) P W 0 (fun _=>true) false fuel t cs.toList=some (d,p)
 | [],ps,h,i,n,d,h1=>by simp at h1
 | (m,e) :: l,ps,⟨g,t,cs,fuel,p,q,a1,a2,a3,a4,a5,a6⟩,i,n,d,h1=>by
  cases i with
  | zero=>
   simp at h1;obtain ⟨rfl,rfl⟩:=h1
   exact⟨g,t,cs,fuel,p,a1,a2,a3,a4⟩
  | succ i=>exact laidVars_get a5 (i:=i) (by simpa using h1)
theorem tab_of_laid {laid : List (String × DataW Unit)} {W : World} (h : laidMetH Tryz.prog laid W) (hm : laidMetH Tryz.prog laid W = laidMet Tryz.prog laid W) {i : Nat} (hi : laid[i]? = some ("internal/strconv.uint64pow10", Rows.laid_internal_strconv_uint64pow10)) : Tab (allOf W) := by
 rw[hm] at h
 obtain ⟨ps,h,_⟩:=h
 obtain ⟨g2,t2,cs2,f2,p2,hg2,ht2,hv2,hd2⟩:=laidVars_get h hi
 obtain rfl:=Option.some.inj (gPow.symm.trans hg2)
 obtain rfl:=Option.some.inj (tPow.symm.trans ht2)
 have hT : Lib.TabIs Tryz.prog W "internal/strconv.uint64pow10" .u64 Lib.pow10Tab := by
  unfold Lib.TabIs
  rw[hv2,←Lib.cells_of_tab Tryz.underlying185 (by kernel_rfl) (by kernel_rfl) (by kernel_rfl) (k:=.u64) (zs:=Lib.pow10Tab) hd2]
 intro w hw
 unfold Lib.TabIs at hT⊢
 rw[←hT]
 unfold World.var? at hT⊢
 rw[gPow] at hT⊢
 simp only[Option.bind_some] at hT⊢
 cases ho:W.heap[2]? with
 | none=>rw[ho] at hT;cases hT
 | some o=>rw[hw.2 2 o ho]
end Go.Proofs.YtflgdeobcgmgnaaGreatDoor
