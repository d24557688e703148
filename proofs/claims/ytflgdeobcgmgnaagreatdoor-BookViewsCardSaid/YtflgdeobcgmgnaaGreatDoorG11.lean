import Derived.Test.YtflgdeobcgmgnaaGreatDoorAcD
import Derived.Test.YtflgdeobcgmgnaaGreatDoorG10
import Derived.Test.YtflgdeobcgmgnaaGreatDoorRows
import Derived.Lib.LaidTab
import Derived.ProofKit
import Derived.LaidMore
import Derived.OpenShut
import Derived.Stop.Joined
import Derived.Test.YtflgdeobcgmgnaaGreatDoorG0
set_option autoImplicit false
set_option maxHeartbeats 4000000
set_option maxRecDepth 100000
namespace Go.Proofs
open Go Go.Ab Go.RowKit
variable {G:IH}
theorem E8 {x:En} (h:Ef x=true):QJ x∧(fD x).length≤60∧∀e∈fD x,e.k.st.size≤40∧e.k.ex.size≤40:=by
 unfold Ef at h
 rw[Bool.not_eq_true',Bool.or_eq_false_iff,Bool.or_eq_false_iff] at h
 obtain ⟨⟨h1,h2⟩,h3⟩:=h
 have h1:=of_decide_eq_false h1
 have h2:=of_decide_eq_false h2
 obtain ⟨f1,f2⟩:=aaK (show sH (fD x) 60=true by simpa using h3)
 exact⟨⟨by omega,by omega⟩,by omega,fun e he=>(f1 e he).2⟩
theorem KF:∀{es:List En},(∀x∈es,Ef x=true)→(bn es).length≤60*es.length
 | [],_=>by simp[bn]
 | x :: es,h=>by
  have h1:=(E8 (h x (by simp))).2.1
  have h2:=KF (es:=es) fun y hy=>h y (List.mem_cons_of_mem _ hy)
  show ((x :: es).map fD).flatten.length≤_
  rw[List.map_cons,List.flatten_cons,List.length_append,List.length_cons]
  have h2:((es.map fD).flatten).length≤60*es.length:=h2
  omega
theorem UF {es:List En} (hl:es.length≤12) (h:∀x∈es,Ef x=true):gq es:=by
 refine⟨by omega,fun i hi=>?_⟩
 rw[List.getD,gy hi]
 exact(E8 (h _ (List.getElem_mem hi))).1
theorem Lh {b:Bk} (h:qV b=true):b.es.length≤12∧∀x∈b.es,Ef x=true:=by
 unfold qV at h
 rw[aY,List.all_eq_true] at h
 refine⟨?_,h.2⟩
 have:=of_decide_eq_false (show decide ((b.es.length:Int)>12)=false by simpa using h.1)
 omega
theorem YK {b:Bk} (h:qV b=true):tY b:=by
 obtain ⟨h1,h2⟩:=Lh h
 have ha:=KF h2
 refine⟨UF h1 h2,by omega,fun j=>?_,by unfold ak;rw[qF];omega⟩
 by_cases hj:j<(ak b).length
 ·have hm:(ak b).getD j ev0∈bn b.es:=(ng _).1 (by rw[List.getD,gy hj];exact List.getElem_mem hj)
  generalize (ak b).getD j ev0=e at hm
  unfold bn at hm
  obtain ⟨l,hl,hel⟩:=List.mem_flatten.1 hm
  obtain ⟨x,hx,rfl⟩:=List.mem_map.1 hl
  have:=(E8 (h2 x hx)).2.2 e hel
  exact⟨by omega,by omega⟩
 ·rw[List.getD,List.getElem?_eq_none (by omega)]
  exact⟨Nat.zero_le _,Nat.zero_le _⟩
theorem aan {b:Bk} {s:ByteArray} (h:qV b=true):gq (dM b.es s)∧(bn (dM b.es s)).length≤1000000:=by
 obtain ⟨h1,h2⟩:=Lh h
 have h3:∀x∈dM b.es s,Ef x=true:=fun x hx=>h2 x (List.mem_filter.1 hx).1
 have h4:(dM b.es s).length≤12:=Nat.le_trans (List.length_filter_le _ _) h1
 have:=KF h3
 exact⟨UF h4 h3,by omega⟩
noncomputable def acw (b:Bk) (s x:ByteArray) (r:Ru):iR:=fun f a=>match f,a with
 | 11,_=>some (db true)
 | 28,[y]=>some (db (qV (jJ y)))
 | 25,_=>some (.aN [di (uI b s x r),di (uF b s x r)])
 | 29,_=>some (.aN [di (uI b s x r),di (uF b s x r)])
 | 30,_=>some (.aN [ds (mX b),di (mQ b)])
 | 31,_=>some (.aN [ds (mX b),di (mQ b)])
 | 32,_=>some (db (aJ aG b))
 | 33,_=>some (db (aJ aG b))
 | 24,_=>some (eu (if aJ aG b=true then ak b else []))
 | 35,_=>some (eu (if aJ aG b=true then ak b else []))
 | 34,_=>some (db true)
 | 27,_=>some (cu (if aJ aG b=true then stB b s else fA))
 | 36,_=>some (cu (if aJ aG b=true then stB b s else fA))
 | 17,[y,z]=>some (db (decide (jJ y=jJ z)))
 | 37,[y,z]=>some (db (decide (jJ y=jJ z)))
 | _,_=>none
noncomputable def ady (b:Bk) (s x:ByteArray) (r:Ru):dU:={ d:=acw b s x r }
theorem f8 (h46:PU G) (h63:VN G) (hT:Tab G) (b o:Bk) (s x:ByteArray) (r:Ru):aA Tryz.prog G 8 [cu b,cu o,ds s,ds x,CY r] (db true):=by
 refine aA.qQ (aj:=ady b s x r) (keep:=[]) follows Tryz.func8 rfl Tryz.call8 ?_
 refine aC (fun _ _ _ ZK=>(fun Za Zb Zc Zd=>(ZK 11 [] (db true)∧((false=true)→(((db false):DV)=(db true)))∧((false=false)→((ZK 28 [Za] (db (qV (jJ Zb)))∧(((!!qV (jJ Zb))=true)→ZK 28 [Zd] (db (qV (jJ Zc)))))∧(((!qV (jJ Zb)||!qV (jJ Zc)||decide ((↑s.size:Int)>40)||decide ((↑x.size:Int)>40))=true)→(ZS ((db true):DV)))∧(((!qV (jJ Zb)||!qV (jJ Zc)||decide ((↑s.size:Int)>40)||decide ((↑x.size:Int)>40))=false)→(ZK 25 [Za,(ds s),(ds x),(.agg [(di r.kind),(di r.most),(di r.pause),(di r.keep)])] (.aN [(di (uI b s x r)),(di (uF b s x r))])∧ZK 29 [Za,(ds s),(ds x),(.agg [(di r.kind),(di r.most),(di r.pause),(di r.keep)])] (.aN [(di (uI b s x r)),(di (uF b s x r))])∧ZK 30 [Za] (.aN [(ds (mX b)),(di (mQ b))])∧ZK 31 [Za] (.aN [(ds (mX b)),(di (mQ b))])∧(ZK 32 [Za] (db (aJ aG b))∧ZK 33 [Za] (db (aJ aG b))∧(((aJ aG b==aJ aG b)=true)→ZK 24 [Za] (.slc 9 (if aJ aG b=true then ak b else []).length (bW (if aJ aG b=true then ak b else []))))∧(((aJ aG b==aJ aG b)=true)→ZK 35 [Za] (.slc 9 (if aJ aG b=true then ak b else []).length (bW (if aJ aG b=true then ak b else []))))∧(((aJ aG b==aJ aG b)=true)→ZK 34 [(.slc 9 (if aJ aG b=true then ak b else []).length (bW (if aJ aG b=true then ak b else []))),(.slc 9 (if aJ aG b=true then ak b else []).length (bW (if aJ aG b=true then ak b else [])))] (db true))∧(((aJ aG b==aJ aG b&&true)=true)→ZK 27 [Za,(ds s)] (.agg [(di (if aJ aG b=true then stB b s else fA).t),(.slc 7 (if aJ aG b=true then stB b s else fA).es.length (bK (if aJ aG b=true then stB b s else fA).es))]))∧(((aJ aG b==aJ aG b&&true)=true)→ZK 36 [Za,(ds s)] (.agg [(di (if aJ aG b=true then stB b s else fA).t),(.slc 7 (if aJ aG b=true then stB b s else fA).es.length (bK (if aJ aG b=true then stB b s else fA).es))]))∧(((aJ aG b==aJ aG b&&true)=true)→ZK 17 [(.agg [(di (if aJ aG b=true then stB b s else fA).t),(.slc 7 (if aJ aG b=true then stB b s else fA).es.length (bK (if aJ aG b=true then stB b s else fA).es))]),(.agg [(di (if aJ aG b=true then stB b s else fA).t),(.slc 7 (if aJ aG b=true then stB b s else fA).es.length (bK (if aJ aG b=true then stB b s else fA).es))])] (db (decide (jJ (cu (if aJ aG b=true then stB b s else fA))=jJ (cu (if aJ aG b=true then stB b s else fA))))))∧(((aJ aG b==aJ aG b&&true&&decide (jJ (cu (if aJ aG b=true then stB b s else fA))=jJ (cu (if aJ aG b=true then stB b s else fA)))&&uI b s x r==uI b s x r&&uF b s x r==uF b s x r&&(mX b).toList==(mX b).toList&&mQ b==mQ b)=true)→ZK 37 [Za,Zd] (db (decide (jJ Zb=jJ Zc))))∧(((aJ aG b==aJ aG b&&true&&decide (jJ (cu (if aJ aG b=true then stB b s else fA))=jJ (cu (if aJ aG b=true then stB b s else fA)))&&uI b s x r==uI b s x r&&uF b s x r==uF b s x r&&(mX b).toList==(mX b).toList&&mQ b==mQ b)=true)→ZK 17 [Za,Zd] (db (decide (jJ Zb=jJ Zc)))))∧((db (aJ aG b==aJ aG b&&true&&decide (jJ (cu (if aJ aG b=true then stB b s else fA))=jJ (cu (if aJ aG b=true then stB b s else fA)))&&uI b s x r==uI b s x r&&uF b s x r==uF b s x r&&(mX b).toList==(mX b).toList&&mQ b==mQ b&&decide (jJ Zb=jJ Zc)==decide (jJ Zb=jJ Zc))):DV)=(db true))))))) ((.agg [(di b.t),(.slc 7 b.es.length (bK b.es))]):DV) (DV.agg [di b.t,DV.slc 7 b.es.length (bK b.es)]) (DV.agg [di o.t,DV.slc 7 o.es.length (bK o.es)]) ((.agg [(di o.t),(.slc 7 o.es.length (bK o.es))]):DV)) (by kernel_rfl) ?_
 try dsimp only
 simp only[aaf]
 simp only[dJ,decide_true]
 refine⟨f11 hT,fun c=>(by cases c),fun _=>⟨⟨f28 b,fun _=>f28 o⟩,fun _=>trivial,fun c=>?_⟩⟩
 obtain ⟨c1,_⟩:=Bool.or_eq_false_iff.1 c
 obtain ⟨c1,_⟩:=Bool.or_eq_false_iff.1 c1
 obtain ⟨c1,_⟩:=Bool.or_eq_false_iff.1 c1
 have c1:qV b=true:=by simpa using c1
 have hb:=YK c1
 obtain ⟨hs1,hs2⟩:=aan (s:=s) c1
 have CQ:=f33 (G:=G) h46 b hb
 have hev:(if aJ aG b=true then ak b else []).length≤1000000:=by
  split
  ·exact hb.evs
  ·exact Nat.zero_le _
 have hst:gq (if aJ aG b=true then stB b s else fA).es:=by
  split
  ·exact hs1
  ·exact⟨Nat.zero_le _,fun i hi=>by cases hi⟩
 have h34:aA Tryz.prog G 34 [eu (if aJ aG b=true then ak b else []),eu (if aJ aG b=true then ak b else [])] (db true):=by
  have:=f34 (G:=G) _ (if aJ aG b=true then ak b else []) hev
  rwa [decide_eq_true rfl] at this
 refine⟨f25 b s x r hb,f29 b s x r hb CQ,f30 hT b hb,f31 b hb CQ,⟨hb.f32,CQ,fun _=>f24 b hb,fun _=>f35 b hb CQ,fun _=>h34,fun _=>f27 b s hb hs1 hs2,fun _=>f36 h46 h63 b s hb hs1 hs2,fun _=>adW _ hst,fun _=>f37 b o hb.sz,fun _=>f17 b o hb.sz⟩,congrArg db ?_⟩
 simp
end Go.Proofs
namespace Go.Proofs.YtflgdeobcgmgnaaGreatDoor
open Go Go.Ab Go.ChangeShapes Go.WideShapes Go.ChangeAt Go.RowKit
theorem own:ownKnob Tryz.prog.godebug=none:=by kernel_rfl
theorem laidOut:laidOutB Tryz.prog=true:=by kernel_rfl
theorem aao : Tryz.prog.globalNamed "internal/strconv.uint64pow10" = some 2 := by kernel_rfl
theorem ado:(Tryz.prog.globals[2]?).map (·.type)=some 185:=by kernel_rfl
theorem D5 {P:Program} {W:World}:∀{l:List (String×DataW Unit)} {ps:List MemPlace},DataW.LaidVars P W l ps→
  ∀{i:Nat} {n:String} {d:DataW Unit},l[i]?=some (n,d)→∃g t cs fuel p,P.globalNamed n=some g∧(P.globals[g]?).map (·.type)=some t∧W.var? P n=some cs∧DataW.trod (fun _=>()) P W 0 (fun _=>true) false fuel t cs.toList=some (d,p)
 | [],ps,h,i,n,d,h1=>by simp at h1
 | (m,e) :: l,ps,⟨g,t,cs,fuel,p,q,a1,a2,a3,a4,a5,a6⟩,i,n,d,h1=>by
  cases i with
  | zero=>
   simp at h1;obtain ⟨rfl,rfl⟩:=h1
   exact⟨g,t,cs,fuel,p,a1,a2,a3,a4⟩
  | succ i=>exact D5 a5 (i:=i) (by simpa using h1)
theorem Qx {laid : List (String × DataW Unit)} {W : World} (h : laidMetH Tryz.prog laid W) (hm : laidMetH Tryz.prog laid W = laidMet Tryz.prog laid W) {i : Nat} (hi : laid[i]? = some ("internal/strconv.uint64pow10", Rows.laid_internal_strconv_uint64pow10)) : Tab (allOf W) := by
 rw[hm] at h
 obtain ⟨ps,h,_⟩:=h
 obtain ⟨g2,t2,cs2,f2,p2,hg2,ht2,hv2,hd2⟩:=D5 h hi
 obtain rfl:=Option.some.inj (aao.symm.trans hg2)
 obtain rfl:=Option.some.inj (ado.symm.trans ht2)
 have hT : Lib.TabIs Tryz.prog W "internal/strconv.uint64pow10" .u64 Lib.pow10Tab := by
  unfold Lib.TabIs
  rw[hv2,←Lib.cells_of_tab Tryz.underlying185 (by kernel_rfl) (by kernel_rfl) (by kernel_rfl) (k:=.u64) (zs:=Lib.pow10Tab) hd2]
 intro w hw
 unfold Lib.TabIs at hT⊢
 rw[←hT]
 unfold World.var? at hT⊢
 rw[aao] at hT⊢
 simp only[Option.bind_some] at hT⊢
 cases ho:W.heap[2]? with
 | none=>rw[ho] at hT;cases hT
 | some o=>rw[hw.2 2 o ho]
end Go.Proofs.YtflgdeobcgmgnaaGreatDoor
namespace Go.Proofs
open Go Go.Ab Go.RowKit
abbrev Zt:List Sh:=[.int .i64,.int .i64,.int .i64,.str]
abbrev aay:List Sh:=[.int .i64,.str,.bool,.bool,.int .i64,.str]
abbrev Sm:List Sh:=[.str,.str,.int .i64,.int .i64,.str,.slc true Zt,.slc true aay]
theorem aaA {n:Nat} {f:Nat→DV} (hf:∀i,i<n→∃es,f i=.agg es∧pW.dv Zt es):∃L:List Gv,∀k v,DV.rel k (.slc 4 n f) v→DV.rel k (jZ L) v:=by
 obtain ⟨L,rfl,hL⟩:=KX (p:=fun i (x:Gv)=>f i=dP [x] 0) ⟨0,0,0,.empty⟩ (fun i hi=>by
  obtain ⟨es,h1,_,_,rfl,⟨a1,_,rfl⟩,_,_,rfl,⟨a2,_,rfl⟩,_,_,rfl,⟨a3,_,rfl⟩,_,_,rfl,⟨a4,_,rfl⟩,rfl⟩:=hf i hi
  exact⟨⟨a1,a2,a3,a4⟩,h1⟩)
 exact⟨L,fun k v h=>DV.fE hL h⟩
theorem aa1 {n:Nat} {f:Nat→DV} (hf:∀i,i<n→∃es,f i=.agg es∧pW.dv aay es):∃L:List Al,∀k v,DV.rel k (.slc 6 n f) v→DV.rel k (iD L) v:=by
 obtain ⟨L,rfl,hL⟩:=KX (p:=fun i (x:Al)=>f i=dI [x] 0) bZ (fun i hi=>by
  obtain ⟨es,h1,_,_,rfl,⟨a1,_,rfl⟩,_,_,rfl,⟨a2,_,rfl⟩,_,_,rfl,⟨a3,rfl⟩,_,_,rfl,⟨a4,rfl⟩,_,_,rfl,⟨a5,_,rfl⟩,_,_,rfl,⟨a6,_,rfl⟩,rfl⟩:=hf i hi
  exact⟨⟨a1,a2,a3,a4,a5,a6⟩,h1⟩)
 exact⟨L,fun k v h=>DV.fE hL h⟩
theorem aaM {n:Nat} {f:Nat→DV} (hf:∀i,i<n→∃es,f i=.agg es∧pW.dv Sm es):∃L:List En,∀k v,DV.rel k (.slc 7 n f) v→DV.rel k (jI L) v:=by
 obtain ⟨L,rfl,hL⟩:=KX (p:=fun i (x:En)=>∀k v,DV.rel k (f i) v→DV.rel k (zi x) v) en0 (fun i hi=>by
  obtain ⟨es,h1,_,_,rfl,⟨a1,_,rfl⟩,_,_,rfl,⟨a2,_,rfl⟩,_,_,rfl,⟨a3,_,rfl⟩,_,_,rfl,⟨a4,_,rfl⟩,_,_,rfl,⟨a5,_,rfl⟩,_,_,rfl,⟨n1,g1,_,rfl,hg1⟩,_,_,rfl,⟨n2,g2,_,rfl,hg2⟩,rfl⟩:=hf i hi
  obtain ⟨L1,h2⟩:=aaA hg1
  obtain ⟨L2,h3⟩:=aa1 hg2
  refine⟨⟨⟨a1,a2,a3⟩,a4,a5,L1,L2⟩,fun k v h=>?_⟩
  rw[h1] at h
  obtain ⟨vs,rfl,c1,v1,rfl,r1,c2,v2,rfl,r2,c3,v3,rfl,r3,c4,v4,rfl,r4,c5,v5,rfl,r5,c6,v6,rfl,r6,c7,v7,rfl,r7,h0⟩:=h
  exact⟨_,rfl,c1,_,rfl,r1,c2,_,rfl,r2,c3,_,rfl,r3,c4,_,rfl,r4,c5,_,rfl,r5,c6,_,rfl,h2 _ _ r6,c7,_,rfl,h3 _ _ r7,h0⟩)
 exact⟨L,fun k v h=>xB (fun i hi y hy=>hL i hi k y hy) h⟩
theorem Rq {es:List DV} (h:pW.dv [.int .i64,.slc true Sm] es):∃b:Bk,∀k v,DV.rel k (.agg es) v→DV.rel k (cu b) v:=by
 obtain ⟨_,_,rfl,⟨t,_,rfl⟩,_,_,rfl,⟨n,f,_,rfl,hf⟩,rfl⟩:=h
 obtain ⟨L,hL⟩:=aaM hf
 refine⟨⟨t,L⟩,fun k v h=>?_⟩
 obtain ⟨vs,rfl,c1,v1,rfl,r1,c2,v2,rfl,r2,h0⟩:=h
 exact⟨_,rfl,c1,_,rfl,r1,c2,_,rfl,hL _ _ r2,h0⟩
end Go.Proofs
