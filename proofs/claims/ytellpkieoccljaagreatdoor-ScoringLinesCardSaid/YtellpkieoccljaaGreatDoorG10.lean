import Derived.Test.YtellpkieoccljaaGreatDoorAcD
import Derived.Test.YtellpkieoccljaaGreatDoorG9
import Derived.Test.YtellpkieoccljaaGreatDoorG6
import Derived.Test.YtellpkieoccljaaGreatDoorG7
import Derived.Test.YtellpkieoccljaaGreatDoorG8
set_option autoImplicit false
namespace Go.Proofs
open Go Go.Ab Go.RowKit
set_option maxHeartbeats 4000000
set_option maxRecDepth 100000
variable {G:IH}
/-! The reference's Check. -/
theorem vf_l {a b:Bool} (h:(!a||!b)=false):a=true:=by
 revert h;cases a<;>cases b<;>decide
/-! When rules are right. -/
def okR (L:List Fc) (r:Rl):Prop:=(r.gr.size=0∨r.kind=0)∧xpC 0 (tyW L r.am)=0∧(r.wh.k=0∨xpC 1 (tyW L r.wh)=0)
structure Good (L:List Fc) (R:List Rl):Prop where
 vf:vfB L=true
 len:R.length≤32
 rf:∀r∈R,rfB r=true
 sz:(catB R R.length).size≤16384
 nm:R.Pairwise fun a b=>a.nm≠b.nm
 gr:∀r∈R,∀q∈R,q.gr≠r.nm
 ok:∀r∈R,okR L r
theorem getD_at {R:List Rl} {i:Nat} (h:i<R.length):R.getD i rl0=R[i]:=by rw[List.getD,gEe h];rfl
theorem chS_none {L:List Fc} {R:List Rl} {i:Nat}:chS L R i=none↔agB R i (R.getD i rl0).nm=false∧gpB R (R.getD i rl0).nm=false∧okR L (R.getD i rl0):=by
 unfold chS okR
 by_cases h1:(agB R i (R.getD i rl0).nm||gpB R (R.getD i rl0).nm)=true
 ·rw[if_pos h1]
  refine⟨fun h=>(by cases h),fun h=>?_⟩
  rw[h.1,h.2.1] at h1;cases h1
 ·rw[if_neg h1]
  have h1:agB R i (R.getD i rl0).nm=false∧gpB R (R.getD i rl0).nm=false:=by
   rw[Bool.not_eq_true,Bool.or_eq_false_iff] at h1;exact h1
  by_cases h2:(R.getD i rl0).gr.size≠0∧(R.getD i rl0).kind≠0
  ·rw[if_pos h2]
   refine⟨fun h=>(by cases h),fun h=>?_⟩
   rcases h.2.2.1 with h|h
   ·exact absurd h h2.1
   ·exact absurd h h2.2
  ·rw[if_neg h2]
   have h2:(R.getD i rl0).gr.size=0∨(R.getD i rl0).kind=0:=by
    rcases Nat.eq_zero_or_pos (R.getD i rl0).gr.size with h|h
    ·exact .inl h
    ·exact .inr (Classical.byContradiction fun hk=>h2 ⟨by omega,hk⟩)
   by_cases h3:(exM 0 (tyW L (R.getD i rl0).am)).2≠0
   ·rw[if_pos h3]
    exact⟨fun h=>(by cases h),fun h=>absurd h.2.2.2.1 h3⟩
   ·rw[if_neg h3]
    have h3:xpC 0 (tyW L (R.getD i rl0).am)=0:=by simpa using h3
    by_cases h4:(R.getD i rl0).wh.k=0
    ·rw[if_pos h4]
     exact⟨fun _=>⟨h1.1,h1.2,h2,h3,.inl h4⟩,fun _=>rfl⟩
    ·rw[if_neg h4]
     by_cases h5:(exM 1 (tyW L (R.getD i rl0).wh)).2≠0
     ·rw[if_pos h5]
      refine⟨fun h=>(by cases h),fun h=>?_⟩
      rcases h.2.2.2.2 with h|h
      ·exact absurd h h4
      ·exact absurd h h5
     ·rw[if_neg h5]
      exact⟨fun _=>⟨h1.1,h1.2,h2,h3,.inr (by simpa using h5)⟩,fun _=>rfl⟩
theorem chS_code {L:List Fc} {R:List Rl} {i:Nat} {p:Int×Int} (h:chS L R i=some p):p.2≠0:=by
 unfold chS at h
 split at h
 ·cases h;exact(by decide:(6:Int)≠0)
 split at h
 ·cases h;exact(by decide:(5:Int)≠0)
 split at h
 ·rename_i h3;cases h;exact h3
 split at h
 ·cases h
 split at h
 ·rename_i h3;cases h;exact h3
 ·cases h
theorem chF_zero {L:List Fc} {R:List Rl}:∀(n i:Nat),(chF L R n i).2=0→∀j,i≤j→j<i+n→chS L R j=none
 | 0,i,_,j,h1,h2=>by omega
 | n+1,i,h,j,h1,h2=>by
  unfold chF at h
  cases hc:chS L R i with
  | some p=>simp only[hc] at h;exact absurd h (chS_code hc)
  | none=>
   simp only[hc] at h
   rcases Nat.lt_or_ge i j with h3|h3
   ·exact chF_zero n (i+1) h j h3 (by omega)
   ·obtain rfl:j=i:=by omega
    exact hc
theorem vaS_iff {R:List Rl}:vaS R=true↔R.length≤32∧(∀r∈R,rfB r=true)∧(catB R R.length).size≤16384:=by
 unfold vaS
 simp only[bAt,dEt,List.all_eq_true]
 exact⟨fun h=>⟨h.1.1,h.1.2,h.2⟩,fun h=>⟨⟨h.1,h.2.1⟩,h.2.2⟩⟩
theorem ag_iff {R:List Rl} {i:Nat} {s:ByteArray} (hi:i≤R.length):agB R i s=false↔∀j,j<i→(R.getD j rl0).nm≠s:=by
 unfold agB
 rw[List.any_eq_false]
 constructor
 ·intro h j hj
  have hl:j<(R.take i).length:=by rw[List.length_take];omega
  have:=h _ (List.getElem_mem hl)
  rw[List.getElem_take] at this
  rw[getD_at (by omega)]
  simpa using this
 ·intro h r hr
  obtain ⟨j,hj,rfl⟩:=List.getElem_of_mem hr
  rw[List.length_take] at hj
  have:=h j (by omega)
  rw[getD_at (by omega)] at this
  rw[List.getElem_take]
  simpa using this
theorem gp_iff {R:List Rl} {s:ByteArray}:gpB R s=false↔∀q∈R,q.gr≠s:=by
 unfold gpB
 rw[List.any_eq_false]
 exact⟨fun h q hq=>by simpa using h q hq,fun h q hq=>by simpa using h q hq⟩
theorem ch_good {L:List Fc} {R:List Rl} (hR:∀i,i<R.length→RlS (R.getD i rl0)):(chR L R).2=0↔Good L R:=by
 unfold chR
 have hm:∀r∈R,∃i,i<R.length∧R.getD i rl0=r:=fun r hr=>by
  obtain ⟨i,hi,rfl⟩:=List.getElem_of_mem hr
  exact⟨i,hi,getD_at hi⟩
 constructor
 ·intro h
  by_cases h1:(!vfB L||!vaR R)=true
  ·rw[if_pos h1] at h;exact absurd h (by decide)
  ·rw[if_neg h1] at h
   rw[Bool.not_eq_true] at h1
   have hv:=va_of h1
   rw[vaR_S hR,vaS_iff] at hv
   have hn:=chF_zero _ _ h
   have hS:=fun i (hi:i<R.length)=>chS_none.1 (hn i (Nat.zero_le _) (by omega))
   refine⟨vf_l h1,hv.1,hv.2.1,hv.2.2,?_,fun r hr q hq=>?_,fun r hr=>?_⟩
   ·rw[List.pairwise_iff_getElem]
    intro i j hi hj hij
    have:=(ag_iff (by omega)).1 (hS j hj).1 i hij
    rwa [getD_at hi,getD_at hj] at this
   ·obtain ⟨i,hi,rfl⟩:=hm r hr
    exact gp_iff.1 (hS i hi).2.1 q hq
   ·obtain ⟨i,hi,rfl⟩:=hm r hr
    exact(hS i hi).2.2
 ·intro g
  have hv:vaR R=true:=by rw[vaR_S hR,vaS_iff];exact⟨g.len,g.rf,g.sz⟩
  rw[if_neg (by rw[g.vf,hv];decide),chF_none]
  intro j _ hj
  have hj:j<R.length:=by omega
  rw[chS_none,ag_iff (by omega),gp_iff]
  have hmem:R.getD j rl0∈R:=getD_mem' hj
  refine⟨fun i hi=>?_,fun q hq=>g.gr _ hmem q hq,g.ok _ hmem⟩
  rw[getD_at hj,getD_at (by omega)]
  exact List.pairwise_iff_getElem.1 g.nm i j (by omega) hj hi
def szS (R:List Rl):Nat:=(R.map fun r=>(lnB r).size).sum
theorem cat_szS (R:List Rl):∀k,k≤R.length→(catB R k).size=szS (R.take k)
 | 0,_=>rfl
 | k+1,h=>by
  have ih:=cat_szS R k (by omega)
  simp only[catB,bSa,ih]
  rw[List.take_succ_eq_append_getElem (by omega),getD_at (by omega)]
  unfold szS
  rw[List.map_append,List.sum_append]
  simp
theorem cat_all (R:List Rl):(catB R R.length).size=szS R:=by rw[cat_szS R _ (Nat.le_refl _),List.take_length]
theorem good_type {L:List Fc} {R:List Rl} (g:Good L R) {r:Rl} (hr:r∈R):typR L r.am=(0,0,0)∧(r.wh.k≠0→typR L r.wh=(1,0,0)):=by
 have hf:=g.rf r hr
 have ho:=g.ok r hr
 unfold rfB at hf
 simp only[bAt,Bool.or_eq_true] at hf
 have key:∀(w:Int) (x:Ex),fitE x=true→xpC w (tyW L x)=0→typR L x=(w,0,0):=fun w x hx h=>by
  rw[typR_ref,if_neg (by rw[g.vf,hx];decide)]
  unfold xpC at h
  split at h
  ·cases h
  ·rename_i hc
   have h1:(tyW L x).1=w:=Classical.byContradiction fun hh=>hc ⟨h,hh⟩
   unfold nrK
   rw[if_neg (by omega),h1]
 refine⟨key 0 _ hf.1.2 ho.2.1,fun hk=>key 1 _ ?_ (ho.2.2.resolve_left hk)⟩
 rcases hf.2 with h|h
 ·unfold nonB at h
  simp only[bAt,beq_iff_eq] at h
  exact absurd h.1.1.1 hk
 ·exact h
/-! Score,by the program. -/
structure Ls where
 ap:Bool
 n:Int
 d:Int
 e:Int
 deriving DecidableEq
def lsR (F:List Ft) (r:Rl):Ls:=match (if r.wh.k=0 then some true else bvE F r.wh) with
 | none=>⟨false,0,0,2⟩
 | some false=>⟨false,0,0,0⟩
 | some true=>match nuE F r.am with
  | none=>⟨false,0,0,2⟩
  | some p=>⟨true,p.1,p.2,0⟩
abbrev lsC (r:Rl) (s:Ls):List DV:=[ds r.nm,ds r.gr,di r.kind,db s.ap,di s.n,di s.d,di s.e]
abbrev lsA (r:Rl) (s:Ls):List AV:=[vs r.nm,vs r.gr,vi r.kind,.d (db s.ap),.d (di s.n),.d (di s.d),.d (di s.e)]
abbrev rlC (r:Rl):List AV:=[vi r.kind,vs r.nm,vs r.gr,vi r.am.k,vs r.am.s,vi r.am.n,vi r.am.d,vi r.am.pos,.d (.slc 6 r.am.kids.length (lay (exG r.ma) r.am.kids)),vi r.wh.k,vs r.wh.s,vi r.wh.n,vi r.wh.d,vi r.wh.pos,.d (.slc 6 r.wh.kids.length (lay (exG r.mw) r.wh.kids)),vi r.pos]
abbrev bx67 (F:List Ft) (r:Rl) (s:Ls):List (Nat×List AV):=[(1000000,rlC r),(1000001,[.d (evD F)]),(1000002,lsA r s)]
def orcSc (t:Bool) (n d:Int):Oracle:=fun f _=>match f with
 | 47=>some (db t)
 | 46=>some (fr n d)
 | _=>none
abbrev ls0:Ls:=⟨false,0,0,0⟩
theorem f67_no {F:List Ft} {r:Rl} (hk:r.wh.k≠0) (h:FnOK Tryz.prog G 47 [evD F,exD r.mw r.wh] (db false)):FnM Tryz.prog G 67 cp59 (bx67 F r ls0) (.d (.tup [])) (bx67 F r ls0):=by
 refine FnM.walk (orc:=(orcSc false 0 0:Orc)) (keep:=[]) [] follows (by kernel_rfl) Tryz.func67 rfl Tryz.call67 ?_
 refine of_tr (fun _ _ _ ZK=>(fun Za Zb Zc=>((((r.wh.k != 0)=true)→ZK 47 [Zb,(ndX r.mw r.wh)] (db false))∧(((r.wh.k != 0&&!false)=true)→((ZS ((.d (.tup [])):AV))∧(Za:(Option (List AV)))=Za∧((some [(.d Zb)]):(Option (List AV)))=(some [(.d Zb)])∧(Zc:(Option (List AV)))=Zc∧True))∧(((r.wh.k != 0&&!false)=false)→(ZK 46 [Zb,(ndX r.ma r.am)] (.agg [(di 0),(di 0)])∧(ZS ((.d (.tup [])):AV))∧(Za:(Option (List AV)))=Za∧((some [(.d Zb)]):(Option (List AV)))=(some [(.d Zb)])∧((some [(vs r.nm),(vs r.gr),(vi r.kind),(vb true),(vi 0),(vi 0),(vi 0)]):(Option (List AV)))=Zc∧True)))) (some [(vi r.kind),(vs r.nm),(vs r.gr),(vi r.am.k),(vs r.am.s),(vi r.am.n),(vi r.am.d),(vi r.am.pos),(.d (.slc 6 r.am.kids.length (lay (exG r.ma) r.am.kids))),(vi r.wh.k),(vs r.wh.s),(vi r.wh.n),(vi r.wh.d),(vi r.wh.pos),(.d (.slc 6 r.wh.kids.length (lay (exG r.mw) r.wh.kids))),(vi r.pos)]) ((.ptr [(.mp none (tV F) (tH F))]):DV) (some [(vs r.nm),(vs r.gr),(vi r.kind),(vb false),(vi 0),(vi 0),(vi 0)])) (by kernel_rfl) ?_
 have hc:(r.wh.k != 0)=true:=bne_iff_ne.2 hk
 refine⟨fun _=>h,fun _=>⟨rfl,rfl,rfl,rfl,trivial⟩,fun c=>(by rw[hc] at c;cases c)⟩
theorem f67_yes {F:List Ft} {r:Rl} {n d:Int} (hw:r.wh.k≠0→FnOK Tryz.prog G 47 [evD F,exD r.mw r.wh] (db true)) (h:FnOK Tryz.prog G 46 [evD F,exD r.ma r.am] (fr n d)):FnM Tryz.prog G 67 cp59 (bx67 F r ls0) (.d (.tup [])) (bx67 F r ⟨true,n,d,0⟩):=by
 refine FnM.walk (orc:=(orcSc true n d:Orc)) (keep:=[]) [] follows (by kernel_rfl) Tryz.func67 rfl Tryz.call67 ?_
 refine of_tr (fun _ _ _ ZK=>(fun Za Zb Zc=>((((r.wh.k != 0)=true)→ZK 47 [Zb,(ndX r.mw r.wh)] (db true))∧(((r.wh.k != 0&&!true)=true)→((ZS ((.d (.tup [])):AV))∧(Za:(Option (List AV)))=Za∧((some [(.d Zb)]):(Option (List AV)))=(some [(.d Zb)])∧((some [(vs r.nm),(vs r.gr),(vi r.kind),(vb false),(vi 0),(vi 0),(vi 0)]):(Option (List AV)))=Zc∧True))∧(((r.wh.k != 0&&!true)=false)→(ZK 46 [Zb,(ndX r.ma r.am)] (.agg [(di n),(di d)])∧(ZS ((.d (.tup [])):AV))∧(Za:(Option (List AV)))=Za∧((some [(.d Zb)]):(Option (List AV)))=(some [(.d Zb)])∧(Zc:(Option (List AV)))=Zc∧True)))) (some [(vi r.kind),(vs r.nm),(vs r.gr),(vi r.am.k),(vs r.am.s),(vi r.am.n),(vi r.am.d),(vi r.am.pos),(.d (.slc 6 r.am.kids.length (lay (exG r.ma) r.am.kids))),(vi r.wh.k),(vs r.wh.s),(vi r.wh.n),(vi r.wh.d),(vi r.wh.pos),(.d (.slc 6 r.wh.kids.length (lay (exG r.mw) r.wh.kids))),(vi r.pos)]) ((.ptr [(.mp none (tV F) (tH F))]):DV) (some [(vs r.nm),(vs r.gr),(vi r.kind),(vb true),(vi n),(vi d),(vi 0)])) (by kernel_rfl) ?_
 refine⟨fun c=>hw (bne_iff_ne.1 c),fun c=>(by cases hh:(r.wh.k != 0)<;>rw[hh] at c<;>cases c),fun _=>⟨h,rfl,rfl,rfl,rfl,trivial⟩⟩
theorem f67_p1 {F:List Ft} {r:Rl} (hk:r.wh.k≠0) (h:FnP Tryz.prog G 47 [evD F,exD r.mw r.wh] noV):FnMP Tryz.prog G 67 cp59 (bx67 F r ls0) noV:=by
 have hc:(r.wh.k != 0)=true:=bne_iff_ne.2 hk
 refine FnMP.of_body Tryz.func67 rfl Tryz.call67 ?_
 refine walkK (orc:=(orcSc true 0 0:Orc)) (keep:=[]) (cuts:=[0]) (n:=1000) follows ?_
 refine of_tr (fun ZT ZW ZQ _=>ZW [cd Tryz.f67 [0],cd Tryz.f67 [1]] (stS ZT []) ZQ) (by kernel_rfl) ?_
 refine AWP.panic follows (orcSc true 0 0:Orc) 8 (pv:=noV) ?_ ⟨rfl,?_⟩
 ·refine of_tr (fun _ _ _ _=>(((r.wh.k != 0)=true∧FnP Tryz.prog G 47 [(.ptr [(.mp none (tV F) (tH F))]),(ndX r.mw r.wh)] noV)∧True)) (by kernel_rfl) ?_
  exact⟨⟨hc,h⟩,trivial⟩
 ·refine of_eq2 (some [(vi r.kind),(vs r.nm),(vs r.gr),(vi r.am.k),(vs r.am.s),(vi r.am.n),(vi r.am.d),(vi r.am.pos),(.d (.slc 6 r.am.kids.length (lay (exG r.ma) r.am.kids))),(vi r.wh.k),(vs r.wh.s),(vi r.wh.n),(vi r.wh.d),(vi r.wh.pos),(.d (.slc 6 r.wh.kids.length (lay (exG r.mw) r.wh.kids))),(vi r.pos)]) (some [(vs r.nm),(vs r.gr),(vi r.kind),(vb false),(vi 0),(vi 0),(vi 0)]) (fun Za Zb=>((Za:(Option (List AV)))=Za∧((some [(.d (.ptr [(.mp none (tV F) (tH F))]))]):(Option (List AV)))=(some [(.d (.ptr [(.mp none (tV F) (tH F))]))])∧(Zb:(Option (List AV)))=Zb∧True)) (by kernel_rfl) ?_
  exact⟨rfl,rfl,rfl,trivial⟩
theorem f67_p2 {F:List Ft} {r:Rl} (hw:r.wh.k≠0→FnOK Tryz.prog G 47 [evD F,exD r.mw r.wh] (db true)) (h:FnP Tryz.prog G 46 [evD F,exD r.ma r.am] noV):FnMP Tryz.prog G 67 cp59 (bx67 F r ls0) noV:=by
 refine FnMP.of_body Tryz.func67 rfl Tryz.call67 ?_
 refine walkK (orc:=(orcSc true 0 0:Orc)) (keep:=[]) (cuts:=[1]) (n:=1000) follows ?_
 refine of_tr (fun ZT ZW ZQ ZK=>(fun Za Zb Zc Zd Ze Zf Zg Zh Zi=>((((r.wh.k != 0)=true)→ZK 47 [(.ptr [(.mp none (tV F) (tH F))]),(ndX r.mw r.wh)] (db true))∧(((r.wh.k != 0&&!true)=true)→((.ret:Exit)=(.panic [(PanicEntry.mk noV false false)])∧((bif Nat.beq 1000000 1000000 then some [AV.d Zb,AV.d (ds r.nm),AV.d (ds r.gr),AV.d Zg,AV.d (ds r.am.s),AV.d Zh,AV.d Zi,AV.d Ze,AV.d Zc,vi r.wh.k,AV.d (ds r.wh.s),vi r.wh.n,vi r.wh.d,AV.d Zf,AV.d Zd,vi r.pos] else bif Nat.beq 1000001 1000000 then some [AV.d (DV.ptr [DV.mp none (tV F) (tH F)])] else bif Nat.beq 1000002 1000000 then some [AV.d (ds r.nm),AV.d (ds r.gr),AV.d Zb,AV.d (DV.con (Value.bool false)),AV.d Za,AV.d Za,AV.d Za] else none):(Option (List AV)))=(some (rlC r))∧((bif Nat.beq 1000000 1000001 then some [AV.d Zb,AV.d (ds r.nm),AV.d (ds r.gr),AV.d Zg,AV.d (ds r.am.s),AV.d Zh,AV.d Zi,AV.d Ze,AV.d Zc,vi r.wh.k,AV.d (ds r.wh.s),vi r.wh.n,vi r.wh.d,AV.d Zf,AV.d Zd,vi r.pos] else bif Nat.beq 1000001 1000001 then some [AV.d (DV.ptr [DV.mp none (tV F) (tH F)])] else bif Nat.beq 1000002 1000001 then some [AV.d (ds r.nm),AV.d (ds r.gr),AV.d Zb,AV.d (DV.con (Value.bool false)),AV.d Za,AV.d Za,AV.d Za] else none):(Option (List AV)))=(some [(.d (evD F))])∧((bif Nat.beq 1000000 1000002 then some [AV.d Zb,AV.d (ds r.nm),AV.d (ds r.gr),AV.d Zg,AV.d (ds r.am.s),AV.d Zh,AV.d Zi,AV.d Ze,AV.d Zc,vi r.wh.k,AV.d (ds r.wh.s),vi r.wh.n,vi r.wh.d,AV.d Zf,AV.d Zd,vi r.pos] else bif Nat.beq 1000001 1000002 then some [AV.d (DV.ptr [DV.mp none (tV F) (tH F)])] else bif Nat.beq 1000002 1000002 then some [AV.d (ds r.nm),AV.d (ds r.gr),AV.d Zb,AV.d (DV.con (Value.bool false)),AV.d Za,AV.d Za,AV.d Za] else none):(Option (List AV)))=(some (lsA r ls0))∧True))∧(((r.wh.k != 0&&!true)=false)→ZW [cd Tryz.f67 [1]] (stS ZT [1]) ZQ))) (di 0) (di r.kind) (DV.slc 6 r.am.kids.length (lay (exG r.ma) r.am.kids)) (DV.slc 6 r.wh.kids.length (lay (exG r.mw) r.wh.kids)) (di r.am.pos) (di r.wh.pos) (di r.am.k) (di r.am.n) (di r.am.d)) (by kernel_rfl) ?_
 refine⟨fun c=>hw (bne_iff_ne.1 c),fun c=>(by cases hh:(r.wh.k != 0)<;>rw[hh] at c<;>cases c),fun _=>?_⟩
 refine AWP.panic follows (orcSc true 0 0:Orc) 3 (pv:=noV) ?_ ⟨rfl,?_⟩
 ·refine of_tr (fun _ _ _ _=>(FnP Tryz.prog G 46 [(.ptr [(.mp none (tV F) (tH F))]),(ndX r.ma r.am)] noV∧True)) (by kernel_rfl) ?_
  exact⟨h,trivial⟩
 ·refine of_eq2 (some [(vi r.kind),(vs r.nm),(vs r.gr),(vi r.am.k),(vs r.am.s),(vi r.am.n),(vi r.am.d),(vi r.am.pos),(.d (.slc 6 r.am.kids.length (lay (exG r.ma) r.am.kids))),(vi r.wh.k),(vs r.wh.s),(vi r.wh.n),(vi r.wh.d),(vi r.wh.pos),(.d (.slc 6 r.wh.kids.length (lay (exG r.mw) r.wh.kids))),(vi r.pos)]) (some [(vs r.nm),(vs r.gr),(vi r.kind),(vb false),(vi 0),(vi 0),(vi 0)]) (fun Za Zb=>((Za:(Option (List AV)))=Za∧((some [(.d (.ptr [(.mp none (tV F) (tH F))]))]):(Option (List AV)))=(some [(.d (.ptr [(.mp none (tV F) (tH F))]))])∧(Zb:(Option (List AV)))=Zb∧True)) (by kernel_rfl) ?_
  exact⟨rfl,rfl,rfl,trivial⟩
theorem f44_rule {F:List Ft} {L:List Fc} (hfit:FitF F L) {r:Rl} (hr:RlS r) (ha:typR L r.am=(0,0,0)) (hw:r.wh.k≠0→typR L r.wh=(1,0,0)) :
  FnM Tryz.prog G 44 [.clo (.func 67) [] cp59] (bx67 (revT F F.length) r ls0) (.d (di (lsR (revT F F.length) r).e)) (bx67 (revT F F.length) r ⟨(lsR (revT F F.length) r).ap,(lsR (revT F F.length) r).n,(lsR (revT F F.length) r).d,0⟩):=by
 obtain ⟨_,asn,aty,aet⟩:=typ_sound (L:=L) (x:=r.am) (by rw[ha])
 have ak:(tyW L r.am).1=0:=by rw[aet] at ha;exact congrArg (·.1) ha
 have hN:=f46 (G:=G) hfit.fam.num r.ma r.am hr.ha hr.am asn aty ak
 have key:(r.wh.k≠0→FnOK Tryz.prog G 47 [evD (revT F F.length),exD r.mw r.wh] (db true))→lsR (revT F F.length) r=(match nuE (revT F F.length) r.am with|none=>⟨false,0,0,2⟩|some p=>⟨true,p.1,p.2,0⟩)→
   FnM Tryz.prog G 44 [.clo (.func 67) [] cp59] (bx67 (revT F F.length) r ls0) (.d (di (lsR (revT F F.length) r).e)) (bx67 (revT F F.length) r ⟨(lsR (revT F F.length) r).ap,(lsR (revT F F.length) r).n,(lsR (revT F F.length) r).d,0⟩):=fun hB e=>by
  rw[e]
  cases hn:nuE (revT F F.length) r.am with
  | some p=>exact f44_ok (f67_yes hB (hN.1 p hn))
  | none=>exact f44_pan (f67_p2 hB (hN.2 hn))
 by_cases hk:r.wh.k=0
 ·exact key (fun c=>absurd hk c) (by unfold lsR;rw[if_pos hk])
 ·have hw:=hw hk
  obtain ⟨_,wsn,wty,wet⟩:=typ_sound (L:=L) (x:=r.wh) (by rw[hw])
  have wk:(tyW L r.wh).1=1:=by rw[wet] at hw;exact congrArg (·.1) hw
  obtain ⟨b1,b2⟩:=f47 (G:=G) hfit.fam hfit.knf r.mw r.wh hr.hw hr.wh wsn wty wk
  cases hv:bvE (revT F F.length) r.wh with
  | none=>
   have e:lsR (revT F F.length) r=⟨false,0,0,2⟩:=by unfold lsR;rw[if_neg hk,hv]
   rw[e]
   exact f44_pan (f67_p1 hk (b2 hv))
  | some v=>
   cases v with
   | false=>
    have e:lsR (revT F F.length) r=⟨false,0,0,0⟩:=by unfold lsR;rw[if_neg hk,hv]
    rw[e]
    exact f44_ok (f67_no hk (b1 false hv))
   | true=>exact key (fun _=>b1 true hv) (by unfold lsR;rw[if_neg hk,hv])
abbrev lnRK:RK:=⟨true,64,false,none⟩
def lsF (F:List Ft) (R:List Rl) (i:Nat):DV:=.agg (lsC (R.getD i rl0) (lsR F (R.getD i rl0)))
noncomputable def d29 (F:List Ft) (L:List Fc) (R:List Rl):Oracle:=fun f a=>match f,a with
 | 14,[_,_]=>some (db (vaF F L))
 | 66,[_,_]=>some (.tup [di (chR L R).1,di (chR L R).2])
 | 43,[_]=>some (evD (revT F F.length))
 | _,_=>none
def m29 (s:Ls):FuncId→List AV→List (Nat×List AV)→Option (AV×List (Nat×List AV)):=fun f a pre=>match f,a,pre with
 | 44,[.clo (.func 67) _ _],[a,b,(u,n :: g :: k :: _)]=>some (.d (di s.e),[a,b,(u,[n,g,k,.d (db s.ap),.d (di s.n),.d (di s.d),.d (di 0)])])
 | _,_,_=>none
noncomputable def orc29 (F:List Ft) (L:List Fc) (R:List Rl) (s:Ls):Orc:={ d:=d29 F L R,m:=m29 s,rows:=fun n=>Nat.beq n 48 }
noncomputable def S29 (F:List Ft) (R:List Rl) (k:Nat):AS:=⟨regs Tryz.f29.ntmps [(10,.box 10 0),(11,.vec 900 7 0 k),(30,.d (rlsD R)),(31,vi R.length),(32,vi k)],[(10,[.d (evD (revT F F.length))]),(900,[.arr lnRK 7 (lsF (revT F F.length) R)])]⟩
def scE (F:List Ft) (L:List Fc) (R:List Rl):Int:=if vaF F L=true then (chR L R).2 else 1
theorem f29 (hT:Tab G) (F:List Ft) (L:List Fc) (R:List Rl) (h:∀i,i<L.length→FcS (L.getD i fc0)) (hl:L.length≤1000) (hF:F.length≤100000) (hR:∀i,i<R.length→RlS (R.getD i rl0)) (hn:R.length≤1000) :
  (scE F L R=0→FnOK Tryz.prog G 29 [rlsD R,ftsD F,fcsD L] (.tup [.slc 7 R.length (lsF (revT F F.length) R),di 0]))∧(scE F L R≠0→FnOK Tryz.prog G 29 [rlsD R,ftsD F,fcsD L] (.tup [.con (.slice none 0 0),di (scE F L R)])):=by
 constructor
 ·intro he
  have h1:vaF F L=true:=by
   unfold scE at he
   by_cases hh:vaF F L=true
   ·exact hh
   ·rw[if_neg hh] at he;cases he
  have h2:(chR L R).2=0:=by unfold scE at he;rwa [if_pos h1] at he
  have hg:=(ch_good hR).1 h2
  have hfit:=fit_of h1
  refine FnOK.walkK (orc:=orc29 F L R ls0) (keep:=[]) follows Tryz.func29 rfl Tryz.call29 ?_
  refine of_tr (fun ZT ZW ZQ ZK=>(ZK 14 [(.slc 6 F.length (ftF F)),(.slc 7 L.length (fcF L))] (db (vaF F L))∧(((!vaF F L)=true)→(((.tup [(.con (.slice none 0 0)),(di 1)]):DV)=(.tup [(.slc 7 R.length (lsF (revT F F.length) R)),(di 0)])))∧(((!vaF F L)=false)→(ZK 66 [(.slc 16 R.length (rlF R)),(.slc 7 L.length (fcF L))] (.tup [(di (chR L R).fst),(di (chR L R).snd)])∧((((chR L R).snd != 0)=true)→(((.tup [(.con (.slice none 0 0)),(di (chR L R).snd)]):DV)=(.tup [(.slc 7 R.length (lsF (revT F F.length) R)),(di 0)])))∧((((chR L R).snd != 0)=false)→(ZK 43 [(.slc 6 F.length (ftF F))] (.ptr [(.mp none (tV (revT F F.length)) (tH (revT F F.length)))])∧ZW [cd Tryz.f29 [1,1,1,1,1,0,1,0],(.blk 0),cd Tryz.f29 [1,1,1,1,1,1]] (stS ZT [1,1]) ZQ)))))) (by kernel_rfl) ?_
  refine⟨f14 hT F L h hl (by omega),fun c=>(by rw[h1] at c;cases c),fun _=>⟨f66 hT L R h hl hR hn,fun c=>absurd h2 (bne_iff_ne.1 c),fun _=>⟨f43 F hF,?_⟩⟩⟩
  refine AWP.pre (.nilRow _ 11 900 7 lnRK (lsF (revT F F.length) R) (by kernel_rfl) (by kernel_rfl)) ?_
  refine AWP.loop (c:=cAt (bodyOf Tryz.f29) [1,1,1,1,1,0,1,0,0]) (by kernel_rfl) (S29 F R) (fun k=>k≤R.length) (fun k=>R.length-k) 0 ?_ (Nat.zero_le _) ?_
  ·exact AS.leA (by kernel_rfl)
  ·intro k hk
   by_cases hk2:k<R.length
   ·refine walkK (orc:=orc29 F L R (lsR (revT F F.length) (R.getD k rl0))) (keep:=[]) (cuts:=[]) (n:=1000) follows ?_
    refine of_rd (fun ZT ZW ZQ _ ZA _=>(fun Za Zb Zc Zd Ze Zf=>((((decide ((↑k:Int)<↑R.length))=true)→(((0≤(↑k:Int))∧((↑k:Int)<↑R.length))∧FnM Tryz.prog G 44 [(.clo (.func 67) [] [(.box 1000000 0),(.box 1000001 0),(.box 1000002 0)])] [(1000000,[Zc,Zd,Ze,(vi (R.getD (↑k:Int).toNat rl0).am.k),(vs (R.getD (↑k:Int).toNat rl0).am.s),(vi (R.getD (↑k:Int).toNat rl0).am.n),(vi (R.getD (↑k:Int).toNat rl0).am.d),(vi (R.getD (↑k:Int).toNat rl0).am.pos),Za,(vi (R.getD (↑k:Int).toNat rl0).wh.k),(vs (R.getD (↑k:Int).toNat rl0).wh.s),(vi (R.getD (↑k:Int).toNat rl0).wh.n),(vi (R.getD (↑k:Int).toNat rl0).wh.d),(vi (R.getD (↑k:Int).toNat rl0).wh.pos),Zb,(vi (R.getD (↑k:Int).toNat rl0).pos)]),(1000001,[(.d (.ptr [(.mp none (tV (revT F F.length)) (tH (revT F F.length)))]))]),(1000002,[Zd,Ze,Zc,(vb false),(vi 0),(vi 0),(vi 0)])] (vi Zf.e) [(1000000,[Zc,Zd,Ze,(vi (R.getD (↑k:Int).toNat rl0).am.k),(vs (R.getD (↑k:Int).toNat rl0).am.s),(vi (R.getD (↑k:Int).toNat rl0).am.n),(vi (R.getD (↑k:Int).toNat rl0).am.d),(vi (R.getD (↑k:Int).toNat rl0).am.pos),Za,(vi (R.getD (↑k:Int).toNat rl0).wh.k),(vs (R.getD (↑k:Int).toNat rl0).wh.s),(vi (R.getD (↑k:Int).toNat rl0).wh.n),(vi (R.getD (↑k:Int).toNat rl0).wh.d),(vi (R.getD (↑k:Int).toNat rl0).wh.pos),Zb,(vi (R.getD (↑k:Int).toNat rl0).pos)]),(1000001,[(.d (.ptr [(.mp none (tV (revT F F.length)) (tH (revT F F.length)))]))]),(1000002,[Zd,Ze,Zc,(vb Zf.ap),(vi Zf.n),(vi Zf.d),(vi 0)])]∧(((k+1)*72≤1099511627776)∧(k+1≤1099511627776))∧(I64 (↑k+1))∧(ZA (stS ZT [0]))))∧(((decide ((↑k:Int)<↑R.length))=false)→ZW [cd Tryz.f29 [1,1,1,1,1,1]] (stS ZT [1]) ZQ))) ((.d (.slc 6 (R.getD (↑k:Int).toNat rl0).am.kids.length (lay (exG (R.getD (↑k:Int).toNat rl0).ma) (R.getD (↑k:Int).toNat rl0).am.kids))):AV) ((.d (.slc 6 (R.getD (↑k:Int).toNat rl0).wh.kids.length (lay (exG (R.getD (↑k:Int).toNat rl0).mw) (R.getD (↑k:Int).toNat rl0).wh.kids))):AV) (vi (R.getD (↑k:Int).toNat rl0).kind) (vs (R.getD (↑k:Int).toNat rl0).nm) (vs (R.getD (↑k:Int).toNat rl0).gr) (lsR (revT F F.length) (R.getD k rl0))) (by kernel_rfl) ?_
    have hm:R.getD k rl0∈R:=getD_mem (x0:=rl0) hk2
    obtain ⟨ta,tw⟩:=good_type hg hm
    have hcl:=f44_rule (G:=G) hfit (hR k hk2) ta tw
    refine⟨fun _=>⟨⟨by omega,by omega⟩,hcl,⟨by omega,by omega⟩,⟨by omega,by omega⟩,?_⟩,fun h=>absurd (of_decide_eq_false h) (by omega)⟩
    refine⟨k+1,(AS.leX.moves [(49,900)] _ rfl).trans ((AS.leX.rowF _ 11 900 (k+1) (agg:=lnRK) (sz:=7) (f:=fun i=>bif Nat.blt i k then lsF (revT F F.length) R i else elemF true 7 (lsC (R.getD k rl0) (lsR (revT F F.length) (R.getD k rl0))) (0+(i-k))) (lsF (revT F F.length) R) (by kernel_rfl) (by kernel_rfl) rfl (by kernel_rfl) (fun i hi=>?_)).trans (.of_le ?_)),hk2,(show R.length-(k+1)<R.length-k from by omega)⟩
    ·rcases Nat.lt_or_ge i k with h3|h3
     ·rw[show Nat.blt i k=true from by rw[Nat.blt_eq];exact h3];rfl
     ·obtain rfl:i=k:=by omega
      rw[show Nat.blt i i=false from by rw[Bool.eq_false_iff,ne_eq,Nat.blt_eq];omega,Nat.sub_self];rfl
    ·exact AS.leA (by kernel_rfl)
   ·obtain rfl:k=R.length:=by omega
    refine walkK (orc:=orc29 F L R ls0) (keep:=[]) (cuts:=[]) (n:=1000) follows ?_
    refine of_rd (fun ZT ZW ZQ _ ZA _=>(fun Za=>((((decide ((↑R.length:Int)<↑R.length))=true)→(((0≤(↑R.length:Int))∧((↑R.length:Int)<↑R.length))∧FnM Tryz.prog G 44 [(.clo (.func 67) [] [(.box 1000000 0),(.box 1000001 0),(.box 1000002 0)])] [(1000000,[(vi Za.kind),(vs Za.nm),(vs Za.gr),(vi Za.am.k),(vs Za.am.s),(vi Za.am.n),(vi Za.am.d),(vi Za.am.pos),(.d (.slc 6 Za.am.kids.length (lay (exG Za.ma) Za.am.kids))),(vi Za.wh.k),(vs Za.wh.s),(vi Za.wh.n),(vi Za.wh.d),(vi Za.wh.pos),(.d (.slc 6 Za.wh.kids.length (lay (exG Za.mw) Za.wh.kids))),(vi Za.pos)]),(1000001,[(.d (.ptr [(.mp none (tV (revT F F.length)) (tH (revT F F.length)))]))]),(1000002,[(vs Za.nm),(vs Za.gr),(vi Za.kind),(vb false),(vi 0),(vi 0),(vi 0)])] (vi 0) [(1000000,[(vi Za.kind),(vs Za.nm),(vs Za.gr),(vi Za.am.k),(vs Za.am.s),(vi Za.am.n),(vi Za.am.d),(vi Za.am.pos),(.d (.slc 6 Za.am.kids.length (lay (exG Za.ma) Za.am.kids))),(vi Za.wh.k),(vs Za.wh.s),(vi Za.wh.n),(vi Za.wh.d),(vi Za.wh.pos),(.d (.slc 6 Za.wh.kids.length (lay (exG Za.mw) Za.wh.kids))),(vi Za.pos)]),(1000001,[(.d (.ptr [(.mp none (tV (revT F F.length)) (tH (revT F F.length)))]))]),(1000002,[(vs Za.nm),(vs Za.gr),(vi Za.kind),(vb false),(vi 0),(vi 0),(vi 0)])]∧(((R.length+1)*72≤1099511627776)∧(R.length+1≤1099511627776))∧(I64 (↑R.length+1))∧(ZA (stS ZT [0]))))∧(((decide ((↑R.length:Int)<↑R.length))=false)→ZW [cd Tryz.f29 [1,1,1,1,1,1]] (stS ZT [1]) ZQ))) (R.getD (↑R.length:Int).toNat rl0)) (by kernel_rfl) ?_
    refine⟨fun h=>absurd (oDt h) (by omega),fun _=>?_⟩
    refine walkK (orc:=orc29 F L R ls0) (keep:=[]) (cuts:=[]) (n:=1000) follows ?_
    refine of_tr (fun _ _ _ _=>(((.tup [(.slc 7 R.length (fun i=>lsF (revT F F.length) R (0+i))),(di 0)]):DV)=(.tup [(.slc 7 R.length (lsF (revT F F.length) R)),(di 0)]))) (by kernel_rfl) ?_
    rw[show (fun i=>lsF (revT F F.length) R (0+i))=lsF (revT F F.length) R from funext fun i=>by rw[Nat.zero_add]]
 ·intro he
  refine FnOK.walkK (orc:=orc29 F L R ls0) (keep:=[]) follows Tryz.func29 rfl Tryz.call29 ?_
  refine of_tr (fun ZT ZW ZQ ZK=>(ZK 14 [(.slc 6 F.length (ftF F)),(.slc 7 L.length (fcF L))] (db (vaF F L))∧(((!vaF F L)=true)→(((.tup [(.con (.slice none 0 0)),(di 1)]):DV)=(.tup [(.con (.slice none 0 0)),(di (scE F L R))])))∧(((!vaF F L)=false)→(ZK 66 [(.slc 16 R.length (rlF R)),(.slc 7 L.length (fcF L))] (.tup [(di (chR L R).fst),(di (chR L R).snd)])∧((((chR L R).snd != 0)=true)→(((.tup [(.con (.slice none 0 0)),(di (chR L R).snd)]):DV)=(.tup [(.con (.slice none 0 0)),(di (scE F L R))])))∧((((chR L R).snd != 0)=false)→(ZK 43 [(.slc 6 F.length (ftF F))] (.ptr [(.mp none (tV (revT F F.length)) (tH (revT F F.length)))])∧ZW [cd Tryz.f29 [1,1,1,1,1,0,1,0],(.blk 0),cd Tryz.f29 [1,1,1,1,1,1]] (stS ZT [1,1]) ZQ)))))) (by kernel_rfl) ?_
  refine⟨f14 hT F L h hl (by omega),fun c=>?_,fun c=>⟨f66 hT L R h hl hR hn,fun c2=>?_,fun c2=>?_⟩⟩
  ·unfold scE;rw[if_neg (by intro hh;rw[hh] at c;cases c)]
  ·unfold scE;rw[if_pos (by simpa using c)]
  ·exact absurd (by unfold scE;rw[if_pos (by simpa using c)];simpa using c2) he
/-! Score,by the reference. -/
/-! The law of ScoringScores. -/
structure RlW (r:Rl):Prop where
 nm:r.nm.size≤maxLen
 gr:r.gr.size≤maxLen
 ha:ht r.am≤r.ma
 am:wfE r.am
 hw:ht r.wh≤r.mw
 wh:wfE r.wh
def fewR (r:Rl):Bool:=decide (r.nm.size≤40)&&decide (r.gr.size≤40)&&fewE 30 r.am&&fewE 30 r.wh
theorem rls_few {r:Rl} (h:RlW r) (hf:fewR r=true):RlS r:=by
 unfold fewR at hf
 simp only[bAt,dEt] at hf
 exact⟨by omega,by omega,h.ha,few_sm (by omega) h.am hf.1.2,h.hw,few_sm (by omega) h.wh hf.2⟩
def fewRs (R:List Rl):Bool:=R.all fewR&&decide (R.length≤8)
noncomputable def orc26:Oracle:=fun f a=>match f,a with
 | 41,[e,_]=>some (db (fewE 30 (rdE e)))
 | _,_=>none
noncomputable def S26n (R:List Rl) (k:Nat):AS:=⟨regs Tryz.f26.ntmps [(0,.d (rlsD R)),(5,.d (rlsD R)),(6,vi R.length),(7,vi k)],[]⟩
theorem f26 (R:List Rl) (hl:R.length≤9223372036854775807) (hw:∀i,i<R.length→RlW (R.getD i rl0)):FnOK Tryz.prog G 26 [rlsD R] (db (fewRs R)):=by
 unfold fewRs
 refine FnOK.walkK (orc:=orc26) (keep:=[]) follows Tryz.func26 rfl Tryz.call26 ?_
 refine of_tr (fun ZT ZW ZQ _=>ZW [cd Tryz.f26 [1,0,1,0],(.blk 0),cd Tryz.f26 [1,1]] (stS ZT []) ZQ) (by kernel_rfl) ?_
 refine AWP.loop (c:=cAt (bodyOf Tryz.f26) [1,0,1,0,0]) (by kernel_rfl) (S26n R) (fun k=>k≤R.length∧∀i,i<k→fewR (R.getD i rl0)=true) (fun k=>R.length-k) 0 ?_ ⟨Nat.zero_le _,fun i hi=>absurd hi (Nat.not_lt_zero _)⟩ ?_
 ·exact AS.leA (by kernel_rfl)
 ·rintro k ⟨hk,hkd⟩
  by_cases hk2:k<R.length
  ·have hr:=hw k hk2
   have e1:rdE (ndX (R.getD k rl0).ma (R.getD k rl0).am)=(R.getD k rl0).am:=rdE_eq hr.ha
   have e2:rdE (ndX (R.getD k rl0).mw (R.getD k rl0).wh)=(R.getD k rl0).wh:=rdE_eq hr.hw
   refine walkK (orc:=orc26) (keep:=[]) (cuts:=[]) (n:=1000) follows ?_
   refine of_rd (fun ZT ZW ZQ ZK ZA _=>(fun Za Zb Zc=>((((decide ((↑k:Int)<↑R.length))=true)→(((0≤(↑k:Int))∧((↑k:Int)<↑R.length))∧((((!(decide ((↑(R.getD (↑k:Int).toNat rl0).nm.size:Int)>40)||decide ((↑(R.getD (↑k:Int).toNat rl0).gr.size:Int)>40)))=true)→ZK 41 [Zb,(di 30)] (db (fewE 30 (rdE Zb))))∧(((!(decide ((↑(R.getD (↑k:Int).toNat rl0).nm.size:Int)>40)||decide ((↑(R.getD (↑k:Int).toNat rl0).gr.size:Int)>40)||!fewE 30 (rdE Zb)))=true)→ZK 41 [Zc,(di 30)] (db (fewE 30 (rdE Zc)))))∧((Za=true)→(((db false):DV)=(db (R.all fewR&&decide (R.length≤8)))))∧((Za=false)→((I64 (↑k+1))∧(ZA (stS ZT [0,1]))))))∧(((decide ((↑k:Int)<↑R.length))=false)→ZW [cd Tryz.f26 [1,1]] (stS ZT [1]) ZQ))) (decide ((↑(R.getD (↑k:Int).toNat rl0).nm.size:Int)>40)||decide ((↑(R.getD (↑k:Int).toNat rl0).gr.size:Int)>40)||!fewE 30 (rdE (ndX (R.getD (↑k:Int).toNat rl0).ma (R.getD (↑k:Int).toNat rl0).am))||!fewE 30 (rdE (ndX (R.getD (↑k:Int).toNat rl0).mw (R.getD (↑k:Int).toNat rl0).wh))) (ndX (R.getD (↑k:Int).toNat rl0).ma (R.getD (↑k:Int).toNat rl0).am) (ndX (R.getD (↑k:Int).toNat rl0).mw (R.getD (↑k:Int).toNat rl0).wh)) (by kernel_rfl) ?_
   simp only[iTn,e1,e2]
   have eB:(decide (((R.getD k rl0).nm.size:Int)>40)||decide (((R.getD k rl0).gr.size:Int)>40)||!fewE 30 (R.getD k rl0).am||!fewE 30 (R.getD k rl0).wh) = !fewR (R.getD k rl0):=by
    unfold fewR
    rw[show decide (((R.getD k rl0).nm.size:Int)>40) = !decide ((R.getD k rl0).nm.size≤40) from by rw[←decide_not,decide_eq_decide];omega,
     show decide (((R.getD k rl0).gr.size:Int)>40) = !decide ((R.getD k rl0).gr.size≤40) from by rw[←decide_not,decide_eq_decide];omega]
    generalize decide ((R.getD k rl0).nm.size≤40)=a
    generalize decide ((R.getD k rl0).gr.size≤40)=b
    generalize fewE 30 (R.getD k rl0).am=c
    generalize fewE 30 (R.getD k rl0).wh=d
    cases a<;>cases b<;>cases c<;>cases d<;>rfl
   simp only[eB]
   refine⟨fun _=>⟨⟨by omega,by omega⟩,⟨fun _=>f41 30 _ _ hr.ha hr.am,fun _=>f41 30 _ _ hr.hw hr.wh⟩,fun h=>?_,fun h=>⟨⟨by omega,by omega⟩,Again.mk (k+1) ?_ ⟨hk2,fun i hi=>?_⟩ (by omega)⟩⟩,fun h=>absurd (of_decide_eq_false h) (by omega)⟩
   ·have:R.all fewR=false:=by
     rw[List.all_eq_false]
     exact⟨R.getD k rl0,getD_mem (x0:=rl0) hk2,by rw[Bool.not_eq_true'] at h;rw[h];decide⟩
    rw[this];rfl
   ·exact AS.leA (by kernel_rfl)
   ·rcases Nat.lt_or_ge i k with h4|h4
    ·exact hkd i h4
    ·obtain rfl:i=k:=by omega
     rw[Bool.not_eq_false'] at h;exact h
  ·obtain rfl:k=R.length:=by omega
   refine walkK (orc:=orc26) (keep:=[]) (cuts:=[]) (n:=1000) follows ?_
   refine of_rd (fun ZT ZW ZQ ZK ZA _=>(fun Za=>((((decide ((↑R.length:Int)<↑R.length))=true)→(((0≤(↑R.length:Int))∧((↑R.length:Int)<↑R.length))∧((((!(decide ((↑Za.nm.size:Int)>40)||decide ((↑Za.gr.size:Int)>40)))=true)→ZK 41 [(ndX Za.ma Za.am),(di 30)] (db (fewE 30 (rdE (ndX Za.ma Za.am)))))∧(((!(decide ((↑Za.nm.size:Int)>40)||decide ((↑Za.gr.size:Int)>40)||!fewE 30 (rdE (ndX Za.ma Za.am))))=true)→ZK 41 [(ndX Za.mw Za.wh),(di 30)] (db (fewE 30 (rdE (ndX Za.mw Za.wh))))))∧(((decide ((↑Za.nm.size:Int)>40)||decide ((↑Za.gr.size:Int)>40)||!fewE 30 (rdE (ndX Za.ma Za.am))||!fewE 30 (rdE (ndX Za.mw Za.wh)))=true)→(((db false):DV)=(db (R.all fewR&&decide (R.length≤8)))))∧(((decide ((↑Za.nm.size:Int)>40)||decide ((↑Za.gr.size:Int)>40)||!fewE 30 (rdE (ndX Za.ma Za.am))||!fewE 30 (rdE (ndX Za.mw Za.wh)))=false)→((I64 (↑R.length+1))∧(ZA (stS ZT [0,1]))))))∧(((decide ((↑R.length:Int)<↑R.length))=false)→ZW [cd Tryz.f26 [1,1]] (stS ZT [1]) ZQ))) (R.getD (↑R.length:Int).toNat rl0)) (by kernel_rfl) ?_
   refine⟨fun h=>absurd (oDt h) (by omega),fun _=>?_⟩
   refine walkK (orc:=orc26) (keep:=[]) (cuts:=[]) (n:=1000) follows ?_
   refine of_tr (fun _ _ _ _=>(((db (decide ((↑R.length:Int)≤8))):DV)=(db (R.all fewR&&decide (R.length≤8))))) (by kernel_rfl) ?_
   have:R.all fewR=true:=by
    rw[List.all_eq_true]
    intro f hf
    obtain ⟨i,hi,rfl⟩:=List.getElem_of_mem hf
    have:=hkd i hi
    rwa [List.getD,gEe hi] at this
   rw[this,Bool.true_and]
   refine congrArg (fun b:Bool=>(db b:DV)) ?_
   rw[Bool.eq_iff_iff,dEt,dEt]
   omega
/-! Rules that are read. -/
abbrev rlShW:List AbW.Sh:=[.int .i64,.str,.str,.int .i64,.str,.int .i64,.int .i64,.int .i64,.own kidsP,.int .i64,.str,.int .i64,.int .i64,.int .i64,.own kidsP,.int .i64]
theorem rlW0:RlW rl0:=by
 have h1:ht rl0.am≤rl0.ma:=by decide
 have h2:wfE rl0.am:=by unfold rl0 ex0;simp[wfE,wfL]
 exact⟨by decide,by decide,h1,h2,h1,h2⟩
theorem rules_ofW {n:Nat} {f:Nat→DV} (hf:∀i,i<n→∃es,f i=.agg es∧AbW.Shs.dv rlShW es) :
  ∃R:List Rl,R.length=n∧(∀k v,DV.rel k (.slc 16 n f) v→DV.rel k (rlsD R) v)∧∀i,i<R.length→RlW (R.getD i rl0):=by
 obtain ⟨l,hl,hL⟩:=list_of (p:=fun i (x:{x:Rl // RlW x})=>f i=rlD x.1) ⟨rl0,rlW0⟩ (fun i hi=>by
  obtain ⟨es,h1,_,_,rfl,⟨kd,_,rfl⟩,_,_,rfl,⟨nm,hnm,rfl⟩,_,_,rfl,⟨gr,hgr,rfl⟩,hr⟩:=hf i hi
  obtain ⟨_,_,rfl,⟨k,_,rfl⟩,_,_,rfl,⟨s,hs,rfl⟩,_,_,rfl,⟨n,_,rfl⟩,_,_,rfl,⟨d,_,rfl⟩,_,_,rfl,⟨a,_,rfl⟩,_,_,rfl,⟨⟨l,m,hm,hw,hl,rfl⟩,_⟩,hr⟩:=hr
  obtain ⟨_,_,rfl,⟨k2,_,rfl⟩,_,_,rfl,⟨s2,hs2,rfl⟩,_,_,rfl,⟨n2,_,rfl⟩,_,_,rfl,⟨d2,_,rfl⟩,_,_,rfl,⟨a2,_,rfl⟩,_,_,rfl,⟨⟨l2,m2,hm2,hw2,hl2,rfl⟩,_⟩,hr⟩:=hr
  obtain ⟨_,_,rfl,⟨p,_,rfl⟩,rfl⟩:=hr
  exact⟨⟨⟨kd,nm,gr,.mk k s n d a l,.mk k2 s2 n2 d2 a2 l2,p,m,m2⟩,hnm,hgr,by rw[ht_eq];exact hm,⟨hs,hl,hw⟩,by rw[ht_eq];exact hm2,⟨hs2,hl2,hw2⟩⟩,h1⟩)
 subst hl
 have hg:∀i,i<l.length→(l.map (·.1)).getD i rl0=(l.getD i ⟨rl0,rlW0⟩).1:=fun i hi=>by
  rw[List.getD,List.getD,List.getElem?_map,gEe hi];rfl
 refine⟨l.map (·.1),List.length_map ..,fun k v h=>?_,fun i hi=>?_⟩
 ·unfold rlsD
  rw[List.length_map]
  refine DV.rel_slc_congr (fun i hi=>?_) h
  rw[hL i hi]
  unfold rlF
  rw[hg i hi]
 ·rw[List.length_map] at hi
  rw[hg i hi];exact(l.getD i _).2
end Go.Proofs
/- Rules one by one,plain: each is right alone,and with its condition negated. -/
namespace Go.Proofs
open Go Go.Ab Go.RowKit
set_option maxHeartbeats 1000000
theorem mem_sum:∀{l:List Nat} {n:Nat},n∈l→n≤l.sum
 | [],_,h=>by cases h
 | a :: l,n,h=>by
  rw[List.sum_cons]
  rcases List.mem_cons.1 h with rfl|h
  ·omega
  ·have:=mem_sum h;omega
theorem good_one {L:List Fc} {R:List Rl} (g:Good L R) {r:Rl} (hr:r∈R):Good L [r]:=by
 have hm:∀q∈[r],q=r:=fun q hq=>List.mem_singleton.1 hq
 refine⟨g.vf,by show 1≤32;decide,fun q hq=>by rw[hm q hq];exact g.rf r hr,?_,List.pairwise_singleton _ _,fun q hq q' hq'=>by rw[hm q hq,hm q' hq'];exact g.gr r hr r hr,fun q hq=>by rw[hm q hq];exact g.ok r hr⟩
 have h1:=g.sz
 rw[cat_all] at h1⊢
 have h2:szS [r]=(lnB r).size:=by unfold szS;simp
 have h3:(lnB r).size≤szS R:=by
  unfold szS
  exact mem_sum (List.mem_map.2 ⟨r,hr,rfl⟩)
 omega
def negX (x:Ex):Ex:=.mk 18 .empty 0 0 0 [x]
def negR (r:Rl):Rl:={ r with wh:=negX r.wh,mw:=r.mw+1 }
theorem negX_ht (x:Ex):ht (negX x)=ht x+1:=by unfold negX;simp[ht,htL]
theorem negX_nds (x:Ex):nds (negX x)=nds x+1:=by unfold negX;simp[nds,ndsL];omega
theorem negX_bv (F:List Ft) (x:Ex):bvE F (negX x)=(bvE F x).map (!·):=by
 rw[bvE_eq]
 show bvK F 18 .empty [x] (bvL F [x])=_
 unfold bvK
 rw[if_neg (by decide),if_neg (by decide),if_neg (by decide),if_pos rfl]
 show (match bvE F x with|none=>none|some p=>some (!p))=_
 cases bvE F x<;>rfl
theorem ls_neg {F:List Ft} {r:Rl}:lsR F (negR r)=match bvE F r.wh with
  | none=>⟨false,0,0,2⟩
  | some true=>⟨false,0,0,0⟩
  | some false=>match nuE F r.am with
   | none=>⟨false,0,0,2⟩
   | some p=>⟨true,p.1,p.2,0⟩:=by
 unfold lsR
 show (match (if (18:Int)=0 then some true else bvE F (negX r.wh)) with|none=>_|some false=>_|some true=>_)=_
 rw[if_neg (by decide),negX_bv]
 cases bvE F r.wh with
 | none=>rfl
 | some b=>cases b<;>rfl
theorem negX_snd {x:Ex} (h:sndE x=true):sndE (negX x)=true:=by
 rw[sndE_eq]
 show sndK 18 0 0 .empty 1 (sndL [x])=true
 have hl:sndL [x]=true:=by simp[sndL,h]
 rw[hl]
 decide
theorem negX_ty {l:List Fc} {ws:List ByteArray} {x:Ex} (h2:(tyE l ws x).2.2=0) (h1:(tyE l ws x).1=1):(tyE l ws (negX x)).1=1∧(tyE l ws (negX x)).2.2=0:=by
 rw[tyE_eq]
 show (tyC l ws 18 .empty 0 (tyL l ws [x]) _ _).1=1∧(tyC l ws 18 .empty 0 (tyL l ws [x]) _ _).2.2=0
 unfold tyC
 have e:tyL l ws [x]=[tyE l ws x]:=rfl
 rw[e]
 have eb:badR [tyE l ws x]=none:=by unfold badR;rw[if_neg (by rw[h2];decide)];rfl
 rw[eb]
 simp only[List.map_cons,List.map_nil,h1]
 have ea:∀a b:ByteArray,apK l ws 18 .empty [1] a b=(kxA [1] 1 1,kxE [1] 1):=fun a b=>by
  unfold apK
  rw[if_neg (by decide),if_neg (by decide),if_neg (by decide),if_neg (by decide),if_neg (by decide),if_neg (by decide),if_neg (by decide)]
 simp only[ea]
 decide
theorem good_neg {L:List Fc} {r:Rl} (g:Good L [r]) (hk:r.wh.k≠0) (hh:ht r.wh+1≤31) (hn:r.nm.size≤40) (hg:r.gr.size≤40) (na:nds r.am≤30) (nw:nds r.wh≤30):Good L [negR r]:=by
 have hm:∀q∈[negR r],q=negR r:=fun q hq=>List.mem_singleton.1 hq
 have hr:r∈[r]:=List.mem_singleton.2 rfl
 obtain ⟨ta,tw⟩:=good_type g hr
 have tw:=tw hk
 obtain ⟨_,asn,_,_⟩:=typ_sound (L:=L) (x:=r.am) (by rw[ta])
 obtain ⟨_,wsn,wty,wet⟩:=typ_sound (L:=L) (x:=r.wh) (by rw[tw])
 have wk:(tyW L r.wh).1=1:=by rw[wet] at tw;exact congrArg (·.1) tw
 have nsn:=negX_snd wsn
 have nsz:=fmt_small _ _ (Nat.le_refl _) nsn
 rw[negX_nds] at nsz
 have asz:=fmt_small _ _ (Nat.le_refl _) asn
 have hf:=g.rf r hr
 have hfit:fitE (negX r.wh)=true:=by
  unfold fitE
  simp only[bAt,dEt]
  exact⟨⟨nsn,by rw[negX_ht];omega⟩,by omega⟩
 have hrf:rfB (negR r)=true:=by
  unfold rfB at hf⊢
  simp only[bAt,Bool.or_eq_true] at hf⊢
  exact⟨hf.1,.inr hfit⟩
 have nty:=negX_ty (l:=revF L L.length) (ws:=revW L L.length) wty wk
 refine⟨g.vf,by show 1≤32;decide,fun q hq=>by rw[hm q hq];exact hrf,?_,List.pairwise_singleton _ _,fun q hq q' hq'=>by rw[hm q hq,hm q' hq'];exact g.gr r hr r hr,fun q hq=>?_⟩
 ·rw[cat_all]
  have h2:szS [negR r]=(lnB (negR r)).size:=by unfold szS;simp
  rw[h2]
  have hkd:∀i,(kdL.getD i .empty).size≤7:=fun i=>by
   rcases i with _|_|_|_|i
   ·decide
   ·decide
   ·decide
   ·decide
   ·show (0:Nat)≤7;decide
  have k0:=hkd (negR r).kind.toNat
  unfold lnB
  rw[if_neg (show (negR r).wh.k≠0 from by show (18:Int)≠0;decide)]
  have e1:(negR r).am=r.am:=rfl
  have e2:(negR r).wh=negX r.wh:=rfl
  have e3:(negR r).nm=r.nm:=rfl
  have e4:(negR r).gr=r.gr:=rfl
  have q1:(⟨#[32]⟩:ByteArray).size=1:=rfl
  have q2:(⟨#[58,32]⟩:ByteArray).size=2:=rfl
  have q3:(⟨#[32,105,102,32]⟩:ByteArray).size=4:=rfl
  have q4:(⟨#[59,10]⟩:ByteArray).size=2:=rfl
  have q5:(⟨#[32,105,110,32]⟩:ByteArray).size=4:=rfl
  have q6:(if (negR r).gr.size=0 then ByteArray.empty else ⟨#[32,105,110,32]⟩++(negR r).gr).size≤44:=by
   split
   ·show (0:Nat)≤44;decide
   ·rw[bSa,q5,e4];omega
  simp only[bSa,q1,q2,q3,q4,e1,e2,e3] at q6⊢
  omega
 ·rw[hm q hq]
  have ho:=g.ok r hr
  refine⟨ho.1,ho.2.1,.inr ?_⟩
  unfold xpC
  rw[if_neg (fun hh=>hh.2 nty.1)]
  exact nty.2
set_option maxHeartbeats 4000000
set_option maxRecDepth 100000
variable {G:IH}
/-! The law of ScoringLines. -/
noncomputable def d8 (R:List Rl) (F:List Ft) (L:List Fc) (s:DV) (v:Ft×Int):Oracle:=fun f a=>match f,a with
 | 10,[]=>some (db true)
 | 26,[_]=>some (db (fewRs R))
 | 27,[_]=>some (db (fewF L))
 | 28,[_]=>some (db (fewT F))
 | 29,[_,_,_]=>some s
 | 12,[_,_,_]=>some (.tup [ftD v.1,di v.2])
 | 32,[e]=>some (di ((ht (rdE e):Int)+1))
 | _,_=>none
noncomputable def orc8 (R:List Rl) (F:List Ft) (L:List Fc) (s:DV) (v:Ft×Int):Orc:={ d:=d8 R F L s v,rows:=fun n=>Nat.beq n 58||(Nat.beq n 176||Nat.beq n 171) }
noncomputable def S8l (F:List Ft) (L:List Fc) (R:List Rl) (k:Nat):AS:=⟨regs Tryz.f8.ntmps [(1,.d (ftsD F)),(2,.d (fcsD L)),(7,.d (.slc 7 R.length (lsF (revT F F.length) R))),(49,.d (rlsD R)),(50,vi R.length),(51,vi k)],[]⟩
noncomputable def S8m (F:List Ft) (L:List Fc) (R:List Rl) (k:Nat):AS:=⟨regs Tryz.f8.ntmps [(1,.d (ftsD F)),(2,.d (fcsD L)),(7,.d (.slc 7 R.length (lsF (revT F F.length) R))),(9,vi k),(10,.box 10 0),(49,.d (rlsD R)),(50,vi R.length),(51,vi k)],[(10,rlC (R.getD k rl0))]⟩
noncomputable def S8n (F:List Ft) (L:List Fc) (R:List Rl) (k:Nat) (v:Ft×Int):AS:=⟨regs Tryz.f8.ntmps [(1,.d (ftsD F)),(2,.d (fcsD L)),(7,.d (.slc 7 R.length (lsF (revT F F.length) R))),(9,vi k),(10,.box 10 0),(14,.d (di v.2)),(49,.d (rlsD R)),(50,vi R.length),(51,vi k)],[(10,rlC (R.getD k rl0))]⟩
theorem g29 {r:Rl} {F:List Ft} {L:List Fc} {res:DV} {f:Nat→DV} (hf:∀k v,DV.rel k (f 0) v→DV.rel k (rlD r) v) (h:FnOK Tryz.prog G 29 [rlsD [r],ftsD F,fcsD L] res):FnOK Tryz.prog G 29 [.slc 16 1 f,ftsD F,fcsD L] res:=
 h.args fun k us h=>DV.rels_cons (fun v hv=>rel_slc_imp (n:=1) (fun i hi v hv=>by
  obtain rfl:i=0:=by omega
  exact hf k v hv) hv) (fun _ h=>h) us h
theorem sc_one {F:List Ft} {L:List Fc} {R:List Rl} (h1:vaF F L=true) (hR:∀i,i<R.length→RlS (R.getD i rl0)) (g:Good L R):scE F L R=0:=by
 unfold scE;rw[if_pos h1];exact(ch_good hR).2 g
theorem ev_num {F:List Ft} {L:List Fc} {x:Ex} (h1:vaF F L=true) (h:typR L x=(0,0,0)):evR F L x=match nuE (revT F F.length) x with|some p=>({ ftK 0 with n:=p.1,d:=p.2 },0)|none=>(ft0,2):=by
 unfold evR
 rw[if_pos h1,if_pos (by rw[h]),h]
 unfold valE
 rw[if_pos rfl]
 cases nuE (revT F F.length) x<;>rfl
theorem ev_tr {F:List Ft} {L:List Fc} {x:Ex} (h1:vaF F L=true) (h:typR L x=(1,0,0)):evR F L x=match bvE (revT F F.length) x with|some b=>({ ftK 1 with tr:=b },0)|none=>(ft0,2):=by
 unfold evR
 rw[if_pos h1,if_pos (by rw[h]),h]
 unfold valE
 rw[if_neg (by decide),if_pos rfl]
 cases bvE (revT F F.length) x<;>rfl
theorem ls_ap {F:List Ft} {L:List Fc} {r:Rl} (h1:vaF F L=true) (h:typR L r.am=(0,0,0)) (ha:(lsR (revT F F.length) r).ap=true):(evR F L r.am).2=0∧(evR F L r.am).1.n=(lsR (revT F F.length) r).n∧(evR F L r.am).1.d=(lsR (revT F F.length) r).d∧(lsR (revT F F.length) r).e=0:=by
 rw[ev_num h1 h]
 unfold lsR at ha⊢
 cases hw:(if r.wh.k=0 then some true else bvE (revT F F.length) r.wh) with
 | none=>rw[hw] at ha;cases ha
 | some b=>
  rw[hw] at ha
  cases b with
  | false=>cases ha
  | true=>
   cases hn:nuE (revT F F.length) r.am with
   | none=>rw[hn] at ha;cases ha
   | some p=>exact⟨rfl,rfl,rfl,rfl⟩
theorem neg_rel {k:IH} {r:Rl} {f:Nat→DV} (hf:∀v,DV.rel k (f 0) v→DV.rel k (exD r.mw r.wh) v) {v:Value} (h:DV.rel k (.agg [di r.kind,ds r.nm,ds r.gr,di r.am.k,ds r.am.s,di r.am.n,di r.am.d,di r.am.pos,.slc 6 r.am.kids.length (lay (exG r.ma) r.am.kids),di 18,ds .empty,di 0,di 0,di 0,.slc 6 1 f,di r.pos]) v):DV.rel k (rlD (negR r)) v:=by
 obtain ⟨us,rfl,a1,u1,rfl,h1,a2,u2,rfl,h2,a3,u3,rfl,h3,a4,u4,rfl,h4,a5,u5,rfl,h5,a6,u6,rfl,h6,a7,u7,rfl,h7,a8,u8,rfl,h8,a9,u9,rfl,h9,a10,u10,rfl,h10,a11,u11,rfl,h11,a12,u12,rfl,h12,a13,u13,rfl,h13,a14,u14,rfl,h14,a15,u15,rfl,h15,a16,u16,rfl,h16,h0⟩:=h
 exact⟨_,rfl,a1,_,rfl,h1,a2,_,rfl,h2,a3,_,rfl,h3,a4,_,rfl,h4,a5,_,rfl,h5,a6,_,rfl,h6,a7,_,rfl,h7,a8,_,rfl,h8,a9,_,rfl,h9,a10,_,rfl,h10,a11,_,rfl,h11,a12,_,rfl,h12,a13,_,rfl,h13,a14,_,rfl,h14,a15,_,rfl,rel_slc_imp (n:=1) (f:=f) (fun i hi v hv=>by
  obtain rfl:i=0:=by omega
  exact hf v hv) h15,a16,_,rfl,h16,h0⟩
theorem ls_wh {F:List Ft} {L:List Fc} {r:Rl} (h1:vaF F L=true) (ha:typR L r.am=(0,0,0)) (hk:r.wh.k≠0) (hw:typR L r.wh=(1,0,0)) :
  (lsR (revT F F.length) r).ap=((evR F L r.wh).2==0&&(evR F L r.wh).1.tr&&(evR F L r.am).2==0)∧((lsR (revT F F.length) r).e != 0)=((evR F L r.wh).2 != 0||(evR F L r.wh).1.tr&&(evR F L r.am).2 != 0)∧
  (lsR (revT F F.length) (negR r)).ap=((evR F L r.wh).2==0&&!(evR F L r.wh).1.tr&&(evR F L r.am).2==0):=by
 rw[ev_num h1 ha,ev_tr h1 hw,ls_neg]
 unfold lsR
 rw[if_neg hk]
 cases bvE (revT F F.length) r.wh with
 | none=>exact⟨rfl,rfl,rfl⟩
 | some b=>
  cases b<;>cases nuE (revT F F.length) r.am<;>exact⟨rfl,rfl,rfl⟩
abbrev lsT (F:List Ft) (r:Rl):DV:=.tup [.slc 7 1 (lsF F [r]),di 0]
theorem f8 (hT:Tab G) (R:List Rl) (F:List Ft) (L:List Fc) (hl:L.length≤9223372036854775807) (hlF:F.length≤9223372036854775807) (hlR:R.length≤9223372036854775807) (hw2:∀i,i<L.length→FcW (L.getD i fc0)) (hw3:∀i,i<R.length→RlW (R.getD i rl0)) :
  FnOK Tryz.prog G 8 [rlsD R,ftsD F,fcsD L] (db true):=by
 by_cases hfew:fewRs R=true∧fewF L=true∧fewT F=true
 ·obtain ⟨q1,q2,q3⟩:=hfew
  obtain ⟨hfc,hll⟩:=fcs_of_few q2
  have hlf:F.length≤16:=by
   unfold fewT at q3
   simp only[bAt,dEt] at q3;exact q3.2
  have hR:(∀i,i<R.length→RlS (R.getD i rl0))∧R.length≤8:=by
   unfold fewRs at q1
   simp only[bAt,dEt] at q1
   exact⟨fun i hi=>rls_few (hw3 i hi) (List.all_eq_true.1 q1.1 _ (getD_mem (x0:=rl0) hi)),q1.2⟩
  obtain ⟨a1,a2⟩:=f29 (G:=G) hT F L R hfc (by omega) (by omega) hR.1 (by have:=hR.2;omega)
  by_cases he:scE F L R=0
  ·have h1:vaF F L=true:=by
    unfold scE at he
    by_cases hh:vaF F L=true
    ·exact hh
    ·rw[if_neg hh] at he;cases he
   have h2:(chR L R).2=0:=by unfold scE at he;rwa [if_pos h1] at he
   have hg:=(ch_good hR.1).1 h2
   refine FnOK.walkK (orc:=orc8 R F L (.tup [.slc 7 R.length (lsF (revT F F.length) R),di 0]) (ft0,0)) (keep:=[]) follows Tryz.func8 rfl Tryz.call8 ?_
   refine of_tr (fun ZT ZW ZQ ZK=>(ZK 10 [] (db true)∧((false=true)→(((db false):DV)=(db true)))∧((false=false)→((ZK 26 [(.slc 16 R.length (rlF R))] (db (fewRs R))∧(((!!fewRs R)=true)→ZK 27 [(.slc 7 L.length (fcF L))] (db (fewF L)))∧(((!(!fewRs R||!fewF L))=true)→ZK 28 [(.slc 6 F.length (ftF F))] (db (fewT F))))∧(((!fewRs R||!fewF L||!fewT F)=true)→(ZS ((db true):DV)))∧(((!fewRs R||!fewF L||!fewT F)=false)→(ZK 29 [(.slc 16 R.length (rlF R)),(.slc 6 F.length (ftF F)),(.slc 7 L.length (fcF L))] (.tup [(.slc 7 R.length (lsF (revT F F.length) R)),(di 0)])∧((false=true)→(((db ((↑R.length:Int)==0)):DV)=(db true)))∧((false=false)→(((((↑R.length:Int) != ↑R.length)=true)→(((db false):DV)=(db true)))∧((((↑R.length:Int) != ↑R.length)=false)→ZW [cd Tryz.f8 [1,1,1,1,1,1,0,1,0],(.blk 0),cd Tryz.f8 [1,1,1,1,1,1,1]] (stS ZT [1,1,1,1]) ZQ))))))))) (by kernel_rfl) ?_
   refine⟨f10 hT,fun h=>Bool.noConfusion h,fun _=>⟨⟨f26 R hlR hw3,fun _=>f27 L hl hw2,fun _=>f28 F hlF⟩,fun _=>rfl,fun _=>⟨a1 he,fun h=>Bool.noConfusion h,fun _=>⟨fun h=>absurd rfl (bne_iff_ne.1 h),fun _=>?_⟩⟩⟩⟩
   refine AWP.loop (c:=cAt (bodyOf Tryz.f8) [1,1,1,1,1,1,0,1,0,0]) (by kernel_rfl) (S8l F L R) (fun k=>k≤R.length) (fun k=>R.length-k) 0 ?_ (Nat.zero_le _) ?_
   ·exact AS.leA (by kernel_rfl)
   ·intro k hk
    by_cases hk2:k<R.length
    ·refine walkK (orc:=orc8 R F L (lsT (revT F F.length) (R.getD k rl0)) (ft0,0)) (keep:=[]) (cuts:=[16]) (n:=1000) follows ?_
     refine of_rd (fun ZT ZW ZQ ZK _ ZR=>(fun Za=>((((decide ((↑k:Int)<↑R.length))=true)→(((0≤(↑k:Int))∧((↑k:Int)<↑R.length))∧ZK 29 [(.slc 16 1 (fun i=>elemF true 16 [DV.con (Value.int IntKind.i64 (R.getD (↑k:Int).toNat rl0).kind),DV.con (Value.string (R.getD (↑k:Int).toNat rl0).nm),DV.con (Value.string (R.getD (↑k:Int).toNat rl0).gr),DV.con (Value.int IntKind.i64 (R.getD (↑k:Int).toNat rl0).am.k),DV.con (Value.string (R.getD (↑k:Int).toNat rl0).am.s),DV.con (Value.int IntKind.i64 (R.getD (↑k:Int).toNat rl0).am.n),DV.con (Value.int IntKind.i64 (R.getD (↑k:Int).toNat rl0).am.d),DV.con (Value.int IntKind.i64 (R.getD (↑k:Int).toNat rl0).am.pos),DV.slc 6 (R.getD (↑k:Int).toNat rl0).am.kids.length (lay (exG (R.getD (↑k:Int).toNat rl0).ma) (R.getD (↑k:Int).toNat rl0).am.kids),DV.con (Value.int IntKind.i64 (R.getD (↑k:Int).toNat rl0).wh.k),DV.con (Value.string (R.getD (↑k:Int).toNat rl0).wh.s),DV.con (Value.int IntKind.i64 (R.getD (↑k:Int).toNat rl0).wh.n),DV.con (Value.int IntKind.i64 (R.getD (↑k:Int).toNat rl0).wh.d),DV.con (Value.int IntKind.i64 (R.getD (↑k:Int).toNat rl0).wh.pos),DV.slc 6 (R.getD (↑k:Int).toNat rl0).wh.kids.length (lay (exG (R.getD (↑k:Int).toNat rl0).mw) (R.getD (↑k:Int).toNat rl0).wh.kids),DV.con (Value.int IntKind.i64 (R.getD (↑k:Int).toNat rl0).pos)] (0+i))),(.slc 6 F.length (ftF F)),(.slc 7 L.length (fcF L))] (.tup [(.slc 7 1 (lsF (revT F F.length) [R.getD k rl0])),(di 0)])∧(((true=true)→(((0:Int)≤(0:Int))∧(0<(↑1:Int))))∧((true=true)→((0≤(↑k:Int))∧((↑k:Int)<↑R.length))))∧((Za=true)→(((db false):DV)=(db true)))∧((Za=false)→ZW [cd Tryz.f8 [1,1,1,1,1,1,0,1,0,0,1,1,0,0,1,1,1],(.blk 1),cd Tryz.f8 [1,1,1,1,1,1,0,1,0,0,1,1,1]] (stS ZT [0,1]) ZR)))∧(((decide ((↑k:Int)<↑R.length))=false)→ZW [cd Tryz.f8 [1,1,1,1,1,1,1]] (stS ZT [1]) ZQ))) ((0:Int) != (0:Int)||(↑(1:Nat):Int) != (1:Int)||!Bool.rec false (ByteArray.toList (Rl.gr (List.getD [List.getD R k rl0] (Int.toNat (0:Int)) rl0))==ByteArray.toList (Rl.gr (List.getD R (Int.toNat (↑k:Int)) rl0))&&(Rl.kind (List.getD [List.getD R k rl0] (Int.toNat (0:Int)) rl0)==Rl.kind (List.getD R (Int.toNat (↑k:Int)) rl0)&&(Ls.ap (lsR (revT F (List.length F)) (List.getD [List.getD R k rl0] (Int.toNat (0:Int)) rl0))==Ls.ap (lsR (revT F (List.length F)) (List.getD R (Int.toNat (↑k:Int)) rl0))&&(Ls.n (lsR (revT F (List.length F)) (List.getD [List.getD R k rl0] (Int.toNat (0:Int)) rl0))==Ls.n (lsR (revT F (List.length F)) (List.getD R (Int.toNat (↑k:Int)) rl0))&&Ls.d (lsR (revT F (List.length F)) (List.getD [List.getD R k rl0] (Int.toNat (0:Int)) rl0))==Ls.d (lsR (revT F (List.length F)) (List.getD R (Int.toNat (↑k:Int)) rl0))&&Ls.e (lsR (revT F (List.length F)) (List.getD [List.getD R k rl0] (Int.toNat (0:Int)) rl0))==Ls.e (lsR (revT F (List.length F)) (List.getD R (Int.toNat (↑k:Int)) rl0)))))) (ByteArray.toList (Rl.nm (List.getD [List.getD R k rl0] (Int.toNat (0:Int)) rl0))==ByteArray.toList (Rl.nm (List.getD R (Int.toNat (↑k:Int)) rl0))))) (by kernel_rfl) ?_
     have hm:R.getD k rl0∈R:=getD_mem (x0:=rl0) hk2
     have hrs:=hR.1 k hk2
     have go:=good_one hg hm
     have hR1:∀i,i < [R.getD k rl0].length→RlS ([R.getD k rl0].getD i rl0):=fun i hi=>by
      obtain rfl:i=0:=by simpa using hi
      exact hrs
     have b1:=(f29 (G:=G) hT F L [R.getD k rl0] hfc (by omega) (by omega) hR1 (by show 1≤1000;decide)).1 (sc_one h1 hR1 go)
     refine⟨fun _=>⟨⟨by omega,by omega⟩,g29 (fun k v hv=>hv) b1,⟨fun _=>⟨by omega,by omega⟩,fun _=>⟨by omega,by omega⟩⟩,fun c=>?_,fun _=>?_⟩,fun h=>absurd (of_decide_eq_false h) (by omega)⟩
     ·exfalso;revert c
      simp[brec]
     refine AWP.weaken (st':=S8m F L R k) ?_ ?_
     ·refine AS.leZ [] [0] (b:=((T0∧T0∧T0∧T0∧T0∧T0∧T0∧T0∧True)∧((some [(vi (R.getD (↑k:Int).toNat rl0).kind),(vs (R.getD (↑k:Int).toNat rl0).nm),(vs (R.getD (↑k:Int).toNat rl0).gr),(vi (R.getD (↑k:Int).toNat rl0).am.k),(vs (R.getD (↑k:Int).toNat rl0).am.s),(vi (R.getD (↑k:Int).toNat rl0).am.n),(vi (R.getD (↑k:Int).toNat rl0).am.d),(vi (R.getD (↑k:Int).toNat rl0).am.pos),(.d (.slc 6 (R.getD (↑k:Int).toNat rl0).am.kids.length (lay (exG (R.getD (↑k:Int).toNat rl0).ma) (R.getD (↑k:Int).toNat rl0).am.kids))),(vi (R.getD (↑k:Int).toNat rl0).wh.k),(vs (R.getD (↑k:Int).toNat rl0).wh.s),(vi (R.getD (↑k:Int).toNat rl0).wh.n),(vi (R.getD (↑k:Int).toNat rl0).wh.d),(vi (R.getD (↑k:Int).toNat rl0).wh.pos),(.d (.slc 6 (R.getD (↑k:Int).toNat rl0).wh.kids.length (lay (exG (R.getD (↑k:Int).toNat rl0).mw) (R.getD (↑k:Int).toNat rl0).wh.kids))),(vi (R.getD (↑k:Int).toNat rl0).pos)]):(Option (List AV)))=(some [(vi (R.getD k rl0).kind),(vs (R.getD k rl0).nm),(vs (R.getD k rl0).gr),(vi (R.getD k rl0).am.k),(vs (R.getD k rl0).am.s),(vi (R.getD k rl0).am.n),(vi (R.getD k rl0).am.d),(vi (R.getD k rl0).am.pos),(.d (.slc 6 (R.getD k rl0).am.kids.length (lay (exG (R.getD k rl0).ma) (R.getD k rl0).am.kids))),(vi (R.getD k rl0).wh.k),(vs (R.getD k rl0).wh.s),(vi (R.getD k rl0).wh.n),(vi (R.getD k rl0).wh.d),(vi (R.getD k rl0).wh.pos),(.d (.slc 6 (R.getD k rl0).wh.kids.length (lay (exG (R.getD k rl0).mw) (R.getD k rl0).wh.kids))),(vi (R.getD k rl0).pos)])∧True)) (by kernel_rfl) (by kernel_rfl) ?_
      exact⟨⟨rfl,rfl,rfl,rfl,rfl,rfl,rfl,rfl,trivial⟩,rfl,trivial⟩
     clear b1
     obtain ⟨ta,tw⟩:=good_type hg hm
     refine walkK (orc:=orc8 R F L (.tup []) (evR F L (R.getD k rl0).am)) (keep:=[]) (cuts:=[19]) (n:=1000) follows ?_
     refine of_rd (fun ZT ZW _ ZK _ ZR=>(fun Za=>(ZK 12 [(ndX (R.getD k rl0).ma (R.getD k rl0).am),(.slc 6 F.length (ftF F)),(.slc 7 L.length (fcF L))] (.tup [(.agg [(ds (evR F L (R.getD k rl0).am).fst.nm),(di (evR F L (R.getD k rl0).am).fst.kind),(di (evR F L (R.getD k rl0).am).fst.n),(di (evR F L (R.getD k rl0).am).fst.d),(db (evR F L (R.getD k rl0).am).fst.tr),(ds (evR F L (R.getD k rl0).am).fst.wd)]),(di (evR F L (R.getD k rl0).am).snd)])∧(((0≤(↑k:Int))∧((↑k:Int)<↑R.length))∧(((Za.ap&&!(evR F L (R.getD k rl0).am).snd != 0)=true)→((0≤(↑k:Int))∧((↑k:Int)<↑R.length)))∧(((Za.ap&&!((evR F L (R.getD k rl0).am).snd != 0||!Bool.rec false ((evR F L (R.getD k rl0).am).fst.d==Za.d) ((evR F L (R.getD k rl0).am).fst.n==Za.n)))=true)→((0≤(↑k:Int))∧((↑k:Int)<↑R.length))))∧(((Za.ap&&((evR F L (R.getD k rl0).am).snd != 0||!Bool.rec false ((evR F L (R.getD k rl0).am).fst.d==Za.d) ((evR F L (R.getD k rl0).am).fst.n==Za.n)||Za.e != 0))=true)→(((db false):DV)=(db true)))∧(((Za.ap&&((evR F L (R.getD k rl0).am).snd != 0||!Bool.rec false ((evR F L (R.getD k rl0).am).fst.d==Za.d) ((evR F L (R.getD k rl0).am).fst.n==Za.n)||Za.e != 0))=false)→ZW [cd Tryz.f8 [1,1,1,1,1,1,0,1,0,0,1,1,0,0,1,1,1,1,1,0],cd Tryz.f8 [1,1,1,1,1,1,0,1,0,0,1,1,0,0,1,1,1,1,1,1],(.blk 1),cd Tryz.f8 [1,1,1,1,1,1,0,1,0,0,1,1,1]] (stS ZT [1]) ZR))) (lsR (revT F F.length) (R.getD (↑k:Int).toNat rl0))) (by kernel_rfl) ?_
     simp only[iTn]
     refine⟨f12 hT F L hfc (by omega) (by omega) _ _ hrs.ha hrs.am,⟨⟨by omega,by omega⟩,fun _=>⟨by omega,by omega⟩,fun _=>⟨by omega,by omega⟩⟩,fun c=>?_,fun _=>?_⟩
     ·exfalso
      rw[bAt] at c
      obtain ⟨c1,c2,c3,c4⟩:=ls_ap h1 ta c.1
      have c5:=c.2
      rw[c1,c2,c3,c4] at c5
      revert c5;simp[brec]
     refine AWP.weaken (st':=S8n F L R k (evR F L (R.getD k rl0).am)) ?_ ?_
     ·exact AS.leA (by kernel_rfl)
     refine walkK (orc:=orc8 R F L (.tup []) (evR F L (R.getD k rl0).wh)) (keep:=[]) (cuts:=[24]) (n:=1000) follows ?_
     refine of_rd (fun ZT ZW _ ZK ZA ZR=>(fun Za Zb=>((((!(R.getD k rl0).wh.k==0)=true)→ZK 32 [Zb] (di (↑(ht (rdE Zb))+1)))∧((((R.getD k rl0).wh.k==0||decide ((↑(ht (rdE Zb)):Int)+1≥32))=true)→((I64 (↑k+1))∧(ZA (stS ZT [0]))))∧((((R.getD k rl0).wh.k==0||decide ((↑(ht (rdE Zb)):Int)+1≥32))=false)→(ZK 12 [Zb,(.slc 6 F.length (ftF F)),(.slc 7 L.length (fcF L))] (.tup [(.agg [(ds (evR F L (R.getD k rl0).wh).fst.nm),(di (evR F L (R.getD k rl0).wh).fst.kind),(di (evR F L (R.getD k rl0).wh).fst.n),(di (evR F L (R.getD k rl0).wh).fst.d),(db (evR F L (R.getD k rl0).wh).fst.tr),(ds (evR F L (R.getD k rl0).wh).fst.wd)]),(di (evR F L (R.getD k rl0).wh).snd)])∧(((0≤(↑k:Int))∧((↑k:Int)<↑R.length))∧(((!!(lsR (revT F F.length) (R.getD (↑k:Int).toNat rl0)).ap==((evR F L (R.getD k rl0).wh).snd==0&&(evR F L (R.getD k rl0).wh).fst.tr&&(evR F L (R.getD k rl0).am).snd==0))=true)→((0≤(↑k:Int))∧((↑k:Int)<↑R.length))))∧((Za=true)→(((db false):DV)=(db true)))∧((Za=false)→ZW [cd Tryz.f8 [1,1,1,1,1,1,0,1,0,0,1,1,0,0,1,1,1,1,1,1,1,1,1],(.blk 1),cd Tryz.f8 [1,1,1,1,1,1,0,1,0,0,1,1,1]] (stS ZT [1,1]) ZR))))) (!(lsR (revT F F.length) (R.getD (↑k:Int).toNat rl0)).ap==((evR F L (R.getD k rl0).wh).snd==0&&(evR F L (R.getD k rl0).wh).fst.tr&&(evR F L (R.getD k rl0).am).snd==0)||!((lsR (revT F F.length) (R.getD (↑k:Int).toNat rl0)).e != 0)==((evR F L (R.getD k rl0).wh).snd != 0||(evR F L (R.getD k rl0).wh).fst.tr&&(evR F L (R.getD k rl0).am).snd != 0)) (ndX (R.getD k rl0).mw (R.getD k rl0).wh)) (by kernel_rfl) ?_
     have e2:rdE (ndX (R.getD k rl0).mw (R.getD k rl0).wh)=(R.getD k rl0).wh:=rdE_eq hrs.hw
     simp only[iTn,e2]
     refine⟨fun _=>f32 _ _ hrs.hw hrs.wh,fun _=>⟨⟨by omega,by omega⟩,Again.mk (k+1) ?_ hk2 (by omega)⟩,fun c=>?_⟩
     ·exact AS.leA (by kernel_rfl)
     have hc:(R.getD k rl0).wh.k≠0∧ht (R.getD k rl0).wh+1≤31:=by
      rw[Bool.or_eq_false_iff,decide_eq_false_iff_not] at c
      exact⟨beq_eq_false_iff_ne.1 c.1,by have:=c.2;omega⟩
     have tw:=tw hc.1
     obtain ⟨w1,w2,w3⟩:=ls_wh h1 ta hc.1 tw
     refine⟨f12 hT F L hfc (by omega) (by omega) _ _ hrs.hw hrs.wh,⟨⟨by omega,by omega⟩,fun _=>⟨by omega,by omega⟩⟩,fun c=>?_,fun _=>?_⟩
     ·exfalso
      rw[w1,w2,beq_self_eq_true,beq_self_eq_true] at c
      cases c
     refine AWP.freeze (agg:=exRK) (sz:=6) (f:=elemF true 6 [di (R.getD k rl0).wh.k,ds (R.getD k rl0).wh.s,di (R.getD k rl0).wh.n,di (R.getD k rl0).wh.d,di (R.getD k rl0).wh.pos,.slc 6 (R.getD k rl0).wh.kids.length (lay (exG (R.getD k rl0).mw) (R.getD k rl0).wh.kids)]) 171 (by kernel_rfl) ?_
     refine walkK (orc:=orc8 R F L (lsT (revT F F.length) (negR (R.getD k rl0))) (ft0,0)) (keep:=[]) (cuts:=[]) (n:=1000) follows ?_
     refine of_rd (fun ZT _ _ ZK ZA _=>(fun Za=>(ZK 29 [(.slc 16 1 (fun i=>elemF true 16 [DV.con (Value.int IntKind.i64 (R.getD k rl0).kind),DV.con (Value.string (R.getD k rl0).nm),DV.con (Value.string (R.getD k rl0).gr),DV.con (Value.int IntKind.i64 (R.getD k rl0).am.k),DV.con (Value.string (R.getD k rl0).am.s),DV.con (Value.int IntKind.i64 (R.getD k rl0).am.n),DV.con (Value.int IntKind.i64 (R.getD k rl0).am.d),DV.con (Value.int IntKind.i64 (R.getD k rl0).am.pos),DV.slc 6 (R.getD k rl0).am.kids.length (lay (exG (R.getD k rl0).ma) (R.getD k rl0).am.kids),di 18,ds (ByteArray.mk #[]),di 0,di 0,di 0,DV.slc 6 1 fun i=>elemF true 6 [DV.con (Value.int IntKind.i64 (R.getD k rl0).wh.k),DV.con (Value.string (R.getD k rl0).wh.s),DV.con (Value.int IntKind.i64 (R.getD k rl0).wh.n),DV.con (Value.int IntKind.i64 (R.getD k rl0).wh.d),DV.con (Value.int IntKind.i64 (R.getD k rl0).wh.pos),DV.slc 6 (R.getD k rl0).wh.kids.length (lay (exG (R.getD k rl0).mw) (R.getD k rl0).wh.kids)] (0+i),DV.con (Value.int IntKind.i64 (R.getD k rl0).pos)] (0+i))),(.slc 6 F.length (ftF F)),(.slc 7 L.length (fcF L))] (.tup [(.slc 7 1 (lsF (revT F F.length) [negR (R.getD k rl0)])),(di 0)])∧((true=true)→(((0:Int)≤(0:Int))∧(0<(↑1:Int))))∧((Za=true)→(((db false):DV)=(db true)))∧((Za=false)→((I64 (↑k+1))∧(ZA (stS ZT [1])))))) ((0:Int) != (0:Int)||(↑(1:Nat):Int) != (1:Int)||!Ls.ap (lsR (revT F (List.length F)) (List.getD [negR (List.getD R k rl0)] (Int.toNat (0:Int)) rl0))==(Prod.snd (evR F L (Rl.wh (List.getD R k rl0)))==(0:Int)&&!Ft.tr (Prod.fst (evR F L (Rl.wh (List.getD R k rl0))))&&Prod.snd (evR F L (Rl.am (List.getD R k rl0)))==(0:Int)))) (by kernel_rfl) ?_
     have hfk:fewR (R.getD k rl0)=true:=by
      unfold fewRs at q1
      simp only[bAt] at q1
      exact List.all_eq_true.1 q1.1 _ hm
     have hwk:=hw3 k hk2
     unfold fewR at hfk
     simp only[bAt,dEt] at hfk
     have n1:=few_nds (by omega) _ hwk.am hfk.1.2
     have n2:=few_nds (by omega) _ hwk.wh hfk.2
     have gn:=good_neg go hc.1 hc.2 hfk.1.1.1 hfk.1.1.2 (by omega) (by omega)
     have hRn:∀i,i < [negR (R.getD k rl0)].length→RlS ([negR (R.getD k rl0)].getD i rl0):=fun i hi=>by
      obtain rfl:i=0:=by simpa using hi
      refine⟨hrs.nm,hrs.gr,hrs.ha,hrs.am,?_,⟨?_,?_⟩⟩
      ·show ht (negX (R.getD k rl0).wh)≤(R.getD k rl0).mw+1
       rw[negX_ht];have:=hrs.hw;omega
      ·show nds (negX (R.getD k rl0).wh)≤1000
       rw[negX_nds];omega
      ·show txE (negX (R.getD k rl0).wh)
       exact⟨by decide,hrs.wh.tx,trivial⟩
     have bn:=(f29 (G:=G) hT F L [negR (R.getD k rl0)] hfc (by omega) (by omega) hRn (by show 1≤1000;decide)).1 (sc_one h1 hRn gn)
     refine⟨g29 (fun k v hv=>neg_rel (fun v hv=>hv) hv) bn,fun _=>⟨by omega,by omega⟩,fun c=>?_,fun _=>⟨⟨by omega,by omega⟩,Again.mk (k+1) ?_ hk2 (by omega)⟩⟩
     ·exfalso;revert c
      have w4:(lsR (revT F F.length) ([negR (R.getD k rl0)].getD (Int.toNat 0) rl0)).ap=_:=w3
      rw[w4];simp
     ·exact AS.leA (by kernel_rfl)
    ·obtain rfl:k=R.length:=by omega
     refine walkK (orc:=orc8 R F L (lsT (revT F F.length) rl0) (ft0,0)) (keep:=[]) (cuts:=[12]) (n:=1000) follows ?_
     refine of_rd (fun ZT ZW ZQ _ _ ZR=>((((decide ((↑R.length:Int)<↑R.length))=true)→ZW [cd Tryz.f8 [1,1,1,1,1,1,0,1,0,0,1,1,0,0],(.blk 1),cd Tryz.f8 [1,1,1,1,1,1,0,1,0,0,1,1,1]] (stS ZT [0]) ZR)∧(((decide ((↑R.length:Int)<↑R.length))=false)→ZW [cd Tryz.f8 [1,1,1,1,1,1,1]] (stS ZT [1]) ZQ))) (by kernel_rfl) ?_
     refine⟨fun h=>absurd (oDt h) (by omega),fun _=>?_⟩
     refine walkK (orc:=orc8 R F L (lsT (revT F F.length) rl0) (ft0,0)) (keep:=[]) (cuts:=[]) (n:=1000) follows ?_
     refine of_tr (fun _ _ _ _=>(ZS ((db true):DV))) (by kernel_rfl) ?_
     rfl
  ·refine FnOK.walkK (orc:=orc8 R F L (.tup [.con (.slice none 0 0),di (scE F L R)]) (ft0,0)) (keep:=[]) follows Tryz.func8 rfl Tryz.call8 ?_
   refine of_tr (fun ZT ZW ZQ ZK=>(ZK 10 [] (db true)∧((false=true)→(((db false):DV)=(db true)))∧((false=false)→((ZK 26 [(.slc 16 R.length (rlF R))] (db (fewRs R))∧(((!!fewRs R)=true)→ZK 27 [(.slc 7 L.length (fcF L))] (db (fewF L)))∧(((!(!fewRs R||!fewF L))=true)→ZK 28 [(.slc 6 F.length (ftF F))] (db (fewT F))))∧(((!fewRs R||!fewF L||!fewT F)=true)→(ZS ((db true):DV)))∧(((!fewRs R||!fewF L||!fewT F)=false)→(ZK 29 [(.slc 16 R.length (rlF R)),(.slc 6 F.length (ftF F)),(.slc 7 L.length (fcF L))] (.tup [(.con (.slice none 0 0)),(di (scE F L R))])∧(((scE F L R != 0)=true)→(ZS ((db true):DV)))∧(((scE F L R != 0)=false)→(((((↑0:Int) != ↑R.length)=true)→(((db false):DV)=(db true)))∧((((↑0:Int) != ↑R.length)=false)→ZW [cd Tryz.f8 [1,1,1,1,1,1,0,1,0],(.blk 0),cd Tryz.f8 [1,1,1,1,1,1,1]] (stS ZT [1,1,1,1]) ZQ))))))))) (by kernel_rfl) ?_
   refine⟨f10 hT,fun h=>Bool.noConfusion h,fun _=>⟨⟨f26 R hlR hw3,fun _=>f27 L hl hw2,fun _=>f28 F hlF⟩,fun _=>rfl,fun h=>⟨a2 he,fun _=>rfl,fun c=>absurd (by simpa using c) he⟩⟩⟩
 ·refine FnOK.walkK (orc:=orc8 R F L (.tup [.con (.slice none 0 0),di (scE F L R)]) (ft0,0)) (keep:=[]) follows Tryz.func8 rfl Tryz.call8 ?_
  refine of_tr (fun ZT ZW ZQ ZK=>(ZK 10 [] (db true)∧((false=true)→(((db false):DV)=(db true)))∧((false=false)→((ZK 26 [(.slc 16 R.length (rlF R))] (db (fewRs R))∧(((!!fewRs R)=true)→ZK 27 [(.slc 7 L.length (fcF L))] (db (fewF L)))∧(((!(!fewRs R||!fewF L))=true)→ZK 28 [(.slc 6 F.length (ftF F))] (db (fewT F))))∧(((!fewRs R||!fewF L||!fewT F)=true)→(ZS ((db true):DV)))∧(((!fewRs R||!fewF L||!fewT F)=false)→(ZK 29 [(.slc 16 R.length (rlF R)),(.slc 6 F.length (ftF F)),(.slc 7 L.length (fcF L))] (.tup [(.con (.slice none 0 0)),(di (scE F L R))])∧(((scE F L R != 0)=true)→(ZS ((db true):DV)))∧(((scE F L R != 0)=false)→(((((↑0:Int) != ↑R.length)=true)→(((db false):DV)=(db true)))∧((((↑0:Int) != ↑R.length)=false)→ZW [cd Tryz.f8 [1,1,1,1,1,1,0,1,0],(.blk 0),cd Tryz.f8 [1,1,1,1,1,1,1]] (stS ZT [1,1,1,1]) ZQ))))))))) (by kernel_rfl) ?_
  refine⟨f10 hT,fun h=>Bool.noConfusion h,fun _=>⟨⟨f26 R hlR hw3,fun _=>f27 L hl hw2,fun _=>f28 F hlF⟩,fun _=>rfl,fun h=>?_⟩⟩
  refine absurd ?_ hfew
  revert h;cases fewRs R<;>cases fewF L<;>cases fewT F<;>simp
end Go.Proofs
