import Derived.Test.YtellpkieoccljaaGreatDoorAcD
import Derived.Test.YtellpkieoccljaaGreatDoorG5
set_option autoImplicit false
namespace Go.Proofs
open Go Go.Ab Go.RowKit
set_option maxHeartbeats 4000000
set_option maxRecDepth 100000
variable {G:IH}
/-! A trend,seen with the sign of an expression. -/
/-! Bounds. -/
/-! The trend of an expression. -/
section
variable {k:Int} {R:List Int} {b0 b1:BR}
end
theorem FnOK.res {P:Program} {f:FuncId} {xs:List DV} {r r':DV} (h:FnOK P G f xs r) (hr:∀k v,r.rel k v→r'.rel k v):FnOK P G f xs r':=
 ⟨h.1,fun w k us hG hw hu=>(h.2 w k us hG hw hu).mono fun _ _ ⟨v,h',e,hv,rest⟩=>⟨v,h',e,hr h' v hv,rest⟩⟩
/-! Trend,and names that occur. -/
/-! Names. -/
end Go.Proofs
/- Valid descriptions,plain. -/
namespace Go.Proofs
open Go Go.Ab Go.RowKit
set_option maxHeartbeats 4000000
theorem kstr (a b:ByteArray):keyEq (.string a) (.string b)=decide (a=b):=rfl
theorem fH_list (l:List Fc) (s:ByteArray):fH l (.string s)=true↔∃f∈l,f.name=s:=by
 induction l with
 | nil=>simp[fH]
 | cons x l ih=>
  simp only[fH,kstr,Bool.or_eq_true,dEt,ih,List.mem_cons]
  constructor
  ·rintro (rfl|⟨f,h,e⟩)
   ·exact⟨x,.inl rfl,rfl⟩
   ·exact⟨f,.inr h,e⟩
  ·rintro ⟨f,rfl|h,e⟩
   ·exact .inl e.symm
   ·exact .inr ⟨f,h,e⟩
theorem fM_list {l:List Fc} (hn:(l.map (·.name)).Nodup) {f:Fc} (hf:f∈l):fM l (.string f.name)=f:=by
 induction l with
 | nil=>simp at hf
 | cons x l ih=>
  rw[List.map_cons,List.nodup_cons] at hn
  unfold fM
  rw[kstr]
  rcases List.mem_cons.1 hf with rfl|hf
  ·rw[decide_eq_true rfl];rfl
  ·rw[decide_eq_false (fun e=>hn.1 (List.mem_map.2 ⟨f,hf,e⟩))]
   exact ih hn.2 hf
theorem wL_list (l:List ByteArray) (s:ByteArray):wL l (.string s)=true↔s∈l:=by
 induction l with
 | nil=>simp[wL]
 | cons x l ih=>simp only[wL,kstr,Bool.or_eq_true,dEt,ih,List.mem_cons]
theorem revF_all (L:List Fc):revF L L.length=L.reverse:=by unfold revF;rw[List.take_length]
theorem fH_iff {L:List Fc} {s:ByteArray}:fH (revF L L.length) (.string s)=true↔∃f∈L,f.name=s:=by
 rw[revF_all,fH_list];simp only[List.mem_reverse]
theorem wL_iff {L:List Fc} {s:ByteArray}:wL (revW L L.length) (.string s)=true↔∃f∈L,s∈f.words:=by
 rw[wL_list];unfold revW;rw[List.take_length,List.mem_reverse,List.mem_flatMap]
structure VF (L:List Fc):Prop where
 nd:(L.map (·.name)).Nodup
 ds:∀f∈L,dscB f=true
 wd:∀f∈L,∀s∈f.words,∀g∈L,g.name≠s
theorem vf_of {L:List Fc} (h:vfB L=true):VF L:=by
 unfold vfB ndB namesL at h
 simp only[bAt,dEt,Bool.not_eq_true',List.any_eq_false] at h
 refine⟨h.1.2,fun f hf=>?_,fun f hf s hs g hg e=>?_⟩
 ·have:=h.2 f hf
  unfold badB at this
  simp only[Bool.or_eq_true,Bool.not_eq_true',not_or] at this
  simpa using this.1
 ·have:=h.2 f hf
  unfold badB at this
  simp only[Bool.or_eq_true,Bool.not_eq_true',not_or] at this
  refine this.2 ?_
  rw[List.any_eq_true]
  exact⟨s,hs,(anyB_mem _ _).2 (List.mem_map.2 ⟨g,hg,e⟩)⟩
theorem fM_mem {L:List Fc} (h:VF L) {f:Fc} (hf:f∈L):fM (revF L L.length) (.string f.name)=f:=by
 rw[revF_all]
 refine fM_list ?_ (List.mem_reverse.2 hf)
 rw[List.map_reverse]
 exact List.pairwise_reverse.2 (h.nd.imp fun h=>h.symm)
theorem getD_mem {α:Type} {l:List α} {i:Nat} {x0:α} (h:i<l.length):l.getD i x0∈l:=by
 rw[List.getD,gEe h];exact List.getElem_mem h
theorem fnd_hit {L:List Fc} {s:ByteArray} (h:fndI L s≥0):(fndI L s).toNat<L.length∧(L.getD (fndI L s).toNat fc0).name=s:=by
 have hm:s∈namesL L:=by
  refine Classical.byContradiction fun hn=>?_
  exact(fnd_neg L s).2 hn h
 obtain ⟨f,hf,e⟩:=List.mem_map.1 hm
 -- the first place at which the name is
 have hex:∃k,k<L.length∧isN s (L.getD k fc0)=true:=by
  obtain ⟨i,hi,rfl⟩:=List.getElem_of_mem hf
  refine⟨i,hi,?_⟩
  unfold isN
  rw[List.getD,gEe hi]
  simpa using e
 have hleast:∃k,k<L.length∧isN s (L.getD k fc0)=true∧∀i,i<k→isN s (L.getD i fc0)=false:=by
  obtain ⟨k,hk,hp⟩:=hex
  induction k using Nat.strongRecOn with
  | _ k ih=>
   by_cases hh:∃j,j<k∧isN s (L.getD j fc0)=true
   ·obtain ⟨j,hj,hp'⟩:=hh
    exact ih j hj (by omega) hp'
   ·refine⟨k,hk,hp,fun i hi=>?_⟩
    cases hb:isN s (L.getD i fc0) with
    | false=>rfl
    | true=>exact absurd ⟨i,hi,hb⟩ hh
 obtain ⟨k,hk,hp,hno⟩:=hleast
 have h2:=(idI_hit hk hno hp).2
 have h2:fndI L s=k:=h2
 rw[h2,iTn]
 refine⟨hk,?_⟩
 unfold isN at hp
 simpa using hp
theorem fnd_fH {L:List Fc} {s:ByteArray}:fndI L s≥0↔fH (revF L L.length) (.string s)=true:=by
 rw[fH_iff]
 constructor
 ·intro h
  obtain ⟨h1,h2⟩:=fnd_hit h
  exact⟨_,getD_mem h1,h2⟩
 ·rintro ⟨f,hf,e⟩
  refine Classical.byContradiction fun hn=>?_
  exact(fnd_neg L s).1 hn (List.mem_map.2 ⟨f,hf,e⟩)
theorem fnd_fM {L:List Fc} (hv:VF L) {s:ByteArray} (h:fndI L s≥0):fM (revF L L.length) (.string s)=L.getD (fndI L s).toNat fc0:=by
 obtain ⟨h1,h2⟩:=fnd_hit h
 have:=fM_mem hv (getD_mem (x0:=fc0) h1)
 rwa [h2] at this
theorem dsc_kind {f:Fc} (h:dscB f=true):f.kind=0∧ok2 f.ln f.ld f.hn f.hd=true∧cmpF f.ln f.ld f.hn f.hd≤0∧f.words=[]∨f.kind=1∧f.words=[]∧zeroB f=true∨f.kind=2∧f.words≠[]∧zeroB f=true:=by
 unfold dscB at h
 simp only[bAt] at h
 have h:=h.2
 split at h
 ·simp only[bAt,dEt] at h
  exact .inl ⟨by assumption,h.1.1,h.1.2,List.eq_nil_of_length_eq_zero h.2⟩
 ·split at h
  ·simp only[bAt,dEt] at h
   exact .inr (.inl ⟨by assumption,List.eq_nil_of_length_eq_zero h.2,h.1⟩)
  ·split at h
   ·simp only[bAt,dEt] at h
    exact .inr (.inr ⟨by assumption,List.length_pos_iff.1 (by omega),h.1.1.1.1⟩)
   ·cases h
theorem nm_kind {L:List Fc} (hv:VF L) {s:ByteArray}:0≤(nmK (revF L L.length) (revW L L.length) s).1∧(nmK (revF L L.length) (revW L L.length) s).1≤2:=by
 unfold nmK
 split
 ·rename_i h
  obtain ⟨f,hf,rfl⟩:=fH_iff.1 h
  rw[fM_mem hv hf]
  rcases dsc_kind (hv.ds f hf) with h|h|h<;>(simp only[h.1];omega)
 ·split<;>simp
theorem ty_range {L:List Fc} (hv:VF L) {x:Ex} (hs:sndE x=true) (h:(tyW L x).2.2=0):0≤(tyW L x).1∧(tyW L x).1≤2:=by
 obtain ⟨t1,t2,t3⟩:=ty_node hs h
 have hk:=rk_all hs
 by_cases e2:x.k=2
 ·have:=nm_kind hv (s:=x.s)
  rw[(t3 e2).1];exact this
 ·by_cases e:x.k=1∨(5≤x.k∧x.k≤11)
  ·have:=t1 e
   show 0≤(tyE _ _ x).1∧(tyE _ _ x).1≤2
   omega
  ·have:=t2 (by omega)
   show 0≤(tyE _ _ x).1∧(tyE _ _ x).1≤2
   omega
theorem ty_word {L:List Fc} {x:Ex} (hs:sndE x=true) (h:(tyW L x).2.2=0) (h2:(tyW L x).1=2):x.k=2∧(nmK (revF L L.length) (revW L L.length) x.s).1=2:=by
 obtain ⟨t1,t2,t3⟩:=ty_node hs h
 have hk:=rk_all hs
 by_cases e2:x.k=2
 ·exact⟨e2,by rw[←(t3 e2).1];exact h2⟩
 ·exfalso
  by_cases e:x.k=1∨(5≤x.k∧x.k≤11)
  ·have:=t1 e;have h2:(tyE _ _ x).1=2:=h2;omega
  ·have:=t2 (by omega);have h2:(tyE _ _ x).1=2:=h2;omega
def wdsR (L:List Fc) (x:Ex):List ByteArray:=if (x.k==2&&decide (fndI L x.s≥0))=true then (L.getD (fndI L x.s).toNat fc0).words else []
def cpR (x y:List ByteArray) (a b:ByteArray):Bool:=if (decide (x.length>0)&&decide (y.length>0))=true then decide (x=y) else anyB x b||anyB y a
theorem wds_word {L:List Fc} (hv:VF L) {x:Ex} (hs:sndE x=true) (h:(tyW L x).2.2=0) (h2:(tyW L x).1=2) :
  (fH (revF L L.length) (.string x.s)=true→wdsR L x=(fM (revF L L.length) (.string x.s)).words∧0<(wdsR L x).length)∧(fH (revF L L.length) (.string x.s)=false→wdsR L x=[]):=by
 obtain ⟨e2,hn⟩:=ty_word hs h h2
 constructor
 ·intro hh
  have hf:=fnd_fH.2 hh
  have:wdsR L x=(fM (revF L L.length) (.string x.s)).words:=by
   unfold wdsR
   rw[if_pos (by rw[e2,decide_eq_true hf];rfl),fnd_fM hv hf]
  refine⟨this,?_⟩
  rw[this]
  unfold nmK at hn
  rw[if_pos hh] at hn
  obtain ⟨f,hf,e⟩:=fH_iff.1 hh
  rw[←e,fM_mem hv hf] at hn⊢
  rcases dsc_kind (hv.ds f hf) with h|h|h
  ·have:=h.1;have:f.kind=2:=hn;omega
  ·have:=h.1;have:f.kind=2:=hn;omega
  ·exact List.length_pos_iff.2 h.2.1
 ·intro hh
  unfold wdsR
  rw[if_neg]
  intro hc
  simp only[bAt,dEt] at hc
  rw[fnd_fH.1 hc.2] at hh
  cases hh
theorem cm_ref {L:List Fc} (hv:VF L) {x y:Ex} (hx:sndE x=true) (hy:sndE y=true) (h1:(tyW L x).2.2=0) (h2:(tyW L y).2.2=0) (k1:(tyW L x).1=2) (k2:(tyW L y).1=2) :
  cmK (revF L L.length) x.s y.s 2 2=cpR (wdsR L x) (wdsR L y) x.s y.s:=by
 obtain ⟨p1,p2⟩:=wds_word hv hx h1 k1
 obtain ⟨q1,q2⟩:=wds_word hv hy h2 k2
 unfold cmK cpR
 rw[if_neg (by decide)]
 cases ha:fH (revF L L.length) (.string x.s) with
 | true=>
  obtain ⟨a1,a2⟩:=p1 ha
  cases hb:fH (revF L L.length) (.string y.s) with
  | true=>
   obtain ⟨b1,b2⟩:=q1 hb
   rw[if_pos (by decide),decide_eq_true (by omega),decide_eq_true (by omega),if_pos (by decide),a1,b1]
   unfold eqW;rfl
  | false=>
   rw[q2 hb,if_neg (by decide),if_pos rfl,if_neg (by simp),a1]
   simp[anyB]
 | false=>
  rw[p2 ha]
  cases hb:fH (revF L L.length) (.string y.s) with
  | true=>
   obtain ⟨b1,b2⟩:=q1 hb
   rw[if_neg (by decide),if_neg (by decide),if_pos rfl,if_neg (by simp),b1]
   simp[anyB]
  | false=>
   rw[if_neg (by decide),if_neg (by decide),if_neg (by decide),if_neg (by simp),q2 hb]
   simp[anyB]
/-! Kinds in common. -/
def shI:List Int→Int
 | []=>-1
 | a :: l=>if allK l a then a else -1
theorem sh_all {l:List Int} {v:Int} (hv:0≤v) (hl:0<l.length):shI l=v↔allK l v=true:=by
 cases l with
 | nil=>simp at hl
 | cons a l=>
  show (if allK l a=true then a else -1)=v↔_
  have e:allK (a :: l) v=true↔a=v∧allK l v=true:=by
   unfold allK
   simp only[List.any_cons,Bool.not_eq_true',Bool.or_eq_false_iff,bne_eq_false_iff_eq]
  rw[e]
  constructor
  ·intro h
   split at h
   ·rename_i h0;subst h;exact⟨rfl,h0⟩
   ·omega
  ·rintro ⟨rfl,h⟩
   rw[if_pos h]
theorem sh_pair (p q:Int):shI [p,q]=if q=p then p else -1:=by
 unfold shI allK
 simp only[List.any_cons,List.any_nil,Bool.or_false]
 by_cases h:q=p
 ·subst h;simp
 ·rw[if_neg h,if_neg]
  simp[h]
end Go.Proofs
/- Facts of valid descriptions,plain. -/
namespace Go.Proofs
open Go Go.Ab Go.RowKit
set_option maxHeartbeats 4000000
theorem tH_list (l:List Ft) (s:ByteArray):tH l (.string s)=true↔∃f∈l,f.nm=s:=by
 induction l with
 | nil=>simp[tH]
 | cons x l ih=>
  simp only[tH,kstr,Bool.or_eq_true,dEt,ih,List.mem_cons]
  constructor
  ·rintro (rfl|⟨f,h,e⟩)
   ·exact⟨x,.inl rfl,rfl⟩
   ·exact⟨f,.inr h,e⟩
  ·rintro ⟨f,rfl|h,e⟩
   ·exact .inl e.symm
   ·exact .inr ⟨f,h,e⟩
theorem tM_list {l:List Ft} (hn:(l.map (·.nm)).Nodup) {f:Ft} (hf:f∈l):tM l (.string f.nm)=f:=by
 induction l with
 | nil=>simp at hf
 | cons x l ih=>
  rw[List.map_cons,List.nodup_cons] at hn
  unfold tM
  rw[kstr]
  rcases List.mem_cons.1 hf with rfl|hf
  ·rw[decide_eq_true rfl];rfl
  ·rw[decide_eq_false (fun e=>hn.1 (List.mem_map.2 ⟨f,hf,e⟩))]
   exact ih hn.2 hf
theorem tM_none {l:List Ft} {s:ByteArray} (h:¬∃f∈l,f.nm=s):tM l (.string s)=ft0:=by
 induction l with
 | nil=>rfl
 | cons x l ih=>
  unfold tM
  rw[kstr,decide_eq_false (fun e=>h ⟨x,List.mem_cons_self ..,e.symm⟩)]
  exact ih fun ⟨f,hf,e⟩=>h ⟨f,List.mem_cons_of_mem _ hf,e⟩
theorem fM_none {l:List Fc} {s:ByteArray} (h:¬∃f∈l,f.name=s):fM l (.string s)=fc0:=by
 induction l with
 | nil=>rfl
 | cons x l ih=>
  unfold fM
  rw[kstr,decide_eq_false (fun e=>h ⟨x,List.mem_cons_self ..,e.symm⟩)]
  exact ih fun ⟨f,hf,e⟩=>h ⟨f,List.mem_cons_of_mem _ hf,e⟩
structure FitF (F:List Ft) (L:List Fc):Prop where
 vf:VF L
 len:F.length=L.length
 fit:∀i,i<L.length→fitB (F.getD i ft0) (L.getD i fc0)=true
theorem fit_of {F:List Ft} {L:List Fc} (h:vaF F L=true):FitF F L:=by
 unfold vaF fitsB at h
 simp only[bAt,dEt,List.all_eq_true,List.mem_range] at h
 exact⟨vf_of h.1,h.2.1,h.2.2⟩
theorem FitF.nm {F:List Ft} {L:List Fc} (h:FitF F L) {i:Nat} (hi:i<L.length):(F.getD i ft0).nm=(L.getD i fc0).name∧(F.getD i ft0).kind=(L.getD i fc0).kind:=by
 have:=h.fit i hi
 unfold fitB at this
 simp only[bAt,dEt] at this
 exact⟨this.1.1.1.1.1.1,this.1.1.1.1.1.2⟩
theorem FitF.names {F:List Ft} {L:List Fc} (h:FitF F L):F.map (·.nm)=L.map (·.name):=by
 apply List.ext_getElem
 ·simp[h.len]
 ·intro i h1 h2
  have h3:i<L.length:=by simpa using h2
  have h4:i<F.length:=by simpa using h1
  have:=(h.nm h3).1
  simpa [List.getD,gEe h3,gEe h4] using this
theorem revT_all (F:List Ft):revT F F.length=F.reverse:=by unfold revT;rw[List.take_length]
theorem tH_iff {F:List Ft} {s:ByteArray}:tH (revT F F.length) (.string s)=true↔∃f∈F,f.nm=s:=by
 rw[revT_all,tH_list];simp only[List.mem_reverse]
theorem FitF.tM {F:List Ft} {L:List Fc} (h:FitF F L) {i:Nat} (hi:i<L.length):tM (revT F F.length) (.string (L.getD i fc0).name)=F.getD i ft0:=by
 have hl:=h.len
 rw[←(h.nm hi).1,revT_all]
 refine tM_list ?_ (List.mem_reverse.2 (getD_mem (by omega)))
 rw[List.map_reverse,h.names]
 exact List.pairwise_reverse.2 (h.vf.nd.imp fun h=>h.symm)
theorem FitF.tH {F:List Ft} {L:List Fc} (h:FitF F L) (s:ByteArray):tH (revT F F.length) (.string s)=fH (revF L L.length) (.string s):=by
 rw[Bool.eq_iff_iff,tH_iff,fH_iff]
 have e1:(∃f∈F,f.nm=s)↔s∈F.map (·.nm):=by simp[List.mem_map]
 have e2:(∃f∈L,f.name=s)↔s∈L.map (·.name):=by simp[List.mem_map]
 rw[e1,e2,h.names]
theorem FitF.at {F:List Ft} {L:List Fc} (h:FitF F L) {s:ByteArray} (hs:fH (revF L L.length) (.string s)=true):∃i,i<L.length∧fM (revF L L.length) (.string s)=L.getD i fc0∧Go.Proofs.tM (revT F F.length) (.string s)=F.getD i ft0:=by
 have h1:=fnd_fH.2 hs
 obtain ⟨h2,h3⟩:=fnd_hit h1
 refine⟨_,h2,fnd_fM h.vf h1,?_⟩
 have:=h.tM h2
 rwa [h3] at this
theorem FitF.fam {F:List Ft} {L:List Fc} (h:FitF F L):FaM (revT F F.length) (revF L L.length):=by
 refine⟨h.tH,fun s=>?_,fun s hs hk=>?_⟩
 ·by_cases hs:fH (revF L L.length) (.string s)=true
  ·obtain ⟨i,hi,e1,e2⟩:=h.at hs
   rw[e1,e2];exact(h.nm hi).2
  ·have n1:¬∃f∈revF L L.length,f.name=s:=fun hh=>hs ((fH_list _ _).2 hh)
   have n2:¬∃f∈revT F F.length,f.nm=s:=fun hh=>hs (by rw[←h.tH];exact(tH_list _ _).2 hh)
   rw[tM_none n2,fM_none n1]
 ·obtain ⟨i,hi,e1,e2⟩:=h.at hs
  rw[e1] at hk
  rw[e2]
  have:=h.fit i hi
  unfold fitB numOk at this
  simp only[bAt,Bool.or_eq_true,bne_iff_ne,ne_eq] at this
  have h5:=(this.1.2.resolve_left (fun hh=>hh hk)).1.1.2
  unfold ok2O ok2 at h5
  simp only[bAt] at h5
  exact h5.1
theorem FitF.knf {F:List Ft} {L:List Fc} (h:FitF F L):KnF (revF L L.length):=by
 intro s hs
 obtain ⟨i,hi,e1,_⟩:=h.at hs
 rw[e1]
 rcases dsc_kind (h.vf.ds _ (getD_mem (x0:=fc0) hi)) with h1|h1|h1
 ·exact .inl h1.1
 ·exact .inr (.inl h1.1)
 ·exact .inr (.inr h1.1)
end Go.Proofs
/- Atoms and reasons,plain. -/
namespace Go.Proofs
open Go Go.Ab Go.RowKit
set_option maxHeartbeats 4000000
theorem exD_imp:∀(m M:Nat) (x:Ex),ht x≤m→ht x≤M→∀(h:IH) (v:Value),DV.rel h (exD m x) v→DV.rel h (exD M x) v:=by
 intro m
 induction m with
 | zero=>
  intro M x hx _ h v hv
  have hk:x.kids=[]:=by
   refine Classical.byContradiction fun hh=>?_
   have:0<x.kids.length:=List.length_pos_iff.2 hh
   have:=ht_kid this
   omega
  have e:∀f g:Nat→DV,∀w,DV.rel h (.slc 6 x.kids.length f) w→DV.rel h (.slc 6 x.kids.length g) w:=fun f g w ⟨p,cap,e,hc,r⟩=>⟨p,cap,e,hc,.inl (by rw[hk];rfl)⟩
  obtain ⟨vs,rfl,v1,u1,rfl,a1,v2,u2,rfl,a2,v3,u3,rfl,a3,v4,u4,rfl,a4,v5,u5,rfl,a5,v6,u6,rfl,a6,a7⟩:=hv
  exact⟨_,rfl,v1,_,rfl,a1,v2,_,rfl,a2,v3,_,rfl,a3,v4,_,rfl,a4,v5,_,rfl,a5,v6,_,rfl,e _ _ _ a6,a7⟩
 | succ m ih=>
  intro M x hx hM h v hv
  have e:∀w,DV.rel h (.slc 6 x.kids.length (lay (exG (m+1)) x.kids)) w→DV.rel h (.slc 6 x.kids.length (lay (exG M) x.kids)) w:=by
   rintro w ⟨p,cap,e,hc,r⟩
   refine⟨p,cap,e,hc,r.imp id ?_⟩
   rintro ⟨b,off,hp,r⟩
   refine⟨b,off,hp,fun i hi=>?_⟩
   obtain ⟨u,hu,h1,h2⟩:=r i hi
   have k1:=ht_kid hi
   obtain ⟨M',rfl⟩:∃M',M=M'+1:=⟨M-1,by omega⟩
   exact⟨u,ih M' (x.kids.getD i ex0) (by omega) (by omega) h u hu,h1,h2⟩
  obtain ⟨vs,rfl,v1,u1,rfl,a1,v2,u2,rfl,a2,v3,u3,rfl,a3,v4,u4,rfl,a4,v5,u5,rfl,a5,v6,u6,rfl,a6,a7⟩:=hv
  exact⟨_,rfl,v1,_,rfl,a1,v2,_,rfl,a2,v3,_,rfl,a3,v4,_,rfl,a4,v5,_,rfl,a5,v6,_,rfl,e _ a6,a7⟩
def spB (x:Ex):Bool:=x.k==18||x.k==19||x.k==20
mutual
def atE:Ex→List Ex
 | .mk k s n d a kids=>if k=18∨k=19∨k=20 then atL kids else [.mk k s n d a kids]
def atL:List Ex→List Ex
 | []=>[]
 | x :: l=>atE x++atL l
end
theorem atE_eq (x:Ex):atE x=if x.k=18∨x.k=19∨x.k=20 then atL x.kids else [x]:=by cases x;rw[atE];rfl
theorem spB_iff (x:Ex):spB x=true↔x.k=18∨x.k=19∨x.k=20:=by unfold spB;simp only[Bool.or_eq_true,beq_iff_eq,or_assoc]
theorem atE_in {x:Ex} (h:spB x=true):atE x=atL x.kids:=by rw[atE_eq,if_pos ((spB_iff x).1 h)]
theorem atE_out {x:Ex} (h:spB x=false):atE x=[x]:=by rw[atE_eq,if_neg (fun hh=>by rw[(spB_iff x).2 hh] at h;cases h)]
theorem atL_app:∀(l r:List Ex),atL (l++r)=atL l++atL r
 | [],_=>rfl
 | x :: l,r=>by rw[List.cons_append,atL,atL,atL_app l r,List.append_assoc]
theorem atL_snoc (l:List Ex) (x:Ex):atL (l++[x])=atL l++atE x:=by rw[atL_app];simp[atL]
mutual
theorem atE_nds:∀(x:Ex),(atE x).length≤nds x
 | .mk k s n d p kids=>by
  rw[atE]
  have:=atL_nds kids
  simp only[nds]
  split
  ·omega
  ·simp
theorem atL_nds:∀(l:List Ex),(atL l).length≤ndsL l
 | []=>Nat.le_refl _
 | x :: l=>by
  have:=atE_nds x
  have:=atL_nds l
  rw[atL,List.length_append]
  simp only[ndsL];omega
end
theorem ndsT_le:∀(l:List Ex) (k:Nat),ndsL (l.take k)≤ndsL l
 | [],k=>by rw[List.take_nil];exact Nat.le_refl _
 | x :: l,0=>Nat.zero_le _
 | x :: l,k+1=>by
  have:=ndsT_le l k
  rw[List.take_succ_cons]
  simp only[ndsL];omega
theorem getD_appL {α:Type} {a b:List α} {i:Nat} {x0:α} (h:i<a.length):(a++b).getD i x0=a.getD i x0:=by
 rw[List.getD,List.getElem?_append_left h];rfl
theorem getD_appR {α:Type} {a b:List α} {i:Nat} {x0:α} (h:a.length≤i):(a++b).getD i x0=b.getD (i-a.length) x0:=by
 rw[List.getD,List.getElem?_append_right h];rfl
/-! Reasons. -/
def apO:Option (List Int)→Option (List Int)→Option (List Int)
 | some a,some b=>some (a++b)
 | _,_=>none
def rsK (k:Int) (v b0:Option Bool) (r0 r1:Option (List Int)):Option (List Int):=
 if k=18 then r0 else match v with
  | none=>none
  | some v=>if v≠(k==20) then apO r0 r1 else match b0 with
   | none=>none
   | some b=>if b=(k==20) then r0 else r1
mutual
def rsE (F:List Ft):Ex→Int→Option (List Int)
 | .mk k s n d a kids,first=>if k=18∨k=19∨k=20 then rsK k (bvE F (.mk k s n d a kids)) (bvE F (kids.getD 0 ex0)) ((rsL F kids first).getD 0 none) ((rsL F kids first).getD 1 none) else some [first]
def rsL (F:List Ft):List Ex→Int→List (Option (List Int))
 | [],_=>[]
 | x :: l,first=>rsE F x first :: rsL F l (first+(atE x).length)
end
theorem rsE_eq (F:List Ft) (x:Ex) (first:Int):rsE F x first=if x.k=18∨x.k=19∨x.k=20 then rsK x.k (bvE F x) (bvE F (x.kids.getD 0 ex0)) ((rsL F x.kids first).getD 0 none) ((rsL F x.kids first).getD 1 none) else some [first]:=by
 cases x;rw[rsE];rfl
theorem rsE_out {F:List Ft} {x:Ex} (h:spB x=false) (first:Int):rsE F x first=some [first]:=by
 rw[rsE_eq,if_neg (fun hh=>by rw[(spB_iff x).2 hh] at h;cases h)]
end Go.Proofs
namespace Go.Ab
open Go Go.RowKit
/-! A row under one temporary: what it says beyond its length is nobody's business. -/
theorem forget_box {st:AS} {s t:Nat} {l:List AV} (hl:(st.forget s).box t=some l):t≠s∧∃l0,st.box t=some l0∧l=l0.map (forgetX s):=by
 simp only[AS.forget,AS.box,look_forget] at hl
 split at hl
 ·cases hl
 ·rename_i hne
  cases hh:look st.boxes t with
  | none=>simp[hh] at hl
  | some l0=>simp[hh] at hl;exact⟨hne,l0,hh,hl.symm⟩
theorem forget_live {β:Nat→Nat} {s t:Nat} {l:List AV} (hl:Live β t (l.map (forgetX s))):Live β t l:=by
 cases hp:plainB l with
 | true=>exact Live.plain hp
 | false=>rw[forget_plain hp] at hl;exact hl
theorem Gam.forget {G:IH} {F:Fr} {w0:World} {h0:IH} {st:AS} {β:Nat→Nat} {h:IH} {tm:Array Value} {w:World} (g:Gam G F w0 h0 st β h tm w) (s:Nat):Gam G F w0 h0 (st.forget s) β h tm w:=by
 refine⟨g.glob,g.holds,g.ext,g.old,g.kept,g.fix,by simpa [AS.forget] using g.size,fun t x hx=>?_,fun t l hl=>?_,fun t t' l l' hl hl' k1 k2 he=>?_⟩
 ·simp only[AS.forget,List.getElem?_map] at hx
  cases hr:st.regs[t]? with
  | none=>simp[hr] at hx
  | some y=>
   simp only[hr,Option.map_some,oSi] at hx
   subst hx
   obtain ⟨v,hv,hy⟩:=g.regs t y hr
   exact⟨v,hv,forgetX_rel hy⟩
 ·obtain ⟨_,l0,hl0,rfl⟩:=forget_box hl
  obtain ⟨h1,h2⟩:=g.box t l0 hl0
  refine⟨fun k=>h1 (forget_live k),?_⟩
  cases hp:plainB l0 with
  | true=>
   rw[Own.plain hp] at h2
   obtain ⟨T,vs,e,r⟩:=h2
   exact Own.of (T:=T.1) T.2 e (forgetX_rels r)
  | false=>rw[forget_plain hp];exact h2
 ·obtain ⟨_,l0,hl0,rfl⟩:=forget_box hl
  obtain ⟨_,l1,hl1,rfl⟩:=forget_box hl'
  exact g.inj t t' l0 l1 hl0 hl1 (forget_live k1) (forget_live k2) he
def AS.rowF (st:AS) (t s sz n:Nat) (agg:RK) (f:Nat→DV):AS:=⟨(st.forget s).regs.set t (.vec s sz 0 n),(s,[.arr agg sz f]) :: (st.forget s).boxes⟩
theorem AS.leX.rowF (st:AS) (t s n:Nat) {agg:RK} {sz:Nat} {f:Nat→DV} (f':Nat→DV) (ht:st.regs[t]?=some (.vec s sz 0 n)) (hb:st.box s=some [.arr agg sz f]) (hmn:agg.mn=none) (hf:(st.forget s).free s=true) (hff:∀i,i<n→f i=f' i):st.leX (st.rowF t s sz n agg f'):=by
 intro G F w0 h0 β h tm w g
 have gf:=g.forget s
 obtain ⟨v,hv,k1,k2,p,rfl,hp⟩:=g.regs t _ ht
 obtain ⟨b1,b2⟩:=g.box s _ hb
 obtain ⟨⟨r1,r2⟩,r3⟩:=b2
 rw[Nat.zero_add] at k1
 have g1:=gf.adopt (d:=s) (b:=blk β s) (c:=room β s) (m:=n) (l:=[.arr agg sz f']) hf
  (by
   simp only[Own,room_upd,many_upd]
   refine⟨⟨by omega,by rw[hmn];exact Nat.zero_le _⟩,r3.imp id ?_⟩
   rintro ⟨fr,us,e,hz,hl,ho,hel⟩
   exact⟨fr,us,e,hz,hl,ho,fun i hi=>hff i hi▸hel i (by omega)⟩)
  (fun hl=>by
   simp only[Live,room_upd] at hl
   have hl':Live β s [.arr agg sz f]:=hl
   obtain ⟨a1,a2,a3⟩:=b1 hl'
   refine⟨a1,a2,a3,fun t' k hk kl he=>?_⟩
   obtain ⟨hne,l0,hl0,rfl⟩:=forget_box hk
   exact hne (g.inj t' s l0 _ hl0 hb (forget_live kl) hl' he))
 refine⟨_,g1.glob,g1.holds,g1.ext,g1.old,g1.kept,g1.fix,by simpa [AS.rowF] using g1.size,fun t' x hx=>?_,g1.box,g1.inj⟩
 simp only[AS.rowF] at hx
 by_cases htt:t=t'
 ·subst htt
  have hlt:t<(st.forget s).regs.length:=by
   have:=(List.getElem?_eq_some_iff.1 hx).1
   simpa using this
  rw[List.getElem?_set_self hlt,oSi] at hx
  subst hx
  refine⟨_,hv,?_⟩
  simp only[AV.rel,room_upd,many_upd,blk_upd]
  exact⟨by omega,by omega,p,rfl,hp⟩
 ·rw[List.getElem?_set_ne htt] at hx
  exact g1.regs t' x hx
end Go.Ab
namespace Go.Proofs
open Go Go.Ab Go.RowKit
set_option maxHeartbeats 4000000
set_option maxRecDepth 100000
variable {G:IH}
theorem f102 (m:Nat) (x:Ex):FnOK Tryz.prog G 102 [exD m x] (db (spB x)):=by
 refine FnOK.walkK (orc:=noO) (keep:=[]) follows Tryz.func102 rfl Tryz.call102 ?_
 refine of_tr (fun _ _ _ _=>(((db (x.k==18||x.k==19||x.k==20)):DV)=(db (spB x)))) (by kernel_rfl) ?_
 rfl
abbrev exRK:RK:=⟨true,26,false,none⟩
def exsF (M:Nat) (l:List Ex) (i:Nat):DV:=exD M (l.getD i ex0)
abbrev exsD (M:Nat) (l:List Ex):DV:=.slc 6 l.length (exsF M l)
noncomputable def dAt (M:Nat):Oracle:=fun f a=>match f,a with
 | 102,[e]=>some (db (spB (rdE e)))
 | 103,[e]=>some (db (spB (rdE e)))
 | 56,[e]=>some (exsD M (atE (rdE e)))
 | 57,[e]=>some (exsD M (atE (rdE e)))
 | _,_=>none
noncomputable def orcAt (M:Nat):Orc:={ d:=dAt M,rows:=fun n=>Nat.beq n 10||Nat.beq n 9 }
noncomputable def S56 (M m:Nat) (x:Ex) (k:Nat):AS:=⟨regs Tryz.f56.ntmps [(1,.box 1 0),(3,.vec 900 6 0 (atL (x.kids.take k)).length),(12,.d (.slc 6 x.kids.length (lay (exG m) x.kids))),(13,vi x.kids.length),(14,vi k)],[(1,exC m x),(900,[.arr exRK 6 (exsF M (atL (x.kids.take k)))])]⟩
theorem f56_leaf (M m:Nat) (x:Ex) (hx:ht x≤m) (hM:ht x≤M) (hsp:spB x=false):FnOK Tryz.prog G 56 [exD m x] (exsD M (atE x)):=by
 have er:rdE (ndX m x)=x:=rdE_eq hx
 refine FnOK.res (r:=.slc 6 1 fun i=>elemF true 6 [di x.k,ds x.s,di x.n,di x.d,di x.pos,.slc 6 x.kids.length (lay (exG m) x.kids)] (0+i)) ?_ fun k v hv=>?_
 ·refine FnOK.walkK (orc:=orcAt M) (keep:=[]) follows Tryz.func56 rfl Tryz.call56 ?_
  refine of_tr (fun ZT ZW ZQ ZK=>(ZK 102 [(ndX m x)] (db (spB (rdE (ndX m x))))∧(((!spB (rdE (ndX m x)))=true)→(ZS ((.slc 6 1 (fun i=>elemF true 6 [di x.k,ds x.s,di x.n,di x.d,di x.pos,DV.slc 6 x.kids.length (lay (exG m) x.kids)] (0+i))):DV)))∧(((!spB (rdE (ndX m x)))=false)→ZW [cd Tryz.f56 [1,1,1,0,1,0],(.blk 0),cd Tryz.f56 [1,1,1,1]] (stS ZT [1]) ZQ))) (by kernel_rfl) ?_
  simp only[er]
  exact⟨f102 m x,fun _=>trivial,fun h=>(by rw[hsp] at h;cases h)⟩
 ·rw[atE_out hsp]
  refine rel_slc_imp (fun i hi v hv=>?_) hv
  have hi:i<1:=hi
  obtain rfl:i=0:=by omega
  exact exD_imp m M x hx hM k v hv
theorem f56 (M m:Nat):∀(x:Ex),ht x≤m→ht x≤M→Sm x→FnOK Tryz.prog G 56 [exD m x] (exsD M (atE x)):=by
 induction m using Nat.strongRecOn with
 | _ m ih=>
 intro x hx hM hs
 have hlen:=hs.len.1
 have er:rdE (ndX m x)=x:=rdE_eq hx
 have hnd:=hs.nd
 cases hsp:spB x with
 | false=>exact f56_leaf M m x hx hM hsp
 | true=>
  rw[atE_in hsp]
  refine FnOK.walkK (orc:=orcAt M) (keep:=[]) follows Tryz.func56 rfl Tryz.call56 ?_
  refine of_tr (fun ZT ZW ZQ ZK=>(ZK 102 [(ndX m x)] (db (spB (rdE (ndX m x))))∧(((!spB (rdE (ndX m x)))=true)→(((.slc 6 1 (fun i=>elemF true 6 [di x.k,ds x.s,di x.n,di x.d,di x.pos,DV.slc 6 x.kids.length (lay (exG m) x.kids)] (0+i))):DV)=(exsD M (atL x.kids))))∧(((!spB (rdE (ndX m x)))=false)→ZW [cd Tryz.f56 [1,1,1,0,1,0],(.blk 0),cd Tryz.f56 [1,1,1,1]] (stS ZT [1]) ZQ))) (by kernel_rfl) ?_
  simp only[er]
  refine⟨f102 m x,fun h=>(by rw[hsp] at h;cases h),fun _=>?_⟩
  refine AWP.pre (.nilRow _ 3 900 6 exRK (exsF M (atL (x.kids.take 0))) (by kernel_rfl) (by kernel_rfl)) ?_
  refine AWP.loop (c:=cAt (bodyOf Tryz.f56) [1,1,1,0,1,0,0]) (by kernel_rfl) (S56 M m x) (fun k=>k≤x.kids.length) (fun k=>x.kids.length-k) 0 ?_ (Nat.zero_le _) ?_
  ·exact AS.leA (by kernel_rfl)
  ·intro k hk
   by_cases hk2:k<x.kids.length
   ·have er2:rdE (kidA m x k)=x.kids.getD k ex0:=kid_rd hx hk2
    have hkid:FnOK Tryz.prog G 56 [kidA m x k] (exsD M (atE (x.kids.getD k ex0))):=kidOK (Q:=fun d=>FnOK Tryz.prog G 56 [d] (exsD M (atE (x.kids.getD k ex0)))) hx hk2 fun m' h3 h4=>ih m' h3 _ h4 (by have:=ht_kid hk2;omega) (hs.kid hk2)
    have esn:atL (x.kids.take (k+1))=atL (x.kids.take k)++atE (x.kids.getD k ex0):=by
     rw[List.take_add_one,gEe hk2,Option.toList_some,atL_snoc,List.getD,gEe hk2];rfl
    have h1:=atL_nds (x.kids.take (k+1))
    have h2:=ndsT_le x.kids (k+1)
    have h3:=nds_eq x
    rw[esn,List.length_append] at h1
    refine walkK (orc:=orcAt M) (keep:=[]) (cuts:=[]) (n:=1000) follows ?_
    refine of_rd (fun ZT ZW ZQ ZK ZA _=>(fun Za=>((((decide ((↑k:Int)<↑x.kids.length))=true)→(((0≤(↑k:Int))∧((↑k:Int)<↑x.kids.length))∧(ZK 56 [(ndA m (x.kids.getD (↑k:Int).toNat ex0))] (.slc 6 Za.length (exsF M Za))∧((((atL (List.take k x.kids)).length+Za.length)*72≤1099511627776)∧((atL (List.take k x.kids)).length+Za.length≤1099511627776))∧(∀(i:Nat),i<Za.length→elemOK true 6 (exsF M Za i)=true))∧(I64 (↑k+1))∧(ZA (stS ZT [0]))))∧(((decide ((↑k:Int)<↑x.kids.length))=false)→ZW [cd Tryz.f56 [1,1,1,1]] (stS ZT [1]) ZQ))) (atE (rdE (ndA m (x.kids.getD (↑k:Int).toNat ex0))))) (by kernel_rfl) ?_
    simp only[iTn,er2]
    refine⟨fun _=>⟨⟨by omega,by omega⟩,⟨hkid,⟨by omega,by omega⟩,fun i _=>rfl⟩,⟨by omega,by omega⟩,?_⟩,fun h=>absurd (of_decide_eq_false h) (by omega)⟩
    refine⟨k+1,(AS.leX.moves [(21,900)] _ rfl).trans ((AS.leX.rowF _ 3 900 ((atL (x.kids.take k)).length+(atE (rdE (kidA m x k))).length) (agg:=exRK) (sz:=6) (f:=fun i=>bif Nat.blt i (atL (x.kids.take k)).length then exsF M (atL (x.kids.take k)) i else exsF M (atE (rdE (kidA m x k))) (i-(atL (x.kids.take k)).length)) (exsF M (atL (x.kids.take (k+1)))) (by kernel_rfl) (by kernel_rfl) rfl (by kernel_rfl) (fun i hi=>?_)).trans (.of_le ?_)),hk2,(show x.kids.length-(k+1)<x.kids.length-k from by omega)⟩
    ·rw[er2,esn]
     unfold exsF
     rcases Nat.lt_or_ge i (atL (x.kids.take k)).length with h4|h4
     ·rw[show Nat.blt i (atL (x.kids.take k)).length=true from by rw[Nat.blt_eq];exact h4,getD_appL h4];rfl
     ·rw[show Nat.blt i (atL (x.kids.take k)).length=false from by rw[Bool.eq_false_iff,ne_eq,Nat.blt_eq];omega,getD_appR h4];rfl
    ·refine AS.leZ [1] [] (b:=((T0∧((.vec 900 6 0 ((atL (List.take k x.kids)).length+(atE (rdE (kidA m x k))).length)):AV)=(.vec 900 6 0 (atL (List.take (k+1) x.kids)).length)∧T0∧T0∧T0∧True)∧T0∧T0∧True)) (by kernel_rfl) (by kernel_rfl) ?_
     exact⟨⟨rfl,congrArg (fun n=>(AV.vec 900 6 0 n)) (by rw[er2,esn,List.length_append]),rfl,rfl,rfl,trivial⟩,rfl,rfl,trivial⟩
   ·have hkn:k=x.kids.length:=by omega
    subst hkn
    refine walkK (orc:=orcAt M) (keep:=[]) (cuts:=[]) (n:=1000) follows ?_
    refine of_rd (fun ZT ZW ZQ ZK ZA _=>(fun Za=>((((decide ((↑x.kids.length:Int)<↑x.kids.length))=true)→(((0≤(↑x.kids.length:Int))∧((↑x.kids.length:Int)<↑x.kids.length))∧(ZK 56 [(ndA m (x.kids.getD (↑x.kids.length:Int).toNat ex0))] (.slc 6 Za.length (exsF M Za))∧((((atL (List.take x.kids.length x.kids)).length+Za.length)*72≤1099511627776)∧((atL (List.take x.kids.length x.kids)).length+Za.length≤1099511627776))∧(∀(i:Nat),i<Za.length→elemOK true 6 (exsF M Za i)=true))∧(I64 (↑x.kids.length+1))∧(ZA (stS ZT [0]))))∧(((decide ((↑x.kids.length:Int)<↑x.kids.length))=false)→ZW [cd Tryz.f56 [1,1,1,1]] (stS ZT [1]) ZQ))) (atE (rdE (ndA m (x.kids.getD (↑x.kids.length:Int).toNat ex0))))) (by kernel_rfl) ?_
    refine⟨fun h=>absurd (oDt h) (by omega),fun _=>?_⟩
    refine walkK (orc:=orcAt M) (keep:=[]) (cuts:=[]) (n:=1000) follows ?_
    refine of_tr (fun _ _ _ _=>(((.slc 6 (atL (List.take x.kids.length x.kids)).length (fun i=>exsF M (atL (List.take x.kids.length x.kids)) (0+i))):DV)=(exsD M (atL x.kids)))) (by kernel_rfl) ?_
    rw[List.take_length]
    exact congrArg (DV.slc 6 _) (funext fun i=>by rw[Nat.zero_add])
end Go.Proofs
namespace Go.Ab
open Go Go.RowKit
/-! Rows lent to a function that makes rows of its own. -/
mutual
def AV.flatA:AV→Bool
 | .d x=>flatR x
 | .vec _ _ _ _=>true
 | .agg l | .tup l=>AV.flatAs l
 | _=>false
def AV.flatAs:List AV→Bool
 | []=>true
 | x :: l=>AV.flatA x&&AV.flatAs l
end
mutual
theorem AV.flatA_rel {β:Nat→Nat} {h k:IH}:∀(x:AV) (v:Value),AV.flatA x=true→x.rel β h v→x.rel β k v
 | .d x,v,hf,e=>flatR_rel x v hf e
 | .vec _ _ _ _,_,_,e=>e
 | .agg l,_,hf,⟨us',e,r⟩=>⟨us',e,AV.flatAs_rel l us' hf r⟩
 | .tup l,_,hf,⟨us',e,r⟩=>⟨us',e,AV.flatAs_rel l us' hf r⟩
 | .any,_,hf,_=>by simp[AV.flatA] at hf
 | .box _ _,_,hf,_=>by simp[AV.flatA] at hf
 | .clo _ _ _,_,hf,_=>by simp[AV.flatA] at hf
 | .gate _ _ _ _,_,hf,_=>by simp[AV.flatA] at hf
 | .elem _ _ _ _,_,hf,_=>by simp[AV.flatA] at hf
 | .arr _ _ _,_,hf,_=>by simp[AV.flatA] at hf
 | .tb _ _ _,_,hf,_=>by simp[AV.flatA] at hf
 | .dead,_,hf,_=>by simp[AV.flatA] at hf
 | .mapv _,_,hf,_=>by simp[AV.flatA] at hf
 | .mp _ _ _,_,hf,_=>by simp[AV.flatA] at hf
theorem AV.flatAs_rel {β:Nat→Nat} {h k:IH}:∀(l:List AV) (us':List Value),AV.flatAs l=true→AV.rels β h l us'→AV.rels β k l us'
 | [],_,_,e=>e
 | x :: l,_,hf,⟨v,us2,e,r,rs⟩=>by
  simp only[AV.flatAs,bAt] at hf
  exact⟨v,us2,e,AV.flatA_rel x v hf.1 r,AV.flatAs_rel l us2 hf.2 rs⟩
end
theorem look_app:∀(a b:List (Nat×List AV)) (s:Nat),look (a++b) s=match look a s with|some x=>some x|none=>look b s
 | [],_,_=>rfl
 | (t,x) :: a,b,s=>by
  simp only[List.cons_append,look]
  cases Nat.beq t s with
  | true=>rfl
  | false=>exact look_app a b s
theorem RowOK.flat {h k:IH} {agg:RK} {sz:Nat} {f:Nat→DV} {c m:Nat} {o:Option Obj} (hf:∀i,flatR (f i)=true) (r:RowOK h agg sz f c m o):RowOK k agg sz f c m o:=by
 refine⟨r.1,r.2.imp id ?_⟩
 rintro ⟨fr,us',e,h1,h2,h3,h4⟩
 exact⟨fr,us',e,h1,h2,h3,fun i hi=>let ⟨v,a,b⟩:=h4 i hi;⟨v,flatR_rel _ _ (hf i) a,b⟩⟩
theorem FnM.lend {P:Program} {G:IH} {f:FuncId} {args:List AV} {xs:List DV} {ss:List Nat} {pre post:List (Nat×List AV)} {r:AV} (hx:FnM P G f (xs.map .d) [] r post) (hd:lendAll ⟨args,pre⟩ args=some (xs,ss))
  (hlen:xs.length=args.length) (hss:∀s∈ss,∃k sz g,look pre s=some [.arr k sz g])
  (hpre:∀s l,look pre s=some l→K0≤s∧∃k sz g,l=[.arr k sz g]) (hr:AV.flatA r=true) (hpost:∀s l,look post s=some l→s<K0∧∃k sz g,l=[.arr k sz g]∧∀i,flatR (g i)=true) :
  FnM P G f args pre r (pre++post):=by
 classical
 refine⟨hx.1,fun F w h β us g=>?_⟩
 let B:Nat→Prop:=fun b=>∃s∈ss,0<room β s∧blk β s=b
 have hnone:∀b,B b→(∀o,h.cell b o=none)∧h.obj b=none:=by
  rintro b ⟨s,hs,hpos,rfl⟩
  obtain ⟨k,sz,fr,hb⟩:=hss s hs
  exact((g.box s _ hb).1 (show 0<room β s from hpos)).2
 have hle:h.le (h.lend w B):=by
  refine⟨fun b o v e=>?_,fun b o e=>e⟩
  simp only[IH.lend]
  split
  ·rename_i hb;rw[(hnone b hb).1] at e;cases e
  ·exact e
 have hholds:(h.lend w B).holds w:=by
  refine⟨fun b o v e=>?_,g.holds.2⟩
  simp only[IH.lend] at e
  split at e
  ·exact e
  ·exact g.holds.1 b o v e
 have hus:us.size=args.length:=g.size
 have hall:AV.rels β h args us.toList:=by
  have key:∀(l:List AV) (us':List Value),l.length=us'.length→(∀(t:Nat) (x:AV),l[t]?=some x→∃v,us'[t]?=some v∧x.rel β h v)→AV.rels β h l us':=by
   intro l
   induction l with
   | nil=>intro us' hl _;exact List.eq_nil_of_length_eq_zero hl.symm
   | cons x l ih=>
    intro us' hl hh
    cases us' with
    | nil=>simp at hl
    | cons v us'=>
     refine⟨v,us',rfl,?_,ih us' (by simpa using hl) fun t y hy=>?_⟩
     ·obtain ⟨u,hu,hr⟩:=hh 0 x rfl
      simp only[List.getElem?_cons_zero,oSi] at hu
      subst hu;exact hr
     ·obtain ⟨u,hu,hr⟩:=hh (t+1) y (by simpa using hy)
      exact⟨u,by simpa using hu,hr⟩
  refine key _ _ (by simpa using hus.symm) fun t x ht=>?_
  obtain ⟨v,h1,h2⟩:=g.regs t x ht
  exact⟨v,by simpa using h1,h2⟩
 have hrels:=lendAll_rel g hd (fun _ _=>rfl) (B:=B) (fun s hs hpos=>⟨s,hs,hpos,rfl⟩) hle hall
 have g1:Gam G ⟨fun _=>False,β⟩ w (h.lend w B) ⟨xs.map .d,[]⟩ β (h.lend w B) us w:=by
  refine⟨g.glob.trans hle,hholds,IH.le.refl _,fun _ _ _=>⟨fun _=>rfl,rfl⟩,Kept.refl _ _,fun _ _=>⟨rfl,rfl,rfl⟩,by rw[hus];simp[hlen],fun t x ht=>?_,fun s l hb=>(by cases hb),fun s s' l l' hb=>(by cases hb)⟩
  have key:∀(m:List DV) (us':List Value) (t:Nat) (x:AV),DV.rels (h.lend w B) m us'→(m.map AV.d)[t]?=some x→∃v,us'[t]?=some v∧x.rel β (h.lend w B) v:=by
   intro m
   induction m with
   | nil=>intro us' t x _ ht;simp at ht
   | cons d m ih=>
    rintro _ t x ⟨v,us2,rfl,hv,hvs⟩ ht
    cases t with
    | zero=>
     simp only[List.map_cons,List.getElem?_cons_zero,oSi] at ht
     subst ht;exact⟨v,rfl,hv⟩
    | succ t=>
     obtain ⟨u,h1,h2⟩:=ih us2 t x hvs (by simpa using ht)
     exact⟨u,by simpa using h1,h2⟩
  obtain ⟨v,h1,h2⟩:=key xs us.toList t x hrels ht
  exact⟨v,by simpa using h1,h2⟩
 refine(hx.2 _ w _ β us g1).mono ?_
 rintro e w' ⟨v,β',h',rfl,g2⟩
 have hh:h.le h':=hle.trans g2.ext
 have hfix:∀s,K0≤s→blk β' s=blk β s∧room β' s=room β s∧many β' s=many β s:=g2.fix
 have hboth:∀s l,look (pre++post) s=some l→(look pre s=some l)∨(look pre s=none∧look post s=some l):=by
  intro s l hl
  rw[look_app] at hl
  cases hp:look pre s with
  | some y=>rw[hp] at hl;exact .inl hl
  | none=>rw[hp] at hl;exact .inr ⟨rfl,hl⟩
 have hpl:∀s l,look pre s=some l→Live β' s l→Live β s l∧blk β' s=blk β s∧blk β s<w.heap.size:=by
  intro s l hl hv
  obtain ⟨k0,k,sz,q,rfl⟩:=hpre s l hl
  have h1:0<room β' s:=hv
  rw[(hfix s k0).2.1] at h1
  obtain ⟨_,h3⟩:=g.box s _ hl
  have hv:Live β s [.arr k sz q]:=h1
  exact⟨hv,(hfix s k0).1,Own.lt hv h3⟩
 have hql:∀s l,look post s=some l→Live β' s l→w.heap.size≤blk β' s:=by
  intro s l hl hv
  rcases ((g2.box s l hl).1 hv).1 with h1|h1
  ·exact h1.elim
  ·exact h1
 refine⟨v,β',h,rfl,g.glob,⟨fun b o u e=>g2.holds.1 b o u (hh.1 _ _ _ e),fun b o e=>g2.holds.2 b o (hh.2 _ _ e)⟩,IH.le.refl _,fun _ _ _=>⟨fun _=>rfl,rfl⟩,g2.kept.mono fun _ hf=>hf.elim,fun s hs=>?_,g2.size,fun t x ht=>?_,fun s l hl=>?_,fun s s' l l' hl hl' v1 v2 he=>?_⟩
 ·have h1:=hfix s hs
  have h2:=g.fix s hs
  exact⟨h1.1.trans h2.1,h1.2.1.trans h2.2.1,h1.2.2.trans h2.2.2⟩
 ·obtain ⟨u,h1,h2⟩:=g2.regs t x ht
  refine⟨u,h1,?_⟩
  cases t with
  | zero=>
   simp only[List.getElem?_cons_zero,oSi] at ht
   subst ht
   exact AV.flatA_rel _ _ hr h2
  | succ t=>simp at ht
 ·rcases hboth s l hl with hp|⟨_,hq⟩
  ·obtain ⟨k0,k,sz,q,rfl⟩:=hpre s l hp
   obtain ⟨h1,h2⟩:=g.box s _ hp
   have f1:=hfix s k0
   refine⟨fun hv=>?_,?_⟩
   ·obtain ⟨a1,a2,_⟩:=hpl s _ hp hv
    rw[a2];exact h1 a1
   ·show RowOK h k sz q (room β' s) (many β' s) _
    have h2:RowOK h k sz q (room β s) (many β s) w.heap[blk β s]?:=h2
    rw[f1.1,f1.2.1,f1.2.2]
    refine⟨h2.1,h2.2.imp id ?_⟩
    rintro ⟨fr,us',e,h3⟩
    exact⟨fr,us',(g2.kept.block _ (lt_of_heap e) fun hf=>hf.elim).trans e,h3⟩
  ·obtain ⟨_,k,sz,q,rfl,hf⟩:=hpost s l hq
   obtain ⟨h1,h2⟩:=g2.box s _ hq
   refine⟨fun hv=>⟨.inr (hql s _ hq hv),fun o=>?_,?_⟩,RowOK.flat hf h2⟩
   ·cases hc:h.cell (blk β' s) o with
    | none=>rfl
    | some u=>
     have:=hh.1 _ _ _ hc
     rw[(h1 hv).2.1] at this;cases this
   ·cases hc:h.obj (blk β' s) with
    | none=>rfl
    | some u=>
     have:=hh.2 _ _ hc
     rw[(h1 hv).2.2] at this;cases this
 ·rcases hboth s l hl with hp|⟨_,hq⟩
  ·obtain ⟨a1,a2,a3⟩:=hpl s l hp v1
   rcases hboth s' l' hl' with hp' | ⟨_,hq'⟩
   ·obtain ⟨b1,b2,b3⟩:=hpl s' l' hp' v2
    rw[a2,b2] at he
    exact g.inj s s' l l' hp hp' a1 b1 he
   ·have:=hql s' l' hq' v2
    omega
  ·rcases hboth s' l' hl' with hp' | ⟨_,hq'⟩
   ·obtain ⟨b1,b2,b3⟩:=hpl s' l' hp' v2
    have:=hql s l hq v1
    omega
   ·exact g2.inj s s' l l' hq hq' v1 v2 he
theorem rels_of_regs {β:Nat→Nat} {h:IH}:∀(l:List DV) (us:List Value),l.length=us.length→(∀(t:Nat) (x:AV),(l.map AV.d)[t]?=some x→∃v,us[t]?=some v∧x.rel β h v)→DV.rels h l us
 | [],us,hl,_=>List.eq_nil_of_length_eq_zero hl.symm
 | x :: l,us,hl,hh=>by
  cases us with
  | nil=>simp at hl
  | cons v us=>
   refine⟨v,us,rfl,?_,rels_of_regs (β:=β) l us (by simpa using hl) fun t y hy=>?_⟩
   ·obtain ⟨u,hu,hr⟩:=hh 0 (.d x) rfl
    simp only[List.getElem?_cons_zero,oSi] at hu
    subst hu;exact hr
   ·obtain ⟨u,hu,hr⟩:=hh (t+1) y (by simpa using hy)
    exact⟨u,by simpa using hu,hr⟩
theorem regs_of_rels {β:Nat→Nat} {h:IH}:∀(m:List DV) (us:List Value) (t:Nat) (x:AV),DV.rels h m us→(m.map AV.d)[t]?=some x→∃v,us[t]?=some v∧x.rel β h v
 | [],_,_,_,_,ht=>by simp at ht
 | d :: m,_,t,x,⟨v,us2,rfl,hv,hvs⟩,ht=>by
  cases t with
  | zero=>
   simp only[List.map_cons,List.getElem?_cons_zero,oSi] at ht
   subst ht;exact⟨v,rfl,hv⟩
  | succ t=>
   obtain ⟨u,h1,h2⟩:=regs_of_rels m us2 t x hvs (by simpa using ht)
   exact⟨u,by simpa using h1,h2⟩
theorem rels_len {h:IH}:∀(m:List DV) (us:List Value),DV.rels h m us→us.length=m.length
 | [],_,e=>by subst e;rfl
 | d :: m,_,⟨v,us2,e,_,hvs⟩=>by subst e;simp[rels_len m us2 hvs]
theorem FnM.argsD {P:Program} {G:IH} {f:FuncId} {xs xs':List DV} {post:List (Nat×List AV)} {r:AV} (hx:FnM P G f (xs'.map .d) [] r post) (hr:∀k us,DV.rels k xs us→DV.rels k xs' us):FnM P G f (xs.map .d) [] r post:=by
 refine⟨hx.1,fun F w h β us g=>?_⟩
 have hus:us.size=xs.length:=by have:=g.size;simpa using this
 have h1:DV.rels h xs us.toList:=rels_of_regs (β:=β) xs us.toList (by simp[hus]) fun t x ht=>by
  obtain ⟨v,a,b⟩:=g.regs t x ht
  exact⟨v,by simpa using a,b⟩
 have h2:=hr _ _ h1
 refine hx.2 F w h β us ⟨g.glob,g.holds,g.ext,g.old,g.kept,g.fix,?_,fun t x ht=>?_,g.box,g.inj⟩
 ·have:=rels_len _ _ h2
  simpa using this
 ·obtain ⟨v,a,b⟩:=regs_of_rels (β:=β) xs' us.toList t x h2 ht
  exact⟨v,by simpa using a,b⟩
end Go.Ab
namespace Go.Proofs
open Go Go.Ab Go.RowKit
set_option maxHeartbeats 4000000
set_option maxRecDepth 100000
variable {G:IH}
/-! The deciding atoms,by the program. -/
theorem FnM.resA {f:FuncId} {args:List AV} {pre post post':List (Nat×List AV)} {r r':AV} (hle:AS.leX ⟨[r],post⟩ ⟨[r'],post'⟩) (h:FnM Tryz.prog G f args pre r post):FnM Tryz.prog G f args pre r' post':=
 ⟨h.1,fun F w h0 β us g=>(h.2 F w h0 β us g).mono fun e w' ⟨v,β',h',e1,g1⟩=>
  let ⟨β2,g2⟩:=hle G F w h0 β' h' #[v] w' g1
  ⟨v,β2,h',e1,g2⟩⟩
abbrev inRK:RK:=⟨false,3,false,none⟩
def rowI (l:List Int) (i:Nat):DV:=di (l.getD i 0)
def rsD (F:List Ft) (x:Ex) (n:Int):List Int:=(rsE F x n).getD []
theorem rsD_of {F:List Ft} {x:Ex} {n:Int} {l:List Int} (h:rsE F x n=some l):rsD F x n=l:=by unfold rsD;rw[h];rfl
noncomputable def dRs (F:List Ft) (M:Nat):Oracle:=fun f a=>match f,a with
 | 102,[e]=>some (db (spB (rdE e)))
 | 56,[e]=>some (exsD M (atE (rdE e)))
 | 47,[_,e]=>some (db (bvD F (rdE e)))
 | _,_=>none
noncomputable def mRs (F:List Ft):FuncId→List AV→List (Nat×List AV)→Option (AV×List (Nat×List AV)):=fun f a _=>match f,a with
 | 60,[_,.d e,.d (.con (.int _ n))]=>some (.vec 900 1 0 (rsD F (rdE e) n).length,[(900,[.arr inRK 1 (rowI (rsD F (rdE e) n))])])
 | _,_=>none
noncomputable def orcRs (F:List Ft) (M:Nat):Orc:={ d:=dRs F M,m:=mRs F,rows:=fun n=>Nat.beq n 14 }
section
variable (F:List Ft) (m:Nat) (x:Ex) (first:Int) (hx:ht x≤m)
include hx
theorem rs_out (h:spB x=false):FnM Tryz.prog G 60 [.d (evD F),.d (exD m x),.d (di first)] [] (.vec 900 1 0 1) [(900,[.arr inRK 1 (rowI [first])])]:=by
 have er:rdE (ndX m x)=x:=rdE_eq hx
 refine FnM.resA (r:=.vec 900 1 0 1) (post:=[(900,[.arr inRK 1 (elemF false 1 [di first])])]) ((AS.leX.rowF _ 0 900 1 (agg:=inRK) (sz:=1) (f:=elemF false 1 [di first]) (rowI [first]) (by kernel_rfl) (by kernel_rfl) rfl (by kernel_rfl) (fun i hi=>?_)).trans (.of_le ?_)) ?_
 ·obtain rfl:i=0:=by omega
  rfl
 ·exact AS.leA (by kernel_rfl)
 refine FnM.walk (orc:=orcRs F m) (keep:=[]) [(14,900)] follows (by kernel_rfl) Tryz.func60 rfl Tryz.call60 ?_
 refine of_tr (fun _ _ _ ZK=>(fun Za Zb Zc Zd=>(ZK 102 [(ndX m x)] (db (spB (rdE (ndX m x))))∧(((!spB (rdE (ndX m x)))=true)→((ZS ((.vec 900 1 0 1):AV))∧(Zb:(Option (List AV)))=Zb∧True))∧(((!spB (rdE (ndX m x)))=false)→((((x.k==18)=true)→(((((0:Int)≤(0:Int))∧(0<(↑x.kids.length:Int)))∧FnM Tryz.prog G 60 [(.d Zd),(.d Za),(vi first)] [] (.vec 900 1 0 (rsD F (rdE Za) first).length) [(900,[(.arr ⟨false,3,false,none⟩ 1 (rowI (rsD F (rdE Za) first)))])])∧((.vec 26900 1 0 (rsD F (rdE Za) first).length):AV)=(.vec 900 1 0 1)∧(none:(Option (List AV)))=Zb∧True))∧(((x.k==18)=false)→(((((0:Int)≤(0:Int))∧(0<(↑x.kids.length:Int)))∧ZK 56 [Za] (.slc 6 (atE (rdE Za)).length (exsF m (atE (rdE Za))))∧(I64 (first + ↑(atE (rdE Za)).length)))∧ZK 47 [Zd,(ndX m x)] (db (bvD F (rdE (ndX m x))))∧(((!bvD F (rdE (ndX m x))==(x.k==20))=true)→(((((0:Int)≤(0:Int))∧(0<(↑x.kids.length:Int)))∧FnM Tryz.prog G 60 [(.d Zd),(.d Za),(vi first)] [] (.vec 900 1 0 (rsD F (rdE Za) first).length) [(900,[(.arr ⟨false,3,false,none⟩ 1 (rowI (rsD F (rdE Za) first)))])]∧(((0:Int)≤(1:Int))∧(1<(↑x.kids.length:Int)))∧FnM Tryz.prog G 60 [(.d Zd),(.d Zc),(vi (first + ↑(atE (rdE Za)).length))] [] (.vec 900 1 0 (rsD F (rdE Zc) (first + ↑(atE (rdE Za)).length)).length) [(900,[(.arr ⟨false,3,false,none⟩ 1 (rowI (rsD F (rdE Zc) (first + ↑(atE (rdE Za)).length))))])]∧(((rsD F (rdE Za) first).length+(rsD F (rdE Zc) (first + ↑(atE (rdE Za)).length)).length)*8≤1099511627776)∧((rsD F (rdE Za) first).length+(rsD F (rdE Zc) (first + ↑(atE (rdE Za)).length)).length≤1099511627776))∧((.vec 57 1 0 ((rsD F (rdE Za) first).length+(rsD F (rdE Zc) (first + ↑(atE (rdE Za)).length)).length)):AV)=(.vec 900 1 0 1)∧(none:(Option (List AV)))=Zb∧True))∧(((!bvD F (rdE (ndX m x))==(x.k==20))=false)→(((((0:Int)≤(0:Int))∧(0<(↑x.kids.length:Int)))∧ZK 47 [Zd,Za] (db (bvD F (rdE Za))))∧(((bvD F (rdE Za)==(x.k==20))=true)→(((((0:Int)≤(0:Int))∧(0<(↑x.kids.length:Int)))∧FnM Tryz.prog G 60 [(.d Zd),(.d Za),(vi first)] [] (.vec 900 1 0 (rsD F (rdE Za) first).length) [(900,[(.arr ⟨false,3,false,none⟩ 1 (rowI (rsD F (rdE Za) first)))])])∧((.vec 74900 1 0 (rsD F (rdE Za) first).length):AV)=(.vec 900 1 0 1)∧(none:(Option (List AV)))=Zb∧True))∧(((bvD F (rdE Za)==(x.k==20))=false)→(((((0:Int)≤(1:Int))∧(1<(↑x.kids.length:Int)))∧FnM Tryz.prog G 60 [(.d Zd),(.d Zc),(vi (first + ↑(atE (rdE Za)).length))] [] (.vec 900 1 0 (rsD F (rdE Zc) (first + ↑(atE (rdE Za)).length)).length) [(900,[(.arr ⟨false,3,false,none⟩ 1 (rowI (rsD F (rdE Zc) (first + ↑(atE (rdE Za)).length))))])])∧((.vec 81900 1 0 (rsD F (rdE Zc) (first + ↑(atE (rdE Za)).length)).length):AV)=(.vec 900 1 0 1)∧(none:(Option (List AV)))=Zb∧True)))))))))) (ndA m (x.kids.getD (Int.toNat 0) ex0)) (some [(.arr ⟨false,3,false,none⟩ 1 (elemF false 1 [(di first)]))]) (ndA m (x.kids.getD (Int.toNat 1) ex0)) ((.ptr [(.mp none (tV F) (tH F))]):DV)) (by kernel_rfl) ?_
 simp only[er]
 refine⟨f102 m x,fun _=>⟨trivial,trivial,trivial⟩,fun h2=>(by rw[h] at h2;cases h2)⟩
variable (hs:Sm x) (hl:x.kids.length=2) (hk:x.k=19∨x.k=20) (hf:0≤first∧first+nds x≤100000) {v:Bool} (hv:bvE F x=some v) (h47:FnOK Tryz.prog G 47 [evD F,exD m x] (db v))
include hs hl hk hf hv h47
theorem rs_left (b:Bool) (hb:bvE F (x.kids.getD 0 ex0)=some b) (heq:v=(x.k==20)) (hbe:b=(x.k==20)) (l0:List Int) (e0:rsE F (x.kids.getD 0 ex0) first=some l0)
  (h56:FnOK Tryz.prog G 56 [kidA m x 0] (exsD m (atE (x.kids.getD 0 ex0)))) (h47b:FnOK Tryz.prog G 47 [evD F,kidA m x 0] (db b))
  (h0:FnM Tryz.prog G 60 [.d (evD F),.d (kidA m x 0),.d (di first)] [] (.vec 900 1 0 l0.length) [(900,[.arr inRK 1 (rowI l0)])]) :
  FnM Tryz.prog G 60 [.d (evD F),.d (exD m x),.d (di first)] [] (.vec 900 1 0 l0.length) [(900,[.arr inRK 1 (rowI l0)])]:=by
 have _:=hs
 have er:rdE (ndX m x)=x:=rdE_eq hx
 have k0:rdE (kidA m x 0)=x.kids.getD 0 ex0:=kid_rd hx (by omega)
 have t1:Int.toNat 1=1:=rfl
 have hsp:spB x=true:=(spB_iff x).2 (by omega)
 have hn:=atE_nds (x.kids.getD 0 ex0)
 have hn2:=nds_kid (x:=x) (i:=0) (by omega)
 have hd:bvD F x=v:=bvD_of hv
 have hd0:bvD F (x.kids.getD 0 ex0)=b:=bvD_of hb
 refine FnM.walk (orc:=orcRs F m) (keep:=[]) [(74900,900)] follows (by kernel_rfl) Tryz.func60 rfl Tryz.call60 ?_
 refine of_tr (fun _ _ _ ZK=>(fun Za Zb Zc Zd=>(ZK 102 [(ndX m x)] (db (spB (rdE (ndX m x))))∧(((!spB (rdE (ndX m x)))=true)→(((.vec 14 1 0 1):AV)=(.vec 900 1 0 l0.length)∧(none:(Option (List AV)))=Zc∧True))∧(((!spB (rdE (ndX m x)))=false)→((((x.k==18)=true)→(((((0:Int)≤(0:Int))∧(0<(↑x.kids.length:Int)))∧FnM Tryz.prog G 60 [(.d Zd),(.d Za),(vi first)] [] (.vec 900 1 0 (rsD F (rdE Za) first).length) [(900,[(.arr ⟨false,3,false,none⟩ 1 (rowI (rsD F (rdE Za) first)))])])∧((.vec 26900 1 0 (rsD F (rdE Za) first).length):AV)=(.vec 900 1 0 l0.length)∧(none:(Option (List AV)))=Zc∧True))∧(((x.k==18)=false)→(((((0:Int)≤(0:Int))∧(0<(↑x.kids.length:Int)))∧ZK 56 [Za] (.slc 6 (atE (rdE Za)).length (exsF m (atE (rdE Za))))∧(I64 (first + ↑(atE (rdE Za)).length)))∧ZK 47 [Zd,(ndX m x)] (db (bvD F (rdE (ndX m x))))∧(((!bvD F (rdE (ndX m x))==(x.k==20))=true)→(((((0:Int)≤(0:Int))∧(0<(↑x.kids.length:Int)))∧FnM Tryz.prog G 60 [(.d Zd),(.d Za),(vi first)] [] (.vec 900 1 0 (rsD F (rdE Za) first).length) [(900,[(.arr ⟨false,3,false,none⟩ 1 (rowI (rsD F (rdE Za) first)))])]∧(((0:Int)≤(1:Int))∧(1<(↑x.kids.length:Int)))∧FnM Tryz.prog G 60 [(.d Zd),(.d Zb),(vi (first + ↑(atE (rdE Za)).length))] [] (.vec 900 1 0 (rsD F (rdE Zb) (first + ↑(atE (rdE Za)).length)).length) [(900,[(.arr ⟨false,3,false,none⟩ 1 (rowI (rsD F (rdE Zb) (first + ↑(atE (rdE Za)).length))))])]∧(((rsD F (rdE Za) first).length+(rsD F (rdE Zb) (first + ↑(atE (rdE Za)).length)).length)*8≤1099511627776)∧((rsD F (rdE Za) first).length+(rsD F (rdE Zb) (first + ↑(atE (rdE Za)).length)).length≤1099511627776))∧((.vec 57 1 0 ((rsD F (rdE Za) first).length+(rsD F (rdE Zb) (first + ↑(atE (rdE Za)).length)).length)):AV)=(.vec 900 1 0 l0.length)∧(none:(Option (List AV)))=Zc∧True))∧(((!bvD F (rdE (ndX m x))==(x.k==20))=false)→(((((0:Int)≤(0:Int))∧(0<(↑x.kids.length:Int)))∧ZK 47 [Zd,Za] (db (bvD F (rdE Za))))∧(((bvD F (rdE Za)==(x.k==20))=true)→(((((0:Int)≤(0:Int))∧(0<(↑x.kids.length:Int)))∧FnM Tryz.prog G 60 [(.d Zd),(.d Za),(vi first)] [] (.vec 900 1 0 (rsD F (rdE Za) first).length) [(900,[(.arr ⟨false,3,false,none⟩ 1 (rowI (rsD F (rdE Za) first)))])])∧((.vec 900 1 0 (rsD F (rdE Za) first).length):AV)=(.vec 900 1 0 l0.length)∧((some [(.arr ⟨false,3,false,none⟩ 1 (rowI (rsD F (rdE Za) first)))]):(Option (List AV)))=Zc∧True))∧(((bvD F (rdE Za)==(x.k==20))=false)→(((((0:Int)≤(1:Int))∧(1<(↑x.kids.length:Int)))∧FnM Tryz.prog G 60 [(.d Zd),(.d Zb),(vi (first + ↑(atE (rdE Za)).length))] [] (.vec 900 1 0 (rsD F (rdE Zb) (first + ↑(atE (rdE Za)).length)).length) [(900,[(.arr ⟨false,3,false,none⟩ 1 (rowI (rsD F (rdE Zb) (first + ↑(atE (rdE Za)).length))))])])∧((.vec 81900 1 0 (rsD F (rdE Zb) (first + ↑(atE (rdE Za)).length)).length):AV)=(.vec 900 1 0 l0.length)∧(none:(Option (List AV)))=Zc∧True)))))))))) (ndA m (x.kids.getD (Int.toNat 0) ex0)) (ndA m (x.kids.getD (Int.toNat 1) ex0)) (some [(.arr ⟨false,3,false,none⟩ 1 (rowI l0))]) ((.ptr [(.mp none (tV F) (tH F))]):DV)) (by kernel_rfl) ?_
 simp only[er,Int.toNat_zero,t1,k0,rsD_of e0,hd,hd0]
 refine⟨f102 m x,fun h2=>(by rw[hsp] at h2;cases h2),fun _=>⟨fun h2=>absurd (by simpa using h2:x.k=18) (by omega),fun _=>⟨⟨⟨by omega,by omega⟩,h56,by omega,by omega⟩,h47,fun h2=>?_,fun _=>⟨⟨⟨by omega,by omega⟩,h47b⟩,fun _=>⟨⟨⟨by omega,by omega⟩,h0⟩,trivial,trivial,trivial⟩,fun h2=>?_⟩⟩⟩⟩
 ·exact absurd h2 (by revert heq;generalize (x.k==20)=q;cases v<;>cases q<;>simp)
 ·exact absurd h2 (by revert hbe;generalize (x.k==20)=q;cases b<;>cases q<;>simp)
theorem rs_right (b:Bool) (hb:bvE F (x.kids.getD 0 ex0)=some b) (heq:v=(x.k==20)) (hbe:b≠(x.k==20)) (l1:List Int) (e1:rsE F (x.kids.getD 1 ex0) (first+(atE (x.kids.getD 0 ex0)).length)=some l1)
  (h56:FnOK Tryz.prog G 56 [kidA m x 0] (exsD m (atE (x.kids.getD 0 ex0)))) (h47b:FnOK Tryz.prog G 47 [evD F,kidA m x 0] (db b))
  (h1:FnM Tryz.prog G 60 [.d (evD F),.d (kidA m x 1),.d (di (first+(atE (x.kids.getD 0 ex0)).length))] [] (.vec 900 1 0 l1.length) [(900,[.arr inRK 1 (rowI l1)])]) :
  FnM Tryz.prog G 60 [.d (evD F),.d (exD m x),.d (di first)] [] (.vec 900 1 0 l1.length) [(900,[.arr inRK 1 (rowI l1)])]:=by
 have _:=hs
 have er:rdE (ndX m x)=x:=rdE_eq hx
 have k0:rdE (kidA m x 0)=x.kids.getD 0 ex0:=kid_rd hx (by omega)
 have k1:rdE (kidA m x 1)=x.kids.getD 1 ex0:=kid_rd hx (by omega)
 have t1:Int.toNat 1=1:=rfl
 have hsp:spB x=true:=(spB_iff x).2 (by omega)
 have hn:=atE_nds (x.kids.getD 0 ex0)
 have hn2:=nds_kid (x:=x) (i:=0) (by omega)
 have hd:bvD F x=v:=bvD_of hv
 have hd0:bvD F (x.kids.getD 0 ex0)=b:=bvD_of hb
 refine FnM.walk (orc:=orcRs F m) (keep:=[]) [(81900,900)] follows (by kernel_rfl) Tryz.func60 rfl Tryz.call60 ?_
 refine of_tr (fun _ _ _ ZK=>(fun Za Zb Zc Zd=>(ZK 102 [(ndX m x)] (db (spB (rdE (ndX m x))))∧(((!spB (rdE (ndX m x)))=true)→(((.vec 14 1 0 1):AV)=(.vec 900 1 0 l1.length)∧(none:(Option (List AV)))=Zc∧True))∧(((!spB (rdE (ndX m x)))=false)→((((x.k==18)=true)→(((((0:Int)≤(0:Int))∧(0<(↑x.kids.length:Int)))∧FnM Tryz.prog G 60 [(.d Zd),(.d Za),(vi first)] [] (.vec 900 1 0 (rsD F (rdE Za) first).length) [(900,[(.arr ⟨false,3,false,none⟩ 1 (rowI (rsD F (rdE Za) first)))])])∧((.vec 26900 1 0 (rsD F (rdE Za) first).length):AV)=(.vec 900 1 0 l1.length)∧(none:(Option (List AV)))=Zc∧True))∧(((x.k==18)=false)→(((((0:Int)≤(0:Int))∧(0<(↑x.kids.length:Int)))∧ZK 56 [Za] (.slc 6 (atE (rdE Za)).length (exsF m (atE (rdE Za))))∧(I64 (first + ↑(atE (rdE Za)).length)))∧ZK 47 [Zd,(ndX m x)] (db (bvD F (rdE (ndX m x))))∧(((!bvD F (rdE (ndX m x))==(x.k==20))=true)→(((((0:Int)≤(0:Int))∧(0<(↑x.kids.length:Int)))∧FnM Tryz.prog G 60 [(.d Zd),(.d Za),(vi first)] [] (.vec 900 1 0 (rsD F (rdE Za) first).length) [(900,[(.arr ⟨false,3,false,none⟩ 1 (rowI (rsD F (rdE Za) first)))])]∧(((0:Int)≤(1:Int))∧(1<(↑x.kids.length:Int)))∧FnM Tryz.prog G 60 [(.d Zd),(.d Zb),(vi (first + ↑(atE (rdE Za)).length))] [] (.vec 900 1 0 (rsD F (rdE Zb) (first + ↑(atE (rdE Za)).length)).length) [(900,[(.arr ⟨false,3,false,none⟩ 1 (rowI (rsD F (rdE Zb) (first + ↑(atE (rdE Za)).length))))])]∧(((rsD F (rdE Za) first).length+(rsD F (rdE Zb) (first + ↑(atE (rdE Za)).length)).length)*8≤1099511627776)∧((rsD F (rdE Za) first).length+(rsD F (rdE Zb) (first + ↑(atE (rdE Za)).length)).length≤1099511627776))∧((.vec 57 1 0 ((rsD F (rdE Za) first).length+(rsD F (rdE Zb) (first + ↑(atE (rdE Za)).length)).length)):AV)=(.vec 900 1 0 l1.length)∧(none:(Option (List AV)))=Zc∧True))∧(((!bvD F (rdE (ndX m x))==(x.k==20))=false)→(((((0:Int)≤(0:Int))∧(0<(↑x.kids.length:Int)))∧ZK 47 [Zd,Za] (db (bvD F (rdE Za))))∧(((bvD F (rdE Za)==(x.k==20))=true)→(((((0:Int)≤(0:Int))∧(0<(↑x.kids.length:Int)))∧FnM Tryz.prog G 60 [(.d Zd),(.d Za),(vi first)] [] (.vec 900 1 0 (rsD F (rdE Za) first).length) [(900,[(.arr ⟨false,3,false,none⟩ 1 (rowI (rsD F (rdE Za) first)))])])∧((.vec 74900 1 0 (rsD F (rdE Za) first).length):AV)=(.vec 900 1 0 l1.length)∧(none:(Option (List AV)))=Zc∧True))∧(((bvD F (rdE Za)==(x.k==20))=false)→(((((0:Int)≤(1:Int))∧(1<(↑x.kids.length:Int)))∧FnM Tryz.prog G 60 [(.d Zd),(.d Zb),(vi (first + ↑(atE (rdE Za)).length))] [] (.vec 900 1 0 (rsD F (rdE Zb) (first + ↑(atE (rdE Za)).length)).length) [(900,[(.arr ⟨false,3,false,none⟩ 1 (rowI (rsD F (rdE Zb) (first + ↑(atE (rdE Za)).length))))])])∧((.vec 900 1 0 (rsD F (rdE Zb) (first + ↑(atE (rdE Za)).length)).length):AV)=(.vec 900 1 0 l1.length)∧((some [(.arr ⟨false,3,false,none⟩ 1 (rowI (rsD F (rdE Zb) (first + ↑(atE (rdE Za)).length))))]):(Option (List AV)))=Zc∧True)))))))))) (ndA m (x.kids.getD (Int.toNat 0) ex0)) (ndA m (x.kids.getD (Int.toNat 1) ex0)) (some [(.arr ⟨false,3,false,none⟩ 1 (rowI l1))]) ((.ptr [(.mp none (tV F) (tH F))]):DV)) (by kernel_rfl) ?_
 simp only[er,Int.toNat_zero,t1,k0,k1,rsD_of e1,hd,hd0]
 refine⟨f102 m x,fun h2=>(by rw[hsp] at h2;cases h2),fun _=>⟨fun h2=>absurd (by simpa using h2:x.k=18) (by omega),fun _=>⟨⟨⟨by omega,by omega⟩,h56,by omega,by omega⟩,h47,fun h2=>?_,fun _=>⟨⟨⟨by omega,by omega⟩,h47b⟩,fun h2=>?_,fun _=>⟨⟨⟨by omega,by omega⟩,h1⟩,trivial,trivial,trivial⟩⟩⟩⟩⟩
 ·exact absurd h2 (by revert heq;generalize (x.k==20)=q;cases v<;>cases q<;>simp)
 ·exact absurd h2 (by revert hbe;generalize (x.k==20)=q;cases b<;>cases q<;>simp)
end
def valE (F:List Ft) (k:Int) (x:Ex):Option Ft:=
 if k=0 then (nuE F x).map fun p=>{ ftK k with n:=p.1,d:=p.2 }
 else if k=1 then (bvE F x).map fun b=>{ ftK k with tr:=b }
 else some { ftK k with wd:=wvE F x }
def evR (F:List Ft) (L:List Fc) (x:Ex):Ft×Int:=
 if vaF F L=true then if (typR L x).2.2=0 then match valE (revT F F.length) (typR L x).1 x with
  | some o=>(o,0)
  | none=>(ft0,2)
 else (ft0,(typR L x).2.2) else (ft0,1)
theorem typ_sound {L:List Fc} {x:Ex} (h:(typR L x).2.2=0):vfB L=true∧sndE x=true∧(tyW L x).2.2=0∧typR L x=((tyW L x).1,0,0):=by
 unfold typR at h⊢
 by_cases h1:(!vfB L||decide ((fmtX x).size=0))=true
 ·rw[if_pos h1] at h;simp at h
 rw[if_neg h1] at h⊢
 by_cases h2:(tyW L x).2.2≠0
 ·rw[if_pos h2] at h;exact absurd h h2
 rw[if_neg h2]
 simp only[Bool.or_eq_true,Bool.not_eq_true',dEt,not_or,Bool.not_eq_false] at h1
 refine⟨h1.1,?_,Classical.not_not.1 h2,rfl⟩
 have h3:=h1.2
 unfold fmtX fitE at h3
 cases hh:sndE x with
 | true=>rfl
 | false=>rw[hh] at h3;simp at h3
theorem f12 (hT:Tab G) (F:List Ft) (L:List Fc) (h:∀i,i<L.length→FcS (L.getD i fc0)) (hl:L.length≤1000) (hF:F.length≤100000) (m:Nat) (x:Ex) (hx:ht x≤m) (hs:Sm x) :
  FnOK Tryz.prog G 12 [exD m x,ftsD F,fcsD L] (.tup [ftD (evR F L x).1,di (evR F L x).2]):=by
 by_cases hg:vaF F L=true∧(typR L x).2.2=0
 ·obtain ⟨hv,ht0⟩:=hg
  have hfit:=fit_of hv
  obtain ⟨_,hsn,hty,etyp⟩:=typ_sound ht0
  have ek:(typR L x).1=(tyW L x).1:=by rw[etyp]
  have hev:evR F L x=match valE (revT F F.length) (typR L x).1 x with|some o=>(o,0)|none=>(ft0,2):=by
   unfold evR;rw[if_pos hv,if_pos ht0]
  have key:∀(e:Int) (o:Ft),FnM Tryz.prog G 44 [.clo (.func 45) [] cp45] (bx45 (typR L x).1 (revT F F.length) m x (ftK (typR L x).1)) (.d (di e)) (bx45 (typR L x).1 (revT F F.length) m x o)→FnOK Tryz.prog G 12 [exD m x,ftsD F,fcsD L] (.tup [ftD (if e=0 then o else ft0),di e]):=by
   intro e o hh
   have:=f12_at hT F L h hl hF m x hx hs e o fun _ _=>hh
   rw[if_pos hv,if_pos ht0] at this
   by_cases he:e=0
   ·rw[if_pos ⟨hv,ht0,he⟩] at this
    rw[if_pos he];exact this
   ·rw[if_neg (fun hh=>he hh.2.2)] at this
    rw[if_neg he];exact this
  rw[hev]
  unfold valE
  by_cases k0:(typR L x).1=0
  ·obtain ⟨n1,n2⟩:=f46 (G:=G) hfit.fam.num m x hx hs hsn hty (by rw[←ek];exact k0)
   rw[if_pos k0]
   cases hn:nuE (revT F F.length) x with
   | some p=>
    have:=key 0 { ftK (typR L x).1 with n:=p.1,d:=p.2 } (f44_ok (by rw[k0];exact f45_num (n1 p hn) (ftK 0)))
    exact this
   | none=>
    have:=key 2 (ftK (typR L x).1) (f44_pan (by rw[k0];exact f45_numP (n2 hn) (ftK 0)))
    exact this
  ·rw[if_neg k0]
   by_cases k1:(typR L x).1=1
   ·obtain ⟨n1,n2⟩:=f47 (G:=G) hfit.fam hfit.knf m x hx hs hsn hty (by rw[←ek];exact k1)
    rw[if_pos k1]
    cases hn:bvE (revT F F.length) x with
    | some b=>
     have:=key 0 { ftK (typR L x).1 with tr:=b } (f44_ok (by rw[k1];exact f45_truth (n1 b hn) (ftK 1)))
     exact this
    | none=>
     have:=key 2 (ftK (typR L x).1) (f44_pan (by rw[k1];exact f45_truthP (n2 hn) (ftK 1)))
     exact this
   ·rw[if_neg k1]
    have:=key 0 { ftK (typR L x).1 with wd:=wvE (revT F F.length) x } (f44_ok (f45_word k0 k1 (f48 _ m x) (ftK _)))
    exact this
 ·have:=f12_at hT F L h hl hF m x hx hs 0 ft0 fun h1 h2=>absurd ⟨h1,h2⟩ hg
  unfold evR
  by_cases hv:vaF F L=true
  ·have ht0:(typR L x).2.2≠0:=fun hh=>hg ⟨hv,hh⟩
   rw[if_neg (fun hh=>ht0 hh.2.1),if_pos hv,if_neg ht0] at this
   rw[if_pos hv,if_neg ht0];exact this
  ·rw[if_neg (fun hh=>hv hh.1),if_neg hv] at this
   rw[if_neg hv];exact this
end Go.Proofs
