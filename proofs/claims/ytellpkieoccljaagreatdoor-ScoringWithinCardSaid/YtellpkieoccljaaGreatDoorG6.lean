import Derived.Test.YtellpkieoccljaaGreatDoorAcD
import Derived.Test.YtellpkieoccljaaGreatDoorG5
set_option autoImplicit false
namespace Go.Proofs
open Go Go.Ab Go.RowKit
set_option maxHeartbeats 4000000
set_option maxRecDepth 100000
variable {G:IH}
/-! A ab7,seen with the sign of an expression. -/
/-! Bounds. -/
def pJ (L:List Fc) (x:Ex):BR:=if ((aP L x).2.2 != 0||(aP L x).1 != 0)=true then (fE,false) else if (jO (aW L L.length) x).2=true then jO (aW L L.length) x else (fE,false)
noncomputable def ag8 (L:List Fc):aZ:=fun f a=>match f,a with
 | 42,[e,_]=>some (.au [di (aP L (ah e)).1,di (aP L (ah e)).2.1,di (aP L (ah e)).2.2])
 | 63,[_]=>some (KX L)
 | 64,[_,e]=>some (.au [iG (jO (aW L L.length) (ah e)).1,db (jO (aW L L.length) (ah e)).2])
 | _,_=>none
theorem adN {L:List Fc} {x:Ex} (h:(aP L x).2.2=0):jk L=true∧kK x=true∧aV x=true∧(dA L x).2.2=0∧aP L x=((dA L x).1,0,0):=by
 unfold aP at h⊢
 split at h
 ·simp at h
 ·rename_i h1
  split at h
  ·exact absurd h (by assumption)
  ·rename_i h2
   simp only[Bool.or_eq_true,Bool.not_eq_true',decide_eq_true_eq,not_or] at h1
   have hf:kK x=true:=by
    have h3:=h1.2
    unfold oh at h3
    cases hh:kK x with
    | true=>rfl
    | false=>rw[hh] at h3;exact absurd rfl h3
   refine⟨by simpa using h1.1,hf,?_,by omega,?_⟩
   ·unfold kK at hf
    simp only[aT] at hf
    first|exact hf.1.1|exact hf.1
   ·rw[if_neg (by simp only[Bool.or_eq_true,Bool.not_eq_true',decide_eq_true_eq,not_or];exact h1),if_neg h2]
theorem f24 (hT:Tab G) (m:Nat) (x:Ex) (L:List Fc) (hx:ht x≤m) (hs:Sm x) (h:∀i,i<L.length→sS (L.getD i aG)) (hl:L.length≤1000):aj Tryz.prog G 24 [bG m x,fC L] (.au [fr (pJ L x).1.a (pJ L x).1.b,fr (pJ L x).1.c (pJ L x).1.d,db (pJ L x).2]):=by
 have e:ah (exV x.k x.s x.n x.d x.pos x.kids.length (lay (bJ m) x.kids))=x:=fU hx
 have hwd:=fun i (hi:i<L.length)=>(h i hi).ln
 refine aj.walk (ay:=ag8 L) (keep:=[]) follows Tryz.func24 rfl Tryz.call24 ?_
 refine aA (fun _ _ _ ZK=>(fun Za Zb Zc Zd Ze=>(ZK 42 [(aB m x),(.slc 7 L.length (gV L))] (.au [(di (aP L (ah (aB m x))).fst),(di (aP L (ah (aB m x))).snd.fst),(di (aP L (ah (aB m x))).snd.snd)])∧((Zd=true)→(Ze=Zb))∧((Zd=false)→((ZK 63 [(.slc 7 L.length (gV L))] Zc∧ZK 64 [Zc,(aB m x)] (.au [(iG Za.fst),(db Za.snd)]))∧(((!Za.snd)=true)→(Ze=Zb))∧(((!Za.snd)=false)→(((.au [(.agg [(di Za.fst.a),(di Za.fst.b)]),(.agg [(di Za.fst.c),(di Za.fst.d)]),(db true)]):DV)=Zb)))))) (jO (aW L L.length) (ah (aB m x))) ((.au [(fr (pJ L x).fst.a (pJ L x).fst.b),(fr (pJ L x).fst.c (pJ L x).fst.d),(db (pJ L x).snd)]):DV) ((.ptr [(.mp none (fV (aW L L.length)) (fH (aW L L.length))),(.mp none (wV (dW L L.length)) (wL (dW L L.length)))]):DV) ((aP L (ah (aB m x))).snd.snd != 0||(aP L (ah (aB m x))).fst != 0) ((.au [(.agg [(di 0),(di 0)]),(.agg [(di 0),(di 0)]),(db false)]):DV)) (by kernel_rfl) ?_
 simp only[e]
 refine⟨f42 hT m x L hx hs h hl,fun h1=>?_,fun h1=>⟨⟨f63 L (by omega) (fun i hi=>by have:=hwd i hi;omega),?_⟩,fun h2=>?_,fun h2=>?_⟩⟩
 ·unfold pJ;rw[if_pos h1]
 ·have h1:=h1
  simp only[Bool.or_eq_false_iff,bne_eq_false_iff_eq] at h1
  obtain ⟨_,_,hsn,ht2,ht3⟩:=adN h1.1
  rw[ht3] at h1
  exact f64 _ _ m x hx hs hsn (IJ m x hx hsn ht2 h1.2)
 ·unfold pJ;rw[if_neg (by rw[h1];decide),if_neg (by simpa using h2)]
 ·unfold pJ;rw[if_neg (by rw[h1];decide),if_pos (by simpa using h2)];simp at h2;rw[h2]
/-! The ab7 of an expression. -/
section
variable {k:Int} {R:List Int} {b0 b1:BR}
end
theorem aj.res {P:Program} {f:FuncId} {xs:List DV} {r r':DV} (h:aj P G f xs r) (hr:∀k v,r.rel k v→r'.rel k v):aj P G f xs r':=
 ⟨h.1,fun w k us hG hw hu=>(h.2 w k us hG hw hu).mono fun _ _ ⟨v,h',e,hv,rest⟩=>⟨v,h',e,hr h' v hv,rest⟩⟩
/-! af7,and names that occur. -/
/-! Names. -/
end Go.Proofs
/- Valid descriptions,plain. -/
namespace Go.Proofs
open Go Go.Ab Go.RowKit
set_option maxHeartbeats 4000000
theorem EH (a b:ByteArray):iR (.string a) (.string b)=decide (a=b):=rfl
theorem Qv (l:List Fc) (s:ByteArray):fH l (.string s)=true↔∃f∈l,f.name=s:=by
 induction l with
 | nil=>simp[fH]
 | cons x l ih=>
  simp only[fH,EH,Bool.or_eq_true,decide_eq_true_eq,ih,List.mem_cons]
  constructor
  ·rintro (rfl|⟨f,h,e⟩)
   ·exact⟨x,.inl rfl,rfl⟩
   ·exact⟨f,.inr h,e⟩
  ·rintro ⟨f,rfl|h,e⟩
   ·exact .inl e.symm
   ·exact .inr ⟨f,h,e⟩
theorem YJ {l:List Fc} (hn:(l.map (·.name)).Nodup) {f:Fc} (hf:f∈l):fM l (.string f.name)=f:=by
 induction l with
 | nil=>simp at hf
 | cons x l ih=>
  rw[List.map_cons,List.nodup_cons] at hn
  unfold fM
  rw[EH]
  rcases List.mem_cons.1 hf with rfl|hf
  ·rw[decide_eq_true rfl];rfl
  ·rw[decide_eq_false (fun e=>hn.1 (List.mem_map.2 ⟨f,hf,e⟩))]
   exact ih hn.2 hf
theorem Ya (l:List ByteArray) (s:ByteArray):wL l (.string s)=true↔s∈l:=by
 induction l with
 | nil=>simp[wL]
 | cons x l ih=>simp only[wL,EH,Bool.or_eq_true,decide_eq_true_eq,ih,List.mem_cons]
theorem Oi (L:List Fc):aW L L.length=L.reverse:=by unfold aW;rw[List.take_length]
theorem G6 {L:List Fc} {s:ByteArray}:fH (aW L L.length) (.string s)=true↔∃f∈L,f.name=s:=by
 rw[Oi,Qv];simp only[List.mem_reverse]
theorem Uk {L:List Fc} {s:ByteArray}:wL (dW L L.length) (.string s)=true↔∃f∈L,s∈f.words:=by
 rw[Ya];unfold dW;rw[List.take_length,List.mem_reverse,List.mem_flatMap]
structure VF (L:List Fc):Prop where
 nd:(L.map (·.name)).Nodup
 ds:∀f∈L,qF f=true
 wd:∀f∈L,∀s∈f.words,∀g∈L,g.name≠s
theorem Vz {L:List Fc} (h:jk L=true):VF L:=by
 unfold jk vC dF at h
 simp only[aT,decide_eq_true_eq,Bool.not_eq_true',List.any_eq_false] at h
 refine⟨h.1.2,fun f hf=>?_,fun f hf s hs g hg e=>?_⟩
 ·have:=h.2 f hf
  unfold uP at this
  simp only[Bool.or_eq_true,Bool.not_eq_true',not_or] at this
  simpa using this.1
 ·have:=h.2 f hf
  unfold uP at this
  simp only[Bool.or_eq_true,Bool.not_eq_true',not_or] at this
  refine this.2 ?_
  rw[List.any_eq_true]
  exact⟨s,hs,(uF _ _).2 (List.mem_map.2 ⟨g,hg,e⟩)⟩
theorem Ld {L:List Fc} (h:VF L) {f:Fc} (hf:f∈L):fM (aW L L.length) (.string f.name)=f:=by
 rw[Oi]
 refine YJ ?_ (List.mem_reverse.2 hf)
 rw[List.map_reverse]
 exact List.pairwise_reverse.2 (h.nd.imp fun h=>h.symm)
theorem getD_mem {α:Type} {l:List α} {i:Nat} {x0:α} (h:i<l.length):l.getD i x0∈l:=by
 rw[List.getD,bQ h];exact List.getElem_mem h
theorem wO {L:List Fc} {s:ByteArray} (h:eP L s≥0):(eP L s).toNat<L.length∧(L.getD (eP L s).toNat aG).name=s:=by
 have hm:s∈dF L:=by
  refine Classical.byContradiction fun hn=>?_
  exact(Et L s).2 hn h
 obtain ⟨f,hf,e⟩:=List.mem_map.1 hm
 -- the first place at which the name is
 have hex:∃k,k<L.length∧vI s (L.getD k aG)=true:=by
  obtain ⟨i,hi,rfl⟩:=List.getElem_of_mem hf
  refine⟨i,hi,?_⟩
  unfold vI
  rw[List.getD,bQ hi]
  simpa using e
 have Zy:∃k,k<L.length∧vI s (L.getD k aG)=true∧∀i,i<k→vI s (L.getD i aG)=false:=by
  obtain ⟨k,hk,hp⟩:=hex
  induction k using Nat.strongRecOn with
  | _ k ih=>
   by_cases hh:∃j,j<k∧vI s (L.getD j aG)=true
   ·obtain ⟨j,hj,hp'⟩:=hh
    exact ih j hj (by omega) hp'
   ·refine⟨k,hk,hp,fun i hi=>?_⟩
    cases hb:vI s (L.getD i aG) with
    | false=>rfl
    | true=>exact absurd ⟨i,hi,hb⟩ hh
 obtain ⟨k,hk,hp,hno⟩:=Zy
 have h2:=(rY hk hno hp).2
 have h2:eP L s=k:=h2
 rw[h2,Int.toNat_natCast]
 refine⟨hk,?_⟩
 unfold vI at hp
 simpa using hp
theorem CB {L:List Fc} {s:ByteArray}:eP L s≥0↔fH (aW L L.length) (.string s)=true:=by
 rw[G6]
 constructor
 ·intro h
  obtain ⟨h1,h2⟩:=wO h
  exact⟨_,getD_mem h1,h2⟩
 ·rintro ⟨f,hf,e⟩
  refine Classical.byContradiction fun hn=>?_
  exact(Et L s).1 hn (List.mem_map.2 ⟨f,hf,e⟩)
theorem L9 {L:List Fc} (hv:VF L) {s:ByteArray} (h:eP L s≥0):fM (aW L L.length) (.string s)=L.getD (eP L s).toNat aG:=by
 obtain ⟨h1,h2⟩:=wO h
 have:=Ld hv (getD_mem (x0:=aG) h1)
 rwa [h2] at this
theorem Gt {f:Fc} (h:qF f=true):f.kind=0∧ok2 f.ln f.ld f.hn f.hd=true∧fG f.ln f.ld f.hn f.hd≤0∧f.words=[]∨f.kind=1∧f.words=[]∧rE f=true∨f.kind=2∧f.words≠[]∧rE f=true:=by
 unfold qF at h
 simp only[aT] at h
 have h:=h.2
 split at h
 ·simp only[aT,decide_eq_true_eq] at h
  exact .inl ⟨by assumption,h.1.1,h.1.2,List.eq_nil_of_length_eq_zero h.2⟩
 ·split at h
  ·simp only[aT,decide_eq_true_eq] at h
   exact .inr (.inl ⟨by assumption,List.eq_nil_of_length_eq_zero h.2,h.1⟩)
  ·split at h
   ·simp only[aT,decide_eq_true_eq] at h
    exact .inr (.inr ⟨by assumption,List.length_pos_iff.1 (by omega),h.1.1.1.1⟩)
   ·cases h
theorem YM {L:List Fc} (hv:VF L) {s:ByteArray}:0≤(lN (aW L L.length) (dW L L.length) s).1∧(lN (aW L L.length) (dW L L.length) s).1≤2:=by
 unfold lN
 split
 ·rename_i h
  obtain ⟨f,hf,rfl⟩:=G6.1 h
  rw[Ld hv hf]
  rcases Gt (hv.ds f hf) with h|h|h<;>(simp only[h.1];omega)
 ·split<;>simp
theorem KF {L:List Fc} (hv:VF L) {x:Ex} (hs:aV x=true) (h:(dA L x).2.2=0):0≤(dA L x).1∧(dA L x).1≤2:=by
 obtain ⟨t1,t2,t3⟩:=nJ hs h
 have hk:=qC hs
 by_cases e2:x.k=2
 ·have:=YM hv (s:=x.s)
  rw[(t3 e2).1];exact this
 ·by_cases e:x.k=1∨(5≤x.k∧x.k≤11)
  ·have:=t1 e
   show 0≤(bZ _ _ x).1∧(bZ _ _ x).1≤2
   omega
  ·have:=t2 (by omega)
   show 0≤(bZ _ _ x).1∧(bZ _ _ x).1≤2
   omega
theorem Yr {L:List Fc} {x:Ex} (hs:aV x=true) (h:(dA L x).2.2=0) (h2:(dA L x).1=2):x.k=2∧(lN (aW L L.length) (dW L L.length) x.s).1=2:=by
 obtain ⟨t1,t2,t3⟩:=nJ hs h
 have hk:=qC hs
 by_cases e2:x.k=2
 ·exact⟨e2,by rw[←(t3 e2).1];exact h2⟩
 ·exfalso
  by_cases e:x.k=1∨(5≤x.k∧x.k≤11)
  ·have:=t1 e;have h2:(bZ _ _ x).1=2:=h2;omega
  ·have:=t2 (by omega);have h2:(bZ _ _ x).1=2:=h2;omega
def eH (L:List Fc) (x:Ex):List ByteArray:=if (x.k==2&&decide (eP L x.s≥0))=true then (L.getD (eP L x.s).toNat aG).words else []
def yQ (x y:List ByteArray) (a b:ByteArray):Bool:=if (decide (x.length>0)&&decide (y.length>0))=true then decide (x=y) else cu x b||cu y a
theorem NH {L:List Fc} (hv:VF L) {x:Ex} (hs:aV x=true) (h:(dA L x).2.2=0) (h2:(dA L x).1=2) :
  (fH (aW L L.length) (.string x.s)=true→eH L x=(fM (aW L L.length) (.string x.s)).words∧0<(eH L x).length)∧(fH (aW L L.length) (.string x.s)=false→eH L x=[]):=by
 obtain ⟨e2,hn⟩:=Yr hs h h2
 constructor
 ·intro hh
  have hf:=CB.2 hh
  have:eH L x=(fM (aW L L.length) (.string x.s)).words:=by
   unfold eH
   rw[if_pos (by rw[e2,decide_eq_true hf];rfl),L9 hv hf]
  refine⟨this,?_⟩
  rw[this]
  unfold lN at hn
  rw[if_pos hh] at hn
  obtain ⟨f,hf,e⟩:=G6.1 hh
  rw[←e,Ld hv hf] at hn⊢
  rcases Gt (hv.ds f hf) with h|h|h
  ·have:=h.1;have:f.kind=2:=hn;omega
  ·have:=h.1;have:f.kind=2:=hn;omega
  ·exact List.length_pos_iff.2 h.2.1
 ·intro hh
  unfold eH
  rw[if_neg]
  intro hc
  simp only[aT,decide_eq_true_eq] at hc
  rw[CB.1 hc.2] at hh
  cases hh
theorem ZH {L:List Fc} (hv:VF L) {x y:Ex} (hx:aV x=true) (hy:aV y=true) (h1:(dA L x).2.2=0) (h2:(dA L y).2.2=0) (k1:(dA L x).1=2) (k2:(dA L y).1=2) :
  cmK (aW L L.length) x.s y.s 2 2=yQ (eH L x) (eH L y) x.s y.s:=by
 obtain ⟨p1,p2⟩:=NH hv hx h1 k1
 obtain ⟨q1,q2⟩:=NH hv hy h2 k2
 unfold cmK yQ
 rw[if_neg (by decide)]
 cases ha:fH (aW L L.length) (.string x.s) with
 | true=>
  obtain ⟨a1,a2⟩:=p1 ha
  cases hb:fH (aW L L.length) (.string y.s) with
  | true=>
   obtain ⟨b1,b2⟩:=q1 hb
   rw[if_pos (by decide),decide_eq_true (by omega),decide_eq_true (by omega),if_pos (by decide),a1,b1]
   unfold LZ;rfl
  | false=>
   rw[q2 hb,if_neg (by decide),if_pos rfl,if_neg (by simp),a1]
   simp[cu]
 | false=>
  rw[p2 ha]
  cases hb:fH (aW L L.length) (.string y.s) with
  | true=>
   obtain ⟨b1,b2⟩:=q1 hb
   rw[if_neg (by decide),if_neg (by decide),if_pos rfl,if_neg (by simp),b1]
   simp[cu]
  | false=>
   rw[if_neg (by decide),if_neg (by decide),if_neg (by decide),if_neg (by simp),q2 hb]
   simp[cu]
/-! Kinds in common. -/
def fA:List Int→Int
 | []=>-1
 | a :: l=>if lT l a then a else -1
theorem ZY {l:List Int} {v:Int} (hv:0≤v) (hl:0<l.length):fA l=v↔lT l v=true:=by
 cases l with
 | nil=>simp at hl
 | cons a l=>
  show (if lT l a=true then a else -1)=v↔_
  have e:lT (a :: l) v=true↔a=v∧lT l v=true:=by
   unfold lT
   simp only[List.any_cons,Bool.not_eq_true',Bool.or_eq_false_iff,bne_eq_false_iff_eq]
  rw[e]
  constructor
  ·intro h
   split at h
   ·rename_i h0;subst h;exact⟨rfl,h0⟩
   ·omega
  ·rintro ⟨rfl,h⟩
   rw[if_pos h]
theorem Yd (p q:Int):fA [p,q]=if q=p then p else -1:=by
 unfold fA lT
 simp only[List.any_cons,List.any_nil,Bool.or_false]
 by_cases h:q=p
 ·subst h;simp
 ·rw[if_neg h,if_neg]
  simp[h]
end Go.Proofs
/- Facts of valid descriptions,plain. -/
namespace Go.Proofs
open Go Go.Ab Go.RowKit
set_option maxHeartbeats 4000000
theorem PE (l:List Ft) (s:ByteArray):tH l (.string s)=true↔∃f∈l,f.nm=s:=by
 induction l with
 | nil=>simp[tH]
 | cons x l ih=>
  simp only[tH,EH,Bool.or_eq_true,decide_eq_true_eq,ih,List.mem_cons]
  constructor
  ·rintro (rfl|⟨f,h,e⟩)
   ·exact⟨x,.inl rfl,rfl⟩
   ·exact⟨f,.inr h,e⟩
  ·rintro ⟨f,rfl|h,e⟩
   ·exact .inl e.symm
   ·exact .inr ⟨f,h,e⟩
theorem YD {l:List Ft} (hn:(l.map (·.nm)).Nodup) {f:Ft} (hf:f∈l):tM l (.string f.nm)=f:=by
 induction l with
 | nil=>simp at hf
 | cons x l ih=>
  rw[List.map_cons,List.nodup_cons] at hn
  unfold tM
  rw[EH]
  rcases List.mem_cons.1 hf with rfl|hf
  ·rw[decide_eq_true rfl];rfl
  ·rw[decide_eq_false (fun e=>hn.1 (List.mem_map.2 ⟨f,hf,e⟩))]
   exact ih hn.2 hf
theorem XM {l:List Ft} {s:ByteArray} (h:¬∃f∈l,f.nm=s):tM l (.string s)=aJ:=by
 induction l with
 | nil=>rfl
 | cons x l ih=>
  unfold tM
  rw[EH,decide_eq_false (fun e=>h ⟨x,List.mem_cons_self ..,e.symm⟩)]
  exact ih fun ⟨f,hf,e⟩=>h ⟨f,List.mem_cons_of_mem _ hf,e⟩
theorem YB {l:List Fc} {s:ByteArray} (h:¬∃f∈l,f.name=s):fM l (.string s)=aG:=by
 induction l with
 | nil=>rfl
 | cons x l ih=>
  unfold fM
  rw[EH,decide_eq_false (fun e=>h ⟨x,List.mem_cons_self ..,e.symm⟩)]
  exact ih fun ⟨f,hf,e⟩=>h ⟨f,List.mem_cons_of_mem _ hf,e⟩
structure nV (F:List Ft) (L:List Fc):Prop where
 vf:VF L
 len:F.length=L.length
 fit:∀i,i<L.length→jK (F.getD i aJ) (L.getD i aG)=true
theorem DR {F:List Ft} {L:List Fc} (h:gJ F L=true):nV F L:=by
 unfold gJ lJ at h
 simp only[aT,decide_eq_true_eq,List.all_eq_true,List.mem_range] at h
 exact⟨Vz h.1,h.2.1,h.2.2⟩
theorem nV.nm {F:List Ft} {L:List Fc} (h:nV F L) {i:Nat} (hi:i<L.length):(F.getD i aJ).nm=(L.getD i aG).name∧(F.getD i aJ).kind=(L.getD i aG).kind:=by
 have:=h.fit i hi
 unfold jK at this
 simp only[aT,decide_eq_true_eq] at this
 exact⟨this.1.1.1.1.1.1,this.1.1.1.1.1.2⟩
theorem nV.names {F:List Ft} {L:List Fc} (h:nV F L):F.map (·.nm)=L.map (·.name):=by
 apply List.ext_getElem
 ·simp[h.len]
 ·intro i h1 h2
  have h3:i<L.length:=by simpa using h2
  have h4:i<F.length:=by simpa using h1
  have:=(h.nm h3).1
  simpa [List.getD,bQ h3,bQ h4] using this
theorem Iy (F:List Ft):bC F F.length=F.reverse:=by unfold bC;rw[List.take_length]
theorem LV {F:List Ft} {s:ByteArray}:tH (bC F F.length) (.string s)=true↔∃f∈F,f.nm=s:=by
 rw[Iy,PE];simp only[List.mem_reverse]
theorem nV.tM {F:List Ft} {L:List Fc} (h:nV F L) {i:Nat} (hi:i<L.length):tM (bC F F.length) (.string (L.getD i aG).name)=F.getD i aJ:=by
 have hl:=h.len
 rw[←(h.nm hi).1,Iy]
 refine YD ?_ (List.mem_reverse.2 (getD_mem (by omega)))
 rw[List.map_reverse,h.names]
 exact List.pairwise_reverse.2 (h.vf.nd.imp fun h=>h.symm)
theorem nV.tH {F:List Ft} {L:List Fc} (h:nV F L) (s:ByteArray):tH (bC F F.length) (.string s)=fH (aW L L.length) (.string s):=by
 rw[Bool.eq_iff_iff,LV,G6]
 have e1:(∃f∈F,f.nm=s)↔s∈F.map (·.nm):=by simp[List.mem_map]
 have e2:(∃f∈L,f.name=s)↔s∈L.map (·.name):=by simp[List.mem_map]
 rw[e1,e2,h.names]
theorem nV.at {F:List Ft} {L:List Fc} (h:nV F L) {s:ByteArray} (hs:fH (aW L L.length) (.string s)=true):∃i,i<L.length∧fM (aW L L.length) (.string s)=L.getD i aG∧Go.Proofs.tM (bC F F.length) (.string s)=F.getD i aJ:=by
 have h1:=CB.2 hs
 obtain ⟨h2,h3⟩:=wO h1
 refine⟨_,h2,L9 h.vf h1,?_⟩
 have:=h.tM h2
 rwa [h3] at this
theorem nV.fam {F:List Ft} {L:List Fc} (h:nV F L):TK (bC F F.length) (aW L L.length):=by
 refine⟨h.tH,fun s=>?_,fun s hs hk=>?_⟩
 ·by_cases hs:fH (aW L L.length) (.string s)=true
  ·obtain ⟨i,hi,e1,e2⟩:=h.at hs
   rw[e1,e2];exact(h.nm hi).2
  ·have n1:¬∃f∈aW L L.length,f.name=s:=fun hh=>hs ((Qv _ _).2 hh)
   have n2:¬∃f∈bC F F.length,f.nm=s:=fun hh=>hs (by rw[←h.tH];exact(PE _ _).2 hh)
   rw[XM n2,YB n1]
 ·obtain ⟨i,hi,e1,e2⟩:=h.at hs
  rw[e1] at hk
  rw[e2]
  have:=h.fit i hi
  unfold jK vJ at this
  simp only[aT,Bool.or_eq_true,bne_iff_ne,ne_eq] at this
  have h5:=(this.1.2.resolve_left (fun hh=>hh hk)).1.1.2
  unfold iF ok2 at h5
  simp only[aT] at h5
  exact h5.1
theorem nV.OJ {F:List Ft} {L:List Fc} (h:nV F L):TI (aW L L.length):=by
 intro s hs
 obtain ⟨i,hi,e1,_⟩:=h.at hs
 rw[e1]
 rcases Gt (h.vf.ds _ (getD_mem (x0:=aG) hi)) with h1|h1|h1
 ·exact .inl h1.1
 ·exact .inr (.inl h1.1)
 ·exact .inr (.inr h1.1)
end Go.Proofs
/- Atoms and reasons,plain. -/
namespace Go.Proofs
open Go Go.Ab Go.RowKit
set_option maxHeartbeats 4000000
theorem VI:∀(m M:Nat) (x:Ex),ht x≤m→ht x≤M→∀(h:IH) (v:Value),DV.rel h (bG m x) v→DV.rel h (bG M x) v:=by
 intro m
 induction m with
 | zero=>
  intro M x hx _ h v hv
  have hk:x.kids=[]:=by
   refine Classical.byContradiction fun hh=>?_
   have:0<x.kids.length:=List.length_pos_iff.2 hh
   have:=iC this
   omega
  have e:∀f g:Nat→DV,∀w,DV.rel h (.slc 6 x.kids.length f) w→DV.rel h (.slc 6 x.kids.length g) w:=fun f g w ⟨p,cap,e,hc,r⟩=>⟨p,cap,e,hc,.inl (by rw[hk];rfl)⟩
  obtain ⟨vs,rfl,v1,u1,rfl,a1,v2,u2,rfl,a2,v3,u3,rfl,a3,v4,u4,rfl,a4,v5,u5,rfl,a5,v6,u6,rfl,a6,a7⟩:=hv
  exact⟨_,rfl,v1,_,rfl,a1,v2,_,rfl,a2,v3,_,rfl,a3,v4,_,rfl,a4,v5,_,rfl,a5,v6,_,rfl,e _ _ _ a6,a7⟩
 | succ m ih=>
  intro M x hx hM h v hv
  have e:∀w,DV.rel h (.slc 6 x.kids.length (lay (bJ (m+1)) x.kids)) w→DV.rel h (.slc 6 x.kids.length (lay (bJ M) x.kids)) w:=by
   rintro w ⟨p,cap,e,hc,r⟩
   refine⟨p,cap,e,hc,r.imp id ?_⟩
   rintro ⟨b,off,hp,r⟩
   refine⟨b,off,hp,fun i hi=>?_⟩
   obtain ⟨u,hu,h1,h2⟩:=r i hi
   have k1:=iC hi
   obtain ⟨M',rfl⟩:∃M',M=M'+1:=⟨M-1,by omega⟩
   exact⟨u,ih M' (x.kids.getD i ak) (by omega) (by omega) h u hu,h1,h2⟩
  obtain ⟨vs,rfl,v1,u1,rfl,a1,v2,u2,rfl,a2,v3,u3,rfl,a3,v4,u4,rfl,a4,v5,u5,rfl,a5,v6,u6,rfl,a6,a7⟩:=hv
  exact⟨_,rfl,v1,_,rfl,a1,v2,_,rfl,a2,v3,_,rfl,a3,v4,_,rfl,a4,v5,_,rfl,a5,v6,_,rfl,e _ a6,a7⟩
def jU (x:Ex):Bool:=x.k==18||x.k==19||x.k==20
mutual
def bM:Ex→List Ex
 | .mk k s n d a kids=>if k=18∨k=19∨k=20 then iP kids else [.mk k s n d a kids]
def iP:List Ex→List Ex
 | []=>[]
 | x :: l=>bM x++iP l
end
theorem OM (x:Ex):bM x=if x.k=18∨x.k=19∨x.k=20 then iP x.kids else [x]:=by cases x;rw[bM];rfl
theorem ql (x:Ex):jU x=true↔x.k=18∨x.k=19∨x.k=20:=by unfold jU;simp only[Bool.or_eq_true,beq_iff_eq,or_assoc]
theorem YF {x:Ex} (h:jU x=true):bM x=iP x.kids:=by rw[OM,if_pos ((ql x).1 h)]
theorem P8 {x:Ex} (h:jU x=false):bM x=[x]:=by rw[OM,if_neg (fun hh=>by rw[(ql x).2 hh] at h;cases h)]
theorem Qn:∀(l r:List Ex),iP (l++r)=iP l++iP r
 | [],_=>rfl
 | x :: l,r=>by rw[List.cons_append,iP,iP,Qn l r,List.append_assoc]
theorem Uc (l:List Ex) (x:Ex):iP (l++[x])=iP l++bM x:=by rw[Qn];simp[iP]
mutual
theorem Ez:∀(x:Ex),(bM x).length≤jV x
 | .mk k s n d p kids=>by
  rw[bM]
  have:=Em kids
  simp only[jV]
  split
  ·omega
  ·simp
theorem Em:∀(l:List Ex),(iP l).length≤iK l
 | []=>Nat.le_refl _
 | x :: l=>by
  have:=Ez x
  have:=Em l
  rw[iP,List.length_append]
  simp only[iK];omega
end
theorem OG:∀(l:List Ex) (k:Nat),iK (l.take k)≤iK l
 | [],k=>by rw[List.take_nil];exact Nat.le_refl _
 | x :: l,0=>Nat.zero_le _
 | x :: l,k+1=>by
  have:=OG l k
  rw[List.take_succ_cons]
  simp only[iK];omega
theorem J8 {α:Type} {a b:List α} {i:Nat} {x0:α} (h:i<a.length):(a++b).getD i x0=a.getD i x0:=by
 rw[List.getD,List.getElem?_append_left h];rfl
theorem JQ {α:Type} {a b:List α} {i:Nat} {x0:α} (h:a.length≤i):(a++b).getD i x0=b.getD (i-a.length) x0:=by
 rw[List.getD,List.getElem?_append_right h];rfl
/-! Reasons. -/
def apO:Option (List Int)→Option (List Int)→Option (List Int)
 | some a,some b=>some (a++b)
 | _,_=>none
def WR (k:Int) (v b0:Option Bool) (r0 r1:Option (List Int)):Option (List Int):=
 if k=18 then r0 else match v with
  | none=>none
  | some v=>if v≠(k==20) then apO r0 r1 else match b0 with
   | none=>none
   | some b=>if b=(k==20) then r0 else r1
mutual
def rsE (F:List Ft):Ex→Int→Option (List Int)
 | .mk k s n d a kids,first=>if k=18∨k=19∨k=20 then WR k (dI F (.mk k s n d a kids)) (dI F (kids.getD 0 ak)) ((Rx F kids first).getD 0 none) ((Rx F kids first).getD 1 none) else some [first]
def Rx (F:List Ft):List Ex→Int→List (Option (List Int))
 | [],_=>[]
 | x :: l,first=>rsE F x first :: Rx F l (first+(bM x).length)
end
theorem WS (F:List Ft) (x:Ex) (first:Int):rsE F x first=if x.k=18∨x.k=19∨x.k=20 then WR x.k (dI F x) (dI F (x.kids.getD 0 ak)) ((Rx F x.kids first).getD 0 none) ((Rx F x.kids first).getD 1 none) else some [first]:=by
 cases x;rw[rsE];rfl
theorem FI {F:List Ft} {x:Ex} (h:jU x=false) (first:Int):rsE F x first=some [first]:=by
 rw[WS,if_neg (fun hh=>by rw[(ql x).2 hh] at h;cases h)]
end Go.Proofs
namespace Go.Ab
open Go Go.RowKit
/-! A row under one temporary: what it says beyond its length is nobody's aa6. -/
theorem vK {st:AS} {s t:Nat} {l:List AV} (hl:(st.forget s).box t=some l):t≠s∧∃l0,st.box t=some l0∧l=l0.map (iQ s):=by
 simp only[AS.forget,AS.box,uf] at hl
 split at hl
 ·cases hl
 ·rename_i hne
  cases hh:look st.boxes t with
  | none=>simp[hh] at hl
  | some l0=>simp[hh] at hl;exact⟨hne,l0,hh,hl.symm⟩
theorem uh {β:Nat→Nat} {s t:Nat} {l:List AV} (hl:Live β t (l.map (iQ s))):Live β t l:=by
 cases hp:cO l with
 | true=>exact Live.plain hp
 | false=>rw[rH hp] at hl;exact hl
theorem bF.forget {G:IH} {F:Fr} {w0:World} {h0:IH} {st:AS} {β:Nat→Nat} {h:IH} {tm:Array Value} {w:World} (g:bF G F w0 h0 st β h tm w) (s:Nat):bF G F w0 h0 (st.forget s) β h tm w:=by
 refine⟨g.glob,g.holds,g.ext,g.old,g.kept,g.fix,by simpa [AS.forget] using g.size,fun t x hx=>?_,fun t l hl=>?_,fun t t' l l' hl hl' k1 k2 he=>?_⟩
 ·simp only[AS.forget,List.getElem?_map] at hx
  cases hr:st.regs[t]? with
  | none=>simp[hr] at hx
  | some y=>
   simp only[hr,Option.map_some,aH] at hx
   subst hx
   obtain ⟨v,hv,hy⟩:=g.regs t y hr
   exact⟨v,hv,ng hy⟩
 ·obtain ⟨_,l0,hl0,rfl⟩:=vK hl
  obtain ⟨h1,h2⟩:=g.box t l0 hl0
  refine⟨fun k=>h1 (uh k),?_⟩
  cases hp:cO l0 with
  | true=>
   rw[Own.plain hp] at h2
   obtain ⟨T,vs,e,r⟩:=h2
   exact Own.of (T:=T.1) T.2 e (wS r)
  | false=>rw[rH hp];exact h2
 ·obtain ⟨_,l0,hl0,rfl⟩:=vK hl
  obtain ⟨_,l1,hl1,rfl⟩:=vK hl'
  exact g.inj t t' l0 l1 hl0 hl1 (uh k1) (uh k2) he
def AS.BK (st:AS) (t s sz n:Nat) (agg:RK) (f:Nat→DV):AS:=⟨(st.forget s).regs.set t (.vec s sz 0 n),(s,[.arr agg sz f]) :: (st.forget s).boxes⟩
theorem AS.jq.BK (st:AS) (t s n:Nat) {agg:RK} {sz:Nat} {f:Nat→DV} (f':Nat→DV) (ht:st.regs[t]?=some (.vec s sz 0 n)) (hb:st.box s=some [.arr agg sz f]) (hmn:agg.mn=none) (hf:(st.forget s).free s=true) (YA:∀i,i<n→f i=f' i):st.jq (st.BK t s sz n agg f'):=by
 intro G F w0 h0 β h tm w g
 have gf:=g.forget s
 obtain ⟨v,hv,k1,k2,p,rfl,hp⟩:=g.regs t _ ht
 obtain ⟨b1,b2⟩:=g.box s _ hb
 obtain ⟨⟨r1,r2⟩,r3⟩:=b2
 rw[Nat.zero_add] at k1
 have g1:=gf.adopt (d:=s) (b:=blk β s) (c:=room β s) (m:=n) (l:=[.arr agg sz f']) hf
  (by
   simp only[Own,dP,fZ]
   refine⟨⟨by omega,by rw[hmn];exact Nat.zero_le _⟩,r3.imp id ?_⟩
   rintro ⟨fr,us,e,hz,hl,ho,hel⟩
   exact⟨fr,us,e,hz,hl,ho,fun i hi=>YA i hi▸hel i (by omega)⟩)
  (fun hl=>by
   simp only[Live,dP] at hl
   have hl':Live β s [.arr agg sz f]:=hl
   obtain ⟨a1,a2,a3⟩:=b1 hl'
   refine⟨a1,a2,a3,fun t' k hk kl he=>?_⟩
   obtain ⟨hne,l0,hl0,rfl⟩:=vK hk
   exact hne (g.inj t' s l0 _ hl0 hb (uh kl) hl' he))
 refine⟨_,g1.glob,g1.holds,g1.ext,g1.old,g1.kept,g1.fix,by simpa [AS.BK] using g1.size,fun t' x hx=>?_,g1.box,g1.inj⟩
 simp only[AS.BK] at hx
 by_cases htt:t=t'
 ·subst htt
  have hlt:t<(st.forget s).regs.length:=by
   have:=(List.getElem?_eq_some_iff.1 hx).1
   simpa using this
  rw[List.getElem?_set_self hlt,aH] at hx
  subst hx
  refine⟨_,hv,?_⟩
  simp only[AV.rel,dP,fZ,iZ]
  exact⟨by omega,by omega,p,rfl,hp⟩
 ·rw[List.getElem?_set_ne htt] at hx
  exact g1.regs t' x hx
end Go.Ab
namespace Go.Proofs
open Go Go.Ab Go.RowKit
set_option maxHeartbeats 4000000
set_option maxRecDepth 100000
variable {G:IH}
theorem f102 (m:Nat) (x:Ex):aj Tryz.prog G 102 [bG m x] (db (jU x)):=by
 refine aj.aK (ay:=jo) (keep:=[]) follows Tryz.func102 rfl Tryz.call102 ?_
 refine aA (fun _ _ _ _=>(((db (x.k==18||x.k==19||x.k==20)):DV)=(db (jU x)))) (by kernel_rfl) ?_
 rfl
abbrev Tv:RK:=⟨true,26,false,none⟩
def nG (M:Nat) (l:List Ex) (i:Nat):DV:=bG M (l.getD i ak)
abbrev qG (M:Nat) (l:List Ex):DV:=.slc 6 l.length (nG M l)
noncomputable def dAt (M:Nat):aZ:=fun f a=>match f,a with
 | 102,[e]=>some (db (jU (ah e)))
 | 103,[e]=>some (db (jU (ah e)))
 | 56,[e]=>some (qG M (bM (ah e)))
 | 57,[e]=>some (qG M (bM (ah e)))
 | _,_=>none
noncomputable def Ir (M:Nat):iq:={ d:=dAt M,rows:=fun n=>Nat.beq n 10||Nat.beq n 9 }
noncomputable def S56 (M m:Nat) (x:Ex) (k:Nat):AS:=⟨regs Tryz.f56.ntmps [(1,.box 1 0),(3,.vec 900 6 0 (iP (x.kids.take k)).length),(12,.d (.slc 6 x.kids.length (lay (bJ m) x.kids))),(13,vi x.kids.length),(14,vi k)],[(1,l7 m x),(900,[.arr Tv 6 (nG M (iP (x.kids.take k)))])]⟩
theorem Nj (M m:Nat) (x:Ex) (hx:ht x≤m) (hM:ht x≤M) (hsp:jU x=false):aj Tryz.prog G 56 [bG m x] (qG M (bM x)):=by
 have er:ah (aB m x)=x:=fU hx
 refine aj.res (r:=.slc 6 1 fun i=>aN true 6 [di x.k,ds x.s,di x.n,di x.d,di x.pos,.slc 6 x.kids.length (lay (bJ m) x.kids)] (0+i)) ?_ fun k v hv=>?_
 ·refine aj.aK (ay:=Ir M) (keep:=[]) follows Tryz.func56 rfl Tryz.call56 ?_
  refine aA (fun ZT ZW ZQ ZK=>(ZK 102 [(aB m x)] (db (jU (ah (aB m x))))∧(((!jU (ah (aB m x)))=true)→(ZS ((.slc 6 1 (fun i=>aN true 6 [di x.k,ds x.s,di x.n,di x.d,di x.pos,DV.slc 6 x.kids.length (lay (bJ m) x.kids)] (0+i))):DV)))∧(((!jU (ah (aB m x)))=false)→ZW [cd Tryz.f56 [1,1,1,0,1,0],(.blk 0),cd Tryz.f56 [1,1,1,1]] (aI ZT [1]) ZQ))) (by kernel_rfl) ?_
  simp only[er]
  exact⟨f102 m x,fun _=>trivial,fun h=>(by rw[hsp] at h;cases h)⟩
 ·rw[P8 hsp]
  refine jI (fun i hi v hv=>?_) hv
  have hi:i<1:=hi
  obtain rfl:i=0:=by omega
  exact VI m M x hx hM k v hv
theorem f56 (M m:Nat):∀(x:Ex),ht x≤m→ht x≤M→Sm x→aj Tryz.prog G 56 [bG m x] (qG M (bM x)):=by
 induction m using Nat.strongRecOn with
 | _ m ih=>
 intro x hx hM hs
 have hlen:=hs.len.1
 have er:ah (aB m x)=x:=fU hx
 have hnd:=hs.nd
 cases hsp:jU x with
 | false=>exact Nj M m x hx hM hsp
 | true=>
  rw[YF hsp]
  refine aj.aK (ay:=Ir M) (keep:=[]) follows Tryz.func56 rfl Tryz.call56 ?_
  refine aA (fun ZT ZW ZQ ZK=>(ZK 102 [(aB m x)] (db (jU (ah (aB m x))))∧(((!jU (ah (aB m x)))=true)→(((.slc 6 1 (fun i=>aN true 6 [di x.k,ds x.s,di x.n,di x.d,di x.pos,DV.slc 6 x.kids.length (lay (bJ m) x.kids)] (0+i))):DV)=(qG M (iP x.kids))))∧(((!jU (ah (aB m x)))=false)→ZW [cd Tryz.f56 [1,1,1,0,1,0],(.blk 0),cd Tryz.f56 [1,1,1,1]] (aI ZT [1]) ZQ))) (by kernel_rfl) ?_
  simp only[er]
  refine⟨f102 m x,fun h=>(by rw[hsp] at h;cases h),fun _=>?_⟩
  refine aC.pre (.nilRow _ 3 900 6 Tv (nG M (iP (x.kids.take 0))) (by kernel_rfl) (by kernel_rfl)) ?_
  refine aC.loop (c:=dR (aQ Tryz.f56) [1,1,1,0,1,0,0]) (by kernel_rfl) (S56 M m x) (fun k=>k≤x.kids.length) (fun k=>x.kids.length-k) 0 ?_ (Nat.zero_le _) ?_
  ·exact AS.dB (by kernel_rfl)
  ·intro k hk
   by_cases hk2:k<x.kids.length
   ·have WL:ah (aS m x k)=x.kids.getD k ak:=dL hx hk2
    have aa7:aj Tryz.prog G 56 [aS m x k] (qG M (bM (x.kids.getD k ak))):=jD (Q:=fun d=>aj Tryz.prog G 56 [d] (qG M (bM (x.kids.getD k ak)))) hx hk2 fun m' h3 h4=>ih m' h3 _ h4 (by have:=iC hk2;omega) (hs.kid hk2)
    have Xw:iP (x.kids.take (k+1))=iP (x.kids.take k)++bM (x.kids.getD k ak):=by
     rw[List.take_add_one,bQ hk2,Option.toList_some,Uc,List.getD,bQ hk2];rfl
    have h1:=Em (x.kids.take (k+1))
    have h2:=OG x.kids (k+1)
    have h3:=zh x
    rw[Xw,List.length_append] at h1
    refine aK (ay:=Ir M) (keep:=[]) (cuts:=[]) (n:=1000) follows ?_
    refine bW (fun ZT ZW ZQ ZK ZA _=>(fun Za=>((((decide ((↑k:Int)<↑x.kids.length))=true)→(((0≤(↑k:Int))∧((↑k:Int)<↑x.kids.length))∧(ZK 56 [(aY m (x.kids.getD (↑k:Int).toNat ak))] (.slc 6 Za.length (nG M Za))∧((((iP (List.take k x.kids)).length+Za.length)*72≤1099511627776)∧((iP (List.take k x.kids)).length+Za.length≤1099511627776))∧(∀(i:Nat),i<Za.length→jW true 6 (nG M Za i)=true))∧(I64 (↑k+1))∧(ZA (aI ZT [0]))))∧(((decide ((↑k:Int)<↑x.kids.length))=false)→ZW [cd Tryz.f56 [1,1,1,1]] (aI ZT [1]) ZQ))) (bM (ah (aY m (x.kids.getD (↑k:Int).toNat ak))))) (by kernel_rfl) ?_
    simp only[Int.toNat_natCast,WL]
    refine⟨fun _=>⟨⟨by omega,by omega⟩,⟨aa7,⟨by omega,by omega⟩,fun i _=>rfl⟩,⟨by omega,by omega⟩,?_⟩,fun h=>absurd (of_decide_eq_false h) (by omega)⟩
    refine⟨k+1,(AS.jq.moves [(21,900)] _ rfl).trans ((AS.jq.BK _ 3 900 ((iP (x.kids.take k)).length+(bM (ah (aS m x k))).length) (agg:=Tv) (sz:=6) (f:=fun i=>bif Nat.blt i (iP (x.kids.take k)).length then nG M (iP (x.kids.take k)) i else nG M (bM (ah (aS m x k))) (i-(iP (x.kids.take k)).length)) (nG M (iP (x.kids.take (k+1)))) (by kernel_rfl) (by kernel_rfl) rfl (by kernel_rfl) (fun i hi=>?_)).trans (.of_le ?_)),hk2,(show x.kids.length-(k+1)<x.kids.length-k from by omega)⟩
    ·rw[WL,Xw]
     unfold nG
     rcases Nat.lt_or_ge i (iP (x.kids.take k)).length with h4|h4
     ·rw[show Nat.blt i (iP (x.kids.take k)).length=true from by rw[Nat.blt_eq];exact h4,J8 h4];rfl
     ·rw[show Nat.blt i (iP (x.kids.take k)).length=false from by rw[Bool.eq_false_iff,ne_eq,Nat.blt_eq];omega,JQ h4];rfl
    ·refine AS.leZ [1] [] (b:=((T0∧((.vec 900 6 0 ((iP (List.take k x.kids)).length+(bM (ah (aS m x k))).length)):AV)=(.vec 900 6 0 (iP (List.take (k+1) x.kids)).length)∧T0∧T0∧T0∧True)∧T0∧T0∧True)) (by kernel_rfl) (by kernel_rfl) ?_
     exact⟨⟨rfl,congrArg (fun n=>(AV.vec 900 6 0 n)) (by rw[WL,Xw,List.length_append]),rfl,rfl,rfl,trivial⟩,rfl,rfl,trivial⟩
   ·have hkn:k=x.kids.length:=by omega
    subst hkn
    refine aK (ay:=Ir M) (keep:=[]) (cuts:=[]) (n:=1000) follows ?_
    refine bW (fun ZT ZW ZQ ZK ZA _=>(fun Za=>((((decide ((↑x.kids.length:Int)<↑x.kids.length))=true)→(((0≤(↑x.kids.length:Int))∧((↑x.kids.length:Int)<↑x.kids.length))∧(ZK 56 [(aY m (x.kids.getD (↑x.kids.length:Int).toNat ak))] (.slc 6 Za.length (nG M Za))∧((((iP (List.take x.kids.length x.kids)).length+Za.length)*72≤1099511627776)∧((iP (List.take x.kids.length x.kids)).length+Za.length≤1099511627776))∧(∀(i:Nat),i<Za.length→jW true 6 (nG M Za i)=true))∧(I64 (↑x.kids.length+1))∧(ZA (aI ZT [0]))))∧(((decide ((↑x.kids.length:Int)<↑x.kids.length))=false)→ZW [cd Tryz.f56 [1,1,1,1]] (aI ZT [1]) ZQ))) (bM (ah (aY m (x.kids.getD (↑x.kids.length:Int).toNat ak))))) (by kernel_rfl) ?_
    refine⟨fun h=>absurd (of_decide_eq_true h) (by omega),fun _=>?_⟩
    refine aK (ay:=Ir M) (keep:=[]) (cuts:=[]) (n:=1000) follows ?_
    refine aA (fun _ _ _ _=>(((.slc 6 (iP (List.take x.kids.length x.kids)).length (fun i=>nG M (iP (List.take x.kids.length x.kids)) (0+i))):DV)=(qG M (iP x.kids)))) (by kernel_rfl) ?_
    rw[List.take_length]
    exact congrArg (DV.slc 6 _) (funext fun i=>by rw[Nat.zero_add])
end Go.Proofs
namespace Go.Ab
open Go Go.RowKit
/-! Rows WM to a function that makes rows of its own. -/
mutual
def AV.qy:AV→Bool
 | .d x=>sU x
 | .vec _ _ _ _=>true
 | .agg l | .au l=>AV.Ii l
 | _=>false
def AV.Ii:List AV→Bool
 | []=>true
 | x :: l=>AV.qy x&&AV.Ii l
end
mutual
theorem AV.J5 {β:Nat→Nat} {h k:IH}:∀(x:AV) (v:Value),AV.qy x=true→x.rel β h v→x.rel β k v
 | .d x,v,hf,e=>yI x v hf e
 | .vec _ _ _ _,_,_,e=>e
 | .agg l,_,hf,⟨us',e,r⟩=>⟨us',e,AV.Ap l us' hf r⟩
 | .au l,_,hf,⟨us',e,r⟩=>⟨us',e,AV.Ap l us' hf r⟩
 | .any,_,hf,_=>by simp[AV.qy] at hf
 | .box _ _,_,hf,_=>by simp[AV.qy] at hf
 | .clo _ _ _,_,hf,_=>by simp[AV.qy] at hf
 | .gate _ _ _ _,_,hf,_=>by simp[AV.qy] at hf
 | .elem _ _ _ _,_,hf,_=>by simp[AV.qy] at hf
 | .arr _ _ _,_,hf,_=>by simp[AV.qy] at hf
 | .tb _ _ _,_,hf,_=>by simp[AV.qy] at hf
 | .dead,_,hf,_=>by simp[AV.qy] at hf
 | .dw _,_,hf,_=>by simp[AV.qy] at hf
 | .mp _ _ _,_,hf,_=>by simp[AV.qy] at hf
theorem AV.Ap {β:Nat→Nat} {h k:IH}:∀(l:List AV) (us':List Value),AV.Ii l=true→AV.aF β h l us'→AV.aF β k l us'
 | [],_,_,e=>e
 | x :: l,_,hf,⟨v,zo,e,r,rs⟩=>by
  simp only[AV.Ii,aT] at hf
  exact⟨v,zo,e,AV.J5 x v hf.1 r,AV.Ap l zo hf.2 rs⟩
end
theorem OD:∀(a b:List (Nat×List AV)) (s:Nat),look (a++b) s=match look a s with|some x=>some x|none=>look b s
 | [],_,_=>rfl
 | (t,x) :: a,b,s=>by
  simp only[List.cons_append,look]
  cases Nat.beq t s with
  | true=>rfl
  | false=>exact OD a b s
theorem je.flat {h k:IH} {agg:RK} {sz:Nat} {f:Nat→DV} {c m:Nat} {o:Option Obj} (hf:∀i,sU (f i)=true) (r:je h agg sz f c m o):je k agg sz f c m o:=by
 refine⟨r.1,r.2.imp id ?_⟩
 rintro ⟨fr,us',e,h1,h2,h3,h4⟩
 exact⟨fr,us',e,h1,h2,h3,fun i hi=>let ⟨v,a,b⟩:=h4 i hi;⟨v,yI _ _ (hf i) a,b⟩⟩
theorem cZ.lend {P:Program} {G:IH} {f:FuncId} {args:List AV} {xs:List DV} {ss:List Nat} {pre post:List (Nat×List AV)} {r:AV} (hx:cZ P G f (xs.map .d) [] r post) (hd:kX ⟨args,pre⟩ args=some (xs,ss))
  (hlen:xs.length=args.length) (hss:∀s∈ss,∃k sz g,look pre s=some [.arr k sz g])
  (hpre:∀s l,look pre s=some l→K0≤s∧∃k sz g,l=[.arr k sz g]) (hr:AV.qy r=true) (hpost:∀s l,look post s=some l→s<K0∧∃k sz g,l=[.arr k sz g]∧∀i,sU (g i)=true) :
  cZ P G f args pre r (pre++post):=by
 classical
 refine⟨hx.1,fun F w h β us g=>?_⟩
 let B:Nat→Prop:=fun b=>∃s∈ss,0<room β s∧blk β s=b
 have hnone:∀b,B b→(∀o,h.cell b o=none)∧h.obj b=none:=by
  rintro b ⟨s,hs,hpos,rfl⟩
  obtain ⟨k,sz,fr,hb⟩:=hss s hs
  exact((g.box s _ hb).1 (show 0<room β s from hpos)).2
 have hle:h.le (h.lend w B):=by
  refine⟨fun b o v e=>?_,fun b o e=>e⟩
  simp only[IH.lend]
  split
  ·rename_i hb;rw[(hnone b hb).1] at e;cases e
  ·exact e
 have hholds:(h.lend w B).holds w:=by
  refine⟨fun b o v e=>?_,g.holds.2⟩
  simp only[IH.lend] at e
  split at e
  ·exact e
  ·exact g.holds.1 b o v e
 have hus:us.size=args.length:=g.size
 have hall:AV.aF β h args us.toList:=by
  have key:∀(l:List AV) (us':List Value),l.length=us'.length→(∀(t:Nat) (x:AV),l[t]?=some x→∃v,us'[t]?=some v∧x.rel β h v)→AV.aF β h l us':=by
   intro l
   induction l with
   | nil=>intro us' hl _;exact List.eq_nil_of_length_eq_zero hl.symm
   | cons x l ih=>
    intro us' hl hh
    cases us' with
    | nil=>simp at hl
    | cons v us'=>
     refine⟨v,us',rfl,?_,ih us' (by simpa using hl) fun t y hy=>?_⟩
     ·obtain ⟨u,hu,hr⟩:=hh 0 x rfl
      simp only[List.getElem?_cons_zero,aH] at hu
      subst hu;exact hr
     ·obtain ⟨u,hu,hr⟩:=hh (t+1) y (by simpa using hy)
      exact⟨u,by simpa using hu,hr⟩
  refine key _ _ (by simpa using hus.symm) fun t x ht=>?_
  obtain ⟨v,h1,h2⟩:=g.regs t x ht
  exact⟨v,by simpa using h1,h2⟩
 have rC:=uX g hd (fun _ _=>rfl) (B:=B) (fun s hs hpos=>⟨s,hs,hpos,rfl⟩) hle hall
 have g1:bF G ⟨fun _=>False,β⟩ w (h.lend w B) ⟨xs.map .d,[]⟩ β (h.lend w B) us w:=by
  refine⟨g.glob.trans hle,hholds,IH.le.refl _,fun _ _ _=>⟨fun _=>rfl,rfl⟩,Kept.refl _ _,fun _ _=>⟨rfl,rfl,rfl⟩,by rw[hus];simp[hlen],fun t x ht=>?_,fun s l hb=>(by cases hb),fun s s' l l' hb=>(by cases hb)⟩
  have key:∀(m:List DV) (us':List Value) (t:Nat) (x:AV),DV.aF (h.lend w B) m us'→(m.map AV.d)[t]?=some x→∃v,us'[t]?=some v∧x.rel β (h.lend w B) v:=by
   intro m
   induction m with
   | nil=>intro us' t x _ ht;simp at ht
   | cons d m ih=>
    rintro _ t x ⟨v,zo,rfl,hv,hvs⟩ ht
    cases t with
    | zero=>
     simp only[List.map_cons,List.getElem?_cons_zero,aH] at ht
     subst ht;exact⟨v,rfl,hv⟩
    | succ t=>
     obtain ⟨u,h1,h2⟩:=ih zo t x hvs (by simpa using ht)
     exact⟨u,by simpa using h1,h2⟩
  obtain ⟨v,h1,h2⟩:=key xs us.toList t x rC ht
  exact⟨v,by simpa using h1,h2⟩
 refine(hx.2 _ w _ β us g1).mono ?_
 rintro e w' ⟨v,β',h',rfl,g2⟩
 have hh:h.le h':=hle.trans g2.ext
 have hfix:∀s,K0≤s→blk β' s=blk β s∧room β' s=room β s∧many β' s=many β s:=g2.fix
 have hboth:∀s l,look (pre++post) s=some l→(look pre s=some l)∨(look pre s=none∧look post s=some l):=by
  intro s l hl
  rw[OD] at hl
  cases hp:look pre s with
  | some y=>rw[hp] at hl;exact .inl hl
  | none=>rw[hp] at hl;exact .inr ⟨rfl,hl⟩
 have hpl:∀s l,look pre s=some l→Live β' s l→Live β s l∧blk β' s=blk β s∧blk β s<w.heap.size:=by
  intro s l hl hv
  obtain ⟨k0,k,sz,q,rfl⟩:=hpre s l hl
  have h1:0<room β' s:=hv
  rw[(hfix s k0).2.1] at h1
  obtain ⟨_,h3⟩:=g.box s _ hl
  have hv:Live β s [.arr k sz q]:=h1
  exact⟨hv,(hfix s k0).1,Own.lt hv h3⟩
 have Y9:∀s l,look post s=some l→Live β' s l→w.heap.size≤blk β' s:=by
  intro s l hl hv
  rcases ((g2.box s l hl).1 hv).1 with h1|h1
  ·exact h1.elim
  ·exact h1
 refine⟨v,β',h,rfl,g.glob,⟨fun b o u e=>g2.holds.1 b o u (hh.1 _ _ _ e),fun b o e=>g2.holds.2 b o (hh.2 _ _ e)⟩,IH.le.refl _,fun _ _ _=>⟨fun _=>rfl,rfl⟩,g2.kept.mono fun _ hf=>hf.elim,fun s hs=>?_,g2.size,fun t x ht=>?_,fun s l hl=>?_,fun s s' l l' hl hl' v1 v2 he=>?_⟩
 ·have h1:=hfix s hs
  have h2:=g.fix s hs
  exact⟨h1.1.trans h2.1,h1.2.1.trans h2.2.1,h1.2.2.trans h2.2.2⟩
 ·obtain ⟨u,h1,h2⟩:=g2.regs t x ht
  refine⟨u,h1,?_⟩
  cases t with
  | zero=>
   simp only[List.getElem?_cons_zero,aH] at ht
   subst ht
   exact AV.J5 _ _ hr h2
  | succ t=>simp at ht
 ·rcases hboth s l hl with hp|⟨_,hq⟩
  ·obtain ⟨k0,k,sz,q,rfl⟩:=hpre s l hp
   obtain ⟨h1,h2⟩:=g.box s _ hp
   have f1:=hfix s k0
   refine⟨fun hv=>?_,?_⟩
   ·obtain ⟨a1,a2,_⟩:=hpl s _ hp hv
    rw[a2];exact h1 a1
   ·show je h k sz q (room β' s) (many β' s) _
    have h2:je h k sz q (room β s) (many β s) w.heap[blk β s]?:=h2
    rw[f1.1,f1.2.1,f1.2.2]
    refine⟨h2.1,h2.2.imp id ?_⟩
    rintro ⟨fr,us',e,h3⟩
    exact⟨fr,us',(g2.kept.block _ (lt_of_heap e) fun hf=>hf.elim).trans e,h3⟩
  ·obtain ⟨_,k,sz,q,rfl,hf⟩:=hpost s l hq
   obtain ⟨h1,h2⟩:=g2.box s _ hq
   refine⟨fun hv=>⟨.inr (Y9 s _ hq hv),fun o=>?_,?_⟩,je.flat hf h2⟩
   ·cases hc:h.cell (blk β' s) o with
    | none=>rfl
    | some u=>
     have:=hh.1 _ _ _ hc
     rw[(h1 hv).2.1] at this;cases this
   ·cases hc:h.obj (blk β' s) with
    | none=>rfl
    | some u=>
     have:=hh.2 _ _ hc
     rw[(h1 hv).2.2] at this;cases this
 ·rcases hboth s l hl with hp|⟨_,hq⟩
  ·obtain ⟨a1,a2,a3⟩:=hpl s l hp v1
   rcases hboth s' l' hl' with hp' | ⟨_,hq'⟩
   ·obtain ⟨b1,b2,b3⟩:=hpl s' l' hp' v2
    rw[a2,b2] at he
    exact g.inj s s' l l' hp hp' a1 b1 he
   ·have:=Y9 s' l' hq' v2
    omega
  ·rcases hboth s' l' hl' with hp' | ⟨_,hq'⟩
   ·obtain ⟨b1,b2,b3⟩:=hpl s' l' hp' v2
    have:=Y9 s l hq v1
    omega
   ·exact g2.inj s s' l l' hq hq' v1 v2 he
theorem Cm {β:Nat→Nat} {h:IH}:∀(l:List DV) (us:List Value),l.length=us.length→(∀(t:Nat) (x:AV),(l.map AV.d)[t]?=some x→∃v,us[t]?=some v∧x.rel β h v)→DV.aF h l us
 | [],us,hl,_=>List.eq_nil_of_length_eq_zero hl.symm
 | x :: l,us,hl,hh=>by
  cases us with
  | nil=>simp at hl
  | cons v us=>
   refine⟨v,us,rfl,?_,Cm (β:=β) l us (by simpa using hl) fun t y hy=>?_⟩
   ·obtain ⟨u,hu,hr⟩:=hh 0 (.d x) rfl
    simp only[List.getElem?_cons_zero,aH] at hu
    subst hu;exact hr
   ·obtain ⟨u,hu,hr⟩:=hh (t+1) y (by simpa using hy)
    exact⟨u,by simpa using hu,hr⟩
theorem CO {β:Nat→Nat} {h:IH}:∀(m:List DV) (us:List Value) (t:Nat) (x:AV),DV.aF h m us→(m.map AV.d)[t]?=some x→∃v,us[t]?=some v∧x.rel β h v
 | [],_,_,_,_,ht=>by simp at ht
 | d :: m,_,t,x,⟨v,zo,rfl,hv,hvs⟩,ht=>by
  cases t with
  | zero=>
   simp only[List.map_cons,List.getElem?_cons_zero,aH] at ht
   subst ht;exact⟨v,rfl,hv⟩
  | succ t=>
   obtain ⟨u,h1,h2⟩:=CO m zo t x hvs (by simpa using ht)
   exact⟨u,by simpa using h1,h2⟩
theorem MP {h:IH}:∀(m:List DV) (us:List Value),DV.aF h m us→us.length=m.length
 | [],_,e=>by subst e;rfl
 | d :: m,_,⟨v,zo,e,_,hvs⟩=>by subst e;simp[MP m zo hvs]
theorem cZ.ab6 {P:Program} {G:IH} {f:FuncId} {xs xs':List DV} {post:List (Nat×List AV)} {r:AV} (hx:cZ P G f (xs'.map .d) [] r post) (hr:∀k us,DV.aF k xs us→DV.aF k xs' us):cZ P G f (xs.map .d) [] r post:=by
 refine⟨hx.1,fun F w h β us g=>?_⟩
 have hus:us.size=xs.length:=by have:=g.size;simpa using this
 have h1:DV.aF h xs us.toList:=Cm (β:=β) xs us.toList (by simp[hus]) fun t x ht=>by
  obtain ⟨v,a,b⟩:=g.regs t x ht
  exact⟨v,by simpa using a,b⟩
 have h2:=hr _ _ h1
 refine hx.2 F w h β us ⟨g.glob,g.holds,g.ext,g.old,g.kept,g.fix,?_,fun t x ht=>?_,g.box,g.inj⟩
 ·have:=MP _ _ h2
  simpa using this
 ·obtain ⟨v,a,b⟩:=CO (β:=β) xs' us.toList t x h2 ht
  exact⟨v,by simpa using a,b⟩
end Go.Ab
namespace Go.Proofs
open Go Go.Ab Go.RowKit
set_option maxHeartbeats 4000000
set_option maxRecDepth 100000
variable {G:IH}
/-! The deciding atoms,by the program. -/
theorem cZ.Ll {f:FuncId} {args:List AV} {pre post post':List (Nat×List AV)} {r r':AV} (hle:AS.jq ⟨[r],post⟩ ⟨[r'],post'⟩) (h:cZ Tryz.prog G f args pre r post):cZ Tryz.prog G f args pre r' post':=
 ⟨h.1,fun F w h0 β us g=>(h.2 F w h0 β us g).mono fun e w' ⟨v,β',h',e1,g1⟩=>
  let ⟨β2,g2⟩:=hle G F w h0 β' h' #[v] w' g1
  ⟨v,β2,h',e1,g2⟩⟩
abbrev uI:RK:=⟨false,3,false,none⟩
def gG (l:List Int) (i:Nat):DV:=di (l.getD i 0)
def eF (F:List Ft) (x:Ex) (n:Int):List Int:=(rsE F x n).getD []
theorem Ou {F:List Ft} {x:Ex} {n:Int} {l:List Int} (h:rsE F x n=some l):eF F x n=l:=by unfold eF;rw[h];rfl
noncomputable def dRs (F:List Ft) (M:Nat):aZ:=fun f a=>match f,a with
 | 102,[e]=>some (db (jU (ah e)))
 | 56,[e]=>some (qG M (bM (ah e)))
 | 47,[_,e]=>some (db (gy F (ah e)))
 | _,_=>none
noncomputable def mRs (F:List Ft):FuncId→List AV→List (Nat×List AV)→Option (AV×List (Nat×List AV)):=fun f a _=>match f,a with
 | 60,[_,.d e,.d (.con (.int _ n))]=>some (.vec 900 1 0 (eF F (ah e) n).length,[(900,[.arr uI 1 (gG (eF F (ah e) n))])])
 | _,_=>none
noncomputable def Hy (F:List Ft) (M:Nat):iq:={ d:=dRs F M,m:=mRs F,rows:=fun n=>Nat.beq n 14 }
section
variable (F:List Ft) (m:Nat) (x:Ex) (first:Int) (hx:ht x≤m)
include hx
theorem X3 (h:jU x=false):cZ Tryz.prog G 60 [.d (gI F),.d (bG m x),.d (di first)] [] (.vec 900 1 0 1) [(900,[.arr uI 1 (gG [first])])]:=by
 have er:ah (aB m x)=x:=fU hx
 refine cZ.Ll (r:=.vec 900 1 0 1) (post:=[(900,[.arr uI 1 (aN false 1 [di first])])]) ((AS.jq.BK _ 0 900 1 (agg:=uI) (sz:=1) (f:=aN false 1 [di first]) (gG [first]) (by kernel_rfl) (by kernel_rfl) rfl (by kernel_rfl) (fun i hi=>?_)).trans (.of_le ?_)) ?_
 ·obtain rfl:i=0:=by omega
  rfl
 ·exact AS.dB (by kernel_rfl)
 refine cZ.walk (ay:=Hy F m) (keep:=[]) [(14,900)] follows (by kernel_rfl) Tryz.func60 rfl Tryz.call60 ?_
 refine aA (fun _ _ _ ZK=>(fun Za Zb Zc Zd=>(ZK 102 [(aB m x)] (db (jU (ah (aB m x))))∧(((!jU (ah (aB m x)))=true)→((ZS ((.vec 900 1 0 1):AV))∧(Zb:(Option (List AV)))=Zb∧True))∧(((!jU (ah (aB m x)))=false)→((((x.k==18)=true)→(((((0:Int)≤(0:Int))∧(0<(↑x.kids.length:Int)))∧cZ Tryz.prog G 60 [(.d Zd),(.d Za),(vi first)] [] (.vec 900 1 0 (eF F (ah Za) first).length) [(900,[(.arr ⟨false,3,false,none⟩ 1 (gG (eF F (ah Za) first)))])])∧((.vec 26900 1 0 (eF F (ah Za) first).length):AV)=(.vec 900 1 0 1)∧(none:(Option (List AV)))=Zb∧True))∧(((x.k==18)=false)→(((((0:Int)≤(0:Int))∧(0<(↑x.kids.length:Int)))∧ZK 56 [Za] (.slc 6 (bM (ah Za)).length (nG m (bM (ah Za))))∧(I64 (first + ↑(bM (ah Za)).length)))∧ZK 47 [Zd,(aB m x)] (db (gy F (ah (aB m x))))∧(((!gy F (ah (aB m x))==(x.k==20))=true)→(((((0:Int)≤(0:Int))∧(0<(↑x.kids.length:Int)))∧cZ Tryz.prog G 60 [(.d Zd),(.d Za),(vi first)] [] (.vec 900 1 0 (eF F (ah Za) first).length) [(900,[(.arr ⟨false,3,false,none⟩ 1 (gG (eF F (ah Za) first)))])]∧(((0:Int)≤(1:Int))∧(1<(↑x.kids.length:Int)))∧cZ Tryz.prog G 60 [(.d Zd),(.d Zc),(vi (first + ↑(bM (ah Za)).length))] [] (.vec 900 1 0 (eF F (ah Zc) (first + ↑(bM (ah Za)).length)).length) [(900,[(.arr ⟨false,3,false,none⟩ 1 (gG (eF F (ah Zc) (first + ↑(bM (ah Za)).length))))])]∧(((eF F (ah Za) first).length+(eF F (ah Zc) (first + ↑(bM (ah Za)).length)).length)*8≤1099511627776)∧((eF F (ah Za) first).length+(eF F (ah Zc) (first + ↑(bM (ah Za)).length)).length≤1099511627776))∧((.vec 57 1 0 ((eF F (ah Za) first).length+(eF F (ah Zc) (first + ↑(bM (ah Za)).length)).length)):AV)=(.vec 900 1 0 1)∧(none:(Option (List AV)))=Zb∧True))∧(((!gy F (ah (aB m x))==(x.k==20))=false)→(((((0:Int)≤(0:Int))∧(0<(↑x.kids.length:Int)))∧ZK 47 [Zd,Za] (db (gy F (ah Za))))∧(((gy F (ah Za)==(x.k==20))=true)→(((((0:Int)≤(0:Int))∧(0<(↑x.kids.length:Int)))∧cZ Tryz.prog G 60 [(.d Zd),(.d Za),(vi first)] [] (.vec 900 1 0 (eF F (ah Za) first).length) [(900,[(.arr ⟨false,3,false,none⟩ 1 (gG (eF F (ah Za) first)))])])∧((.vec 74900 1 0 (eF F (ah Za) first).length):AV)=(.vec 900 1 0 1)∧(none:(Option (List AV)))=Zb∧True))∧(((gy F (ah Za)==(x.k==20))=false)→(((((0:Int)≤(1:Int))∧(1<(↑x.kids.length:Int)))∧cZ Tryz.prog G 60 [(.d Zd),(.d Zc),(vi (first + ↑(bM (ah Za)).length))] [] (.vec 900 1 0 (eF F (ah Zc) (first + ↑(bM (ah Za)).length)).length) [(900,[(.arr ⟨false,3,false,none⟩ 1 (gG (eF F (ah Zc) (first + ↑(bM (ah Za)).length))))])])∧((.vec 81900 1 0 (eF F (ah Zc) (first + ↑(bM (ah Za)).length)).length):AV)=(.vec 900 1 0 1)∧(none:(Option (List AV)))=Zb∧True)))))))))) (aY m (x.kids.getD (Int.toNat 0) ak)) (some [(.arr ⟨false,3,false,none⟩ 1 (aN false 1 [(di first)]))]) (aY m (x.kids.getD (Int.toNat 1) ak)) ((.ptr [(.mp none (tV F) (tH F))]):DV)) (by kernel_rfl) ?_
 simp only[er]
 refine⟨f102 m x,fun _=>⟨trivial,trivial,trivial⟩,fun h2=>(by rw[h] at h2;cases h2)⟩
variable (hs:Sm x) (hl:x.kids.length=2) (hk:x.k=19∨x.k=20) (hf:0≤first∧first+jV x≤100000) {v:Bool} (hv:dI F x=some v) (h47:aj Tryz.prog G 47 [gI F,bG m x] (db v))
include hs hl hk hf hv h47
theorem VE (b:Bool) (hb:dI F (x.kids.getD 0 ak)=some b) (heq:v=(x.k==20)) (hbe:b=(x.k==20)) (l0:List Int) (e0:rsE F (x.kids.getD 0 ak) first=some l0)
  (Sz:aj Tryz.prog G 56 [aS m x 0] (qG m (bM (x.kids.getD 0 ak)))) (VW:aj Tryz.prog G 47 [gI F,aS m x 0] (db b))
  (h0:cZ Tryz.prog G 60 [.d (gI F),.d (aS m x 0),.d (di first)] [] (.vec 900 1 0 l0.length) [(900,[.arr uI 1 (gG l0)])]) :
  cZ Tryz.prog G 60 [.d (gI F),.d (bG m x),.d (di first)] [] (.vec 900 1 0 l0.length) [(900,[.arr uI 1 (gG l0)])]:=by
 have _:=hs
 have er:ah (aB m x)=x:=fU hx
 have k0:ah (aS m x 0)=x.kids.getD 0 ak:=dL hx (by omega)
 have t1:Int.toNat 1=1:=rfl
 have hsp:jU x=true:=(ql x).2 (by omega)
 have hn:=Ez (x.kids.getD 0 ak)
 have hn2:=Bl (x:=x) (i:=0) (by omega)
 have hd:gy F x=v:=lM hv
 have hd0:gy F (x.kids.getD 0 ak)=b:=lM hb
 refine cZ.walk (ay:=Hy F m) (keep:=[]) [(74900,900)] follows (by kernel_rfl) Tryz.func60 rfl Tryz.call60 ?_
 refine aA (fun _ _ _ ZK=>(fun Za Zb Zc Zd=>(ZK 102 [(aB m x)] (db (jU (ah (aB m x))))∧(((!jU (ah (aB m x)))=true)→(((.vec 14 1 0 1):AV)=(.vec 900 1 0 l0.length)∧(none:(Option (List AV)))=Zc∧True))∧(((!jU (ah (aB m x)))=false)→((((x.k==18)=true)→(((((0:Int)≤(0:Int))∧(0<(↑x.kids.length:Int)))∧cZ Tryz.prog G 60 [(.d Zd),(.d Za),(vi first)] [] (.vec 900 1 0 (eF F (ah Za) first).length) [(900,[(.arr ⟨false,3,false,none⟩ 1 (gG (eF F (ah Za) first)))])])∧((.vec 26900 1 0 (eF F (ah Za) first).length):AV)=(.vec 900 1 0 l0.length)∧(none:(Option (List AV)))=Zc∧True))∧(((x.k==18)=false)→(((((0:Int)≤(0:Int))∧(0<(↑x.kids.length:Int)))∧ZK 56 [Za] (.slc 6 (bM (ah Za)).length (nG m (bM (ah Za))))∧(I64 (first + ↑(bM (ah Za)).length)))∧ZK 47 [Zd,(aB m x)] (db (gy F (ah (aB m x))))∧(((!gy F (ah (aB m x))==(x.k==20))=true)→(((((0:Int)≤(0:Int))∧(0<(↑x.kids.length:Int)))∧cZ Tryz.prog G 60 [(.d Zd),(.d Za),(vi first)] [] (.vec 900 1 0 (eF F (ah Za) first).length) [(900,[(.arr ⟨false,3,false,none⟩ 1 (gG (eF F (ah Za) first)))])]∧(((0:Int)≤(1:Int))∧(1<(↑x.kids.length:Int)))∧cZ Tryz.prog G 60 [(.d Zd),(.d Zb),(vi (first + ↑(bM (ah Za)).length))] [] (.vec 900 1 0 (eF F (ah Zb) (first + ↑(bM (ah Za)).length)).length) [(900,[(.arr ⟨false,3,false,none⟩ 1 (gG (eF F (ah Zb) (first + ↑(bM (ah Za)).length))))])]∧(((eF F (ah Za) first).length+(eF F (ah Zb) (first + ↑(bM (ah Za)).length)).length)*8≤1099511627776)∧((eF F (ah Za) first).length+(eF F (ah Zb) (first + ↑(bM (ah Za)).length)).length≤1099511627776))∧((.vec 57 1 0 ((eF F (ah Za) first).length+(eF F (ah Zb) (first + ↑(bM (ah Za)).length)).length)):AV)=(.vec 900 1 0 l0.length)∧(none:(Option (List AV)))=Zc∧True))∧(((!gy F (ah (aB m x))==(x.k==20))=false)→(((((0:Int)≤(0:Int))∧(0<(↑x.kids.length:Int)))∧ZK 47 [Zd,Za] (db (gy F (ah Za))))∧(((gy F (ah Za)==(x.k==20))=true)→(((((0:Int)≤(0:Int))∧(0<(↑x.kids.length:Int)))∧cZ Tryz.prog G 60 [(.d Zd),(.d Za),(vi first)] [] (.vec 900 1 0 (eF F (ah Za) first).length) [(900,[(.arr ⟨false,3,false,none⟩ 1 (gG (eF F (ah Za) first)))])])∧((.vec 900 1 0 (eF F (ah Za) first).length):AV)=(.vec 900 1 0 l0.length)∧((some [(.arr ⟨false,3,false,none⟩ 1 (gG (eF F (ah Za) first)))]):(Option (List AV)))=Zc∧True))∧(((gy F (ah Za)==(x.k==20))=false)→(((((0:Int)≤(1:Int))∧(1<(↑x.kids.length:Int)))∧cZ Tryz.prog G 60 [(.d Zd),(.d Zb),(vi (first + ↑(bM (ah Za)).length))] [] (.vec 900 1 0 (eF F (ah Zb) (first + ↑(bM (ah Za)).length)).length) [(900,[(.arr ⟨false,3,false,none⟩ 1 (gG (eF F (ah Zb) (first + ↑(bM (ah Za)).length))))])])∧((.vec 81900 1 0 (eF F (ah Zb) (first + ↑(bM (ah Za)).length)).length):AV)=(.vec 900 1 0 l0.length)∧(none:(Option (List AV)))=Zc∧True)))))))))) (aY m (x.kids.getD (Int.toNat 0) ak)) (aY m (x.kids.getD (Int.toNat 1) ak)) (some [(.arr ⟨false,3,false,none⟩ 1 (gG l0))]) ((.ptr [(.mp none (tV F) (tH F))]):DV)) (by kernel_rfl) ?_
 simp only[er,Int.toNat_zero,t1,k0,Ou e0,hd,hd0]
 refine⟨f102 m x,fun h2=>(by rw[hsp] at h2;cases h2),fun _=>⟨fun h2=>absurd (by simpa using h2:x.k=18) (by omega),fun _=>⟨⟨⟨by omega,by omega⟩,Sz,by omega,by omega⟩,h47,fun h2=>?_,fun _=>⟨⟨⟨by omega,by omega⟩,VW⟩,fun _=>⟨⟨⟨by omega,by omega⟩,h0⟩,trivial,trivial,trivial⟩,fun h2=>?_⟩⟩⟩⟩
 ·exact absurd h2 (by revert heq;generalize (x.k==20)=q;cases v<;>cases q<;>simp)
 ·exact absurd h2 (by revert hbe;generalize (x.k==20)=q;cases b<;>cases q<;>simp)
theorem Ud (b:Bool) (hb:dI F (x.kids.getD 0 ak)=some b) (heq:v=(x.k==20)) (hbe:b≠(x.k==20)) (l1:List Int) (e1:rsE F (x.kids.getD 1 ak) (first+(bM (x.kids.getD 0 ak)).length)=some l1)
  (Sz:aj Tryz.prog G 56 [aS m x 0] (qG m (bM (x.kids.getD 0 ak)))) (VW:aj Tryz.prog G 47 [gI F,aS m x 0] (db b))
  (h1:cZ Tryz.prog G 60 [.d (gI F),.d (aS m x 1),.d (di (first+(bM (x.kids.getD 0 ak)).length))] [] (.vec 900 1 0 l1.length) [(900,[.arr uI 1 (gG l1)])]) :
  cZ Tryz.prog G 60 [.d (gI F),.d (bG m x),.d (di first)] [] (.vec 900 1 0 l1.length) [(900,[.arr uI 1 (gG l1)])]:=by
 have _:=hs
 have er:ah (aB m x)=x:=fU hx
 have k0:ah (aS m x 0)=x.kids.getD 0 ak:=dL hx (by omega)
 have k1:ah (aS m x 1)=x.kids.getD 1 ak:=dL hx (by omega)
 have t1:Int.toNat 1=1:=rfl
 have hsp:jU x=true:=(ql x).2 (by omega)
 have hn:=Ez (x.kids.getD 0 ak)
 have hn2:=Bl (x:=x) (i:=0) (by omega)
 have hd:gy F x=v:=lM hv
 have hd0:gy F (x.kids.getD 0 ak)=b:=lM hb
 refine cZ.walk (ay:=Hy F m) (keep:=[]) [(81900,900)] follows (by kernel_rfl) Tryz.func60 rfl Tryz.call60 ?_
 refine aA (fun _ _ _ ZK=>(fun Za Zb Zc Zd=>(ZK 102 [(aB m x)] (db (jU (ah (aB m x))))∧(((!jU (ah (aB m x)))=true)→(((.vec 14 1 0 1):AV)=(.vec 900 1 0 l1.length)∧(none:(Option (List AV)))=Zc∧True))∧(((!jU (ah (aB m x)))=false)→((((x.k==18)=true)→(((((0:Int)≤(0:Int))∧(0<(↑x.kids.length:Int)))∧cZ Tryz.prog G 60 [(.d Zd),(.d Za),(vi first)] [] (.vec 900 1 0 (eF F (ah Za) first).length) [(900,[(.arr ⟨false,3,false,none⟩ 1 (gG (eF F (ah Za) first)))])])∧((.vec 26900 1 0 (eF F (ah Za) first).length):AV)=(.vec 900 1 0 l1.length)∧(none:(Option (List AV)))=Zc∧True))∧(((x.k==18)=false)→(((((0:Int)≤(0:Int))∧(0<(↑x.kids.length:Int)))∧ZK 56 [Za] (.slc 6 (bM (ah Za)).length (nG m (bM (ah Za))))∧(I64 (first + ↑(bM (ah Za)).length)))∧ZK 47 [Zd,(aB m x)] (db (gy F (ah (aB m x))))∧(((!gy F (ah (aB m x))==(x.k==20))=true)→(((((0:Int)≤(0:Int))∧(0<(↑x.kids.length:Int)))∧cZ Tryz.prog G 60 [(.d Zd),(.d Za),(vi first)] [] (.vec 900 1 0 (eF F (ah Za) first).length) [(900,[(.arr ⟨false,3,false,none⟩ 1 (gG (eF F (ah Za) first)))])]∧(((0:Int)≤(1:Int))∧(1<(↑x.kids.length:Int)))∧cZ Tryz.prog G 60 [(.d Zd),(.d Zb),(vi (first + ↑(bM (ah Za)).length))] [] (.vec 900 1 0 (eF F (ah Zb) (first + ↑(bM (ah Za)).length)).length) [(900,[(.arr ⟨false,3,false,none⟩ 1 (gG (eF F (ah Zb) (first + ↑(bM (ah Za)).length))))])]∧(((eF F (ah Za) first).length+(eF F (ah Zb) (first + ↑(bM (ah Za)).length)).length)*8≤1099511627776)∧((eF F (ah Za) first).length+(eF F (ah Zb) (first + ↑(bM (ah Za)).length)).length≤1099511627776))∧((.vec 57 1 0 ((eF F (ah Za) first).length+(eF F (ah Zb) (first + ↑(bM (ah Za)).length)).length)):AV)=(.vec 900 1 0 l1.length)∧(none:(Option (List AV)))=Zc∧True))∧(((!gy F (ah (aB m x))==(x.k==20))=false)→(((((0:Int)≤(0:Int))∧(0<(↑x.kids.length:Int)))∧ZK 47 [Zd,Za] (db (gy F (ah Za))))∧(((gy F (ah Za)==(x.k==20))=true)→(((((0:Int)≤(0:Int))∧(0<(↑x.kids.length:Int)))∧cZ Tryz.prog G 60 [(.d Zd),(.d Za),(vi first)] [] (.vec 900 1 0 (eF F (ah Za) first).length) [(900,[(.arr ⟨false,3,false,none⟩ 1 (gG (eF F (ah Za) first)))])])∧((.vec 74900 1 0 (eF F (ah Za) first).length):AV)=(.vec 900 1 0 l1.length)∧(none:(Option (List AV)))=Zc∧True))∧(((gy F (ah Za)==(x.k==20))=false)→(((((0:Int)≤(1:Int))∧(1<(↑x.kids.length:Int)))∧cZ Tryz.prog G 60 [(.d Zd),(.d Zb),(vi (first + ↑(bM (ah Za)).length))] [] (.vec 900 1 0 (eF F (ah Zb) (first + ↑(bM (ah Za)).length)).length) [(900,[(.arr ⟨false,3,false,none⟩ 1 (gG (eF F (ah Zb) (first + ↑(bM (ah Za)).length))))])])∧((.vec 900 1 0 (eF F (ah Zb) (first + ↑(bM (ah Za)).length)).length):AV)=(.vec 900 1 0 l1.length)∧((some [(.arr ⟨false,3,false,none⟩ 1 (gG (eF F (ah Zb) (first + ↑(bM (ah Za)).length))))]):(Option (List AV)))=Zc∧True)))))))))) (aY m (x.kids.getD (Int.toNat 0) ak)) (aY m (x.kids.getD (Int.toNat 1) ak)) (some [(.arr ⟨false,3,false,none⟩ 1 (gG l1))]) ((.ptr [(.mp none (tV F) (tH F))]):DV)) (by kernel_rfl) ?_
 simp only[er,Int.toNat_zero,t1,k0,k1,Ou e1,hd,hd0]
 refine⟨f102 m x,fun h2=>(by rw[hsp] at h2;cases h2),fun _=>⟨fun h2=>absurd (by simpa using h2:x.k=18) (by omega),fun _=>⟨⟨⟨by omega,by omega⟩,Sz,by omega,by omega⟩,h47,fun h2=>?_,fun _=>⟨⟨⟨by omega,by omega⟩,VW⟩,fun h2=>?_,fun _=>⟨⟨⟨by omega,by omega⟩,h1⟩,trivial,trivial,trivial⟩⟩⟩⟩⟩
 ·exact absurd h2 (by revert heq;generalize (x.k==20)=q;cases v<;>cases q<;>simp)
 ·exact absurd h2 (by revert hbe;generalize (x.k==20)=q;cases b<;>cases q<;>simp)
end
def zl (F:List Ft) (k:Int) (x:Ex):Option Ft:=
 if k=0 then (gX F x).map fun p=>{ eY k with n:=p.1,d:=p.2 }
 else if k=1 then (dI F x).map fun b=>{ eY k with tr:=b }
 else some { eY k with wd:=tZ F x }
def dU (F:List Ft) (L:List Fc) (x:Ex):Ft×Int:=
 if gJ F L=true then if (aP L x).2.2=0 then match zl (bC F F.length) (aP L x).1 x with
  | some o=>(o,0)
  | none=>(aJ,2)
 else (aJ,(aP L x).2.2) else (aJ,1)
theorem rO {L:List Fc} {x:Ex} (h:(aP L x).2.2=0):jk L=true∧aV x=true∧(dA L x).2.2=0∧aP L x=((dA L x).1,0,0):=by
 unfold aP at h⊢
 by_cases h1:(!jk L||decide ((oh x).size=0))=true
 ·rw[if_pos h1] at h;simp at h
 rw[if_neg h1] at h⊢
 by_cases h2:(dA L x).2.2≠0
 ·rw[if_pos h2] at h;exact absurd h h2
 rw[if_neg h2]
 simp only[Bool.or_eq_true,Bool.not_eq_true',decide_eq_true_eq,not_or,Bool.not_eq_false] at h1
 refine⟨h1.1,?_,Classical.not_not.1 h2,rfl⟩
 have h3:=h1.2
 unfold oh kK at h3
 cases hh:aV x with
 | true=>rfl
 | false=>rw[hh] at h3;simp at h3
theorem f12 (hT:Tab G) (F:List Ft) (L:List Fc) (h:∀i,i<L.length→sS (L.getD i aG)) (hl:L.length≤1000) (hF:F.length≤100000) (m:Nat) (x:Ex) (hx:ht x≤m) (hs:Sm x) :
  aj Tryz.prog G 12 [bG m x,iJ F,fC L] (.au [eX (dU F L x).1,di (dU F L x).2]):=by
 by_cases hg:gJ F L=true∧(aP L x).2.2=0
 ·obtain ⟨hv,ht0⟩:=hg
  have hfit:=DR hv
  obtain ⟨_,hsn,hty,etyp⟩:=rO ht0
  have ek:(aP L x).1=(dA L x).1:=by rw[etyp]
  have hev:dU F L x=match zl (bC F F.length) (aP L x).1 x with|some o=>(o,0)|none=>(aJ,2):=by
   unfold dU;rw[if_pos hv,if_pos ht0]
  have key:∀(e:Int) (o:Ft),cZ Tryz.prog G 44 [.clo (.func 45) [] Gw] (vP (aP L x).1 (bC F F.length) m x (eY (aP L x).1)) (.d (di e)) (vP (aP L x).1 (bC F F.length) m x o)→aj Tryz.prog G 12 [bG m x,iJ F,fC L] (.au [eX (if e=0 then o else aJ),di e]):=by
   intro e o hh
   have:=UZ hT F L h hl hF m x hx hs e o fun _ _=>hh
   rw[if_pos hv,if_pos ht0] at this
   by_cases he:e=0
   ·rw[if_pos ⟨hv,ht0,he⟩] at this
    rw[if_pos he];exact this
   ·rw[if_neg (fun hh=>he hh.2.2)] at this
    rw[if_neg he];exact this
  rw[hev]
  unfold zl
  by_cases k0:(aP L x).1=0
  ·obtain ⟨n1,n2⟩:=f46 (G:=G) hfit.fam.num m x hx hs hsn hty (by rw[←ek];exact k0)
   rw[if_pos k0]
   cases hn:gX (bC F F.length) x with
   | some p=>
    have:=key 0 { eY (aP L x).1 with n:=p.1,d:=p.2 } (vw (by rw[k0];exact X4 (n1 p hn) (eY 0)))
    exact this
   | none=>
    have:=key 2 (eY (aP L x).1) (Lh (by rw[k0];exact Wu (n2 hn) (eY 0)))
    exact this
  ·rw[if_neg k0]
   by_cases k1:(aP L x).1=1
   ·obtain ⟨n1,n2⟩:=f47 (G:=G) hfit.fam hfit.OJ m x hx hs hsn hty (by rw[←ek];exact k1)
    rw[if_pos k1]
    cases hn:dI (bC F F.length) x with
    | some b=>
     have:=key 0 { eY (aP L x).1 with tr:=b } (vw (by rw[k1];exact Uo (n1 b hn) (eY 1)))
     exact this
    | none=>
     have:=key 2 (eY (aP L x).1) (Lh (by rw[k1];exact SL (n2 hn) (eY 1)))
     exact this
   ·rw[if_neg k1]
    have:=key 0 { eY (aP L x).1 with wd:=tZ (bC F F.length) x } (vw (WQ k0 k1 (f48 _ m x) (eY _)))
    exact this
 ·have:=UZ hT F L h hl hF m x hx hs 0 aJ fun h1 h2=>absurd ⟨h1,h2⟩ hg
  unfold dU
  by_cases hv:gJ F L=true
  ·have ht0:(aP L x).2.2≠0:=fun hh=>hg ⟨hv,hh⟩
   rw[if_neg (fun hh=>ht0 hh.2.1),if_pos hv,if_neg ht0] at this
   rw[if_pos hv,if_neg ht0];exact this
  ·rw[if_neg (fun hh=>hv hh.1),if_neg hv] at this
   rw[if_neg hv];exact this
end Go.Proofs
