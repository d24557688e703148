import Derived.Test.YtldfegcegedkjaaGreatDoorSA
/- Credits, plain: the effects of the parts add up to the points. -/
set_option autoImplicit false
namespace Go.Proofs
open Go Go.Ab
theorem sumL_app {add : Int → Int → Int → Int → FE} (B : PL) : ∀ (A : PL) (s : Int × Int), sumL add (A ++ B) s = if (sumL add A s).2.2 = 0 then sumL add B ((sumL add A s).1, (sumL add A s).2.1) else sumL add A s
  | [], s => by simp [sumL]
  | x :: A, s => by
    simp only [List.cons_append, sumL]
    by_cases h : (add s.1 s.2 x.1 x.2).2.2 = 0
    · simp only [h, if_true]
      exact sumL_app B A _
    · simp only [h, if_false]
/-- Whose effects add up. -/
structure Snd (t : T) : Prop where
  okk : ok t.p t.q = true
  sum : t.wr = false → sumL addF (effs t.ps) (0, 1) = (t.p, t.q, 0)
  all : allOk (effs t.ps) = true
  nms : ∀ x ∈ t.ps, nameB x.1 = true
theorem snd_become {t : T} {nm : ByteArray} {a b e : Int} (h : Snd t) (hn : nameB nm = true) : Snd (become t nm a b e) := by
  unfold become
  split
  · rename_i hc
    obtain ⟨h1, h2, h3⟩ := hc
    obtain ⟨o1, o2⟩ := subF_ok h3
    obtain ⟨s1, s2⟩ := (subF_is o1 o2).val h3
    refine ⟨o1, fun _ => ?_, ?_, fun x hx => ?_⟩
    · show sumL addF (effs (t.ps ++ [(nm, (subF a b t.p t.q).1, (subF a b t.p t.q).2.1)])) (0, 1) = (a, b, 0)
      have e : effs (t.ps ++ [(nm, (subF a b t.p t.q).1, (subF a b t.p t.q).2.1)]) = effs t.ps ++ [((subF a b t.p t.q).1, (subF a b t.p t.q).2.1)] := by unfold effs; rw [List.map_append]; rfl
      rw [e, sumL_app, h.sum h1, if_pos rfl]
      have := (addF_is o2 s1).unq a b o1 (by rw [s2]; grind)
      simp only [sumL, this, if_true]
    · show allOk (effs (t.ps ++ [(nm, (subF a b t.p t.q).1, (subF a b t.p t.q).2.1)])) = true
      have e : effs (t.ps ++ [(nm, (subF a b t.p t.q).1, (subF a b t.p t.q).2.1)]) = effs t.ps ++ [((subF a b t.p t.q).1, (subF a b t.p t.q).2.1)] := by unfold effs; rw [List.map_append]; rfl
      rw [e]
      have := h.all
      unfold allOk at this ⊢
      rw [List.all_append, this]
      simp [s1]
    · rcases List.mem_append.1 hx with hx | hx
      · exact h.nms x hx
      · rw [List.mem_singleton] at hx; subst hx; exact hn
  · exact ⟨h.okk, fun hw => (by cases hw), h.all, h.nms⟩
theorem bestOf_name {g : ByteArray} {P : ByteArray → Prop} : ∀ {L : List Ln} {b : Ln}, (∀ x ∈ L, P x.name) → P b.name → P (bestOf g L b).name
  | [], b, _, hb => hb
  | x :: L, b, hL, hb => by
    unfold bestOf
    rw [List.foldl_cons]
    refine bestOf_name (L := L) (fun y hy => hL y (List.mem_cons_of_mem _ hy)) ?_
    split
    · exact hL x (List.mem_cons_self ..)
    · exact hb
theorem snd_step {L : List Ln} {k : Int} {i : Nat} {t : T} (hN : ∀ x ∈ L, nameB x.name = true) (hi : i < L.length) (h : Snd t) : Snd (stepT L k i t) := by
  have hn : nameB (L.getD i ln0).name = true := by rw [getD_eq hi]; exact hN _ (List.getElem_mem hi)
  unfold stepT
  split
  · unfold pointsT
    split
    · exact snd_become h hn
    · split
      · exact h
      · exact snd_become h (bestOf_name (P := fun s => nameB s = true) (fun x hx => hN x (List.mem_of_mem_drop hx)) hn)
  · split
    · unfold penT; split <;> exact snd_become h hn
    · split
      · unfold floorT; split <;> exact snd_become h hn
      · unfold capT; split <;> exact snd_become h hn
theorem snd_phase {L : List Ln} {k : Int} (hN : ∀ x ∈ L, nameB x.name = true) {t : T} (h : Snd t) : ∀ i, Snd (phase L k i t)
  | 0 => h
  | i + 1 => by
    rw [phase]
    split
    · rename_i hc
      refine snd_step hN ?_ (snd_phase hN h i)
      refine Classical.byContradiction fun hh => ?_
      have : L.getD i ln0 = ln0 := by rw [List.getD, List.getElem?_eq_none (by omega)]; rfl
      rw [this] at hc
      exact absurd hc.1 (by decide)
    · exact snd_phase hN h i
theorem snd_comb {L : List Ln} (hN : ∀ x ∈ L, nameB x.name = true) : Snd (combT L) := by
  unfold combT
  exact snd_phase hN (snd_phase hN (snd_phase hN (snd_phase hN ⟨ok01, fun _ => rfl, rfl, fun x hx => by simp at hx⟩ _) _) _) _
theorem right_name {x : Ln} (h : rightB x = true) : nameB x.name = true := by
  unfold rightB at h
  simp only [Bool.and_eq_true] at h
  first | exact h.2.2.1 | exact h.2.1.2 | exact h.1.2
theorem comb_len {L : List Ln} : (combT L).ps.length ≤ 4 * L.length := by
  unfold combT
  have h1 := phase_len L 2 (phase L 3 L.length (phase L 1 L.length (phase L 0 L.length ⟨[], 0, 1, false⟩))) L.length
  have h2 := phase_len L 3 (phase L 1 L.length (phase L 0 L.length ⟨[], 0, 1, false⟩)) L.length
  have h3 := phase_len L 1 (phase L 0 L.length ⟨[], 0, 1, false⟩) L.length
  have h4 := phase_len L 0 ⟨[], 0, 1, false⟩ L.length
  have : (⟨[], 0, 1, false⟩ : T).ps.length = 0 := rfl
  omega
/-- What is valid. -/
theorem vB_make {PS : List Pt} {p q : Int} (hn : ∀ x ∈ PS, nameB x.1 = true) (hs : sumL addF (effs PS) (0, 1) = (p, q, 0)) (ha : allOk (effs PS) = true) (hl : PS.length ≤ 1024) (ho : ok p q = true) (h0 : 0 ≤ qv p q) (hm : hunF p q ≤ 100000000) : vB PS p q (hunF p q) = true := by
  have e : sumS addF (effs PS) = (p, q, 0) := by
    unfold sumS
    rw [if_pos ⟨by unfold effs; rw [List.length_map]; exact hl, ha⟩, hs]
  have e1 : lessB p q 0 1 = false := by
    rw [less_false ho ok01, qv01]; grind
  unfold vB sm1 sm2 sm3
  rw [e, ho, e1, List.all_eq_true.2 hn, decide_eq_true hm]
  simp
/-- The credit of lines. -/
structure GC (L : List Ln) : Prop extends GoodC L where
  sum : sumL addF (effs (cPs L)) (0, 1) = (cP L, cQ L, 0)
  small : (cPs L).length ≤ 4 * L.length
  valid : vB (cPs L) (cP L) (cQ L) (cH L) = true
  num : 0 ≤ cP L
theorem gc {L : List Ln} (hl : L.length ≤ 12) (h : cE L = 0) : GC L := by
  have g := goodC h
  obtain ⟨h1, h2⟩ := cE_of h
  obtain ⟨b1, b2, b3⟩ := badT_of h2
  have s := snd_comb (L := L) fun x hx => right_name (g.all x hx)
  have hc := comb_len (L := L)
  have es : sumL addF (effs (cPs L)) (0, 1) = (cP L, cQ L, 0) := by rw [g.ps, g.p, g.q]; exact s.sum g.wr
  have eh : cH L = hunF (cP L) (cQ L) := by rw [g.h, g.p, g.q]
  refine ⟨g, es, by rw [g.ps]; exact hc, ?_, ?_⟩
  · rw [eh]
    refine vB_make ?_ es ?_ ?_ g.okk g.pos (by rw [g.p, g.q]; exact b3)
    · rw [g.ps]; exact s.nms
    · rw [g.ps]; exact s.all
    · rw [g.ps]; omega
  · have h1 := g.pos
    have h2 := qv_lt (a := cP L) (b := cQ L) (c := 0) (d := 1) (ok_pos g.okk) (by decide)
    refine Int.not_lt.1 fun h3 => ?_
    have := h2.2 (by omega)
    rw [qv01] at this
    grind
theorem prefix_sum {PS : List Pt} {k : Nat} (hk : k < PS.length) {a b p q : Int} (hs : sumL addF (effs PS) (0, 1) = (p, q, 0)) (ht : sumL addF (effs (PS.take k)) (0, 1) = (a, b, 0)) :
    (addF a b (PS.getD k (.empty, 0, 0)).2.1 (PS.getD k (.empty, 0, 0)).2.2).2.2 = 0 ∧ sumL addF (effs (PS.take (k + 1))) (0, 1) = addF a b (PS.getD k (.empty, 0, 0)).2.1 (PS.getD k (.empty, 0, 0)).2.2 := by
  have e0 : PS.getD k (.empty, 0, 0) = PS[k] := by rw [List.getD, List.getElem?_eq_getElem hk]; rfl
  rw [e0]
  have e1 : effs PS = effs (PS.take k) ++ ((PS[k]).2 :: effs (PS.drop (k + 1))) := by
    unfold effs
    rw [← List.map_cons (f := fun x : Pt => x.2), ← List.drop_eq_getElem_cons hk, ← List.map_append, List.take_append_drop]
  rw [e1, sumL_app, ht, if_pos rfl] at hs
  have h1 : (addF a b (PS[k]).2.1 (PS[k]).2.2).2.2 = 0 := by
    refine Classical.byContradiction fun hh => ?_
    simp only [sumL] at hs
    rw [if_neg hh] at hs
    injection hs with _ hs
    injection hs with _ hs
    exact hh hs
  refine ⟨h1, ?_⟩
  have e2 : effs (PS.take (k + 1)) = effs (PS.take k) ++ [(PS[k]).2] := by
    unfold effs
    rw [List.take_succ_eq_append_getElem hk, List.map_append]; rfl
  rw [e2, sumL_app, ht, if_pos rfl]
  simp only [sumL]
  rw [if_pos h1]
  ext <;> simp [h1]
theorem ok_neg {a b : Int} (h : ok a b = true) : ok (-a) b = true := by
  have := ok_spec h
  unfold ok
  rw [Int.neg_gcd]
  exact decide_eq_true (by omega)
/-- A scaled credit. -/
theorem scale_law {PS : List Pt} {p q h : Int} {nm : ByteArray} {n d : Int} (he : scE PS p q h nm n d = 0) :
    vB PS p q h = true ∧ vB (scPs PS p q h nm n d) (scP PS p q h nm n d) (scQ PS p q h nm n d) (scH PS p q h nm n d) = true ∧ ok2 (scP PS p q h nm n d) (scQ PS p q h nm n d) p q = true ∧ cmpF (scP PS p q h nm n d) (scQ PS p q h nm n d) p q ≤ 0 ∧
      (scPs PS p q h nm n d).length = PS.length + 1 ∧ scH PS p q h nm n d ≤ h := by
  cases ha : argS PS p q h nm n d with
  | true => unfold scE at he; rw [ha] at he; simp at he
  | false =>
    cases hb : badT (sN PS p q nm n d) with
    | true => unfold scE at he; rw [ha, hb] at he; simp at he
    | false =>
      obtain ⟨hv, h2, h3, h4, h5, h6⟩ := argS_false ha
      have hf := sc_fine ha
      rw [hb] at hf
      have hg : goodS PS p q n d := by simpa using hf
      have e : scPs PS p q h nm n d = (sN PS p q nm n d).ps ∧ scP PS p q h nm n d = (sN PS p q nm n d).p ∧ scQ PS p q h nm n d = (sN PS p q nm n d).q ∧ scH PS p q h nm n d = hunF (sN PS p q nm n d).p (sN PS p q nm n d).q := by
        unfold scPs scP scQ scH
        rw [ha, hb]; exact ⟨rfl, rfl, rfl, rfl⟩
      obtain ⟨e1, e2, e3, e4⟩ := e
      have hvb : vB PS p q h = true := by
        unfold argS at ha
        simp only [Bool.or_eq_false_iff, Bool.not_eq_false'] at ha
        exact ha.1.1.1.1.1
      have hal : allOk (effs PS) = true := by
        have := hv.s3
        unfold sm3 sumS at this
        split at this
        · rename_i hh; exact hh.2
        · simp at this
      have hsum : sumL addF (effs PS) (0, 1) = (p, q, 0) := by
        have h1 := hv.s1
        have h2 := hv.s2
        have h3 := hv.s3
        have e : sumS addF (effs PS) = sumL addF (effs PS) (0, 1) := by
          unfold sumS
          rw [if_pos ⟨by unfold effs; rw [List.length_map]; exact hv.len, hal⟩]
        unfold sm1 at h1; unfold sm2 at h2; unfold sm3 at h3
        rw [e] at h1 h2 h3
        exact Prod.ext h1 (Prod.ext h2 h3)
      have hs0 : Snd (sT PS p q) := ⟨hv.okk, fun _ => hsum, hal, hv.names⟩
      have hs1 : Snd (sN PS p q nm n d) := snd_become hs0 h3
      obtain ⟨k1, k2⟩ := (mulF_is hv.okk h4).val hg.1
      have hN := sN_good (nm := nm) hg
      have ep : (sN PS p q nm n d).p = (mulF p q n d).1 := by rw [hN]; rfl
      have eq : (sN PS p q nm n d).q = (mulF p q n d).2.1 := by rw [hN]; rfl
      have hw : (sN PS p q nm n d).wr = false := by rw [hN]
      have el : (sN PS p q nm n d).ps.length = PS.length + 1 := by rw [hN]; simp
      have hle : qv (mulF p q n d).1 (mulF p q n d).2.1 ≤ qv p q := by rw [k2]; exact mul_le hv.pos h6
      have hpos : 0 ≤ qv (mulF p q n d).1 (mulF p q n d).2.1 := by rw [k2]; exact Rat.mul_nonneg hv.pos h5
      have hh := hun_le k1 hv.okk hle
      have hm := hv.most
      rw [e1, e2, e3, e4]
      refine ⟨hvb, ?_, ?_, ?_, el, ?_⟩
      · refine vB_make hs1.nms (hs1.sum hw) hs1.all (by omega) hs1.okk ?_ ?_
        · rw [ep, eq]; exact hpos
        · rw [ep, eq]; omega
      · unfold ok2; rw [hs1.okk, hv.okk]; rfl
      · rw [ep, eq]; exact (cmp_le k1 hv.okk).2 hle
      · rw [ep, eq, ← hv.hun]; exact hh
theorem scale_zero {PS : List Pt} {p q h : Int} {nm : ByteArray} (hv : vB PS p q h = true) (hl : PS.length < 1024) (hn : nameB nm = true) :
    scE PS p q h nm 0 1 = 0 ∧ scP PS p q h nm 0 1 = 0 ∧ scQ PS p q h nm 0 1 = 1 ∧ scH PS p q h nm 0 1 = 0 := by
  have V := vB_of hv
  have e1 : mulF p q 0 1 = (0, 1, 0) := (mulF_is V.okk ok01).unq 0 1 ok01 (by rw [qv01]; grind)
  have e2 : subF 0 1 p q = (-p, q, 0) := (subF_is ok01 V.okk).unq (-p) q (ok_neg V.okk) (by
    rw [qv01]; unfold qv; rw [Rat.intCast_neg]; grind)
  have ha : argS PS p q h nm 0 1 = false := by
    unfold argS
    rw [hv, hn, decide_eq_false (by omega)]
    decide
  have hg : goodS PS p q 0 1 := by
    refine ⟨by unfold mul3; rw [e1], ?_⟩
    unfold mul1 mul2
    rw [e1, e2]
  have hb := sc_fine ha
  rw [decide_eq_true hg] at hb
  have hN := sN_good (nm := nm) hg
  unfold scE scP scQ scH
  rw [ha, hb, hN]
  unfold mul1 mul2
  rw [e1]
  refine ⟨rfl, rfl, rfl, ?_⟩
  simp only [Bool.not_true, Bool.false_eq_true, if_false]
  exact (show hunF 0 1 = 0 by decide)
theorem scale_one {PS : List Pt} {p q h : Int} {nm : ByteArray} (hv : vB PS p q h = true) (hl : PS.length < 1024) (hn : nameB nm = true) :
    scE PS p q h nm 1 1 = 0 ∧ scP PS p q h nm 1 1 = p ∧ scQ PS p q h nm 1 1 = q := by
  have V := vB_of hv
  have e1 : mulF p q 1 1 = (p, q, 0) := (mulF_is V.okk (by decide)).unq p q V.okk (by
    have : qv 1 1 = 1 := by unfold qv; grind
    rw [this]; grind)
  have e2 : subF p q p q = (0, 1, 0) := sub_self V.okk
  have ha : argS PS p q h nm 1 1 = false := by
    unfold argS
    rw [hv, hn, decide_eq_false (by omega)]
    decide
  have hg : goodS PS p q 1 1 := by
    refine ⟨by unfold mul3; rw [e1], ?_⟩
    unfold mul1 mul2
    rw [e1, e2]
  have hb := sc_fine ha
  rw [decide_eq_true hg] at hb
  have hN := sN_good (nm := nm) hg
  unfold scE scP scQ
  rw [ha, hb, hN]
  unfold mul1 mul2
  rw [e1]
  exact ⟨rfl, rfl, rfl⟩
end Go.Proofs
