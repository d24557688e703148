import Derived.Test.YtpognhmelecaoaaGreatDoorAcD
import Derived.Test.YtpognhmelecaoaaGreatDoorEC
set_option autoImplicit false
namespace Go.Proofs
open Go Go.Ab Go.RowKit
set_option maxHeartbeats 4000000
set_option maxRecDepth 100000
variable {G : IH}
/-! The text of an expression, or none. -/
def fitE (x : Ex) : Bool := sndE x && decide ((ht x : Int) + 1 ≤ 32) && decide ((fmtE x).size ≤ 16384)
def fmtX (x : Ex) : ByteArray := if fitE x then fmtE x else .empty
noncomputable def orcFx : Oracle := fun f a => match f, a with
  | 72, [e] => some (di ((ht (rdE e) : Int) + 1))
  | 73, [e] => some (db (sndE (rdE e)))
  | 74, [e] => some (ds (fmtE (rdE e)))
  | _, _ => none
theorem f40 (hT : Tab G) (m : Nat) (x : Ex) (hx : ht x ≤ m) (hs : Sm x) : FnOK Tryz.prog G 40 [exD m x] (ds (fmtX x)) := by
  have e : rdE (exV x.k x.s x.n x.d x.pos x.kids.length (lay (exG m) x.kids)) = x := rdE_eq hx
  refine FnOK.walk (orc := orcFx) (keep := []) follows Tryz.func40 rfl Tryz.call40 ?_
  refine of_tr (fun _ _ _ ZK => (fun Za => ((ZK 72 [(ndX m x)] (di (↑(ht (rdE (ndX m x))) + 1)) ∧ (((!decide ((↑(ht (rdE (ndX m x))) : Int) + 1 > 32)) = true) → ZK 73 [(ndX m x)] (db (sndE (rdE (ndX m x)))))) ∧ ((Za = true) → (((ds (ByteArray.mk #[])) : DV) = (ds (fmtX x)))) ∧ ((Za = false) → (ZK 74 [(ndX m x)] (ds (fmtE (rdE (ndX m x)))) ∧ (((decide ((↑(fmtE (rdE (ndX m x))).size : Int) > 16384)) = true) → (((ds (ByteArray.mk #[])) : DV) = (ds (fmtX x)))) ∧ (((decide ((↑(fmtE (rdE (ndX m x))).size : Int) > 16384)) = false) → (((ds (fmtE (rdE (ndX m x)))) : DV) = (ds (fmtX x)))))))) (decide ((↑(ht (rdE (ndX m x))) : Int) + 1 > 32) || !sndE (rdE (ndX m x)))) (by kernel_rfl) ?_
  simp only [e]
  unfold fmtX fitE
  refine ⟨⟨f72 m x hx hs, fun _ => f73 hT m x hx hs⟩, fun h => ?_, fun h => ?_⟩
  · rw [if_neg]
    · rfl
    · simp only [Bool.or_eq_true, decide_eq_true_eq, Bool.not_eq_true'] at h
      simp only [Bool.and_eq_true, decide_eq_true_eq]
      rintro ⟨⟨h1, h2⟩, _⟩
      rcases h with h | h
      · omega
      · rw [h] at h1; cases h1
  · simp only [Bool.or_eq_false_iff, decide_eq_false_iff_not, Bool.not_eq_false'] at h
    refine ⟨f74 hT m x hx hs h.2, fun h3 => ?_, fun h3 => ?_⟩
    · have := of_decide_eq_true h3
      rw [h.2, decide_eq_false (by omega : ¬ (fmtE x).size ≤ 16384), Bool.and_false]; rfl
    · have := of_decide_eq_false h3
      rw [h.2, decide_eq_true (by omega : (fmtE x).size ≤ 16384), decide_eq_true (by omega)]; rfl
noncomputable def hdB (k n d : Int) (s : ByteArray) (len : Int) : Bool :=
  if (rkI k == 0 || k != 2 && !s.toList == ByteArray.toList { data := #[] } || k != 1 && !(Bool.rec false (d == 0) (n == 0) : Bool)) = true then false
  else if (k == 2) = true then !(!nameB s || decide (len > 0))
  else if (k == 1) = true then !(!(decB n d).2 || decide (n < 0) || decide (len > 0) || (str (decB n d).1).toList == ByteArray.toList { data := #[49, 48, 48, 48, 48, 48, 48, 48, 48, 48] })
  else if (k == 3 || k == 4) = true then !decide (len > 0)
  else if (k == 10 || k == 11) = true then !decide (len < 1)
  else if (rkI k == 3 || rkI k == 7) = true then !(len != 1)
  else !(len != 2)
theorem hd_snd (k n d : Int) (s : ByteArray) (len : Nat) (all : Bool) (h0 : len = 0 → all = true) : sndK k n d s len all = (hdB k n d s len && all) := by
  have hke : (s.toList == ByteArray.toList { data := #[] }) = decide (s.size = 0) := emp_beq _
  have hkz : (Bool.rec false (d == 0) (n == 0) : Bool) = (n == 0 && d == 0) := by cases (n == 0) <;> rfl
  have hr : rkI k = 0 ↔ ¬ (opB k = true ∨ k = 1 ∨ k = 2 ∨ k = 3 ∨ k = 4 ∨ k = 5 ∨ k = 10 ∨ k = 11 ∨ k = 18) := by
    unfold rkI opB
    rw [decide_eq_true_eq]
    repeat' split
    all_goals omega
  have hr3 : rkI k = 3 ↔ k = 18 := by
    unfold rkI
    repeat' split
    all_goals omega
  have hr7 : rkI k = 7 ↔ k = 5 := by
    unfold rkI
    repeat' split
    all_goals omega
  have hl0 : ∀ c : Int, decide ((len : Int) > 0) = !decide (len = 0) := fun _ => by rw [← decide_not, decide_eq_decide]; omega
  unfold hdB sndK kdK
  rw [hke, hkz, toList_beq]
  simp only [num_ref, hl0 0]
  have hbig : (⟨#[49, 48, 48, 48, 48, 48, 48, 48, 48, 48]⟩ : ByteArray) = bigS := rfl
  rw [hbig]
  have hn : decide (n < 0) = !decide (n ≥ 0) := by rw [← decide_not, decide_eq_decide]; omega
  rw [hn]
  generalize decide (str (decB n d).1 = bigS) = b1
  generalize (decB n d).2 = b2
  generalize decide (n ≥ 0) = b3
  generalize (n == 0 && d == 0) = b4
  generalize nameB s = b5
  generalize decide (s.size = 0) = b6
  have p1 : ∀ l : Nat, decide ((1 : Int) ≤ (l : Int) + 1 + 1 + 1) = true := fun l => decide_eq_true (by omega)
  have p2 : ∀ l : Nat, decide ((l : Int) + 1 + 1 + 1 < 1) = false := fun l => decide_eq_false (by omega)
  have p3 : ∀ l : Nat, decide ((l : Int) + 1 + 1 + 1 ≤ 1) = false := fun l => decide_eq_false (by omega)
  have p4 : ∀ l : Nat, ((l : Int) + 1 + 1 + 1 != 1) = true := fun l => bne_iff_ne.2 (by omega)
  by_cases k1 : k = 1
  · subst k1
    rw [show rkI 1 = 8 by decide]
    rcases len with _ | _ | _ | len
    · have := h0 rfl
      subst this
      cases b6 <;> cases b4 <;> simp
      all_goals (try (cases b1 <;> cases b2 <;> cases b3 <;> rfl))
    all_goals (cases b6 <;> cases b4 <;> simp)
    all_goals (try (simp only [p1, p2, p3, p4, Bool.true_and, Bool.false_and, Bool.not_true, Bool.not_false]))
    all_goals (try (intros; omega))
  by_cases k2 : k = 2
  · subst k2
    rw [show rkI 2 = 8 by decide]
    rcases len with _ | _ | _ | len
    · have := h0 rfl
      subst this
      cases b6 <;> cases b4 <;> simp
      all_goals (try (cases b1 <;> cases b2 <;> cases b3 <;> rfl))
    all_goals (cases b6 <;> cases b4 <;> simp)
    all_goals (try (simp only [p1, p2, p3, p4, Bool.true_and, Bool.false_and, Bool.not_true, Bool.not_false]))
    all_goals (try (intros; omega))
  by_cases k3 : k = 3
  · subst k3
    rw [show rkI 3 = 8 by decide]
    rcases len with _ | _ | _ | len
    · have := h0 rfl
      subst this
      cases b6 <;> cases b4 <;> simp
      all_goals (try (cases b1 <;> cases b2 <;> cases b3 <;> rfl))
    all_goals (cases b6 <;> cases b4 <;> simp)
    all_goals (try (simp only [p1, p2, p3, p4, Bool.true_and, Bool.false_and, Bool.not_true, Bool.not_false]))
    all_goals (try (intros; omega))
  by_cases k4 : k = 4
  · subst k4
    rw [show rkI 4 = 8 by decide]
    rcases len with _ | _ | _ | len
    · have := h0 rfl
      subst this
      cases b6 <;> cases b4 <;> simp
      all_goals (try (cases b1 <;> cases b2 <;> cases b3 <;> rfl))
    all_goals (cases b6 <;> cases b4 <;> simp)
    all_goals (try (simp only [p1, p2, p3, p4, Bool.true_and, Bool.false_and, Bool.not_true, Bool.not_false]))
    all_goals (try (intros; omega))
  by_cases k5 : k = 5
  · subst k5
    rw [show rkI 5 = 7 by decide]
    rcases len with _ | _ | _ | len
    · have := h0 rfl
      subst this
      cases b6 <;> cases b4 <;> simp
      all_goals (try (cases b1 <;> cases b2 <;> cases b3 <;> rfl))
    all_goals (cases b6 <;> cases b4 <;> simp)
    all_goals (try (simp only [p1, p2, p3, p4, Bool.true_and, Bool.false_and, Bool.not_true, Bool.not_false]))
    all_goals (try (intros; omega))
  by_cases k18 : k = 18
  · subst k18
    rw [show rkI 18 = 3 by decide]
    rcases len with _ | _ | _ | len
    · have := h0 rfl
      subst this
      cases b6 <;> cases b4 <;> simp
      all_goals (try (cases b1 <;> cases b2 <;> cases b3 <;> rfl))
    all_goals (cases b6 <;> cases b4 <;> simp)
    all_goals (try (simp only [p1, p2, p3, p4, Bool.true_and, Bool.false_and, Bool.not_true, Bool.not_false]))
    all_goals (try (intros; omega))
  by_cases k10 : k = 10
  · subst k10
    rw [show rkI 10 = 8 by decide]
    rcases len with _ | _ | _ | len
    · have := h0 rfl
      subst this
      cases b6 <;> cases b4 <;> simp
      all_goals (try (cases b1 <;> cases b2 <;> cases b3 <;> rfl))
    all_goals (cases b6 <;> cases b4 <;> simp)
    all_goals (try (simp only [p1, p2, p3, p4, Bool.true_and, Bool.false_and, Bool.not_true, Bool.not_false]))
    all_goals (try (intros; omega))
  by_cases k11 : k = 11
  · subst k11
    rw [show rkI 11 = 8 by decide]
    rcases len with _ | _ | _ | len
    · have := h0 rfl
      subst this
      cases b6 <;> cases b4 <;> simp
      all_goals (try (cases b1 <;> cases b2 <;> cases b3 <;> rfl))
    all_goals (cases b6 <;> cases b4 <;> simp)
    all_goals (try (simp only [p1, p2, p3, p4, Bool.true_and, Bool.false_and, Bool.not_true, Bool.not_false]))
    all_goals (try (intros; omega))
  have r3 : ¬ rkI k = 3 := fun h => k18 (hr3.1 h)
  have r7 : ¬ rkI k = 7 := fun h => k5 (hr7.1 h)
  have r0 : rkI k = 0 ↔ opB k = false := by
    rw [hr]
    simp [k1, k2, k3, k4, k5, k18, k10, k11]
  have e0 : (rkI k == 0) = !opB k := by
    rw [Bool.eq_iff_iff, beq_iff_eq, r0]; simp
  rw [e0]
  cases hob : opB k
  · simp [k1, k2, k3, k4, k5, k18, k10, k11]
  · rcases len with _ | _ | _ | len
    · have := h0 rfl
      subst this
      simp [k1, k2, k3, k4, k5, k18, k10, k11, r3, r7, hob]
    · simp [k1, k2, k3, k4, k5, k18, k10, k11, r3, r7, hob]
    · cases b6 <;> cases b4 <;> simp [k1, k2, k3, k4, k5, k18, k10, k11, r3, r7, hob]
    · have q1 : ¬ ((len : Int) + 1 + 1 + 1 ≤ 2) := by omega
      have q2 : ((len : Int) + 1 + 1 + 1 != 2) = true := by simp; omega
      simp [k1, k2, k3, k4, k5, k18, k10, k11, r3, r7, hob, q1, q2]
theorem sound_hd (x : Ex) : sndE x = (hdB x.k x.n x.d x.s x.kids.length && sndL x.kids) := by
  rw [sndE_eq]
  refine hd_snd _ _ _ _ _ _ fun h => ?_
  rw [List.eq_nil_of_length_eq_zero h]; rfl
end Go.Proofs
set_option autoImplicit false
namespace Go.Proofs
open Go Go.Ab Go.RowKit
set_option maxHeartbeats 4000000
set_option maxRecDepth 100000
variable {G : IH}
/-! The reference's text of an expression. -/
theorem snd_rk {x : Ex} (h : sndE x = true) : rkI x.k ≠ 0 := by
  intro h0
  rw [sound_hd] at h
  unfold hdB at h
  rw [if_pos (by rw [h0]; rfl)] at h
  cases h
end Go.Proofs
set_option autoImplicit false
namespace Go.Proofs
open Go Go.Ab Go.RowKit
set_option maxHeartbeats 4000000
set_option maxRecDepth 100000
variable {G : IH}
abbrev eN (s : ByteArray) : DV := .agg [di 2, ds s, di 0, di 0, di 0, .con (.slice none 0 0)]
abbrev xN (s : ByteArray) : Ex := .mk 2 s 0 0 0 []
theorem eN_rel {s : ByteArray} (k : IH) (v : Value) (h : DV.rel k (eN s) v) : DV.rel k (exD 0 (xN s)) v := by
  obtain ⟨us, rfl, a, u1, rfl, ha, b, u2, rfl, hb, c, u3, rfl, hc, d, u4, rfl, hd, e, u5, rfl, he, f, u6, rfl, hf, h0⟩ := h
  exact ⟨_, rfl, a, _, rfl, ha, b, _, rfl, hb, c, _, rfl, hc, d, _, rfl, hd, e, _, rfl, he, f, _, rfl, nil_slc hf, h0⟩
theorem eN_args {s : ByteArray} (k : IH) (us : List Value) (h : DV.rels k [eN s] us) : DV.rels k [exD 0 (xN s)] us := by
  obtain ⟨v, us', rfl, hv, h0⟩ := h
  exact ⟨v, us', rfl, eN_rel k v hv, h0⟩
theorem xN_sm {s : ByteArray} (h : s.size ≤ 1000) : Sm (xN s) := ⟨by simp [xN, nds, ndsL], by simp only [xN, txE, txL]; exact ⟨h, trivial⟩⟩
theorem xN_ht (s : ByteArray) : ht (xN s) = 0 := by simp [xN, ht, htL]
theorem name_size {s : ByteArray} (h : nameB s = true) : 1 ≤ s.size ∧ s.size ≤ 16 := by
  unfold nameB at h
  simp only [Bool.and_eq_true, decide_eq_true_eq] at h
  exact ⟨h.1, h.2.1⟩
theorem xN_fit (s : ByteArray) : fitE (xN s) = nameB s := by
  unfold fitE
  rw [xN_ht]
  have e1 : sndE (xN s) = nameB s := by simp [sndE, sndK, xN, sndL]
  have e2 : fmtE (xN s) = s := by simp [fmtE, fmtK, xN, fmtL]
  rw [e1, e2]
  cases h : nameB s with
  | false => rfl
  | true =>
    have := name_size h
    rw [decide_eq_true (by omega : s.size ≤ 16384)]; rfl
noncomputable def orcNm : Oracle := fun f a => match f, a with
  | 40, [.agg [_, .con (.string s), _, _, _, _]] => some (ds (if nameB s then s else .empty))
  | 64, [.agg [_, .con (.string s), _, _, _, _]] => some (db (nameB s))
  | _, _ => none
theorem f98 (hT : Tab G) (s : ByteArray) (hs : s.size ≤ 1000) : FnOK Tryz.prog G 98 [ds s] (db (nameB s)) := by
  have h40 := (f40 hT (G := G) 0 (xN s) (by rw [xN_ht]; omega) (xN_sm hs)).args eN_args
  have e2 : fmtX (xN s) = if nameB s then s else .empty := by
    unfold fmtX
    rw [xN_fit]
    have e2 : fmtE (xN s) = s := by simp [fmtE, fmtK, xN, fmtL]
    rw [e2]
  rw [e2] at h40
  refine FnOK.walk (orc := orcNm) (keep := []) follows Tryz.func98 rfl Tryz.call98 ?_
  refine of_tr (fun _ _ _ ZK => (ZK 40 [(.agg [(di 2), (ds s), (di 0), (di 0), (di 0), (.con (.slice none 0 0))])] (ds (if nameB s = true then s else ByteArray.empty)) ∧ ((db (!(if nameB s = true then s else ByteArray.empty).toList == (ByteArray.mk #[]).toList)) : DV) = (db (nameB s)))) (by kernel_rfl) ?_
  refine ⟨h40, ?_⟩
  refine congrArg db ?_
  rw [emp_beq]
  cases h : nameB s with
  | false => rfl
  | true =>
    have := name_size h
    rw [if_pos rfl, decide_eq_false (by omega)]; rfl
end Go.Proofs
