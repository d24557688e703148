import Derived.Test.YtpognhmelecaoaaGreatDoorAcD
import Derived.Test.YtpognhmelecaoaaGreatDoorEC
set_option autoImplicit false
namespace Go.Proofs
open Go Go.Ab Go.RowKit
set_option maxHeartbeats 4000000
set_option maxRecDepth 100000
variable {G : IH}
/-! The text of an expression, or none. -/
def fitE (x : Ex) : Bool := sndE x && decide ((ht x : Int) + 1 ≤ 32) && decide ((fmtE x).size ≤ 16384)
def fmtX (x : Ex) : ByteArray := if fitE x then fmtE x else .empty
noncomputable def orcFx : Oracle := fun f a => match f, a with
  | 72, [e] => some (di ((ht (rdE e) : Int) + 1))
  | 73, [e] => some (db (sndE (rdE e)))
  | 74, [e] => some (ds (fmtE (rdE e)))
  | _, _ => none
theorem f40 (hT : Tab G) (m : Nat) (x : Ex) (hx : ht x ≤ m) (hs : Sm x) : FnOK Tryz.prog G 40 [exD m x] (ds (fmtX x)) := by
  have e : rdE (exV x.k x.s x.n x.d x.pos x.kids.length (lay (exG m) x.kids)) = x := rdE_eq hx
  refine FnOK.walk (orc := orcFx) (keep := []) follows Tryz.func40 rfl Tryz.call40 ?_
  refine of_tr (fun _ _ _ ZK => (fun Za => ((ZK 72 [(ndX m x)] (di (↑(ht (rdE (ndX m x))) + 1)) ∧ (((!decide ((↑(ht (rdE (ndX m x))) : Int) + 1 > 32)) = true) → ZK 73 [(ndX m x)] (db (sndE (rdE (ndX m x)))))) ∧ ((Za = true) → (((ds (ByteArray.mk #[])) : DV) = (ds (fmtX x)))) ∧ ((Za = false) → (ZK 74 [(ndX m x)] (ds (fmtE (rdE (ndX m x)))) ∧ (((decide ((↑(fmtE (rdE (ndX m x))).size : Int) > 16384)) = true) → (((ds (ByteArray.mk #[])) : DV) = (ds (fmtX x)))) ∧ (((decide ((↑(fmtE (rdE (ndX m x))).size : Int) > 16384)) = false) → (((ds (fmtE (rdE (ndX m x)))) : DV) = (ds (fmtX x)))))))) (decide ((↑(ht (rdE (ndX m x))) : Int) + 1 > 32) || !sndE (rdE (ndX m x)))) (by kernel_rfl) ?_
  simp only [e]
  unfold fmtX fitE
  refine ⟨⟨f72 m x hx hs, fun _ => f73 hT m x hx hs⟩, fun h => ?_, fun h => ?_⟩
  · rw [if_neg]
    · rfl
    · simp only [Bool.or_eq_true, decide_eq_true_eq, Bool.not_eq_true'] at h
      simp only [Bool.and_eq_true, decide_eq_true_eq]
      rintro ⟨⟨h1, h2⟩, _⟩
      rcases h with h | h
      · omega
      · rw [h] at h1; cases h1
  · simp only [Bool.or_eq_false_iff, decide_eq_false_iff_not, Bool.not_eq_false'] at h
    refine ⟨f74 hT m x hx hs h.2, fun h3 => ?_, fun h3 => ?_⟩
    · have := of_decide_eq_true h3
      rw [h.2, decide_eq_false (by omega : ¬ (fmtE x).size ≤ 16384), Bool.and_false]; rfl
    · have := of_decide_eq_false h3
      rw [h.2, decide_eq_true (by omega : (fmtE x).size ≤ 16384), decide_eq_true (by omega)]; rfl
noncomputable def orcSo : Oracle := fun f a => match f, a with
  | 137, [e] => some (di (rkI (rdE e).k))
  | 116, [.con (.string s)] => some (db (nameB s))
  | 138, [fr n d] => some (.tup [ds (str (decB n d).1), db (decB n d).2])
  | 110, [e] => some (db (sndE (rdE e)))
  | _, _ => none
noncomputable def hdB (k n d : Int) (s : ByteArray) (len : Int) : Bool :=
  if (rkI k == 0 || k != 2 && !s.toList == ByteArray.toList { data := #[] } || k != 1 && !(Bool.rec false (d == 0) (n == 0) : Bool)) = true then false
  else if (k == 2) = true then !(!nameB s || decide (len > 0))
  else if (k == 1) = true then !(!(decB n d).2 || decide (n < 0) || decide (len > 0) || (str (decB n d).1).toList == ByteArray.toList { data := #[49, 48, 48, 48, 48, 48, 48, 48, 48, 48] })
  else if (k == 3 || k == 4) = true then !decide (len > 0)
  else if (k == 10 || k == 11) = true then !decide (len < 1)
  else if (rkI k == 3 || rkI k == 7) = true then !(len != 1)
  else !(len != 2)
theorem hd_snd (k n d : Int) (s : ByteArray) (len : Nat) (all : Bool) (h0 : len = 0 → all = true) : sndK k n d s len all = (hdB k n d s len && all) := by
  have hke : (s.toList == ByteArray.toList { data := #[] }) = decide (s.size = 0) := emp_beq _
  have hkz : (Bool.rec false (d == 0) (n == 0) : Bool) = (n == 0 && d == 0) := by cases (n == 0) <;> rfl
  have hr : rkI k = 0 ↔ ¬ (opB k = true ∨ k = 1 ∨ k = 2 ∨ k = 3 ∨ k = 4 ∨ k = 5 ∨ k = 10 ∨ k = 11 ∨ k = 18) := by
    unfold rkI opB
    rw [decide_eq_true_eq]
    repeat' split
    all_goals omega
  have hr3 : rkI k = 3 ↔ k = 18 := by
    unfold rkI
    repeat' split
    all_goals omega
  have hr7 : rkI k = 7 ↔ k = 5 := by
    unfold rkI
    repeat' split
    all_goals omega
  have hl0 : ∀ c : Int, decide ((len : Int) > 0) = !decide (len = 0) := fun _ => by rw [← decide_not, decide_eq_decide]; omega
  unfold hdB sndK kdK
  rw [hke, hkz, toList_beq]
  simp only [num_ref, hl0 0]
  have hbig : (⟨#[49, 48, 48, 48, 48, 48, 48, 48, 48, 48]⟩ : ByteArray) = bigS := rfl
  rw [hbig]
  have hn : decide (n < 0) = !decide (n ≥ 0) := by rw [← decide_not, decide_eq_decide]; omega
  rw [hn]
  generalize decide (str (decB n d).1 = bigS) = b1
  generalize (decB n d).2 = b2
  generalize decide (n ≥ 0) = b3
  generalize (n == 0 && d == 0) = b4
  generalize nameB s = b5
  generalize decide (s.size = 0) = b6
  have p1 : ∀ l : Nat, decide ((1 : Int) ≤ (l : Int) + 1 + 1 + 1) = true := fun l => decide_eq_true (by omega)
  have p2 : ∀ l : Nat, decide ((l : Int) + 1 + 1 + 1 < 1) = false := fun l => decide_eq_false (by omega)
  have p3 : ∀ l : Nat, decide ((l : Int) + 1 + 1 + 1 ≤ 1) = false := fun l => decide_eq_false (by omega)
  have p4 : ∀ l : Nat, ((l : Int) + 1 + 1 + 1 != 1) = true := fun l => bne_iff_ne.2 (by omega)
  by_cases k1 : k = 1
  · subst k1
    rw [show rkI 1 = 8 by decide]
    rcases len with _ | _ | _ | len
    · have := h0 rfl
      subst this
      cases b6 <;> cases b4 <;> simp
      all_goals (try (cases b1 <;> cases b2 <;> cases b3 <;> rfl))
    all_goals (cases b6 <;> cases b4 <;> simp)
    all_goals (try (simp only [p1, p2, p3, p4, Bool.true_and, Bool.false_and, Bool.not_true, Bool.not_false]))
    all_goals (try (intros; omega))
  by_cases k2 : k = 2
  · subst k2
    rw [show rkI 2 = 8 by decide]
    rcases len with _ | _ | _ | len
    · have := h0 rfl
      subst this
      cases b6 <;> cases b4 <;> simp
      all_goals (try (cases b1 <;> cases b2 <;> cases b3 <;> rfl))
    all_goals (cases b6 <;> cases b4 <;> simp)
    all_goals (try (simp only [p1, p2, p3, p4, Bool.true_and, Bool.false_and, Bool.not_true, Bool.not_false]))
    all_goals (try (intros; omega))
  by_cases k3 : k = 3
  · subst k3
    rw [show rkI 3 = 8 by decide]
    rcases len with _ | _ | _ | len
    · have := h0 rfl
      subst this
      cases b6 <;> cases b4 <;> simp
      all_goals (try (cases b1 <;> cases b2 <;> cases b3 <;> rfl))
    all_goals (cases b6 <;> cases b4 <;> simp)
    all_goals (try (simp only [p1, p2, p3, p4, Bool.true_and, Bool.false_and, Bool.not_true, Bool.not_false]))
    all_goals (try (intros; omega))
  by_cases k4 : k = 4
  · subst k4
    rw [show rkI 4 = 8 by decide]
    rcases len with _ | _ | _ | len
    · have := h0 rfl
      subst this
      cases b6 <;> cases b4 <;> simp
      all_goals (try (cases b1 <;> cases b2 <;> cases b3 <;> rfl))
    all_goals (cases b6 <;> cases b4 <;> simp)
    all_goals (try (simp only [p1, p2, p3, p4, Bool.true_and, Bool.false_and, Bool.not_true, Bool.not_false]))
    all_goals (try (intros; omega))
  by_cases k5 : k = 5
  · subst k5
    rw [show rkI 5 = 7 by decide]
    rcases len with _ | _ | _ | len
    · have := h0 rfl
      subst this
      cases b6 <;> cases b4 <;> simp
      all_goals (try (cases b1 <;> cases b2 <;> cases b3 <;> rfl))
    all_goals (cases b6 <;> cases b4 <;> simp)
    all_goals (try (simp only [p1, p2, p3, p4, Bool.true_and, Bool.false_and, Bool.not_true, Bool.not_false]))
    all_goals (try (intros; omega))
  by_cases k18 : k = 18
  · subst k18
    rw [show rkI 18 = 3 by decide]
    rcases len with _ | _ | _ | len
    · have := h0 rfl
      subst this
      cases b6 <;> cases b4 <;> simp
      all_goals (try (cases b1 <;> cases b2 <;> cases b3 <;> rfl))
    all_goals (cases b6 <;> cases b4 <;> simp)
    all_goals (try (simp only [p1, p2, p3, p4, Bool.true_and, Bool.false_and, Bool.not_true, Bool.not_false]))
    all_goals (try (intros; omega))
  by_cases k10 : k = 10
  · subst k10
    rw [show rkI 10 = 8 by decide]
    rcases len with _ | _ | _ | len
    · have := h0 rfl
      subst this
      cases b6 <;> cases b4 <;> simp
      all_goals (try (cases b1 <;> cases b2 <;> cases b3 <;> rfl))
    all_goals (cases b6 <;> cases b4 <;> simp)
    all_goals (try (simp only [p1, p2, p3, p4, Bool.true_and, Bool.false_and, Bool.not_true, Bool.not_false]))
    all_goals (try (intros; omega))
  by_cases k11 : k = 11
  · subst k11
    rw [show rkI 11 = 8 by decide]
    rcases len with _ | _ | _ | len
    · have := h0 rfl
      subst this
      cases b6 <;> cases b4 <;> simp
      all_goals (try (cases b1 <;> cases b2 <;> cases b3 <;> rfl))
    all_goals (cases b6 <;> cases b4 <;> simp)
    all_goals (try (simp only [p1, p2, p3, p4, Bool.true_and, Bool.false_and, Bool.not_true, Bool.not_false]))
    all_goals (try (intros; omega))
  have r3 : ¬ rkI k = 3 := fun h => k18 (hr3.1 h)
  have r7 : ¬ rkI k = 7 := fun h => k5 (hr7.1 h)
  have r0 : rkI k = 0 ↔ opB k = false := by
    rw [hr]
    simp [k1, k2, k3, k4, k5, k18, k10, k11]
  have e0 : (rkI k == 0) = !opB k := by
    rw [Bool.eq_iff_iff, beq_iff_eq, r0]; simp
  rw [e0]
  cases hob : opB k
  · simp [k1, k2, k3, k4, k5, k18, k10, k11]
  · rcases len with _ | _ | _ | len
    · have := h0 rfl
      subst this
      simp [k1, k2, k3, k4, k5, k18, k10, k11, r3, r7, hob]
    · simp [k1, k2, k3, k4, k5, k18, k10, k11, r3, r7, hob]
    · cases b6 <;> cases b4 <;> simp [k1, k2, k3, k4, k5, k18, k10, k11, r3, r7, hob]
    · have q1 : ¬ ((len : Int) + 1 + 1 + 1 ≤ 2) := by omega
      have q2 : ((len : Int) + 1 + 1 + 1 != 2) = true := by simp; omega
      simp [k1, k2, k3, k4, k5, k18, k10, k11, r3, r7, hob, q1, q2]
theorem sound_hd (x : Ex) : sndE x = (hdB x.k x.n x.d x.s x.kids.length && sndL x.kids) := by
  rw [sndE_eq]
  refine hd_snd _ _ _ _ _ _ fun h => ?_
  rw [List.eq_nil_of_length_eq_zero h]; rfl
theorem sndL_take {l : List Ex} (h : ∀ i, i < l.length → sndE (l.getD i ex0) = true) : sndL l = true := by
  induction l with
  | nil => rfl
  | cons y l ih =>
    simp only [sndL, Bool.and_eq_true]
    refine ⟨h 0 (Nat.zero_lt_succ _), ih fun i hi => ?_⟩
    have := h (i + 1) (by simpa using hi)
    simpa using this
theorem sndL_miss {l : List Ex} {i : Nat} (hi : i < l.length) (h : sndE (l.getD i ex0) = false) : sndL l = false := by
  cases hh : sndL l with
  | false => rfl
  | true => rw [sndL_mem hh hi] at h; cases h
noncomputable def S110 (m : Nat) (x : Ex) (k : Nat) : AS := ⟨regs Tryz.f110.ntmps [(1, .box 1 0), (4, vi x.kids.length), (7, vi k)], [(1, exC m x)]⟩
theorem f110 (hT : Tab G) (m : Nat) : ∀ (x : Ex), ht x ≤ m → Sm x → FnOK Tryz.prog G 110 [exD m x] (db (sndE x)) := by
  induction m using Nat.strongRecOn with
  | _ m ih =>
  intro x hx hs
  have hl := hs.len.1
  have e : rdE (exV x.k x.s x.n x.d x.pos x.kids.length (lay (exG m) x.kids)) = x := rdE_eq hx
  have h110 : ∀ i, i < x.kids.length → FnOK Tryz.prog G 110 [kidA m x i] (db (sndE (x.kids.getD i ex0))) := fun i hi =>
    kidOK (Q := fun d => FnOK Tryz.prog G 110 [d] _) hx hi fun m' h1 h2 => ih m' h1 _ h2 (hs.kid hi)
  have hd := sound_hd x
  unfold hdB at hd
  refine FnOK.walk (orc := orcSo) (keep := []) follows Tryz.func110 rfl Tryz.call110 ?_
  refine of_tr (fun ZT ZW ZQ ZK => (fun Za Zb => (ZK 137 [(ndX m x)] (di (rkI (rdE (ndX m x)).k)) ∧ ((Zb = true) → (((db false) : DV) = (db (sndE x)))) ∧ ((Zb = false) → ((((x.k == 2) = true) → (ZK 116 [(ds x.s)] (db (nameB x.s)) ∧ (((!nameB x.s || decide ((↑x.kids.length : Int) > 0)) = true) → (((db false) : DV) = (db (sndE x)))) ∧ (((!nameB x.s || decide ((↑x.kids.length : Int) > 0)) = false) → ZW [cd Tryz.f110 [1, 1, 1, 1, 1, 0, 1, 0], (.blk 1), cd Tryz.f110 [1, 1, 1, 1, 1, 1]] (stS ZT [1, 0, 1]) ZQ))) ∧ (((x.k == 2) = false) → ((((x.k == 1) = true) → (ZK 138 [(.agg [(di x.n), (di x.d)])] (.tup [(ds (str (decB x.n x.d).fst)), (db (decB x.n x.d).snd)]) ∧ ((Za = true) → (((db false) : DV) = (db (sndE x)))) ∧ ((Za = false) → ZW [cd Tryz.f110 [1, 1, 1, 1, 1, 0, 1, 0], (.blk 1), cd Tryz.f110 [1, 1, 1, 1, 1, 1]] (stS ZT [1, 1, 0, 1]) ZQ))) ∧ (((x.k == 1) = false) → ((((x.k == 3 || x.k == 4) = true) → ((((decide ((↑x.kids.length : Int) > 0)) = true) → (((db false) : DV) = (db (sndE x)))) ∧ (((decide ((↑x.kids.length : Int) > 0)) = false) → ZW [cd Tryz.f110 [1, 1, 1, 1, 1, 0, 1, 0], (.blk 1), cd Tryz.f110 [1, 1, 1, 1, 1, 1]] (stS ZT [1, 1, 1, 0, 1]) ZQ))) ∧ (((x.k == 3 || x.k == 4) = false) → ((((x.k == 10 || x.k == 11) = true) → ((((decide ((↑x.kids.length : Int) < 1)) = true) → (((db false) : DV) = (db (sndE x)))) ∧ (((decide ((↑x.kids.length : Int) < 1)) = false) → ZW [cd Tryz.f110 [1, 1, 1, 1, 1, 0, 1, 0], (.blk 1), cd Tryz.f110 [1, 1, 1, 1, 1, 1]] (stS ZT [1, 1, 1, 1, 0, 1]) ZQ))) ∧ (((x.k == 10 || x.k == 11) = false) → ((((rkI (rdE (ndX m x)).k == 3 || rkI (rdE (ndX m x)).k == 7) = true) → (((((↑x.kids.length : Int) != 1) = true) → (((db false) : DV) = (db (sndE x)))) ∧ ((((↑x.kids.length : Int) != 1) = false) → ZW [cd Tryz.f110 [1, 1, 1, 1, 1, 0, 1, 0], (.blk 1), cd Tryz.f110 [1, 1, 1, 1, 1, 1]] (stS ZT [1, 1, 1, 1, 1, 0, 1]) ZQ))) ∧ (((rkI (rdE (ndX m x)).k == 3 || rkI (rdE (ndX m x)).k == 7) = false) → (((((↑x.kids.length : Int) != 2) = true) → (((db false) : DV) = (db (sndE x)))) ∧ ((((↑x.kids.length : Int) != 2) = false) → ZW [cd Tryz.f110 [1, 1, 1, 1, 1, 0, 1, 0], (.blk 1), cd Tryz.f110 [1, 1, 1, 1, 1, 1]] (stS ZT [1, 1, 1, 1, 1, 1, 1]) ZQ))))))))))))))) (!(decB x.n x.d).snd || decide (x.n < 0) || decide ((↑x.kids.length : Int) > 0) || (str (decB x.n x.d).fst).toList == (ByteArray.mk #[49, 48, 48, 48, 48, 48, 48, 48, 48, 48]).toList) (rkI (rdE (ndX m x)).k == 0 || x.k != 2 && !x.s.toList == (ByteArray.mk #[]).toList || x.k != 1 && !Bool.rec false (x.d == 0) (x.n == 0))) (by kernel_rfl) ?_
  simp only [e]
  refine ⟨f137 m x, fun ha => ?_, fun ha => ⟨fun k2 => ⟨f116 _ (by have := hs.len.2; omega), fun hb => ?_, fun hb => ?_⟩, fun k2 => ⟨fun k1 => ⟨f138 _ _, fun hb => ?_, fun hb => ?_⟩, fun k1 => ⟨fun k3 => ⟨fun hb => ?_, fun hb => ?_⟩, fun k3 => ⟨fun k10 => ⟨fun hb => ?_, fun hb => ?_⟩, fun k10 => ⟨fun k18 => ⟨fun hb => ?_, fun hb => ?_⟩, fun k18 => ⟨fun hb => ?_, fun hb => ?_⟩⟩⟩⟩⟩⟩⟩
  all_goals (try simp only [ha] at hd)
  all_goals (try simp only [k2] at hd)
  all_goals (try simp only [k1] at hd)
  all_goals (try simp only [k3] at hd)
  all_goals (try simp only [k10] at hd)
  all_goals (try simp only [k18] at hd)
  all_goals (try simp only [hb] at hd)
  all_goals (try simp only [if_true, Bool.false_eq_true, if_false, Bool.not_true, Bool.not_false, Bool.false_and, Bool.true_and] at hd)
  all_goals (try (rw [hd]; done))
  all_goals (
    refine AWP.loop (c := cAt (bodyOf Tryz.f110) [1, 1, 1, 1, 1, 0, 1, 0, 0]) (by kernel_rfl) (S110 m x) (fun k => k ≤ x.kids.length ∧ ∀ i, i < k → sndE (x.kids.getD i ex0) = true) (fun k => x.kids.length - k) 0 ?_ ⟨Nat.zero_le _, fun i hi => absurd hi (Nat.not_lt_zero _)⟩ ?_
    · exact AS.leA (by kernel_rfl)
    · rintro k ⟨hk, hkk⟩
      refine walk (orc := orcSo) (keep := []) (cuts := []) (n := 1000) follows ?_
      refine of_rd (fun ZT ZW ZQ ZK ZA _ => (fun Za => ((((decide ((↑k : Int) < ↑x.kids.length)) = true) → ((((0 ≤ (↑k : Int)) ∧ ((↑k : Int) < ↑x.kids.length)) ∧ ZK 110 [Za] (db (sndE (rdE Za)))) ∧ (((!sndE (rdE Za)) = true) → (((db false) : DV) = (db (sndE x)))) ∧ (((!sndE (rdE Za)) = false) → ((I64 (↑k + 1)) ∧ (ZA (stS ZT [0, 1])))))) ∧ (((decide ((↑k : Int) < ↑x.kids.length)) = false) → ZW [cd Tryz.f110 [1, 1, 1, 1, 1, 1]] (stS ZT [1]) ZQ))) (ndA m (x.kids.getD (↑k : Int).toNat ex0))) (by kernel_rfl) ?_
      simp only [Int.toNat_natCast]
      refine ⟨fun h1 => ?_, fun h1 => ?_⟩
      · have hk2 : k < x.kids.length := by have := of_decide_eq_true h1; omega
        refine ⟨⟨⟨by omega, by omega⟩, ?_⟩, fun h3 => ?_, fun h3 => ⟨⟨by omega, by omega⟩, Again.mk (k + 1) ?_ ⟨hk2, fun i hi => ?_⟩ (by omega)⟩⟩
        · show FnOK Tryz.prog G 110 [kidA m x k] (db (sndE (rdE (kidA m x k))))
          rw [kid_rd hx hk2]
          exact h110 k hk2
        · have h3 : (!sndE (rdE (kidA m x k))) = true := h3
          rw [kid_rd hx hk2, Bool.not_eq_true'] at h3
          rw [hd, sndL_miss hk2 h3]
        · exact AS.leA (by kernel_rfl)
        · rcases Nat.lt_or_ge i k with h4 | h4
          · exact hkk i h4
          · obtain rfl : i = k := by omega
            have h3 : (!sndE (rdE (kidA m x i))) = false := h3
            rw [kid_rd hx hk2, Bool.not_eq_false'] at h3
            exact h3
      · simp only [decide_eq_false_iff_not] at h1
        obtain rfl : k = x.kids.length := by omega
        refine walk (orc := orcSo) (keep := []) (cuts := []) (n := 1000) follows ?_
        refine of_tr (fun _ _ _ _ => (((db true) : DV) = (db (sndE x)))) (by kernel_rfl) ?_
        rw [hd, sndL_take hkk])
end Go.Proofs
set_option autoImplicit false
namespace Go.Proofs
open Go Go.Ab Go.RowKit
set_option maxHeartbeats 4000000
set_option maxRecDepth 100000
variable {G : IH}
/-! The reference's text of an expression. -/
theorem join_snoc (sep : List UInt8) : ∀ (l : List (List UInt8)) (s : List UInt8), l ≠ [] → Lib.join (l ++ [s]) sep = Lib.join l sep ++ (sep ++ s)
  | [], _, h => absurd rfl h
  | [t], s, _ => by simp [Lib.join, List.intercalate, List.intersperse]
  | t :: u :: l, s, _ => by
    have ih := join_snoc sep (u :: l) s (by simp)
    have e : ∀ (a b : List UInt8) (m : List (List UInt8)), Lib.join (a :: b :: m) sep = a ++ (sep ++ Lib.join (b :: m) sep) := fun a b m => by
      simp [Lib.join, List.intercalate, List.intersperse]
    rw [List.cons_append, List.cons_append, e, ← List.cons_append, ih, e]
    simp only [List.append_assoc]
theorem joinS_snoc {l : List ByteArray} (s sep : ByteArray) (h : l ≠ []) : joinS (l ++ [s]) sep = joinS l sep ++ sep ++ s := by
  unfold joinS
  rw [List.map_append]
  show (ByteArray.mk (Lib.join (_ ++ [s.data.toList]) _).toArray) = _
  rw [join_snoc _ _ _ (by simpa using h)]
  apply ByteArray.ext
  simp
theorem joinS_one (s sep : ByteArray) : joinS [s] sep = s := by
  unfold joinS
  apply ByteArray.ext
  simp [Lib.join_one]
theorem joinS_nil (sep : ByteArray) : joinS [] sep = .empty := by
  unfold joinS
  apply ByteArray.ext
  simp [Lib.join_nil]
def jT (x : Ex) (k : Nat) : ByteArray := joinS ((x.kids.map fmtE).take k) comS
theorem jT_zero (x : Ex) : jT x 0 = .empty := joinS_nil _
theorem jT_succ {x : Ex} {k : Nat} (h : k < x.kids.length) : jT x (k + 1) = if (k : Int) > 0 then jT x k ++ comS ++ fmtE (x.kids.getD k ex0) else jT x k ++ fmtE (x.kids.getD k ex0) := by
  unfold jT
  have hk : k < (x.kids.map fmtE).length := by simpa using h
  have e : (x.kids.map fmtE)[k] = fmtE (x.kids.getD k ex0) := by
    rw [List.getElem_map, List.getD, List.getElem?_eq_getElem h]; rfl
  rw [List.take_succ_eq_append_getElem hk, e]
  split
  · rename_i h0
    rw [joinS_snoc]
    intro hh
    have := congrArg List.length hh
    rw [List.length_take] at this
    simp at this
    rcases this with h1 | h1
    · omega
    · rw [h1] at h; simp at h
  · obtain rfl : k = 0 := by omega
    rw [List.take_zero, List.nil_append, joinS_one, joinS_nil]
    apply ByteArray.ext
    simp
theorem totL_take : ∀ (l : List (Int × ByteArray)) (k : Nat), totL (l.take k) ≤ totL l
  | [], k => by simp [totL]
  | p :: l, 0 => by simp [totL]
  | p :: l, k + 1 => by
    have := totL_take l k
    simp only [List.take_succ_cons, totL]; omega
theorem jT_size {x : Ex} (h : Sm x) (k : Nat) : (jT x k).size ≤ 1100000 := by
  unfold jT
  rw [← fmtL_snd, ← List.map_take]
  have h1 := joinS_size ((fmtL x.kids).take k)
  have h2 := totL_take (fmtL x.kids) k
  have h3 := h.tot
  omega
theorem jT_all (x : Ex) : jT x x.kids.length = joinS ((fmtL x.kids).map (·.2)) comS := by
  unfold jT
  rw [fmtL_snd, List.take_of_length_le (by simp)]
theorem lv_rk {k : Int} (h : rkI k ≠ 0) : lvI k = rkI k - 1 := by
  have hc : k = 1 ∨ k = 2 ∨ k = 3 ∨ k = 4 ∨ k = 5 ∨ k = 6 ∨ k = 7 ∨ k = 8 ∨ k = 9 ∨ k = 10 ∨ k = 11 ∨ k = 12 ∨ k = 13 ∨ k = 14 ∨ k = 15 ∨ k = 16 ∨ k = 17 ∨ k = 18 ∨ k = 19 ∨ k = 20 := by
    refine Classical.byContradiction fun hn => h ?_
    unfold rkI
    repeat' split
    all_goals omega
  rcases hc with rfl | rfl | rfl | rfl | rfl | rfl | rfl | rfl | rfl | rfl | rfl | rfl | rfl | rfl | rfl | rfl | rfl | rfl | rfl | rfl <;> decide
theorem snd_rk {x : Ex} (h : sndE x = true) : rkI x.k ≠ 0 := by
  intro h0
  rw [sound_hd] at h
  unfold hdB at h
  rw [if_pos (by rw [h0]; rfl)] at h
  cases h
noncomputable def orcTx : Oracle := fun f a => match f, a with
  | 137, [e] => some (di (rkI (rdE e).k))
  | 138, [fr n d] => some (.tup [ds (str (decB n d).1), db (decB n d).2])
  | 139, [e, .con (.int .i64 v)] => some (ds (wth (v - 1) (lvI (rdE e).k, fmtE (rdE e))))
  | 140, [.con (.int .i64 v)] => some (opsD v)
  | 111, [e] => some (ds (fmtE (rdE e)))
  | _, _ => none
theorem f139_of {m : Nat} {y : Ex} (hy : ht y ≤ m) (hn : sndE y = true) (hsz : (fmtE y).size ≤ 10000000) (h : FnOK Tryz.prog G 111 [exD m y] (ds (fmtE y))) (v : Int) (hv : -100 ≤ v ∧ v ≤ 100) : FnOK Tryz.prog G 139 [exD m y, di v] (ds (wth (v - 1) (lvI y.k, fmtE y))) := by
  have e : rdE (exV y.k y.s y.n y.d y.pos y.kids.length (lay (exG m) y.kids)) = y := rdE_eq hy
  have hr := lv_rk (snd_rk hn)
  refine FnOK.walk (orc := orcTx) (keep := []) follows Tryz.func139 rfl Tryz.call139 ?_
  refine of_tr (fun _ _ _ ZK => (ZK 137 [(ndX m y)] (di (rkI (rdE (ndX m y)).k)) ∧ (((decide (rkI (rdE (ndX m y)).k < v)) = true) → ((ZK 111 [(ndX m y)] (ds (fmtE (rdE (ndX m y)))) ∧ ((ByteArray.mk #[40]).size + (fmtE (rdE (ndX m y))).size ≤ 9223372036854775807) ∧ ((ByteArray.mk #[40] ++ fmtE (rdE (ndX m y))).size + (ByteArray.mk #[41]).size ≤ 9223372036854775807)) ∧ ((ds (ByteArray.mk #[40] ++ fmtE (rdE (ndX m y)) ++ ByteArray.mk #[41])) : DV) = (ds (wth (v - 1) (lvI y.k, fmtE y))))) ∧ (((decide (rkI (rdE (ndX m y)).k < v)) = false) → (ZK 111 [(ndX m y)] (ds (fmtE (rdE (ndX m y)))) ∧ ((ds (fmtE (rdE (ndX m y)))) : DV) = (ds (wth (v - 1) (lvI y.k, fmtE y))))))) (by kernel_rfl) ?_
  simp only [e]
  unfold wth
  refine ⟨f137 m y, fun h1 => ⟨⟨h, ?_, ?_⟩, ?_⟩, fun h1 => ⟨h, ?_⟩⟩
  · show 1 + _ ≤ _; omega
  · rw [ByteArray.size_append]; show 1 + _ + 1 ≤ _; omega
  · have := of_decide_eq_true h1
    rw [if_pos (by simp only; omega)]
  · have := of_decide_eq_false h1
    rw [if_neg (by simp only; omega)]
def oT (k : Int) (j : Nat) : ByteArray := if k ∈ (opsI (rkI k)).take j then opS k else .empty
theorem oT_hit {k : Int} {j : Nat} (hj : j < (opsI (rkI k)).length) (h : (opsI (rkI k)).getD j 0 = k) : oT k (j + 1) = (opsT (rkI k)).getD j .empty := by
  unfold oT opsT
  rw [List.getD, List.getElem?_eq_getElem hj] at h
  have h : (opsI (rkI k))[j] = k := h
  rw [if_pos, List.getD, List.getElem?_map, List.getElem?_eq_getElem hj]
  · show opS k = opS ((opsI (rkI k))[j])
    rw [h]
  · rw [List.take_succ_eq_append_getElem hj, h]
    simp
theorem oT_miss {k : Int} {j : Nat} (hj : j < (opsI (rkI k)).length) (h : ¬ (opsI (rkI k)).getD j 0 = k) : oT k (j + 1) = oT k j := by
  unfold oT
  rw [List.getD, List.getElem?_eq_getElem hj] at h
  have h : ¬ (opsI (rkI k))[j] = k := h
  have h2 : ¬ k = (opsI (rkI k))[j] := fun h' => h h'.symm
  have e : k ∈ (opsI (rkI k)).take (j + 1) ↔ k ∈ (opsI (rkI k)).take j := by
    rw [List.take_succ_eq_append_getElem hj, List.mem_append, List.mem_singleton]
    exact ⟨fun h' => h'.resolve_right h2, .inl⟩
  by_cases hm : k ∈ (opsI (rkI k)).take j
  · rw [if_pos (e.2 hm), if_pos hm]
  · rw [if_neg (fun h' => hm (e.1 h')), if_neg hm]
theorem oT_all {k : Int} (h : opB k = true) : oT k (opsI (rkI k)).length = opS k := by
  unfold oT
  rw [if_pos]
  rw [List.take_length]
  have hc : k = 6 ∨ k = 7 ∨ k = 8 ∨ k = 9 ∨ k = 12 ∨ k = 13 ∨ k = 14 ∨ k = 15 ∨ k = 16 ∨ k = 17 ∨ k = 19 ∨ k = 20 := by
    have := of_decide_eq_true h
    omega
  rcases hc with rfl | rfl | rfl | rfl | rfl | rfl | rfl | rfl | rfl | rfl | rfl | rfl <;> decide
noncomputable def S111o (m : Nat) (x : Ex) (j : Nat) : AS := ⟨regs Tryz.f111.ntmps [(1, .box 1 0), (7, vi (rkI x.k)), (8, .d (.slc 1 (opsT (rkI x.k)).length (stF (opsT (rkI x.k))))), (9, .d (.slc 1 (opsI (rkI x.k)).length (inF (opsI (rkI x.k))))), (10, .d (ds (oT x.k j))), (11, vi j)], [(1, exC m x)]⟩
noncomputable def S111 (m : Nat) (x : Ex) (pre : ByteArray) (k : Nat) : AS := ⟨regs Tryz.f111.ntmps [(1, .box 1 0), (5, .d (ds (pre ++ jT x k))), (6, vi k)], [(1, exC m x)]⟩
theorem f111 (m : Nat) : ∀ (x : Ex), ht x ≤ m → Sm x → sndE x = true → FnOK Tryz.prog G 111 [exD m x] (ds (fmtE x)) := by
  induction m using Nat.strongRecOn with
  | _ m ih =>
  intro x hx hs hsn
  have hl := hs.len.1
  have e : rdE (exV x.k x.s x.n x.d x.pos x.kids.length (lay (exG m) x.kids)) = x := rdE_eq hx
  have h111 : ∀ i, i < x.kids.length → FnOK Tryz.prog G 111 [kidA m x i] (ds (fmtE (x.kids.getD i ex0))) := fun i hi =>
    kidOK (Q := fun d => FnOK Tryz.prog G 111 [d] _) hx hi fun m' h1 h2 => ih m' h1 _ h2 (hs.kid hi) (snd_kid hsn hi)
  have h139 : ∀ i, i < x.kids.length → ∀ v : Int, (-100 ≤ v ∧ v ≤ 100) → FnOK Tryz.prog G 139 [kidA m x i, di v] (ds (wth (v - 1) (g0 (fmtL x.kids) i))) := fun i hi v hv => by
    rw [g0_kid hi]
    exact kidOK (Q := fun d => FnOK Tryz.prog G 139 [d, di v] _) hx hi fun m' h1 h2 => f139_of h2 (snd_kid hsn hi) (by have := (hs.kid hi).size; omega) (ih m' h1 _ h2 (hs.kid hi) (snd_kid hsn hi)) v hv
  refine FnOK.walk (orc := orcTx) (keep := []) follows Tryz.func111 rfl Tryz.call111 ?_
  refine of_eqH6 ((.tup [(.slc 1 (opsT (rkI (rdE (ndX m x)).k)).length (stF (opsT (rkI (rdE (ndX m x)).k)))), (.slc 1 (opsI (rkI (rdE (ndX m x)).k)).length (inF (opsI (rkI (rdE (ndX m x)).k))))]) : DV) (lvI (rdE (ndA m (x.kids.getD (Int.toNat 0) ex0))).k, fmtE (rdE (ndA m (x.kids.getD (Int.toNat 0) ex0)))) ((.d (.slc 1 (opsT (rkI (rdE (ndX m x)).k)).length (stF (opsT (rkI (rdE (ndX m x)).k))))) : AV) ((.d (.slc 1 (opsI (rkI (rdE (ndX m x)).k)).length (inF (opsI (rkI (rdE (ndX m x)).k))))) : AV) ((.d (.slc 6 x.kids.length (lay (exG m) x.kids))) : AV) (Ret Tryz.prog Tryz.f111 (ds (fmtE x))) (fun Za Zb Zc Zd Ze Zf => ((((x.k == 2) = true) → (((ds x.s) : DV) = (ds (fmtE x)))) ∧ (((x.k == 2) = false) → ((((x.k == 1) = true) → (FnOK Tryz.prog G 138 [(.agg [(di x.n), (di x.d)])] (.tup [(ds (str (decB x.n x.d).fst)), (db (decB x.n x.d).snd)]) ∧ ((ds (str (decB x.n x.d).fst)) : DV) = (ds (fmtE x)))) ∧ (((x.k == 1) = false) → ((((x.k == 3) = true) → (((ds (ByteArray.mk #[116, 114, 117, 101])) : DV) = (ds (fmtE x)))) ∧ (((x.k == 3) = false) → ((((x.k == 4) = true) → (((ds (ByteArray.mk #[102, 97, 108, 115, 101])) : DV) = (ds (fmtE x)))) ∧ (((x.k == 4) = false) → ((((x.k == 18) = true) → (((((0 : Int) ≤ (0 : Int)) ∧ (0 < (↑x.kids.length : Int))) ∧ FnOK Tryz.prog G 139 [(ndA m (x.kids.getD (Int.toNat 0) ex0)), (di 3)] (ds (wth (3 - 1) Zb)) ∧ ((ByteArray.mk #[110, 111, 116, 32]).size + (wth (3 - 1) Zb).size ≤ 9223372036854775807)) ∧ ((ds (ByteArray.mk #[110, 111, 116, 32] ++ wth (3 - 1) Zb)) : DV) = (ds (fmtE x)))) ∧ (((x.k == 18) = false) → ((((x.k == 5) = true) → (((((0 : Int) ≤ (0 : Int)) ∧ (0 < (↑x.kids.length : Int))) ∧ FnOK Tryz.prog G 139 [(ndA m (x.kids.getD (Int.toNat 0) ex0)), (di 7)] (ds (wth (7 - 1) Zb)) ∧ ((ByteArray.mk #[45]).size + (wth (7 - 1) Zb).size ≤ 9223372036854775807)) ∧ ((ds (ByteArray.mk #[45] ++ wth (7 - 1) Zb)) : DV) = (ds (fmtE x)))) ∧ (((x.k == 5) = false) → ((((x.k == 10) = true) → ((((x.k == 10) = true) → ((((x.k == 11) = true) → AWP Tryz.prog G [cd Tryz.f111 [1, 0, 1, 0, 1, 1, 1, 1, 1, 1, 1, 1, 1, 1, 1, 1, 1, 0, 1, 1, 0, 1, 0], (.blk 1), cd Tryz.f111 [1, 0, 1, 0, 1, 1, 1, 1, 1, 1, 1, 1, 1, 1, 1, 1, 1, 0, 1, 1, 1], (.blk 0), cd Tryz.f111 [1, 1]] ⟨regs 120 [(0, (.d (ndX m x))), (1, (.box 1 0)), (2, (vs (ByteArray.mk #[]))), (5, (vs (ByteArray.mk #[109, 97, 120, 40]))), (6, (vi 0)), (13, (.box 1 0)), (14, (vi x.k)), (15, (vb (x.k == 2))), (16, (vb (x.k == 2))), (19, (vb (x.k == 1))), (20, (vb (x.k == 1))), (28, (vb (x.k == 3))), (29, (vb (x.k == 3))), (30, (vb (x.k == 4))), (31, (vb (x.k == 4))), (32, (vb (x.k == 18))), (33, (vb (x.k == 18))), (40, (vb (x.k == 5))), (41, (vb (x.k == 5))), (48, (vb (x.k == 10))), (49, (vb (x.k == 10))), (51, (.box 1 0)), (52, (vi x.k)), (53, (vb (x.k == 11)))], [(1, [(vi x.k), (vs x.s), (vi x.n), (vi x.d), (vi x.pos), Ze])]⟩ Zf) ∧ (((x.k == 11) = false) → AWP Tryz.prog G [cd Tryz.f111 [1, 0, 1, 0, 1, 1, 1, 1, 1, 1, 1, 1, 1, 1, 1, 1, 1, 0, 1, 1, 0, 1, 0], (.blk 1), cd Tryz.f111 [1, 0, 1, 0, 1, 1, 1, 1, 1, 1, 1, 1, 1, 1, 1, 1, 1, 0, 1, 1, 1], (.blk 0), cd Tryz.f111 [1, 1]] ⟨regs 120 [(0, (.d (ndX m x))), (1, (.box 1 0)), (2, (vs (ByteArray.mk #[]))), (5, (vs (ByteArray.mk #[109, 105, 110, 40]))), (6, (vi 0)), (13, (.box 1 0)), (14, (vi x.k)), (15, (vb (x.k == 2))), (16, (vb (x.k == 2))), (19, (vb (x.k == 1))), (20, (vb (x.k == 1))), (28, (vb (x.k == 3))), (29, (vb (x.k == 3))), (30, (vb (x.k == 4))), (31, (vb (x.k == 4))), (32, (vb (x.k == 18))), (33, (vb (x.k == 18))), (40, (vb (x.k == 5))), (41, (vb (x.k == 5))), (48, (vb (x.k == 10))), (49, (vb (x.k == 10))), (51, (.box 1 0)), (52, (vi x.k)), (53, (vb (x.k == 11)))], [(1, [(vi x.k), (vs x.s), (vi x.n), (vi x.d), (vi x.pos), Ze])]⟩ Zf))) ∧ (((x.k == 10) = false) → (FnOK Tryz.prog G 137 [(ndX m x)] (di (rkI (rdE (ndX m x)).k)) ∧ FnOK Tryz.prog G 140 [(di (rkI (rdE (ndX m x)).k))] Za ∧ AWP Tryz.prog G [cd Tryz.f111 [1, 1, 1, 1, 1, 0, 1, 0], (.blk 3), cd Tryz.f111 [1, 1, 1, 1, 1, 1]] ⟨regs 120 [(0, (.d (ndX m x))), (1, (.box 1 0)), (2, (vs (ByteArray.mk #[]))), (7, (vi (rkI (rdE (ndX m x)).k))), (8, Zc), (9, Zd), (10, (vs (ByteArray.mk #[]))), (11, (vi 0)), (13, (.box 1 0)), (14, (vi x.k)), (15, (vb (x.k == 2))), (16, (vb (x.k == 2))), (19, (vb (x.k == 1))), (20, (vb (x.k == 1))), (28, (vb (x.k == 3))), (29, (vb (x.k == 3))), (30, (vb (x.k == 4))), (31, (vb (x.k == 4))), (32, (vb (x.k == 18))), (33, (vb (x.k == 18))), (40, (vb (x.k == 5))), (41, (vb (x.k == 5))), (48, (vb (x.k == 10))), (49, (vb (x.k == 10))), (75, (.d (ndX m x))), (76, (vi (rkI (rdE (ndX m x)).k))), (77, (.d Za)), (78, (vi (rkI (rdE (ndX m x)).k))), (79, (.d Za)), (80, Zc), (81, Zd)], [(1, [(vi x.k), (vs x.s), (vi x.n), (vi x.d), (vi x.pos), Ze])]⟩ Zf)))) ∧ (((x.k == 10) = false) → ((((x.k == 11) = true) → ((((x.k == 11) = true) → AWP Tryz.prog G [cd Tryz.f111 [1, 0, 1, 0, 1, 1, 1, 1, 1, 1, 1, 1, 1, 1, 1, 1, 1, 0, 1, 1, 0, 1, 0], (.blk 1), cd Tryz.f111 [1, 0, 1, 0, 1, 1, 1, 1, 1, 1, 1, 1, 1, 1, 1, 1, 1, 0, 1, 1, 1], (.blk 0), cd Tryz.f111 [1, 1]] ⟨regs 120 [(0, (.d (ndX m x))), (1, (.box 1 0)), (2, (vs (ByteArray.mk #[]))), (5, (vs (ByteArray.mk #[109, 97, 120, 40]))), (6, (vi 0)), (13, (.box 1 0)), (14, (vi x.k)), (15, (vb (x.k == 2))), (16, (vb (x.k == 2))), (19, (vb (x.k == 1))), (20, (vb (x.k == 1))), (28, (vb (x.k == 3))), (29, (vb (x.k == 3))), (30, (vb (x.k == 4))), (31, (vb (x.k == 4))), (32, (vb (x.k == 18))), (33, (vb (x.k == 18))), (40, (vb (x.k == 5))), (41, (vb (x.k == 5))), (48, (vb (x.k == 11))), (49, (vb (x.k == 10))), (50, (vb (x.k == 11))), (51, (.box 1 0)), (52, (vi x.k)), (53, (vb (x.k == 11)))], [(1, [(vi x.k), (vs x.s), (vi x.n), (vi x.d), (vi x.pos), Ze])]⟩ Zf) ∧ (((x.k == 11) = false) → AWP Tryz.prog G [cd Tryz.f111 [1, 0, 1, 0, 1, 1, 1, 1, 1, 1, 1, 1, 1, 1, 1, 1, 1, 0, 1, 1, 0, 1, 0], (.blk 1), cd Tryz.f111 [1, 0, 1, 0, 1, 1, 1, 1, 1, 1, 1, 1, 1, 1, 1, 1, 1, 0, 1, 1, 1], (.blk 0), cd Tryz.f111 [1, 1]] ⟨regs 120 [(0, (.d (ndX m x))), (1, (.box 1 0)), (2, (vs (ByteArray.mk #[]))), (5, (vs (ByteArray.mk #[109, 105, 110, 40]))), (6, (vi 0)), (13, (.box 1 0)), (14, (vi x.k)), (15, (vb (x.k == 2))), (16, (vb (x.k == 2))), (19, (vb (x.k == 1))), (20, (vb (x.k == 1))), (28, (vb (x.k == 3))), (29, (vb (x.k == 3))), (30, (vb (x.k == 4))), (31, (vb (x.k == 4))), (32, (vb (x.k == 18))), (33, (vb (x.k == 18))), (40, (vb (x.k == 5))), (41, (vb (x.k == 5))), (48, (vb (x.k == 11))), (49, (vb (x.k == 10))), (50, (vb (x.k == 11))), (51, (.box 1 0)), (52, (vi x.k)), (53, (vb (x.k == 11)))], [(1, [(vi x.k), (vs x.s), (vi x.n), (vi x.d), (vi x.pos), Ze])]⟩ Zf))) ∧ (((x.k == 11) = false) → (FnOK Tryz.prog G 137 [(ndX m x)] (di (rkI (rdE (ndX m x)).k)) ∧ FnOK Tryz.prog G 140 [(di (rkI (rdE (ndX m x)).k))] Za ∧ AWP Tryz.prog G [cd Tryz.f111 [1, 1, 1, 1, 1, 0, 1, 0], (.blk 3), cd Tryz.f111 [1, 1, 1, 1, 1, 1]] ⟨regs 120 [(0, (.d (ndX m x))), (1, (.box 1 0)), (2, (vs (ByteArray.mk #[]))), (7, (vi (rkI (rdE (ndX m x)).k))), (8, Zc), (9, Zd), (10, (vs (ByteArray.mk #[]))), (11, (vi 0)), (13, (.box 1 0)), (14, (vi x.k)), (15, (vb (x.k == 2))), (16, (vb (x.k == 2))), (19, (vb (x.k == 1))), (20, (vb (x.k == 1))), (28, (vb (x.k == 3))), (29, (vb (x.k == 3))), (30, (vb (x.k == 4))), (31, (vb (x.k == 4))), (32, (vb (x.k == 18))), (33, (vb (x.k == 18))), (40, (vb (x.k == 5))), (41, (vb (x.k == 5))), (48, (vb (x.k == 11))), (49, (vb (x.k == 10))), (50, (vb (x.k == 11))), (75, (.d (ndX m x))), (76, (vi (rkI (rdE (ndX m x)).k))), (77, (.d Za)), (78, (vi (rkI (rdE (ndX m x)).k))), (79, (.d Za)), (80, Zc), (81, Zd)], [(1, [(vi x.k), (vs x.s), (vi x.n), (vi x.d), (vi x.pos), Ze])]⟩ Zf)))))))))))))))))) (by kernel_rfl) ?_
  simp only [e]
  have ef := fmtE_eq x
  unfold fmtK at ef
  simp only [beq_iff_eq, beq_eq_false_iff_ne, ne_eq]
  have q0 : ∀ (_ : 0 < x.kids.length), rdE (kidA m x (Int.toNat (0 : Int))) = x.kids.getD 0 ex0 := fun h => kid_rd hx h
  have q1 : ∀ (_ : 1 < x.kids.length), rdE (kidA m x (Int.toNat (1 : Int))) = x.kids.getD 1 ex0 := fun h => kid_rd hx h
  refine ⟨fun h2 => ?_, fun n2 => ⟨fun h1 => ⟨f138 _ _, ?_⟩, fun n1 => ⟨fun h3 => ?_, fun n3 => ⟨fun h4 => ?_, fun n4 => ⟨fun h18 => ?_, fun n18 => ⟨fun h5 => ?_, fun n5 => ?_⟩⟩⟩⟩⟩⟩
  · rw [ef, if_neg (by omega), if_pos h2]
  · rw [ef, if_pos h1]
    unfold numT
    rw [decF_eq]
  · rw [ef, if_neg n1, if_neg n2, if_pos h3]
  · rw [ef, if_neg n1, if_neg n2, if_neg n3, if_pos h4]
  · have hl1 := snd_one hsn (.inr h18)
    have hl0 : 0 < x.kids.length := by omega
    simp only [q0 hl0]
    rw [ef, if_neg n1, if_neg n2, if_neg n3, if_neg n4, if_neg (by omega), if_pos h18]
    have hh := h139 0 hl0 3 (by omega)
    rw [g0_kid hl0] at hh ⊢
    have w := wth_size 2 (lvI (x.kids.getD 0 ex0).k, fmtE (x.kids.getD 0 ex0))
    have := (hs.kid hl0).size
    refine ⟨⟨⟨by omega, by omega⟩, hh, ?_⟩, rfl⟩
    show 4 + ByteArray.size (wth 2 _) ≤ _
    simp only at w
    omega
  · have hl1 := snd_one hsn (.inl h5)
    have hl0 : 0 < x.kids.length := by omega
    simp only [q0 hl0]
    rw [ef, if_neg n1, if_neg n2, if_neg n3, if_neg n4, if_pos h5]
    have hh := h139 0 hl0 7 (by omega)
    rw [g0_kid hl0] at hh ⊢
    have w := wth_size 6 (lvI (x.kids.getD 0 ex0).k, fmtE (x.kids.getD 0 ex0))
    have := (hs.kid hl0).size
    refine ⟨⟨⟨by omega, by omega⟩, hh, ?_⟩, rfl⟩
    show 1 + ByteArray.size (wth 6 _) ≤ _
    simp only at w
    omega
  · refine ⟨fun h10 => ⟨fun _ => ⟨fun h11 => absurd (h10.symm.trans h11) (by decide), fun n11 => ?_⟩, fun hn => absurd h10 hn⟩, fun n10 => ⟨fun h11 => ⟨fun _ => ?_, fun hn => absurd h11 hn⟩, fun n11 => ?_⟩⟩
    · refine AWP.loop (c := cAt (bodyOf Tryz.f111) [1, 0, 1, 0, 1, 1, 1, 1, 1, 1, 1, 1, 1, 1, 1, 1, 1, 0, 1, 1, 0, 1, 0, 0]) (by kernel_rfl) (S111 m x ⟨#[109, 105, 110, 40]⟩) (fun k => k ≤ x.kids.length) (fun k => x.kids.length - k) 0 ?_ (Nat.zero_le _) ?_
      · refine of_eq1 (some [(vi x.k), (vs x.s), (vi x.n), (vi x.d), (vi x.pos), (.d (.slc 6 x.kids.length (lay (exG m) x.kids)))]) (fun Za => ((((.box 1 0) : AV) = (.box 1 0) ∧ ((vs (ByteArray.mk #[109, 105, 110, 40])) : AV) = (vs (ByteArray.mk #[109, 105, 110, 40] ++ jT x 0)) ∧ ((vi 0) : AV) = (vi 0) ∧ True) ∧ (Za : (Option (List AV))) = Za ∧ True)) (by kernel_rfl) ?_
        refine ⟨⟨rfl, ?_, rfl, trivial⟩, rfl, trivial⟩
        rw [jT_zero]; rfl
      · intro k hk
        refine walk (orc := orcTx) (keep := []) (cuts := []) (n := 1000) follows ?_
        refine of_eqH5 (x.kids.getD (↑k : Int).toNat ex0) ((.d (.slc 6 x.kids.length (lay (exG m) x.kids))) : AV) (ByteArray.mk #[109, 105, 110, 40] ++ jT x k) (decide ((↑k : Int) < ↑x.kids.length)) (ByteArray.mk #[109, 105, 110, 40] ++ jT x k ++ ByteArray.mk #[44, 32]) (fun Za Zb Zc Zd Ze => (((Zd = true) → ((((decide ((↑k : Int) > 0)) = true) → ((Zc.size + (ByteArray.mk #[44, 32]).size ≤ 9223372036854775807) ∧ (((0 ≤ (↑k : Int)) ∧ ((↑k : Int) < ↑x.kids.length)) ∧ FnOK Tryz.prog G 111 [(ndA m Za)] (ds (fmtE (rdE (ndA m Za)))) ∧ (Ze.size + (fmtE (rdE (ndA m Za))).size ≤ 9223372036854775807)) ∧ (I64 (↑k + 1)) ∧ Again (S111 m x (ByteArray.mk #[109, 105, 110, 40])) (fun k => k ≤ x.kids.length) (fun k => x.kids.length - k) k ⟨regs 120 [(1, (.box 1 0)), (5, (vs (ByteArray.mk #[109, 105, 110, 40] ++ jT x k ++ ByteArray.mk #[44, 32] ++ fmtE (rdE (ndA m Za))))), (6, (vi (↑k + 1))), (54, (vi (↑k))), (55, (.box 1 5)), (56, Zb), (57, (vi (↑x.kids.length))), (58, (vb Zd)), (59, (vi (↑k))), (60, (vi (↑k + 1))), (61, (vi (↑k))), (62, (vb (decide ((↑k : Int) > 0)))), (63, (vs Zc)), (64, (vs Ze)), (65, (vs Ze)), (66, (.box 1 5)), (67, Zb), (68, (vi (↑k))), (69, (.d (.ptr [(di Za.k), (ds Za.s), (di Za.n), (di Za.d), (di Za.pos), (.slc 6 Za.kids.length (exG m Za.kids))]))), (70, (.d (ndA m Za))), (71, (vs (fmtE (rdE (ndA m Za))))), (72, (vs (ByteArray.mk #[109, 105, 110, 40] ++ jT x k ++ ByteArray.mk #[44, 32] ++ fmtE (rdE (ndA m Za)))))], [(1, [(vi x.k), (vs x.s), (vi x.n), (vi x.d), (vi x.pos), Zb])]⟩)) ∧ (((decide ((↑k : Int) > 0)) = false) → ((((0 ≤ (↑k : Int)) ∧ ((↑k : Int) < ↑x.kids.length)) ∧ FnOK Tryz.prog G 111 [(ndA m Za)] (ds (fmtE (rdE (ndA m Za)))) ∧ (Zc.size + (fmtE (rdE (ndA m Za))).size ≤ 9223372036854775807)) ∧ (I64 (↑k + 1)) ∧ Again (S111 m x (ByteArray.mk #[109, 105, 110, 40])) (fun k => k ≤ x.kids.length) (fun k => x.kids.length - k) k ⟨regs 120 [(1, (.box 1 0)), (5, (vs (ByteArray.mk #[109, 105, 110, 40] ++ jT x k ++ fmtE (rdE (ndA m Za))))), (6, (vi (↑k + 1))), (54, (vi (↑k))), (55, (.box 1 5)), (56, Zb), (57, (vi (↑x.kids.length))), (58, (vb Zd)), (59, (vi (↑k))), (60, (vi (↑k + 1))), (61, (vi (↑k))), (62, (vb (decide ((↑k : Int) > 0)))), (65, (vs Zc)), (66, (.box 1 5)), (67, Zb), (68, (vi (↑k))), (69, (.d (.ptr [(di Za.k), (ds Za.s), (di Za.n), (di Za.d), (di Za.pos), (.slc 6 Za.kids.length (exG m Za.kids))]))), (70, (.d (ndA m Za))), (71, (vs (fmtE (rdE (ndA m Za))))), (72, (vs (ByteArray.mk #[109, 105, 110, 40] ++ jT x k ++ fmtE (rdE (ndA m Za)))))], [(1, [(vi x.k), (vs x.s), (vi x.n), (vi x.d), (vi x.pos), Zb])]⟩)))) ∧ ((Zd = false) → AWP Tryz.prog G [cd Tryz.f111 [1, 0, 1, 0, 1, 1, 1, 1, 1, 1, 1, 1, 1, 1, 1, 1, 1, 0, 1, 1, 1], (.blk 0), cd Tryz.f111 [1, 1]] ⟨regs 120 [(1, (.box 1 0)), (5, (vs Zc)), (6, (vi (↑k))), (54, (vi (↑k))), (55, (.box 1 5)), (56, Zb), (57, (vi (↑x.kids.length))), (58, (vb Zd))], [(1, [(vi x.k), (vs x.s), (vi x.n), (vi x.d), (vi x.pos), Zb])]⟩ (Ret Tryz.prog Tryz.f111 (ds (fmtE x)))))) (by kernel_rfl) ?_
        simp only [Int.toNat_natCast]
        have hj := jT_size hs k
        refine ⟨fun h => ?_, fun h => ?_⟩
        · have hk2 : k < x.kids.length := by have := of_decide_eq_true h; omega
          have hf := (hs.kid hk2).size
          have ej := jT_succ hk2
          have hc : FnOK Tryz.prog G 111 [kidA m x k] (ds (fmtE (rdE (kidA m x k)))) := by
            rw [kid_rd hx hk2]
            exact h111 k hk2
          have er : rdE (kidA m x k) = x.kids.getD k ex0 := kid_rd hx hk2
          simp only [er] at hc ⊢
          refine ⟨fun h0 => ⟨?_, ⟨⟨by omega, by omega⟩, hc, ?_⟩, ⟨by omega, by omega⟩, Again.mk (k + 1) ?_ hk2 (by omega)⟩, fun h0 => ⟨⟨⟨by omega, by omega⟩, hc, ?_⟩, ⟨by omega, by omega⟩, Again.mk (k + 1) ?_ hk2 (by omega)⟩⟩
          · rw [ByteArray.size_append]; show 4 + _ + 2 ≤ _; omega
          · rw [ByteArray.size_append, ByteArray.size_append]; show 4 + _ + 2 + _ ≤ _; omega
          · refine of_eq1 (some [(vi x.k), (vs x.s), (vi x.n), (vi x.d), (vi x.pos), (.d (.slc 6 x.kids.length (lay (exG m) x.kids)))]) (fun Za => ((((.box 1 0) : AV) = (.box 1 0) ∧ ((vs (ByteArray.mk #[109, 105, 110, 40] ++ jT x k ++ ByteArray.mk #[44, 32] ++ fmtE (x.kids.getD k ex0))) : AV) = (vs (ByteArray.mk #[109, 105, 110, 40] ++ jT x (k + 1))) ∧ ((vi (↑k + 1)) : AV) = (vi (↑(k + 1))) ∧ True) ∧ (Za : (Option (List AV))) = Za ∧ True)) (by kernel_rfl) ?_
            refine ⟨⟨rfl, ?_, rfl, trivial⟩, rfl, trivial⟩
            rw [ej, if_pos (of_decide_eq_true h0), ← ByteArray.append_assoc, ← ByteArray.append_assoc]
            rfl
          · rw [ByteArray.size_append]; show 4 + _ + _ ≤ _; omega
          · refine of_eq1 (some [(vi x.k), (vs x.s), (vi x.n), (vi x.d), (vi x.pos), (.d (.slc 6 x.kids.length (lay (exG m) x.kids)))]) (fun Za => ((((.box 1 0) : AV) = (.box 1 0) ∧ ((vs (ByteArray.mk #[109, 105, 110, 40] ++ jT x k ++ fmtE (x.kids.getD k ex0))) : AV) = (vs (ByteArray.mk #[109, 105, 110, 40] ++ jT x (k + 1))) ∧ ((vi (↑k + 1)) : AV) = (vi (↑(k + 1))) ∧ True) ∧ (Za : (Option (List AV))) = Za ∧ True)) (by kernel_rfl) ?_
            refine ⟨⟨rfl, ?_, rfl, trivial⟩, rfl, trivial⟩
            rw [ej, if_neg (of_decide_eq_false h0), ← ByteArray.append_assoc]
        · simp only [decide_eq_false_iff_not] at h
          obtain rfl : k = x.kids.length := by omega
          refine walk (orc := orcTx) (keep := []) (cuts := []) (n := 1000) follows ?_
          refine of_eqH (b := (((ByteArray.mk #[109, 105, 110, 40] ++ jT x x.kids.length).size + (ByteArray.mk #[41]).size ≤ 9223372036854775807) ∧ ((ds (ByteArray.mk #[109, 105, 110, 40] ++ jT x x.kids.length ++ ByteArray.mk #[41])) : DV) = (ds (fmtE x)))) (by kernel_rfl) ?_
          have ea := jT_all x
          rw [ef, if_neg n1, if_neg n2, if_neg n3, if_neg n4, if_neg n5, if_neg n18, if_pos h10, ← ea]
          refine ⟨?_, rfl⟩
          rw [ByteArray.size_append]; show 4 + _ + 1 ≤ _; omega
    · refine AWP.loop (c := cAt (bodyOf Tryz.f111) [1, 0, 1, 0, 1, 1, 1, 1, 1, 1, 1, 1, 1, 1, 1, 1, 1, 0, 1, 1, 0, 1, 0, 0]) (by kernel_rfl) (S111 m x ⟨#[109, 97, 120, 40]⟩) (fun k => k ≤ x.kids.length) (fun k => x.kids.length - k) 0 ?_ (Nat.zero_le _) ?_
      · refine of_eq1 (some [(vi x.k), (vs x.s), (vi x.n), (vi x.d), (vi x.pos), (.d (.slc 6 x.kids.length (lay (exG m) x.kids)))]) (fun Za => ((((.box 1 0) : AV) = (.box 1 0) ∧ ((vs (ByteArray.mk #[109, 97, 120, 40])) : AV) = (vs (ByteArray.mk #[109, 97, 120, 40] ++ jT x 0)) ∧ ((vi 0) : AV) = (vi 0) ∧ True) ∧ (Za : (Option (List AV))) = Za ∧ True)) (by kernel_rfl) ?_
        refine ⟨⟨rfl, ?_, rfl, trivial⟩, rfl, trivial⟩
        rw [jT_zero]; rfl
      · intro k hk
        refine walk (orc := orcTx) (keep := []) (cuts := []) (n := 1000) follows ?_
        refine of_eqH5 (x.kids.getD (↑k : Int).toNat ex0) ((.d (.slc 6 x.kids.length (lay (exG m) x.kids))) : AV) (ByteArray.mk #[109, 97, 120, 40] ++ jT x k) (decide ((↑k : Int) < ↑x.kids.length)) (ByteArray.mk #[109, 97, 120, 40] ++ jT x k ++ ByteArray.mk #[44, 32]) (fun Za Zb Zc Zd Ze => (((Zd = true) → ((((decide ((↑k : Int) > 0)) = true) → ((Zc.size + (ByteArray.mk #[44, 32]).size ≤ 9223372036854775807) ∧ (((0 ≤ (↑k : Int)) ∧ ((↑k : Int) < ↑x.kids.length)) ∧ FnOK Tryz.prog G 111 [(ndA m Za)] (ds (fmtE (rdE (ndA m Za)))) ∧ (Ze.size + (fmtE (rdE (ndA m Za))).size ≤ 9223372036854775807)) ∧ (I64 (↑k + 1)) ∧ Again (S111 m x (ByteArray.mk #[109, 97, 120, 40])) (fun k => k ≤ x.kids.length) (fun k => x.kids.length - k) k ⟨regs 120 [(1, (.box 1 0)), (5, (vs (ByteArray.mk #[109, 97, 120, 40] ++ jT x k ++ ByteArray.mk #[44, 32] ++ fmtE (rdE (ndA m Za))))), (6, (vi (↑k + 1))), (54, (vi (↑k))), (55, (.box 1 5)), (56, Zb), (57, (vi (↑x.kids.length))), (58, (vb Zd)), (59, (vi (↑k))), (60, (vi (↑k + 1))), (61, (vi (↑k))), (62, (vb (decide ((↑k : Int) > 0)))), (63, (vs Zc)), (64, (vs Ze)), (65, (vs Ze)), (66, (.box 1 5)), (67, Zb), (68, (vi (↑k))), (69, (.d (.ptr [(di Za.k), (ds Za.s), (di Za.n), (di Za.d), (di Za.pos), (.slc 6 Za.kids.length (exG m Za.kids))]))), (70, (.d (ndA m Za))), (71, (vs (fmtE (rdE (ndA m Za))))), (72, (vs (ByteArray.mk #[109, 97, 120, 40] ++ jT x k ++ ByteArray.mk #[44, 32] ++ fmtE (rdE (ndA m Za)))))], [(1, [(vi x.k), (vs x.s), (vi x.n), (vi x.d), (vi x.pos), Zb])]⟩)) ∧ (((decide ((↑k : Int) > 0)) = false) → ((((0 ≤ (↑k : Int)) ∧ ((↑k : Int) < ↑x.kids.length)) ∧ FnOK Tryz.prog G 111 [(ndA m Za)] (ds (fmtE (rdE (ndA m Za)))) ∧ (Zc.size + (fmtE (rdE (ndA m Za))).size ≤ 9223372036854775807)) ∧ (I64 (↑k + 1)) ∧ Again (S111 m x (ByteArray.mk #[109, 97, 120, 40])) (fun k => k ≤ x.kids.length) (fun k => x.kids.length - k) k ⟨regs 120 [(1, (.box 1 0)), (5, (vs (ByteArray.mk #[109, 97, 120, 40] ++ jT x k ++ fmtE (rdE (ndA m Za))))), (6, (vi (↑k + 1))), (54, (vi (↑k))), (55, (.box 1 5)), (56, Zb), (57, (vi (↑x.kids.length))), (58, (vb Zd)), (59, (vi (↑k))), (60, (vi (↑k + 1))), (61, (vi (↑k))), (62, (vb (decide ((↑k : Int) > 0)))), (65, (vs Zc)), (66, (.box 1 5)), (67, Zb), (68, (vi (↑k))), (69, (.d (.ptr [(di Za.k), (ds Za.s), (di Za.n), (di Za.d), (di Za.pos), (.slc 6 Za.kids.length (exG m Za.kids))]))), (70, (.d (ndA m Za))), (71, (vs (fmtE (rdE (ndA m Za))))), (72, (vs (ByteArray.mk #[109, 97, 120, 40] ++ jT x k ++ fmtE (rdE (ndA m Za)))))], [(1, [(vi x.k), (vs x.s), (vi x.n), (vi x.d), (vi x.pos), Zb])]⟩)))) ∧ ((Zd = false) → AWP Tryz.prog G [cd Tryz.f111 [1, 0, 1, 0, 1, 1, 1, 1, 1, 1, 1, 1, 1, 1, 1, 1, 1, 0, 1, 1, 1], (.blk 0), cd Tryz.f111 [1, 1]] ⟨regs 120 [(1, (.box 1 0)), (5, (vs Zc)), (6, (vi (↑k))), (54, (vi (↑k))), (55, (.box 1 5)), (56, Zb), (57, (vi (↑x.kids.length))), (58, (vb Zd))], [(1, [(vi x.k), (vs x.s), (vi x.n), (vi x.d), (vi x.pos), Zb])]⟩ (Ret Tryz.prog Tryz.f111 (ds (fmtE x)))))) (by kernel_rfl) ?_
        simp only [Int.toNat_natCast]
        have hj := jT_size hs k
        refine ⟨fun h => ?_, fun h => ?_⟩
        · have hk2 : k < x.kids.length := by have := of_decide_eq_true h; omega
          have hf := (hs.kid hk2).size
          have ej := jT_succ hk2
          have hc : FnOK Tryz.prog G 111 [kidA m x k] (ds (fmtE (rdE (kidA m x k)))) := by
            rw [kid_rd hx hk2]
            exact h111 k hk2
          have er : rdE (kidA m x k) = x.kids.getD k ex0 := kid_rd hx hk2
          simp only [er] at hc ⊢
          refine ⟨fun h0 => ⟨?_, ⟨⟨by omega, by omega⟩, hc, ?_⟩, ⟨by omega, by omega⟩, Again.mk (k + 1) ?_ hk2 (by omega)⟩, fun h0 => ⟨⟨⟨by omega, by omega⟩, hc, ?_⟩, ⟨by omega, by omega⟩, Again.mk (k + 1) ?_ hk2 (by omega)⟩⟩
          · rw [ByteArray.size_append]; show 4 + _ + 2 ≤ _; omega
          · rw [ByteArray.size_append, ByteArray.size_append]; show 4 + _ + 2 + _ ≤ _; omega
          · refine of_eq1 (some [(vi x.k), (vs x.s), (vi x.n), (vi x.d), (vi x.pos), (.d (.slc 6 x.kids.length (lay (exG m) x.kids)))]) (fun Za => ((((.box 1 0) : AV) = (.box 1 0) ∧ ((vs (ByteArray.mk #[109, 97, 120, 40] ++ jT x k ++ ByteArray.mk #[44, 32] ++ fmtE (x.kids.getD k ex0))) : AV) = (vs (ByteArray.mk #[109, 97, 120, 40] ++ jT x (k + 1))) ∧ ((vi (↑k + 1)) : AV) = (vi (↑(k + 1))) ∧ True) ∧ (Za : (Option (List AV))) = Za ∧ True)) (by kernel_rfl) ?_
            refine ⟨⟨rfl, ?_, rfl, trivial⟩, rfl, trivial⟩
            rw [ej, if_pos (of_decide_eq_true h0), ← ByteArray.append_assoc, ← ByteArray.append_assoc]
            rfl
          · rw [ByteArray.size_append]; show 4 + _ + _ ≤ _; omega
          · refine of_eq1 (some [(vi x.k), (vs x.s), (vi x.n), (vi x.d), (vi x.pos), (.d (.slc 6 x.kids.length (lay (exG m) x.kids)))]) (fun Za => ((((.box 1 0) : AV) = (.box 1 0) ∧ ((vs (ByteArray.mk #[109, 97, 120, 40] ++ jT x k ++ fmtE (x.kids.getD k ex0))) : AV) = (vs (ByteArray.mk #[109, 97, 120, 40] ++ jT x (k + 1))) ∧ ((vi (↑k + 1)) : AV) = (vi (↑(k + 1))) ∧ True) ∧ (Za : (Option (List AV))) = Za ∧ True)) (by kernel_rfl) ?_
            refine ⟨⟨rfl, ?_, rfl, trivial⟩, rfl, trivial⟩
            rw [ej, if_neg (of_decide_eq_false h0), ← ByteArray.append_assoc]
        · simp only [decide_eq_false_iff_not] at h
          obtain rfl : k = x.kids.length := by omega
          refine walk (orc := orcTx) (keep := []) (cuts := []) (n := 1000) follows ?_
          refine of_eqH (b := (((ByteArray.mk #[109, 97, 120, 40] ++ jT x x.kids.length).size + (ByteArray.mk #[41]).size ≤ 9223372036854775807) ∧ ((ds (ByteArray.mk #[109, 97, 120, 40] ++ jT x x.kids.length ++ ByteArray.mk #[41])) : DV) = (ds (fmtE x)))) (by kernel_rfl) ?_
          have ea := jT_all x
          rw [ef, if_neg n1, if_neg n2, if_neg n3, if_neg n4, if_neg n5, if_neg n18, if_neg n10, if_pos h11, ← ea]
          refine ⟨?_, rfl⟩
          rw [ByteArray.size_append]; show 4 + _ + 1 ≤ _; omega
    · obtain ⟨hl2, hob⟩ := snd_two hsn ⟨n1, n2, n3, n4, n5, n18, n10, n11⟩
      have hl0 : 0 < x.kids.length := by omega
      have hl1 : 1 < x.kids.length := by omega
      have ef2 : fmtE x = wth (fstL x.k) (g0 (fmtL x.kids) 0) ++ (⟨#[32]⟩ : ByteArray) ++ opS x.k ++ (⟨#[32]⟩ : ByteArray) ++ wth (lvI x.k + 1) (g0 (fmtL x.kids) 1) := by
        rw [ef, if_neg n1, if_neg n2, if_neg n3, if_neg n4, if_neg n5, if_neg n18, if_neg n10, if_neg n11]
      refine ⟨f137 m x, f140 _, ?_⟩
      have hol := opsI_len (rkI x.k)
      refine AWP.loop (c := cAt (bodyOf Tryz.f111) [1, 1, 1, 1, 1, 0, 1, 0, 0]) (by kernel_rfl) (S111o m x) (fun j => j ≤ (opsI (rkI x.k)).length) (fun j => (opsI (rkI x.k)).length - j) 0 ?_ (Nat.zero_le _) ?_
      · refine of_eq1 (some [(vi x.k), (vs x.s), (vi x.n), (vi x.d), (vi x.pos), (.d (.slc 6 x.kids.length (lay (exG m) x.kids)))]) (fun Za => ((((.box 1 0) : AV) = (.box 1 0) ∧ ((vi (rkI x.k)) : AV) = (vi (rkI x.k)) ∧ ((.d (.slc 1 (opsT (rkI x.k)).length (stF (opsT (rkI x.k))))) : AV) = (.d (.slc 1 (opsT (rkI x.k)).length (stF (opsT (rkI x.k))))) ∧ ((.d (.slc 1 (opsI (rkI x.k)).length (inF (opsI (rkI x.k))))) : AV) = (.d (.slc 1 (opsI (rkI x.k)).length (inF (opsI (rkI x.k))))) ∧ ((vs (ByteArray.mk #[])) : AV) = (vs (oT x.k 0)) ∧ ((vi 0) : AV) = (vi 0) ∧ True) ∧ (Za : (Option (List AV))) = Za ∧ True)) (by kernel_rfl) ?_
        exact ⟨⟨rfl, rfl, rfl, rfl, rfl, rfl, trivial⟩, rfl, trivial⟩
      · intro j hj
        refine walk (orc := orcTx) (keep := []) (cuts := []) (n := 1000) follows ?_
        refine of_eqH7 ((.d (.slc 1 (opsI (rkI x.k)).length (inF (opsI (rkI x.k))))) : AV) (decide ((↑j : Int) < ↑(opsI (rkI x.k)).length)) ((.d (.slc 1 (opsT (rkI x.k)).length (stF (opsT (rkI x.k))))) : AV) ((opsI (rkI x.k)).getD (↑j : Int).toNat 0 == x.k) ((opsI (rkI x.k)).getD (↑j : Int).toNat 0) ((opsT (rkI x.k)).getD (↑j : Int).toNat ByteArray.empty) ((.d (.slc 6 x.kids.length (lay (exG m) x.kids))) : AV) (fun Za Zb Zc Zd Ze Zf Zg => (((Zb = true) → (((0 ≤ (↑j : Int)) ∧ ((↑j : Int) < ↑(opsI (rkI x.k)).length)) ∧ ((Zd = true) → (((0 ≤ (↑j : Int)) ∧ ((↑j : Int) < ↑(opsT (rkI x.k)).length)) ∧ (I64 (↑j + 1)) ∧ Again (S111o m x) (fun j => j ≤ (opsI (rkI x.k)).length) (fun j => (opsI (rkI x.k)).length - j) j ⟨regs 120 [(1, (.box 1 0)), (7, (vi (rkI x.k))), (8, Zc), (9, Za), (10, (vs Zf)), (11, (vi (↑j + 1))), (82, (vi (↑j))), (83, Za), (84, (vi (↑(opsI (rkI x.k)).length))), (85, (vb Zb)), (86, (vi (↑j))), (87, (vi (↑j + 1))), (88, Za), (89, (vi (↑j))), (90, (.d (.ptr [(di Ze)]))), (91, (vi Ze)), (92, (.box 1 0)), (93, (vi x.k)), (94, (vb Zd)), (95, Zc), (96, (vi (↑j))), (97, (.d (.ptr [(ds Zf)]))), (98, (vs Zf))], [(1, [(vi x.k), (vs x.s), (vi x.n), (vi x.d), (vi x.pos), Zg])]⟩)) ∧ ((Zd = false) → ((I64 (↑j + 1)) ∧ Again (S111o m x) (fun j => j ≤ (opsI (rkI x.k)).length) (fun j => (opsI (rkI x.k)).length - j) j ⟨regs 120 [(1, (.box 1 0)), (7, (vi (rkI x.k))), (8, Zc), (9, Za), (10, (vs (oT x.k j))), (11, (vi (↑j + 1))), (82, (vi (↑j))), (83, Za), (84, (vi (↑(opsI (rkI x.k)).length))), (85, (vb Zb)), (86, (vi (↑j))), (87, (vi (↑j + 1))), (88, Za), (89, (vi (↑j))), (90, (.d (.ptr [(di Ze)]))), (91, (vi Ze)), (92, (.box 1 0)), (93, (vi x.k)), (94, (vb Zd))], [(1, [(vi x.k), (vs x.s), (vi x.n), (vi x.d), (vi x.pos), Zg])]⟩)))) ∧ ((Zb = false) → AWP Tryz.prog G [cd Tryz.f111 [1, 1, 1, 1, 1, 1]] ⟨regs 120 [(1, (.box 1 0)), (7, (vi (rkI x.k))), (8, Zc), (9, Za), (10, (vs (oT x.k j))), (11, (vi (↑j))), (82, (vi (↑j))), (83, Za), (84, (vi (↑(opsI (rkI x.k)).length))), (85, (vb Zb))], [(1, [(vi x.k), (vs x.s), (vi x.n), (vi x.d), (vi x.pos), Zg])]⟩ (Ret Tryz.prog Tryz.f111 (ds (fmtE x)))))) (by kernel_rfl) ?_
        simp only [Int.toNat_natCast]
        refine ⟨fun h => ?_, fun h => ?_⟩
        · have hj2 : j < (opsI (rkI x.k)).length := by have := of_decide_eq_true h; omega
          have ht : (opsT (rkI x.k)).length = (opsI (rkI x.k)).length := by unfold opsT; rw [List.length_map]
          refine ⟨⟨by omega, by omega⟩, fun h0 => ⟨⟨by omega, by omega⟩, ⟨by omega, by omega⟩, Again.mk (j + 1) ?_ hj2 (by omega)⟩, fun h0 => ⟨⟨by omega, by omega⟩, Again.mk (j + 1) ?_ hj2 (by omega)⟩⟩
          · refine of_eq1 (some [(vi x.k), (vs x.s), (vi x.n), (vi x.d), (vi x.pos), (.d (.slc 6 x.kids.length (lay (exG m) x.kids)))]) (fun Za => ((((.box 1 0) : AV) = (.box 1 0) ∧ ((vi (rkI x.k)) : AV) = (vi (rkI x.k)) ∧ ((.d (.slc 1 (opsT (rkI x.k)).length (stF (opsT (rkI x.k))))) : AV) = (.d (.slc 1 (opsT (rkI x.k)).length (stF (opsT (rkI x.k))))) ∧ ((.d (.slc 1 (opsI (rkI x.k)).length (inF (opsI (rkI x.k))))) : AV) = (.d (.slc 1 (opsI (rkI x.k)).length (inF (opsI (rkI x.k))))) ∧ ((vs ((opsT (rkI x.k)).getD j ByteArray.empty)) : AV) = (vs (oT x.k (j + 1))) ∧ ((vi (↑j + 1)) : AV) = (vi (↑(j + 1))) ∧ True) ∧ (Za : (Option (List AV))) = Za ∧ True)) (by kernel_rfl) ?_
            refine ⟨⟨rfl, rfl, rfl, rfl, ?_, rfl, trivial⟩, rfl, trivial⟩
            rw [oT_hit hj2 (by simpa using h0)]
          · refine AS.leZ [4] [] (b := ((T0 ∧ T0 ∧ T0 ∧ T0 ∧ ((vs (oT x.k j)) : AV) = (vs (oT x.k (j + 1))) ∧ T0 ∧ True) ∧ T0 ∧ True)) (by kernel_rfl) (by kernel_rfl) ?_
            refine ⟨⟨rfl, rfl, rfl, rfl, ?_, rfl, trivial⟩, rfl, trivial⟩
            rw [oT_miss hj2 (by simpa using h0)]
        · simp only [decide_eq_false_iff_not] at h
          obtain rfl : j = (opsI (rkI x.k)).length := by omega
          refine walk (orc := orcTx) (keep := []) (cuts := []) (n := 1000) follows ?_
          refine of_tr (fun _ _ _ ZK => (fun Za Zb => ((((rkI x.k == 4) = true) → (((((0 : Int) ≤ (0 : Int)) ∧ (0 < (↑x.kids.length : Int))) ∧ ZK 139 [(ndA m (x.kids.getD (Int.toNat 0) ex0)), (di 5)] (ds (wth (5 - 1) Za)) ∧ ((wth (5 - 1) Za).size + (ByteArray.mk #[32]).size ≤ 9223372036854775807) ∧ ((wth (5 - 1) Za ++ ByteArray.mk #[32]).size + (oT x.k (opsI (rkI x.k)).length).size ≤ 9223372036854775807) ∧ ((wth (5 - 1) Za ++ ByteArray.mk #[32] ++ oT x.k (opsI (rkI x.k)).length).size + (ByteArray.mk #[32]).size ≤ 9223372036854775807) ∧ (((0 : Int) ≤ (1 : Int)) ∧ (1 < (↑x.kids.length : Int))) ∧ (I64 (rkI x.k + 1)) ∧ ZK 139 [(ndA m (x.kids.getD (Int.toNat 1) ex0)), (di (rkI x.k + 1))] (ds (wth (rkI x.k + 1 - 1) Zb)) ∧ ((wth (5 - 1) Za ++ ByteArray.mk #[32] ++ oT x.k (opsI (rkI x.k)).length ++ ByteArray.mk #[32]).size + (wth (rkI x.k + 1 - 1) Zb).size ≤ 9223372036854775807)) ∧ ((ds (wth (5 - 1) Za ++ ByteArray.mk #[32] ++ oT x.k (opsI (rkI x.k)).length ++ ByteArray.mk #[32] ++ wth (rkI x.k + 1 - 1) Zb)) : DV) = (ds (fmtE x)))) ∧ (((rkI x.k == 4) = false) → (((((0 : Int) ≤ (0 : Int)) ∧ (0 < (↑x.kids.length : Int))) ∧ ZK 139 [(ndA m (x.kids.getD (Int.toNat 0) ex0)), (di (rkI x.k))] (ds (wth (rkI x.k - 1) Za)) ∧ ((wth (rkI x.k - 1) Za).size + (ByteArray.mk #[32]).size ≤ 9223372036854775807) ∧ ((wth (rkI x.k - 1) Za ++ ByteArray.mk #[32]).size + (oT x.k (opsI (rkI x.k)).length).size ≤ 9223372036854775807) ∧ ((wth (rkI x.k - 1) Za ++ ByteArray.mk #[32] ++ oT x.k (opsI (rkI x.k)).length).size + (ByteArray.mk #[32]).size ≤ 9223372036854775807) ∧ (((0 : Int) ≤ (1 : Int)) ∧ (1 < (↑x.kids.length : Int))) ∧ (I64 (rkI x.k + 1)) ∧ ZK 139 [(ndA m (x.kids.getD (Int.toNat 1) ex0)), (di (rkI x.k + 1))] (ds (wth (rkI x.k + 1 - 1) Zb)) ∧ ((wth (rkI x.k - 1) Za ++ ByteArray.mk #[32] ++ oT x.k (opsI (rkI x.k)).length ++ ByteArray.mk #[32]).size + (wth (rkI x.k + 1 - 1) Zb).size ≤ 9223372036854775807)) ∧ ((ds (wth (rkI x.k - 1) Za ++ ByteArray.mk #[32] ++ oT x.k (opsI (rkI x.k)).length ++ ByteArray.mk #[32] ++ wth (rkI x.k + 1 - 1) Zb)) : DV) = (ds (fmtE x)))))) (lvI (rdE (ndA m (x.kids.getD (Int.toNat 0) ex0))).k, fmtE (rdE (ndA m (x.kids.getD (Int.toNat 0) ex0)))) (lvI (rdE (ndA m (x.kids.getD (Int.toNat 1) ex0))).k, fmtE (rdE (ndA m (x.kids.getD (Int.toNat 1) ex0))))) (by kernel_rfl) ?_
          simp only [beq_iff_eq, beq_eq_false_iff_ne, ne_eq, q0 hl0, q1 hl1, oT_all hob]
          have hh0 := h139 0 hl0
          have hh1 := h139 1 hl1
          have w0 := fun v => wth_size v (g0 (fmtL x.kids) 0)
          have w1 := fun v => wth_size v (g0 (fmtL x.kids) 1)
          have ht := tot_get (fmtL x.kids)
          have htt := hs.tot
          have ho := opS_size x.k
          have hlr := lv_rk (snd_rk hsn)
          have hlv : -1 ≤ lvI x.k ∧ lvI x.k ≤ 8 := lvI_le _
          rw [g0_kid hl0] at hh0 w0 ef2 ht
          rw [g0_kid hl1] at hh1 w1 ef2 ht
          unfold fstL at ef2
          have e1 : lvI x.k + 1 = rkI x.k + 1 - 1 := by omega
          rw [e1] at ef2
          have s1 := w1 (rkI x.k + 1 - 1)
          refine ⟨fun h3 => ?_, fun h3 => ?_⟩
          · have s0 := w0 (5 - 1)
            simp only at s0 s1 ht
            rw [if_pos (by omega), h3] at ef2
            have a0 := hh0 5 (by omega)
            have a1 := hh1 (rkI x.k + 1) (by omega)
            rw [h3] at a1 s1
            simp only [h3]
            refine ⟨⟨⟨by omega, by omega⟩, a0, ?_, ?_, ?_, ⟨by omega, by omega⟩, ⟨by omega, by omega⟩, a1, ?_⟩, ?_⟩
            · show _ + 1 ≤ _; omega
            · rw [ByteArray.size_append]; show _ + 1 + _ ≤ _; omega
            · rw [ByteArray.size_append, ByteArray.size_append]; show _ + 1 + _ + 1 ≤ _; omega
            · rw [ByteArray.size_append, ByteArray.size_append, ByteArray.size_append]; show _ + 1 + _ + 1 + _ ≤ _; omega
            · rw [ef2]; rfl
          · have s0 := w0 (rkI x.k - 1)
            simp only at s0 s1 ht
            rw [if_neg (by omega), hlr] at ef2
            have a0 := hh0 (rkI x.k) (by omega)
            have a1 := hh1 (rkI x.k + 1) (by omega)
            refine ⟨⟨⟨by omega, by omega⟩, a0, ?_, ?_, ?_, ⟨by omega, by omega⟩, ⟨by omega, by omega⟩, a1, ?_⟩, ?_⟩
            · show _ + 1 ≤ _; omega
            · rw [ByteArray.size_append]; show _ + 1 + _ ≤ _; omega
            · rw [ByteArray.size_append, ByteArray.size_append]; show _ + 1 + _ + 1 ≤ _; omega
            · rw [ByteArray.size_append, ByteArray.size_append, ByteArray.size_append]; show _ + 1 + _ + 1 + _ ≤ _; omega
            · rw [ef2]
end Go.Proofs
set_option autoImplicit false
namespace Go.Proofs
open Go Go.Ab Go.RowKit
set_option maxHeartbeats 4000000
set_option maxRecDepth 100000
variable {G : IH}
noncomputable def orcVx : Oracle := fun f a => match f, a with
  | 110, [e] => some (db (sndE (rdE e)))
  | 12, [e] => some (di ((ht (rdE e) : Int) + 1))
  | 111, [e] => some (ds (fmtE (rdE e)))
  | _, _ => none
theorem f64 (hT : Tab G) (m : Nat) (x : Ex) (hx : ht x ≤ m) (hs : Sm x) : FnOK Tryz.prog G 64 [exD m x] (db (fitE x)) := by
  have e : rdE (exV x.k x.s x.n x.d x.pos x.kids.length (lay (exG m) x.kids)) = x := rdE_eq hx
  refine FnOK.walk (orc := orcVx) (keep := []) follows Tryz.func64 rfl Tryz.call64 ?_
  refine of_tr (fun _ _ _ ZK => ((ZK 110 [(ndX m x)] (db (sndE (rdE (ndX m x)))) ∧ (((sndE (rdE (ndX m x))) = true) → ZK 12 [(ndX m x)] (di (↑(ht (rdE (ndX m x))) + 1))) ∧ (((sndE (rdE (ndX m x)) && decide ((↑(ht (rdE (ndX m x))) : Int) + 1 ≤ 32)) = true) → ZK 111 [(ndX m x)] (ds (fmtE (rdE (ndX m x)))))) ∧ ((db (sndE (rdE (ndX m x)) && decide ((↑(ht (rdE (ndX m x))) : Int) + 1 ≤ 32) && decide ((↑(fmtE (rdE (ndX m x))).size : Int) ≤ 16384))) : DV) = (db (fitE x)))) (by kernel_rfl) ?_
  simp only [e]
  refine ⟨⟨f110 hT m x hx hs, fun _ => f12 m x hx hs, fun h => ?_⟩, ?_⟩
  · simp only [Bool.and_eq_true] at h
    exact f111 m x hx hs h.1
  · unfold fitE
    refine congrArg db ?_
    have e2 : decide (((fmtE x).size : Int) ≤ 16384) = decide ((fmtE x).size ≤ 16384) := by rw [decide_eq_decide]; omega
    rw [e2]
abbrev eN (s : ByteArray) : DV := .agg [di 2, ds s, di 0, di 0, di 0, .con (.slice none 0 0)]
abbrev xN (s : ByteArray) : Ex := .mk 2 s 0 0 0 []
theorem eN_rel {s : ByteArray} (k : IH) (v : Value) (h : DV.rel k (eN s) v) : DV.rel k (exD 0 (xN s)) v := by
  obtain ⟨us, rfl, a, u1, rfl, ha, b, u2, rfl, hb, c, u3, rfl, hc, d, u4, rfl, hd, e, u5, rfl, he, f, u6, rfl, hf, h0⟩ := h
  exact ⟨_, rfl, a, _, rfl, ha, b, _, rfl, hb, c, _, rfl, hc, d, _, rfl, hd, e, _, rfl, he, f, _, rfl, nil_slc hf, h0⟩
theorem eN_args {s : ByteArray} (k : IH) (us : List Value) (h : DV.rels k [eN s] us) : DV.rels k [exD 0 (xN s)] us := by
  obtain ⟨v, us', rfl, hv, h0⟩ := h
  exact ⟨v, us', rfl, eN_rel k v hv, h0⟩
theorem xN_sm {s : ByteArray} (h : s.size ≤ 1000) : Sm (xN s) := ⟨by simp [xN, nds, ndsL], by simp only [xN, txE, txL]; exact ⟨h, trivial⟩⟩
theorem xN_ht (s : ByteArray) : ht (xN s) = 0 := by simp [xN, ht, htL]
theorem name_size {s : ByteArray} (h : nameB s = true) : 1 ≤ s.size ∧ s.size ≤ 16 := by
  unfold nameB at h
  simp only [Bool.and_eq_true, decide_eq_true_eq] at h
  exact ⟨h.1, h.2.1⟩
theorem xN_fit (s : ByteArray) : fitE (xN s) = nameB s := by
  unfold fitE
  rw [xN_ht]
  have e1 : sndE (xN s) = nameB s := by simp [sndE, sndK, xN, sndL]
  have e2 : fmtE (xN s) = s := by simp [fmtE, fmtK, xN, fmtL]
  rw [e1, e2]
  cases h : nameB s with
  | false => rfl
  | true =>
    have := name_size h
    rw [decide_eq_true (by omega : s.size ≤ 16384)]; rfl
noncomputable def orcNm : Oracle := fun f a => match f, a with
  | 40, [.agg [_, .con (.string s), _, _, _, _]] => some (ds (if nameB s then s else .empty))
  | 64, [.agg [_, .con (.string s), _, _, _, _]] => some (db (nameB s))
  | _, _ => none
theorem f98 (hT : Tab G) (s : ByteArray) (hs : s.size ≤ 1000) : FnOK Tryz.prog G 98 [ds s] (db (nameB s)) := by
  have h40 := (f40 hT (G := G) 0 (xN s) (by rw [xN_ht]; omega) (xN_sm hs)).args eN_args
  have e2 : fmtX (xN s) = if nameB s then s else .empty := by
    unfold fmtX
    rw [xN_fit]
    have e2 : fmtE (xN s) = s := by simp [fmtE, fmtK, xN, fmtL]
    rw [e2]
  rw [e2] at h40
  refine FnOK.walk (orc := orcNm) (keep := []) follows Tryz.func98 rfl Tryz.call98 ?_
  refine of_tr (fun _ _ _ ZK => (ZK 40 [(.agg [(di 2), (ds s), (di 0), (di 0), (di 0), (.con (.slice none 0 0))])] (ds (if nameB s = true then s else ByteArray.empty)) ∧ ((db (!(if nameB s = true then s else ByteArray.empty).toList == (ByteArray.mk #[]).toList)) : DV) = (db (nameB s)))) (by kernel_rfl) ?_
  refine ⟨h40, ?_⟩
  refine congrArg db ?_
  rw [emp_beq]
  cases h : nameB s with
  | false => rfl
  | true =>
    have := name_size h
    rw [if_pos rfl, decide_eq_false (by omega)]; rfl
theorem f54 (hT : Tab G) (s : ByteArray) (hs : s.size ≤ 1000) : FnOK Tryz.prog G 54 [ds s] (db (nameB s)) := by
  have h64 := (f64 hT (G := G) 0 (xN s) (by rw [xN_ht]; omega) (xN_sm hs)).args eN_args
  rw [xN_fit] at h64
  refine FnOK.walk (orc := orcNm) (keep := []) follows Tryz.func54 rfl Tryz.call54 ?_
  refine of_tr (fun _ _ _ ZK => (ZK 64 [(.agg [(di 2), (ds s), (di 0), (di 0), (di 0), (.con (.slice none 0 0))])] (db (nameB s)) ∧ (ZS ((db (nameB s)) : DV)))) (by kernel_rfl) ?_
  exact ⟨h64, rfl⟩
end Go.Proofs
