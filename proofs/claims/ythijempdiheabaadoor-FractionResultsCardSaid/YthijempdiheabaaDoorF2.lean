import Derived.Test.YthijempdiheabaaDoorAb15
import Derived.Test.YthijempdiheabaaDoorFb
import Derived.Test.YthijempdiheabaaDoorF1
set_option autoImplicit false
namespace Go.Proofs
open Go Go.Ab
set_option maxHeartbeats 1000000
set_option maxRecDepth 100000
variable {G : IH}
theorem gcd_pos' {n d : Int} (hd : 0 < d) : (0 : Int) < Int.gcd n d := by have := gcd_pos (n := n) (d := d) (by omega); omega
theorem ok_red (n d : Int) (hd : 0 < d) : ok (n.tdiv (Int.gcd n d)) (d.tdiv (Int.gcd n d)) = decide (-1000000000 ≤ n.tdiv (Int.gcd n d) ∧ n.tdiv (Int.gcd n d) ≤ 1000000000 ∧ d.tdiv (Int.gcd n d) ≤ 1000000) := by
  have hg := gcd_pos' (n := n) hd
  have h1 : n.tdiv (Int.gcd n d) = n / (Int.gcd n d) := Int.tdiv_eq_ediv_of_dvd (Int.gcd_dvd_left ..)
  have h2 : d.tdiv (Int.gcd n d) = d / (Int.gcd n d) := Int.tdiv_eq_ediv_of_dvd (Int.gcd_dvd_right ..)
  have h3 : Int.gcd (n / (Int.gcd n d)) (d / (Int.gcd n d)) = 1 := Int.gcd_ediv_gcd_ediv_gcd_of_ne_zero_right (by omega)
  have h4 : 0 < d / (Int.gcd n d) := Int.ediv_pos_of_pos_of_dvd hd (by omega) (Int.gcd_dvd_right ..)
  rw [Bool.eq_iff_iff, h1, h2]
  simp only [ok, decide_eq_true_eq]
  constructor
  · intro h; omega
  · intro h; exact ⟨by omega, by omega, by omega, by omega, h3⟩
theorem ok_spec {n d : Int} (h : ok n d = true) : 1 ≤ d ∧ d ≤ 1000000 ∧ -1000000000 ≤ n ∧ n ≤ 1000000000 ∧ Int.gcd n d = 1 := by simpa [ok] using h
theorem floor_neg {a b : Int} (hb : 0 < b) (h : a.tmod b < 0) : a.tdiv b - 1 = a / b := by
  have h1 := Int.tmod_add_mul_tdiv a b
  have h2 := Int.emod_add_mul_ediv a b
  have h3 := Int.emod_nonneg a (show b ≠ 0 by omega)
  have h4 := Int.emod_lt_of_pos a hb
  have h5 : -b < a.tmod b := by
    have := Int.lt_tmod_of_pos a hb; omega
  have h6 : b * (a.tdiv b - a / b) = a % b - a.tmod b := by rw [Int.mul_sub]; omega
  have h7 : 0 < a.tdiv b - a / b := by
    rcases Int.lt_or_le 0 (a.tdiv b - a / b) with h | h
    · exact h
    · exact absurd (Int.mul_nonpos_of_nonneg_of_nonpos (Int.le_of_lt hb) h) (by omega)
  have h8 : a.tdiv b - a / b < 2 := by
    rcases Int.lt_or_le (a.tdiv b - a / b) 2 with h | h
    · exact h
    · have := Int.mul_le_mul_of_nonneg_left h (Int.le_of_lt hb); omega
  omega
theorem floor_pos {a b : Int} (hb : 0 < b) (h : ¬ a.tmod b < 0) : a.tdiv b = a / b := by
  have h1 := Int.tmod_add_mul_tdiv a b
  have h2 : a.tmod b < b := Int.tmod_lt_of_pos a hb
  have := (Int.ediv_emod_unique (a := a) (b := b) (r := a.tmod b) (q := a.tdiv b) hb).2 ⟨by omega, by omega, by omega⟩
  omega
theorem ediv_I64 {a b : Int} (hb : 0 < b) (h : R64 a) : I64 (a / b) := by
  obtain ⟨h0, h1⟩ := h
  rcases Int.lt_or_le a 0 with h | h
  · have h2 := Int.ediv_neg_of_neg_of_pos h hb
    have h3 : a ≤ a / b := by
      have h4 := Int.emod_add_mul_ediv a b
      have h5 := Int.emod_nonneg a (show b ≠ 0 by omega)
      have h6 : (a / b) * b ≤ (a / b) * 1 := Int.mul_le_mul_of_nonpos_left (by omega) (by omega)
      have := Int.emod_lt_of_pos a hb
      rcases Int.lt_or_le (a / b) a with h7 | h7
      · have h8 : b * (a / b) ≤ b * (a - 1) := Int.mul_le_mul_of_nonneg_left (by omega) (by omega)
        have h9 : b * (a - 1) ≤ 1 * (a - 1) := Int.mul_le_mul_of_nonpos_right (by omega) (by omega)
        have h10 : b * (a - 1) = b * a - b := by rw [Int.mul_sub, Int.mul_one]
        have h11 : b * a ≤ 1 * a := Int.mul_le_mul_of_nonpos_right (by omega) (by omega)
        omega
      · exact h7
    exact ⟨by omega, by omega⟩
  · have h2 := Int.ediv_nonneg h (Int.le_of_lt hb)
    have h3 := Int.ediv_le_self b h
    exact ⟨by omega, by omega⟩
theorem f41 (n : Int) : FnOK Tryd.prog G 41 [di n] (db (big n)) := by
  refine FnOK.walk (orc := orc) (keep := []) follows Tryd.func41 rfl Tryd.call41 ?_
  refine of_eqH (b :=
    (((.con (.bool (decide (n ≥ (-1000000000000000 : Int)) && decide (n ≤ (1000000000000000 : Int))))) : DV) = (db (big n)))) (by kernel_rfl) ?_
  exact congrArg db (by rw [Bool.eq_iff_iff]; simp [big])
theorem f46 (n : Int) (h : R64 n) : FnOK Tryd.prog G 46 [di n] (.tup [ds (str (sg n)), di (n.natAbs : Int)]) := by
  refine FnOK.walk (orc := orc) (keep := []) follows Tryd.func46 rfl Tryd.call46 ?_
  refine of_eqH (b :=
    ((((decide (n < (0 : Int))) = true) →
    ((R64 n) ∧
    (((.tup [(.con (.string ({ data := #[(45 : UInt8)] }))), (.con (.int .i64 (-n)))]) : DV) = (.tup [(ds (str (sg n))), (di (↑(Int.natAbs n) : Int))])))) ∧
    (((decide (n < (0 : Int))) = false) →
    (((.tup [(.con (.string ({ data := #[] }))), (.con (.int .i64 n))]) : DV) = (.tup [(ds (str (sg n))), (di (↑(Int.natAbs n) : Int))]))))) (by kernel_rfl) ?_
  refine ⟨fun hn => ⟨h, ?_⟩, fun hn => ?_⟩
  · simp at hn; simp only [sg, if_pos hn]; rw [show (n.natAbs : Int) = -n by omega]
  · simp at hn; simp only [sg, if_neg (show ¬ n < 0 by omega)]; rw [show (n.natAbs : Int) = n by omega]
theorem f43 (n d : Int) (hd : d ≠ 0) (hn : R64 n) (hd' : R64 d) : FnOK Tryd.prog G 43 [di n, di d] (fe (red n d)) := by
  refine FnOK.walk (orc := orc) (keep := []) follows Tryd.func43 rfl Tryd.call43 ?_
  refine of_eqH (b :=
    ((((decide (d < (0 : Int))) = true) →
    (((R64 n) ∧
    (R64 d)) ∧
    (FnOK Tryd.prog G ((50 : Nat)) [(.con (.int .i64 (-n))), (.con (.int .i64 (-d)))] (.con (.int .i64 ((↑(Int.gcd (-n) (-d)) : Int)))) ∧
    ((((↑(Int.gcd (-n) (-d)) : Int) ≠ (0 : Int)) ∧
    ((R64 (-n)) ∧
    (((↑(Int.gcd (-n) (-d)) : Int) ≠ (0 : Int)) ∧
    (R64 (-d))))) ∧
    ((((decide (Int.tdiv (-n) (↑(Int.gcd (-n) (-d)) : Int) < (-1000000000 : Int)) || decide (Int.tdiv (-n) (↑(Int.gcd (-n) (-d)) : Int) > (1000000000 : Int)) || decide (Int.tdiv (-d) (↑(Int.gcd (-n) (-d)) : Int) > (1000000 : Int))) = true) →
    (((.tup [(.agg [(.con (.int .i64 ((0 : Int)))), (.con (.int .i64 ((0 : Int))))]), (.con (.int .i64 ((2 : Int))))]) : DV) = (fe (red n d)))) ∧
    (((decide (Int.tdiv (-n) (↑(Int.gcd (-n) (-d)) : Int) < (-1000000000 : Int)) || decide (Int.tdiv (-n) (↑(Int.gcd (-n) (-d)) : Int) > (1000000000 : Int)) || decide (Int.tdiv (-d) (↑(Int.gcd (-n) (-d)) : Int) > (1000000 : Int))) = false) →
    (((.tup [(.agg [(.con (.int .i64 (Int.tdiv (-n) (↑(Int.gcd (-n) (-d)) : Int)))), (.con (.int .i64 (Int.tdiv (-d) (↑(Int.gcd (-n) (-d)) : Int))))]), (.con (.int .i64 ((0 : Int))))]) : DV) = (fe (red n d))))))))) ∧
    (((decide (d < (0 : Int))) = false) →
    (FnOK Tryd.prog G ((50 : Nat)) [(.con (.int .i64 n)), (.con (.int .i64 d))] (.con (.int .i64 ((↑(Int.gcd n d) : Int)))) ∧
    ((((↑(Int.gcd n d) : Int) ≠ (0 : Int)) ∧
    ((R64 n) ∧
    (((↑(Int.gcd n d) : Int) ≠ (0 : Int)) ∧
    (R64 d)))) ∧
    ((((decide (Int.tdiv n (↑(Int.gcd n d) : Int) < (-1000000000 : Int)) || decide (Int.tdiv n (↑(Int.gcd n d) : Int) > (1000000000 : Int)) || decide (Int.tdiv d (↑(Int.gcd n d) : Int) > (1000000 : Int))) = true) →
    (((.tup [(.agg [(.con (.int .i64 ((0 : Int)))), (.con (.int .i64 ((0 : Int))))]), (.con (.int .i64 ((2 : Int))))]) : DV) = (fe (red n d)))) ∧
    (((decide (Int.tdiv n (↑(Int.gcd n d) : Int) < (-1000000000 : Int)) || decide (Int.tdiv n (↑(Int.gcd n d) : Int) > (1000000000 : Int)) || decide (Int.tdiv d (↑(Int.gcd n d) : Int) > (1000000 : Int))) = false) →
    (((.tup [(.agg [(.con (.int .i64 (Int.tdiv n (↑(Int.gcd n d) : Int)))), (.con (.int .i64 (Int.tdiv d (↑(Int.gcd n d) : Int))))]), (.con (.int .i64 ((0 : Int))))]) : DV) = (fe (red n d)))))))))) (by kernel_rfl) ?_
  obtain ⟨n0, n1⟩ := hn
  obtain ⟨d0, d1⟩ := hd'
  have aux : ∀ n d : Int, 0 < d → -9223372036854775808 < n → n ≤ 9223372036854775807 → R64 n → R64 d → FnOK Tryd.prog G 50 [di n, di d] (di (Int.gcd n d)) ∧ ((Int.gcd n d : Int) ≠ 0) := by
    intro n d hd h0 h1 hn hd'
    exact ⟨f50 n d (by omega) (by omega) (by omega), by have := gcd_pos (n := n) (d := d) (by omega); omega⟩
  refine ⟨fun h => ?_, fun h => ?_⟩
  · have hneg : d < 0 := by simpa using h
    obtain ⟨h1, h2⟩ := aux (-n) (-d) (by omega) (by omega) (by omega) ⟨by omega, by omega⟩ ⟨by omega, by omega⟩
    refine ⟨⟨⟨n0, n1⟩, d0, d1⟩, h1, ⟨h2, ⟨by omega, by omega⟩, h2, by omega, by omega⟩, fun h => ?_, fun h => ?_⟩
    · simp only [red, if_pos hneg, red1]
      rw [if_neg (by rw [ok_red _ _ (by omega)]; simp at h ⊢; omega)]; rfl
    · simp only [red, if_pos hneg, red1]
      rw [if_pos (by rw [ok_red _ _ (by omega)]; simp at h ⊢; omega)]; rfl
  · have hpos : ¬ d < 0 := by simpa using h
    obtain ⟨h1, h2⟩ := aux n d (by omega) (by omega) (by omega) ⟨by omega, by omega⟩ ⟨by omega, by omega⟩
    refine ⟨h1, ⟨h2, ⟨by omega, by omega⟩, h2, by omega, by omega⟩, fun h => ?_, fun h => ?_⟩
    · simp only [red, if_neg hpos, red1]
      rw [if_neg (by rw [ok_red _ _ (by omega)]; simp at h ⊢; omega)]; rfl
    · simp only [red, if_neg hpos, red1]
      rw [if_pos (by rw [ok_red _ _ (by omega)]; simp at h ⊢; omega)]; rfl
theorem big_R64 {n : Int} (h : big n = true) : R64 n := by simp [big] at h; exact ⟨by omega, by omega⟩
theorem f11 (n d : Int) : FnOK Tryd.prog G 11 [di n, di d] (fe (mk n d)) := by
  refine FnOK.walk (orc := orc) (keep := []) follows Tryd.func11 rfl Tryd.call11 ?_
  refine of_eqH (b :=
    ((((d == (0 : Int)) = true) →
    (((.tup [(.agg [(.con (.int .i64 ((0 : Int)))), (.con (.int .i64 ((0 : Int))))]), (.con (.int .i64 ((1 : Int))))]) : DV) = (fe (mk n d)))) ∧
    (((d == (0 : Int)) = false) →
    ((FnOK Tryd.prog G ((41 : Nat)) [(.con (.int .i64 n))] (.con (.bool (big n))) ∧
    (((!!big n) = true) →
    FnOK Tryd.prog G ((41 : Nat)) [(.con (.int .i64 d))] (.con (.bool (big d))))) ∧
    ((((!big n || !big d) = true) →
    (((.tup [(.agg [(.con (.int .i64 ((0 : Int)))), (.con (.int .i64 ((0 : Int))))]), (.con (.int .i64 ((2 : Int))))]) : DV) = (fe (mk n d)))) ∧
    (((!big n || !big d) = false) →
    (FnOK Tryd.prog G ((42 : Nat)) [(.con (.int .i64 n)), (.con (.int .i64 d))] (.tup [(.agg [(.con (.int .i64 (Prod.fst (red n d)))), (.con (.int .i64 (Prod.fst (Prod.snd (red n d)))))]), (.con (.int .i64 (Prod.snd (Prod.snd (red n d)))))]) ∧
    (((.tup [(.agg [(.con (.int .i64 (Prod.fst (red n d)))), (.con (.int .i64 (Prod.fst (Prod.snd (red n d)))))]), (.con (.int .i64 (Prod.snd (Prod.snd (red n d)))))]) : DV) = (fe (mk n d)))))))))) (by kernel_rfl) ?_
  refine ⟨fun h => ?_, fun h => ?_⟩
  · have : d = 0 := by simpa using h
    simp only [mk, if_pos this]; rfl
  · have hd : d ≠ 0 := by simpa using h
    refine ⟨⟨f41 n, fun _ => f41 d⟩, fun h => ?_, fun h => ⟨f42 n d hd (big_R64 (by revert h; simp; exact fun h _ => h)) (big_R64 (by revert h; simp)), ?_⟩⟩
    · simp only [mk, if_neg hd]; rw [if_neg (by intro hh; simp [hh.1, hh.2] at h)]; rfl
    · simp only [mk, if_neg hd]; rw [if_pos (by simpa using h)]; rfl
theorem f12 (n d : Int) : FnOK Tryd.prog G 12 [di n, di d] (fe (mk n d)) := by
  refine FnOK.walk (orc := orc) (keep := []) follows Tryd.func12 rfl Tryd.call12 ?_
  refine of_eqH (b :=
    ((((d == (0 : Int)) = true) →
    (((.tup [(.agg [(.con (.int .i64 ((0 : Int)))), (.con (.int .i64 ((0 : Int))))]), (.con (.int .i64 ((1 : Int))))]) : DV) = (fe (mk n d)))) ∧
    (((d == (0 : Int)) = false) →
    ((((decide (n < (-1000000000000000 : Int)) || decide (n > (1000000000000000 : Int)) || decide (d < (-1000000000000000 : Int)) || decide (d > (1000000000000000 : Int))) = true) →
    (((.tup [(.agg [(.con (.int .i64 ((0 : Int)))), (.con (.int .i64 ((0 : Int))))]), (.con (.int .i64 ((2 : Int))))]) : DV) = (fe (mk n d)))) ∧
    (((decide (n < (-1000000000000000 : Int)) || decide (n > (1000000000000000 : Int)) || decide (d < (-1000000000000000 : Int)) || decide (d > (1000000000000000 : Int))) = false) →
    (FnOK Tryd.prog G ((43 : Nat)) [(.con (.int .i64 n)), (.con (.int .i64 d))] (.tup [(.agg [(.con (.int .i64 (Prod.fst (red n d)))), (.con (.int .i64 (Prod.fst (Prod.snd (red n d)))))]), (.con (.int .i64 (Prod.snd (Prod.snd (red n d)))))]) ∧
    (((.tup [(.agg [(.con (.int .i64 (Prod.fst (red n d)))), (.con (.int .i64 (Prod.fst (Prod.snd (red n d)))))]), (.con (.int .i64 (Prod.snd (Prod.snd (red n d)))))]) : DV) = (fe (mk n d))))))))) (by kernel_rfl) ?_
  refine ⟨fun h => ?_, fun h => ?_⟩
  · have : d = 0 := by simpa using h
    simp only [mk, if_pos this]; rfl
  · have hd : d ≠ 0 := by simpa using h
    refine ⟨fun h => ?_, fun h => ⟨f43 n d hd (by simp at h; exact ⟨by omega, by omega⟩) (by simp at h; exact ⟨by omega, by omega⟩), ?_⟩⟩
    · simp only [mk, if_neg hd]; rw [if_neg (by intro hh; simp [big] at h hh; omega)]; rfl
    · simp only [mk, if_neg hd]; rw [if_pos (by simp [big] at h ⊢; omega)]; rfl
theorem f56 (a b : Int) (hn : R64 a) (hb : 0 < b) : FnOK Tryd.prog G 56 [di a, di b] (di (a / b)) := by
  refine FnOK.walk (orc := orc) (keep := []) follows Tryd.func56 rfl Tryd.call56 ?_
  refine of_eqH (b :=
    (((b ≠ (0 : Int)) ∧
    (R64 a)) ∧
    ((b ≠ (0 : Int)) ∧
    ((((decide (Int.tmod a b < (0 : Int))) = true) →
    ((I64 (Int.tdiv a b - (1 : Int))) ∧
    (((.con (.int .i64 (Int.tdiv a b - (1 : Int)))) : DV) = (di (a / b))))) ∧
    (((decide (Int.tmod a b < (0 : Int))) = false) →
    (((.con (.int .i64 (Int.tdiv a b))) : DV) = (di (a / b)))))))) (by kernel_rfl) ?_
  obtain ⟨n0, n1⟩ := hn
  refine ⟨⟨by omega, n0, n1⟩, by omega, fun h => ?_, fun h => ?_⟩
  · have h : a.tmod b < 0 := by simpa using h
    have hq := floor_neg hb h
    exact ⟨by rw [hq]; exact ediv_I64 hb ⟨n0, n1⟩, congrArg di hq⟩
  · have h : ¬ a.tmod b < 0 := by simpa using h
    exact congrArg di (floor_pos hb h)
theorem f60 (a b : Int) (hn : R64 a) (hb : 0 < b) : FnOK Tryd.prog G 60 [di a, di b] (di (a / b)) := by
  refine FnOK.walk (orc := orc) (keep := []) follows Tryd.func60 rfl Tryd.call60 ?_
  refine of_eqH (b :=
    (((b ≠ (0 : Int)) ∧
    (R64 a)) ∧
    ((b ≠ (0 : Int)) ∧
    ((((decide (Int.tmod a b < (0 : Int))) = true) →
    ((I64 (Int.tdiv a b - (1 : Int))) ∧
    (((.con (.int .i64 (Int.tdiv a b - (1 : Int)))) : DV) = (di (a / b))))) ∧
    (((decide (Int.tmod a b < (0 : Int))) = false) →
    (((.con (.int .i64 (Int.tdiv a b))) : DV) = (di (a / b)))))))) (by kernel_rfl) ?_
  obtain ⟨n0, n1⟩ := hn
  refine ⟨⟨by omega, n0, n1⟩, by omega, fun h => ?_, fun h => ?_⟩
  · have h : a.tmod b < 0 := by simpa using h
    have hq := floor_neg hb h
    exact ⟨by rw [hq]; exact ediv_I64 hb ⟨n0, n1⟩, congrArg di hq⟩
  · have h : ¬ a.tmod b < 0 := by simpa using h
    exact congrArg di (floor_pos hb h)
theorem f25 (n d : Int) : FnOK Tryd.prog G 25 [fr n d] (.tup [di (if ok n d then hun n d else 0), db (ok n d)]) := by
  refine FnOK.walk (orc := orc) (keep := []) follows Tryd.func25 rfl Tryd.call25 ?_
  refine of_eqH (b :=
    (FnOK Tryd.prog G ((15 : Nat)) [(.agg [(.con (.int .i64 n)), (.con (.int .i64 d))])] (.con (.bool (ok n d))) ∧
    ((((!ok n d) = true) →
    (((.tup [(.con (.int .i64 ((0 : Int)))), (.con (.bool false))]) : DV) = (.tup [(di (if ok n d = true then hun n d else (0 : Int))), (db (ok n d))]))) ∧
    (((!ok n d) = false) →
    (((I64 ((200 : Int) * n)) ∧
    ((I64 ((200 : Int) * n + d)) ∧
    ((I64 ((2 : Int) * d)) ∧
    FnOK Tryd.prog G ((56 : Nat)) [(.con (.int .i64 ((200 : Int) * n + d))), (.con (.int .i64 ((2 : Int) * d)))] (.con (.int .i64 (((200 : Int) * n + d) / ((2 : Int) * d))))))) ∧
    (((.tup [(.con (.int .i64 (((200 : Int) * n + d) / ((2 : Int) * d)))), (.con (.bool true))]) : DV) = (.tup [(di (if ok n d = true then hun n d else (0 : Int))), (db (ok n d))]))))))) (by kernel_rfl) ?_
  refine ⟨f15 n d, fun h => ?_, fun h => ?_⟩
  · have h : ok n d = false := by simpa using h
    simp only [h]; rfl
  · have h : ok n d = true := by simpa using h
    have hb := ok_spec h
    refine ⟨⟨⟨by omega, by omega⟩, ⟨by omega, by omega⟩, ⟨by omega, by omega⟩, f56 _ _ ⟨by omega, by omega⟩ (by omega)⟩, ?_⟩
    simp only [h]; rfl
theorem f26 (n d : Int) : FnOK Tryd.prog G 26 [fr n d] (.tup [di (if ok n d then n / d else 0), db (ok n d)]) := by
  refine FnOK.walk (orc := orc) (keep := []) follows Tryd.func26 rfl Tryd.call26 ?_
  refine of_eqH (b :=
    (FnOK Tryd.prog G ((15 : Nat)) [(.agg [(.con (.int .i64 n)), (.con (.int .i64 d))])] (.con (.bool (ok n d))) ∧
    ((((!ok n d) = true) →
    (((.tup [(.con (.int .i64 ((0 : Int)))), (.con (.bool false))]) : DV) = (.tup [(di (if ok n d = true then n / d else (0 : Int))), (db (ok n d))]))) ∧
    (((!ok n d) = false) →
    (FnOK Tryd.prog G ((56 : Nat)) [(.con (.int .i64 n)), (.con (.int .i64 d))] (.con (.int .i64 (n / d))) ∧
    (((.tup [(.con (.int .i64 (n / d))), (.con (.bool true))]) : DV) = (.tup [(di (if ok n d = true then n / d else (0 : Int))), (db (ok n d))]))))))) (by kernel_rfl) ?_
  refine ⟨f15 n d, fun h => ?_, fun h => ?_⟩
  · have h : ok n d = false := by simpa using h
    simp only [h]; rfl
  · have h : ok n d = true := by simpa using h
    have hb := ok_spec h
    refine ⟨f56 _ _ ⟨by omega, by omega⟩ (by omega), ?_⟩
    simp only [h]; rfl
theorem f35 (n d : Int) : FnOK Tryd.prog G 35 [fr n d] (.tup [di (if ok n d then hun n d else 0), db (ok n d)]) := by
  refine FnOK.walk (orc := orc) (keep := []) follows Tryd.func35 rfl Tryd.call35 ?_
  refine of_eqH (b :=
    (FnOK Tryd.prog G ((16 : Nat)) [(.agg [(.con (.int .i64 n)), (.con (.int .i64 d))])] (.con (.bool (ok n d))) ∧
    ((((!ok n d) = true) →
    (((.tup [(.con (.int .i64 ((0 : Int)))), (.con (.bool false))]) : DV) = (.tup [(di (if ok n d = true then hun n d else (0 : Int))), (db (ok n d))]))) ∧
    (((!ok n d) = false) →
    (((I64 ((200 : Int) * n)) ∧
    ((I64 ((200 : Int) * n + d)) ∧
    ((I64 ((2 : Int) * d)) ∧
    FnOK Tryd.prog G ((60 : Nat)) [(.con (.int .i64 ((200 : Int) * n + d))), (.con (.int .i64 ((2 : Int) * d)))] (.con (.int .i64 (((200 : Int) * n + d) / ((2 : Int) * d))))))) ∧
    (((.tup [(.con (.int .i64 (((200 : Int) * n + d) / ((2 : Int) * d)))), (.con (.bool true))]) : DV) = (.tup [(di (if ok n d = true then hun n d else (0 : Int))), (db (ok n d))]))))))) (by kernel_rfl) ?_
  refine ⟨f16 n d, fun h => ?_, fun h => ?_⟩
  · have h : ok n d = false := by simpa using h
    simp only [h]; rfl
  · have h : ok n d = true := by simpa using h
    have hb := ok_spec h
    refine ⟨⟨⟨by omega, by omega⟩, ⟨by omega, by omega⟩, ⟨by omega, by omega⟩, f60 _ _ ⟨by omega, by omega⟩ (by omega)⟩, ?_⟩
    simp only [h]; rfl
theorem f36 (n d : Int) : FnOK Tryd.prog G 36 [fr n d] (.tup [di (if ok n d then n / d else 0), db (ok n d)]) := by
  refine FnOK.walk (orc := orc) (keep := []) follows Tryd.func36 rfl Tryd.call36 ?_
  refine of_eqH (b :=
    (FnOK Tryd.prog G ((16 : Nat)) [(.agg [(.con (.int .i64 n)), (.con (.int .i64 d))])] (.con (.bool (ok n d))) ∧
    ((((!ok n d) = true) →
    (((.tup [(.con (.int .i64 ((0 : Int)))), (.con (.bool false))]) : DV) = (.tup [(di (if ok n d = true then n / d else (0 : Int))), (db (ok n d))]))) ∧
    (((!ok n d) = false) →
    (FnOK Tryd.prog G ((60 : Nat)) [(.con (.int .i64 n)), (.con (.int .i64 d))] (.con (.int .i64 (n / d))) ∧
    (((.tup [(.con (.int .i64 (n / d))), (.con (.bool true))]) : DV) = (.tup [(di (if ok n d = true then n / d else (0 : Int))), (db (ok n d))]))))))) (by kernel_rfl) ?_
  refine ⟨f16 n d, fun h => ?_, fun h => ?_⟩
  · have h : ok n d = false := by simpa using h
    simp only [h]; rfl
  · have h : ok n d = true := by simpa using h
    have hb := ok_spec h
    refine ⟨f60 _ _ ⟨by omega, by omega⟩ (by omega), ?_⟩
    simp only [h]; rfl
end Go.Proofs
