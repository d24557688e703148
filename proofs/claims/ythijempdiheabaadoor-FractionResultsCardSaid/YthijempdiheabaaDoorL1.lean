import Derived.Test.YthijempdiheabaaDoorFb
import Derived.Test.YthijempdiheabaaDoorF4
set_option autoImplicit false
namespace Go.Proofs
open Go Go.Ab
set_option maxHeartbeats 1000000
set_option maxRecDepth 100000
/-- The last k digits of a number. -/
def pad : Nat → Nat → List UInt8
  | 0, _ => []
  | k + 1, r => pad k (r / 10) ++ [UInt8.ofNat (48 + r % 10)]
theorem pad_front : ∀ (k r : Nat), pad (k + 1) r = UInt8.ofNat (48 + r / 10 ^ k % 10) :: pad k (r % 10 ^ k)
  | 0, r => by simp [pad]
  | k + 1, r => by
    have ih := pad_front k (r / 10)
    rw [pad, ih]
    simp only [pad, List.cons_append]
    rw [Nat.div_div_eq_div_mul, show 10 * 10 ^ k = 10 ^ (k + 1) by rw [Nat.pow_succ, Nat.mul_comm]]
    have h1 : r % 10 ^ (k + 1) / 10 = r / 10 % 10 ^ k := by
      rw [Nat.pow_succ, Nat.mul_comm, Nat.mod_mul_right_div_self]
    have h2 : r % 10 ^ (k + 1) % 10 = r % 10 := Nat.mod_mod_of_dvd _ ⟨10 ^ k, by rw [Nat.pow_succ, Nat.mul_comm]⟩
    rw [h1, h2]
theorem dec_pow : ∀ (k r : Nat), r < 10 ^ k → Lib.decDigits (10 ^ k + r) = 49 :: pad k r
  | 0, r, h => by
    have : r = 0 := by simpa using h
    subst this
    rw [dec_small (by decide)]; rfl
  | k + 1, r, h => by
    have hp : 0 < 10 ^ k := Nat.pow_pos (by omega)
    have e : 10 ^ (k + 1) = 10 * 10 ^ k := by rw [Nat.pow_succ, Nat.mul_comm]
    rw [dec_big (by omega), show (10 ^ (k + 1) + r) / 10 = 10 ^ k + r / 10 by omega, dec_pow k (r / 10) (by omega), show (10 ^ (k + 1) + r) % 10 = r % 10 by omega]
    rfl
theorem tail_pad (d : Nat) (hd : 0 < d) : ∀ (m fuel r : Nat), m ≤ fuel → r < d → d ∣ r * 10 ^ m → (∀ i, i < m → ¬ d ∣ r * 10 ^ i) → tailB d fuel r = pad m (r * 10 ^ m / d)
  | 0, fuel, r, _, hr, h, _ => by
    have : r = 0 := Nat.eq_zero_of_dvd_of_lt (by simpa using h) hr
    subst this
    cases fuel <;> simp [tailB, pad]
  | m + 1, 0, r, hf, _, _, _ => by omega
  | m + 1, fuel + 1, r, hf, hr, h, hmin => by
    have hr0 : r ≠ 0 := by
      rintro rfl
      exact hmin 0 (by omega) (by simp)
    have hp : 0 < 10 ^ m := Nat.pow_pos (by omega)
    have hq : 10 * r / d < 10 := by rw [Nat.div_lt_iff_lt_mul hd]; omega
    have hmod : 10 * r % d < d := Nat.mod_lt _ hd
    have hsplit := Nat.div_add_mod (10 * r) d
    have hdv : ∀ i, d ∣ (10 * r % d) * 10 ^ i ↔ d ∣ r * 10 ^ (i + 1) := by
      intro i
      have e : r * 10 ^ (i + 1) = d * (10 * r / d * 10 ^ i) + (10 * r % d) * 10 ^ i := by
        rw [← Nat.mul_assoc, ← Nat.add_mul, hsplit, Nat.pow_succ, Nat.mul_comm (10 ^ i) 10, ← Nat.mul_assoc, Nat.mul_comm r 10]
      rw [e]
      exact (Nat.dvd_add_right (Nat.dvd_mul_right ..)).symm
    have hdm := (hdv m).2 h
    obtain ⟨c, hc⟩ := hdm
    have hcl : c < 10 ^ m := by
      have : d * c < d * 10 ^ m := by rw [← hc]; exact Nat.mul_lt_mul_of_pos_right hmod hp
      exact Nat.lt_of_mul_lt_mul_left this
    have hx : r * 10 ^ (m + 1) / d = 10 * r / d * 10 ^ m + c := by
      have e : r * 10 ^ (m + 1) = d * (10 * r / d * 10 ^ m + c) := by
        rw [Nat.mul_add, ← hc, ← Nat.mul_assoc, ← Nat.add_mul, hsplit, Nat.pow_succ, Nat.mul_comm (10 ^ m) 10, ← Nat.mul_assoc, Nat.mul_comm r 10]
      rw [e, Nat.mul_div_cancel_left _ hd]
    have hcd : (10 * r % d) * 10 ^ m / d = c := by rw [hc, Nat.mul_div_cancel_left _ hd]
    rw [tailB, if_neg hr0, tail_pad d hd m fuel _ (by omega) hmod ⟨c, hc⟩ (fun i hi => by rw [hdv]; exact hmin (i + 1) (by omega)), hcd, dec_small hq, pad_front, hx]
    have e1 : (10 * r / d * 10 ^ m + c) / 10 ^ m = 10 * r / d := by
      rw [Nat.mul_comm, Nat.mul_add_div hp, Nat.div_eq_of_lt hcl, Nat.add_zero]
    have e2 : (10 * r / d * 10 ^ m + c) % 10 ^ m = c := by
      rw [Nat.mul_comm, Nat.mul_add_mod, Nat.mod_eq_of_lt hcl]
    rw [e1, e2, Nat.mod_eq_of_lt hq]; rfl
theorem decA_hit (n : Int) (d k : Nat) (hk : d ∣ 10 ^ k) (hmin : ∀ i, i < k → ¬ d ∣ 10 ^ i) : ∀ (m f i : Nat), i + m = k → m < f →
    decA n d f ((10 ^ i : Nat) : Int) = if k = 0 then (Lib.itoa n, true) else (pt (n * ((10 ^ k / d : Nat) : Int)) ((10 ^ k : Nat) : Int), true)
  | _, 0, _, _, h => by omega
  | m, f + 1, i, hi, hf => by
    rw [decA]
    by_cases hm : m = 0
    · subst hm
      have : i = k := by omega
      subst this
      rw [if_pos (by rw [← Int.ofNat_tmod, Nat.mod_eq_zero_of_dvd hk]; rfl)]
      by_cases h0 : i = 0
      · subst h0; simp
      · have h1 : (10 : Nat) ^ i ≠ 1 := by
          have : 10 ^ 1 ≤ 10 ^ i := Nat.pow_le_pow_right (by omega) (by omega)
          omega
        rw [if_neg (by omega), if_neg h0, ← Int.ofNat_tdiv]
    · rw [if_neg (by
        rw [← Int.ofNat_tmod]
        intro h
        exact hmin i (by omega) (Nat.dvd_of_mod_eq_zero (by omega)))]
      have := decA_hit n d k hk hmin (m - 1) f (i + 1) (by omega) (by omega)
      rw [← this]
      congr 1
      rw [Nat.pow_succ]; omega
theorem decA_miss (n : Int) (d : Nat) : ∀ (f i : Nat), (∀ j, j < i + f → ¬ d ∣ 10 ^ j) → decA n d f ((10 ^ i : Nat) : Int) = ([], false)
  | 0, _, _ => rfl
  | f + 1, i, h => by
    rw [decA, if_neg (by
        rw [← Int.ofNat_tmod]
        intro h'
        exact h i (by omega) (Nat.dvd_of_mod_eq_zero (by omega)))]
    have := decA_miss n d f (i + 1) (fun j hj => h j (by omega))
    rw [← this]
    congr 1
    rw [Nat.pow_succ]; omega
theorem least {p : Nat → Prop} : ∀ (m : Nat), p m → ∃ k, k ≤ m ∧ p k ∧ ∀ i, i < k → ¬ p i
  | 0, h => ⟨0, by omega, h, fun i hi => by omega⟩
  | m + 1, h => by
    classical
    by_cases h' : ∃ i, i < m + 1 ∧ p i
    · obtain ⟨i, hi, hp⟩ := h'
      obtain ⟨k, hk, h1, h2⟩ := least i hp
      exact ⟨k, by omega, h1, h2⟩
    · exact ⟨m + 1, by omega, h, fun i hi hp => h' ⟨i, hi, hp⟩⟩
termination_by m => m
theorem decF_eq (n d : Int) : decF n d = decB n d := by
  unfold decF decB
  cases hok : ok n d with
  | false => simp
  | true =>
    obtain ⟨d1, d2, -, -, hg⟩ := ok_spec hok
    obtain ⟨e, rfl⟩ := Int.eq_ofNat_of_zero_le (show 0 ≤ d by omega)
    simp only [Int.toNat_natCast]
    have he : 0 < e := by omega
    have hgn : Nat.gcd n.natAbs e = 1 := by simpa [Int.gcd] using hg
    have hmod : ((1000000 : Int).tmod e = 0) ↔ e ∣ 10 ^ 6 := by
      rw [show (1000000 : Int) = ((10 ^ 6 : Nat) : Int) by rfl, ← Int.ofNat_tmod]
      exact ⟨fun h => Nat.dvd_of_mod_eq_zero (by omega), fun h => by rw [Nat.mod_eq_zero_of_dvd h]; rfl⟩
    by_cases hdv : e ∣ 10 ^ 6
    · rw [if_pos trivial, if_pos ⟨trivial, hmod.2 hdv⟩]
      obtain ⟨k, hk6, hk, hmin⟩ := least (p := fun k => e ∣ 10 ^ k) 6 hdv
      have := decA_hit n e k hk hmin k 7 0 (by omega) (by omega)
      rw [show (((10 ^ 0 : Nat) : Int)) = 1 by rfl] at this
      rw [this]
      by_cases h0 : k = 0
      · subst h0
        have : e = 1 := by simpa using hk
        subst this
        rw [if_pos rfl, itoa_sg, Nat.mod_one, if_pos rfl]; simp
      · rw [if_neg h0]
        obtain ⟨q, hq⟩ := hk
        have hq0 : 0 < q := by
          rcases Nat.eq_zero_or_pos q with rfl | h
          · have : 0 < 10 ^ k := Nat.pow_pos (by omega)
            omega
          · exact h
        have hqe : 10 ^ k / e = q := by rw [hq, Nat.mul_div_cancel_left _ he]
        have hrd : n.natAbs % e < e := Nat.mod_lt _ he
        have hcop : Nat.gcd e (n.natAbs % e) = 1 := by rw [Nat.gcd_comm, ← Nat.gcd_rec, Nat.gcd_comm]; exact hgn
        have hr0 : n.natAbs % e ≠ 0 := by
          intro h
          rw [h, Nat.gcd_zero_right] at hcop
          subst hcop
          exact hmin 0 (by omega) (by simp)
        rw [if_neg hr0, hqe]
        have ha : (n * (q : Int)).natAbs = n.natAbs * q := by rw [Int.natAbs_mul]; rfl
        have hs : sg (n * (q : Int)) = sg n := by
          unfold sg
          by_cases hn : n < 0
          · rw [if_pos hn, if_pos (Int.mul_neg_of_neg_of_pos hn (by omega))]
          · rw [if_neg hn, if_neg (by have := Int.mul_nonneg (show 0 ≤ n by omega) (show (0 : Int) ≤ q by omega); omega)]
        have hdiv : n.natAbs * q / 10 ^ k = n.natAbs / e := by rw [hq, Nat.mul_div_mul_right _ _ hq0]
        have hmd : n.natAbs * q % 10 ^ k = n.natAbs % e * q := by rw [hq, Nat.mul_mod_mul_right]
        have hlt : n.natAbs % e * q < 10 ^ k := by rw [hq]; exact Nat.mul_lt_mul_of_pos_right hrd hq0
        have ht := tail_pad e he k 7 (n.natAbs % e) (by omega) hrd (by rw [hq]; exact ⟨n.natAbs % e * q, by simp only [Nat.mul_left_comm]⟩) (fun i hi h => hmin i hi (Nat.Coprime.dvd_of_dvd_mul_left hcop h))
        rw [ht]
        have hx : n.natAbs % e * 10 ^ k / e = n.natAbs % e * q := by
          rw [hq, Nat.mul_left_comm, Nat.mul_div_cancel_left _ he]
        rw [hx]
        unfold pt
        rw [hs, ha, ← Int.ofNat_tdiv, ← Int.ofNat_tmod, hdiv, hmd]
        rw [Lib.itoa_nonneg, show (((10 ^ k : Nat) : Int) + ((n.natAbs % e * q : Nat) : Int)) = ((10 ^ k + n.natAbs % e * q : Nat) : Int) by omega, Lib.itoa_nonneg, dec_pow k _ hlt]
        rfl
    · rw [if_pos trivial, if_neg (fun h => hdv (hmod.1 h.2))]
      have := decA_miss n e 7 0 (fun j hj h => hdv (Nat.dvd_trans h (Nat.pow_dvd_pow 10 (by omega))))
      exact this
theorem pts_digits (r : Nat) (h : r < 100) : (Lib.itoa (100 + (r : Int))).drop 1 = Lib.decDigits (r / 10) ++ Lib.decDigits (r % 10) := by
  rw [show (100 + (r : Int)) = ((10 ^ 2 + r : Nat) : Int) by omega, Lib.itoa_nonneg, dec_pow 2 r (by omega), dec_small (show r / 10 < 10 by omega), dec_small (show r % 10 < 10 by omega)]
  simp [pad, show r / 10 % 10 = r / 10 by omega]
end Go.Proofs
