import Derived.Test.YtpognhmelecaoaaGreatDoorFA
import Derived.Test.YtpognhmelecaoaaGreatDoorAcD
set_option autoImplicit false
namespace Go.Proofs
open Go Go.Ab
set_option maxHeartbeats 1000000
set_option maxRecDepth 100000
def pad : Nat → Nat → List UInt8
  | 0, _ => []
  | k + 1, r => pad k (r / 10) ++ [UInt8.ofNat (48 + r % 10)]
theorem pad_front : ∀ (k r : Nat), pad (k + 1) r = UInt8.ofNat (48 + r / 10 ^ k % 10) :: pad k (r % 10 ^ k)
  | 0, r => by simp [pad]
  | k + 1, r => by
    have ih := pad_front k (r / 10)
    rw [pad, ih]
    simp only [pad, List.cons_append]
    rw [Nat.div_div_eq_div_mul, show 10 * 10 ^ k = 10 ^ (k + 1) by rw [Nat.pow_succ, Nat.mul_comm]]
    have h1 : r % 10 ^ (k + 1) / 10 = r / 10 % 10 ^ k := by
      rw [Nat.pow_succ, Nat.mul_comm, Nat.mod_mul_right_div_self]
    have h2 : r % 10 ^ (k + 1) % 10 = r % 10 := Nat.mod_mod_of_dvd _ ⟨10 ^ k, by rw [Nat.pow_succ, Nat.mul_comm]⟩
    rw [h1, h2]
theorem dec_pow : ∀ (k r : Nat), r < 10 ^ k → Lib.decDigits (10 ^ k + r) = 49 :: pad k r
  | 0, r, h => by
    have : r = 0 := by simpa using h
    subst this
    rw [dec_small (by decide)]; rfl
  | k + 1, r, h => by
    have hp : 0 < 10 ^ k := Nat.pow_pos (by omega)
    have e : 10 ^ (k + 1) = 10 * 10 ^ k := by rw [Nat.pow_succ, Nat.mul_comm]
    rw [dec_big (by omega), show (10 ^ (k + 1) + r) / 10 = 10 ^ k + r / 10 by omega, dec_pow k (r / 10) (by omega), show (10 ^ (k + 1) + r) % 10 = r % 10 by omega]
    rfl
theorem tail_pad (d : Nat) (hd : 0 < d) : ∀ (m fuel r : Nat), m ≤ fuel → r < d → d ∣ r * 10 ^ m → (∀ i, i < m → ¬ d ∣ r * 10 ^ i) → tailB d fuel r = pad m (r * 10 ^ m / d)
  | 0, fuel, r, _, hr, h, _ => by
    have : r = 0 := Nat.eq_zero_of_dvd_of_lt (by simpa using h) hr
    subst this
    cases fuel <;> simp [tailB, pad]
  | m + 1, 0, r, hf, _, _, _ => by omega
  | m + 1, fuel + 1, r, hf, hr, h, hmin => by
    have hr0 : r ≠ 0 := by
      rintro rfl
      exact hmin 0 (by omega) (by simp)
    have hp : 0 < 10 ^ m := Nat.pow_pos (by omega)
    have hq : 10 * r / d < 10 := by rw [Nat.div_lt_iff_lt_mul hd]; omega
    have hmod : 10 * r % d < d := Nat.mod_lt _ hd
    have hsplit := Nat.div_add_mod (10 * r) d
    have hdv : ∀ i, d ∣ (10 * r % d) * 10 ^ i ↔ d ∣ r * 10 ^ (i + 1) := by
      intro i
      have e : r * 10 ^ (i + 1) = d * (10 * r / d * 10 ^ i) + (10 * r % d) * 10 ^ i := by
        rw [← Nat.mul_assoc, ← Nat.add_mul, hsplit, Nat.pow_succ, Nat.mul_comm (10 ^ i) 10, ← Nat.mul_assoc, Nat.mul_comm r 10]
      rw [e]
      exact (Nat.dvd_add_right (Nat.dvd_mul_right ..)).symm
    have hdm := (hdv m).2 h
    obtain ⟨c, hc⟩ := hdm
    have hcl : c < 10 ^ m := by
      have : d * c < d * 10 ^ m := by rw [← hc]; exact Nat.mul_lt_mul_of_pos_right hmod hp
      exact Nat.lt_of_mul_lt_mul_left this
    have hx : r * 10 ^ (m + 1) / d = 10 * r / d * 10 ^ m + c := by
      have e : r * 10 ^ (m + 1) = d * (10 * r / d * 10 ^ m + c) := by
        rw [Nat.mul_add, ← hc, ← Nat.mul_assoc, ← Nat.add_mul, hsplit, Nat.pow_succ, Nat.mul_comm (10 ^ m) 10, ← Nat.mul_assoc, Nat.mul_comm r 10]
      rw [e, Nat.mul_div_cancel_left _ hd]
    have hcd : (10 * r % d) * 10 ^ m / d = c := by rw [hc, Nat.mul_div_cancel_left _ hd]
    rw [tailB, if_neg hr0, tail_pad d hd m fuel _ (by omega) hmod ⟨c, hc⟩ (fun i hi => by rw [hdv]; exact hmin (i + 1) (by omega)), hcd, dec_small hq, pad_front, hx]
    have e1 : (10 * r / d * 10 ^ m + c) / 10 ^ m = 10 * r / d := by
      rw [Nat.mul_comm, Nat.mul_add_div hp, Nat.div_eq_of_lt hcl, Nat.add_zero]
    have e2 : (10 * r / d * 10 ^ m + c) % 10 ^ m = c := by
      rw [Nat.mul_comm, Nat.mul_add_mod, Nat.mod_eq_of_lt hcl]
    rw [e1, e2, Nat.mod_eq_of_lt hq]; rfl
theorem decA_hit (n : Int) (d k : Nat) (hk : d ∣ 10 ^ k) (hmin : ∀ i, i < k → ¬ d ∣ 10 ^ i) : ∀ (m f i : Nat), i + m = k → m < f →
    decA n d f ((10 ^ i : Nat) : Int) = if k = 0 then (Lib.itoa n, true) else (pt (n * ((10 ^ k / d : Nat) : Int)) ((10 ^ k : Nat) : Int), true)
  | _, 0, _, _, h => by omega
  | m, f + 1, i, hi, hf => by
    rw [decA]
    by_cases hm : m = 0
    · subst hm
      have : i = k := by omega
      subst this
      rw [if_pos (by rw [← Int.ofNat_tmod, Nat.mod_eq_zero_of_dvd hk]; rfl)]
      by_cases h0 : i = 0
      · subst h0; simp
      · have h1 : (10 : Nat) ^ i ≠ 1 := by
          have : 10 ^ 1 ≤ 10 ^ i := Nat.pow_le_pow_right (by omega) (by omega)
          omega
        rw [if_neg (by omega), if_neg h0, ← Int.ofNat_tdiv]
    · rw [if_neg (by
        rw [← Int.ofNat_tmod]
        intro h
        exact hmin i (by omega) (Nat.dvd_of_mod_eq_zero (by omega)))]
      have := decA_hit n d k hk hmin (m - 1) f (i + 1) (by omega) (by omega)
      rw [← this]
      congr 1
      rw [Nat.pow_succ]; omega
theorem decA_miss (n : Int) (d : Nat) : ∀ (f i : Nat), (∀ j, j < i + f → ¬ d ∣ 10 ^ j) → decA n d f ((10 ^ i : Nat) : Int) = ([], false)
  | 0, _, _ => rfl
  | f + 1, i, h => by
    rw [decA, if_neg (by
        rw [← Int.ofNat_tmod]
        intro h'
        exact h i (by omega) (Nat.dvd_of_mod_eq_zero (by omega)))]
    have := decA_miss n d f (i + 1) (fun j hj => h j (by omega))
    rw [← this]
    congr 1
    rw [Nat.pow_succ]; omega
theorem least {p : Nat → Prop} : ∀ (m : Nat), p m → ∃ k, k ≤ m ∧ p k ∧ ∀ i, i < k → ¬ p i
  | 0, h => ⟨0, by omega, h, fun i hi => by omega⟩
  | m + 1, h => by
    classical
    by_cases h' : ∃ i, i < m + 1 ∧ p i
    · obtain ⟨i, hi, hp⟩ := h'
      obtain ⟨k, hk, h1, h2⟩ := least i hp
      exact ⟨k, by omega, h1, h2⟩
    · exact ⟨m + 1, by omega, h, fun i hi hp => h' ⟨i, hi, hp⟩⟩
termination_by m => m
theorem decF_eq (n d : Int) : decF n d = decB n d := by
  unfold decF decB
  cases hok : ok n d with
  | false => simp
  | true =>
    obtain ⟨d1, d2, -, -, hg⟩ := ok_spec hok
    obtain ⟨e, rfl⟩ := Int.eq_ofNat_of_zero_le (show 0 ≤ d by omega)
    simp only [Int.toNat_natCast]
    have he : 0 < e := by omega
    have hgn : Nat.gcd n.natAbs e = 1 := by simpa [Int.gcd] using hg
    have hmod : ((1000000 : Int).tmod e = 0) ↔ e ∣ 10 ^ 6 := by
      rw [show (1000000 : Int) = ((10 ^ 6 : Nat) : Int) by rfl, ← Int.ofNat_tmod]
      exact ⟨fun h => Nat.dvd_of_mod_eq_zero (by omega), fun h => by rw [Nat.mod_eq_zero_of_dvd h]; rfl⟩
    by_cases hdv : e ∣ 10 ^ 6
    · rw [if_pos trivial, if_pos ⟨trivial, hmod.2 hdv⟩]
      obtain ⟨k, hk6, hk, hmin⟩ := least (p := fun k => e ∣ 10 ^ k) 6 hdv
      have := decA_hit n e k hk hmin k 7 0 (by omega) (by omega)
      rw [show (((10 ^ 0 : Nat) : Int)) = 1 by rfl] at this
      rw [this]
      by_cases h0 : k = 0
      · subst h0
        have : e = 1 := by simpa using hk
        subst this
        rw [if_pos rfl, itoa_sg, Nat.mod_one, if_pos rfl]; simp
      · rw [if_neg h0]
        obtain ⟨q, hq⟩ := hk
        have hq0 : 0 < q := by
          rcases Nat.eq_zero_or_pos q with rfl | h
          · have : 0 < 10 ^ k := Nat.pow_pos (by omega)
            omega
          · exact h
        have hqe : 10 ^ k / e = q := by rw [hq, Nat.mul_div_cancel_left _ he]
        have hrd : n.natAbs % e < e := Nat.mod_lt _ he
        have hcop : Nat.gcd e (n.natAbs % e) = 1 := by rw [Nat.gcd_comm, ← Nat.gcd_rec, Nat.gcd_comm]; exact hgn
        have hr0 : n.natAbs % e ≠ 0 := by
          intro h
          rw [h, Nat.gcd_zero_right] at hcop
          subst hcop
          exact hmin 0 (by omega) (by simp)
        rw [if_neg hr0, hqe]
        have ha : (n * (q : Int)).natAbs = n.natAbs * q := by rw [Int.natAbs_mul]; rfl
        have hs : sg (n * (q : Int)) = sg n := by
          unfold sg
          by_cases hn : n < 0
          · rw [if_pos hn, if_pos (Int.mul_neg_of_neg_of_pos hn (by omega))]
          · rw [if_neg hn, if_neg (by have := Int.mul_nonneg (show 0 ≤ n by omega) (show (0 : Int) ≤ q by omega); omega)]
        have hdiv : n.natAbs * q / 10 ^ k = n.natAbs / e := by rw [hq, Nat.mul_div_mul_right _ _ hq0]
        have hmd : n.natAbs * q % 10 ^ k = n.natAbs % e * q := by rw [hq, Nat.mul_mod_mul_right]
        have hlt : n.natAbs % e * q < 10 ^ k := by rw [hq]; exact Nat.mul_lt_mul_of_pos_right hrd hq0
        have ht := tail_pad e he k 7 (n.natAbs % e) (by omega) hrd (by rw [hq]; exact ⟨n.natAbs % e * q, by simp only [Nat.mul_left_comm]⟩) (fun i hi h => hmin i hi (Nat.Coprime.dvd_of_dvd_mul_left hcop h))
        rw [ht]
        have hx : n.natAbs % e * 10 ^ k / e = n.natAbs % e * q := by
          rw [hq, Nat.mul_left_comm, Nat.mul_div_cancel_left _ he]
        rw [hx]
        unfold pt
        rw [hs, ha, ← Int.ofNat_tdiv, ← Int.ofNat_tmod, hdiv, hmd]
        rw [Lib.itoa_nonneg, show (((10 ^ k : Nat) : Int) + ((n.natAbs % e * q : Nat) : Int)) = ((10 ^ k + n.natAbs % e * q : Nat) : Int) by omega, Lib.itoa_nonneg, dec_pow k _ hlt]
        rfl
    · rw [if_pos trivial, if_neg (fun h => hdv (hmod.1 h.2))]
      have := decA_miss n e 7 0 (fun j hj h => hdv (Nat.dvd_trans h (Nat.pow_dvd_pow 10 (by omega))))
      exact this
end Go.Proofs
set_option autoImplicit false
namespace Go.Proofs
open Go Go.Ab
set_option maxHeartbeats 1000000
set_option maxRecDepth 100000
variable {G : IH}
def decS (n d : Int) (x : Nat × Int) : AS := ⟨regs 33 [(0, .d (fr n d)), (1, .box 1 0), (2, vs (str [])), (3, vb false), (4, vi x.2)], [(1, [vi n, vi d])]⟩
def decI (n d : Int) (x : Nat × Int) : Prop := 1 ≤ x.2 ∧ x.2 * 10 ^ x.1 = 10000000 ∧ decF n d = decA n d x.1 x.2
theorem f151 (hT : Tab G) (n d : Int) : FnOK Tryz.prog G 151 [fr n d] (sb (decF n d)) := by
  refine FnOK.walk (orc := orc) (keep := [0, 1, 2, 3, 4, 7, 9, 21, 27]) follows Tryz.func151 rfl Tryz.call151 ?_
  refine of_tr (fun ZT ZW ZQ ZK => (ZK 134 [(.agg [(di n), (di d)])] (db (ok n d)) ∧ (((!ok n d) = true) → (((.tup [(ds (ByteArray.mk #[])), (db false)]) : DV) = (sb (decF n d)))) ∧ (((!ok n d) = false) → ZW [cd Tryz.f151 [1, 1, 0, 1, 0], (.blk 0), cd Tryz.f151 [1, 1, 1]] (stS ZT [1]) ZQ))) (by kernel_rfl) ?_
  refine ⟨f134 n d, fun h => ?_, fun h => ?_⟩
  · have h : ok n d = false := by simpa using h
    simp [sb, decF, h]
  · have h : ok n d = true := by simpa using h
    have hb := ok_spec h
    refine AWP.loop (c := cAt (bodyOf Tryz.f151) [1, 1, 0, 1, 0, 0]) (by kernel_rfl) (decS n d) (decI n d) (fun x => x.1) (7, 1) ?_ ⟨by simp, by simp, by simp [decF, h]⟩ ?_
    · exact AS.leA (by kernel_rfl)
    · rintro ⟨k, p⟩ ⟨hp, hpk, hI⟩
      simp only at hp hpk hI
      refine walk (orc := orc) (keep := [0, 1, 2, 3, 4, 7, 9, 21, 27]) (cuts := []) (n := 1000) follows ?_
      refine of_rd (fun ZT ZW ZQ ZK ZA _ => ((((decide (p ≤ 1000000)) = true) → ((d ≠ 0) ∧ (((p.tmod d != 0) = true) → ((I64 (p * 10)) ∧ (ZA (stS ZT [0, 0])))) ∧ (((p.tmod d != 0) = false) → ((((p == 1) = true) → (ZK 176 [(di n)] (ds (str (Lib.itoa n))) ∧ ((.tup [(ds (str (Lib.itoa n))), (db true)]) : DV) = (sb (decF n d)))) ∧ (((p == 1) = false) → (((d ≠ 0) ∧ (R64 p) ∧ (I64 (n * p.tdiv d)) ∧ ZK 177 [(di (n * p.tdiv d)), (di p)] (ds (str (pt (n * p.tdiv d) p)))) ∧ ((.tup [(ds (str (pt (n * p.tdiv d) p))), (db true)]) : DV) = (sb (decF n d)))))))) ∧ (((decide (p ≤ 1000000)) = false) → ZW [cd Tryz.f151 [1, 1, 1]] (stS ZT [1]) ZQ))) (by kernel_rfl) ?_
      have hp7 : p ≤ 10000000 := by
        have h1 : (1 : Int) ≤ 10 ^ k := by have := Nat.one_le_pow k 10 (by omega); exact_mod_cast this
        have h2 : p * 1 ≤ p * 10 ^ k := Int.mul_le_mul_of_nonneg_left h1 (by omega)
        omega
      refine ⟨fun h6 => ?_, fun h6 => ?_⟩
      · have h6 : p ≤ 1000000 := by simpa using h6
        obtain ⟨k, rfl⟩ : ∃ k', k = k' + 1 := by
          cases k with
          | zero => simp at hpk; omega
          | succ k => exact ⟨k, rfl⟩
        refine ⟨by omega, fun hm => ⟨⟨by omega, by omega⟩, Again.mk (k, p * 10) ?_ ⟨by simp only; omega, ?_, ?_⟩ (by simp)⟩, fun hm => ⟨fun h1 => ?_, fun h1 => ?_⟩⟩
        · exact AS.leA (by kernel_rfl)
        · simp only
          rw [← hpk, Int.pow_succ, Int.mul_comm (10 ^ k) 10, Int.mul_assoc]
        · have hm : p.tmod d ≠ 0 := by simpa using hm
          rw [hI, decA, if_neg hm, Int.mul_comm]
        · have hm : p.tmod d = 0 := by simpa using hm
          have h1 : p = 1 := by simpa using h1
          refine ⟨f176 hT n ⟨by omega, by omega⟩, ?_⟩
          rw [hI, decA, if_pos hm, if_pos h1]; rfl
        · have hm : p.tmod d = 0 := by simpa using hm
          have h1 : p ≠ 1 := by simpa using h1
          have hq0 : 0 ≤ p.tdiv d := Int.tdiv_nonneg (by omega) (by omega)
          have hq1 : p.tdiv d ≤ 1000000 := by
            rw [Int.tdiv_eq_ediv_of_nonneg (by omega)]
            have := Int.ediv_le_self d (show 0 ≤ p by omega); omega
          have hx1 : n * p.tdiv d ≤ 1000000000 * p.tdiv d := Int.mul_le_mul_of_nonneg_right (by omega) hq0
          have hx2 : -1000000000 * p.tdiv d ≤ n * p.tdiv d := Int.mul_le_mul_of_nonneg_right (by omega) hq0
          refine ⟨⟨by omega, ⟨by omega, by omega⟩, ⟨by omega, by omega⟩, f177 hT _ _ ⟨by omega, by omega⟩ (by omega) (by omega)⟩, ?_⟩
          rw [hI, decA, if_pos hm, if_neg h1]; rfl
      · have h6 : ¬ p ≤ 1000000 := by simpa using h6
        have hk0 : k = 0 := by
          cases k with
          | zero => rfl
          | succ k =>
            exfalso
            have h1 : (1 : Int) ≤ 10 ^ k := by have := Nat.one_le_pow k 10 (by omega); exact_mod_cast this
            have h2 : (p * 10) * 1 ≤ (p * 10) * 10 ^ k := Int.mul_le_mul_of_nonneg_left h1 (by omega)
            rw [Int.pow_succ, Int.mul_comm (10 ^ k) 10, ← Int.mul_assoc] at hpk
            omega
        subst hk0
        refine walk (orc := orc) (keep := []) (cuts := []) (n := 1000) follows ?_
        refine of_tr (fun _ _ _ _ => (((.tup [(ds (ByteArray.mk #[])), (db false)]) : DV) = (sb (decF n d)))) (by kernel_rfl) ?_
        rw [hI]; rfl
end Go.Proofs
set_option autoImplicit false
namespace Go.Proofs
open Go Go.Ab
set_option maxHeartbeats 1000000
set_option maxRecDepth 100000
variable {G : IH}
@[match_pattern] abbrev fn (k : Nat) : DV := .con (.func (.func k) #[] #[])
def opr (okk : Bool) (x : Int × Int) : FE := if okk then (if x.2 = 0 then (0, 0, 2) else red x.1 x.2) else (0, 0, 1)
def opF (k : Nat) (a b c d : Int) : Int × Int := match k with
  | 131 => (a * d + c * b, b * d)
  | 132 => (a * c, b * d)
  | 130 => (a * d - c * b, b * d)
  | _ => (a * d, b * c)
def orc2 : Oracle
  | 131, [fr a b, fr c d] => some (.tup [di (opF 131 a b c d).1, di (opF 131 a b c d).2])
  | 132, [fr a b, fr c d] => some (.tup [di (opF 132 a b c d).1, di (opF 132 a b c d).2])
  | 130, [fr a b, fr c d] => some (.tup [di (opF 130 a b c d).1, di (opF 130 a b c d).2])
  | 133, [fr a b, fr c d] => some (.tup [di (opF 133 a b c d).1, di (opF 133 a b c d).2])
  | 129, [fn k] => some (.clo (.func 164) [] [.ptr [fn k]])
  | 164, [fr a b, fr c d, .ptr [fn k]] => some (fe (opr (ok a b && ok c d) (opF k a b c d)))
  | f, l => orc f l
theorem mb {x y : Int} (A B : Nat) (hx : -(A : Int) ≤ x ∧ x ≤ A) (hy : -(B : Int) ≤ y ∧ y ≤ B) : -((A * B : Nat) : Int) ≤ x * y ∧ x * y ≤ ((A * B : Nat) : Int) := by
  have h1 : x.natAbs ≤ A := by omega
  have h2 : y.natAbs ≤ B := by omega
  have h3 := Nat.mul_le_mul h1 h2
  rw [← Int.natAbs_mul] at h3
  omega
theorem f129 (k : Nat) : FnOK Tryz.prog G 129 [fn k] (.clo (.func 164) [] [.ptr [fn k]]) := by
  refine FnOK.walk (orc := orc2) (keep := []) follows Tryz.func129 rfl Tryz.call129 ?_
  refine of_tr (fun _ _ _ _ => (ZS ((.clo (.func 164) [] [(.ptr [(fn k)])]) : DV))) (by kernel_rfl) ?_
  rfl
theorem okb {n d : Int} (h : ok n d = true) : (-((1000000000 : Nat) : Int) ≤ n ∧ n ≤ ((1000000000 : Nat) : Int)) ∧ (-((1000000 : Nat) : Int) ≤ d ∧ d ≤ ((1000000 : Nat) : Int)) := by
  have := ok_spec h; omega
theorem f131 (a b c d : Int) (h1 : ok a b = true) (h2 : ok c d = true) : FnOK Tryz.prog G 131 [fr a b, fr c d] (.tup [di (opF 131 a b c d).1, di (opF 131 a b c d).2]) := by
  refine FnOK.walk (orc := orc2) (keep := []) follows Tryz.func131 rfl Tryz.call131 ?_
  refine of_tr (fun _ _ _ _ => (((I64 (a * d)) ∧ (I64 (c * b)) ∧ (I64 (a * d + c * b)) ∧ (I64 (b * d))) ∧ ((.tup [(di (a * d + c * b)), (di (b * d))]) : DV) = (.tup [(di (opF 131 a b c d).fst), (di (opF 131 a b c d).snd)]))) (by kernel_rfl) ?_
  have m0 := mb _ _ (okb h1).1 (okb h2).2
  have m1 := mb _ _ (okb h2).1 (okb h1).2
  have m2 := mb _ _ (okb h1).2 (okb h2).2
  exact ⟨⟨⟨by omega, by omega⟩, ⟨by omega, by omega⟩, ⟨by omega, by omega⟩, by omega, by omega⟩, rfl⟩
theorem opR101 {a b c d : Int} (h1 : ok a b = true) (h2 : ok c d = true) : R64 (opF 131 a b c d).1 ∧ R64 (opF 131 a b c d).2 := by
  have m0 := mb _ _ (okb h1).1 (okb h2).2
  have m1 := mb _ _ (okb h2).1 (okb h1).2
  have m2 := mb _ _ (okb h1).2 (okb h2).2
  simp only [opF]
  exact ⟨⟨by omega, by omega⟩, by omega, by omega⟩
theorem f164_101 (a b c d : Int) : FnOK Tryz.prog G 164 [fr a b, fr c d, .ptr [fn 131]] (fe (opr (ok a b && ok c d) (opF 131 a b c d))) := by
  refine FnOK.walk (orc := orc2) (keep := []) follows Tryz.func164 rfl Tryz.call164 ?_
  refine of_tr (fun _ _ _ ZK => (fun Za Zb => ((ZK 134 [(.agg [(di a), (di b)])] (db (ok a b)) ∧ (((!!ok a b) = true) → ZK 134 [(.agg [(di c), (di d)])] (db (ok c d)))) ∧ (((!ok a b || !ok c d) = true) → (((.tup [(.agg [(di 0), (di 0)]), (di 1)]) : DV) = Zb)) ∧ (((!ok a b || !ok c d) = false) → (ZK 131 [(.agg [(di a), (di b)]), (.agg [(di c), (di d)])] (.tup [(di (a * d + c * b)), (di (b * d))]) ∧ (((b * d == 0) = true) → (((.tup [(.agg [(di 0), (di 0)]), (di 2)]) : DV) = Zb)) ∧ (((b * d == 0) = false) → (ZK 165 [(di (a * d + c * b)), (di (b * d))] Za ∧ (Za : DV) = Zb)))))) ((.tup [(.agg [(di (red (a * d + c * b) (b * d)).fst), (di (red (a * d + c * b) (b * d)).snd.fst)]), (di (red (a * d + c * b) (b * d)).snd.snd)]) : DV) (fe (opr (ok a b && ok c d) (opF 131 a b c d)))) (by kernel_rfl) ?_
  refine ⟨⟨f134 a b, fun _ => f134 c d⟩, fun h => ?_, fun h => ?_⟩
  · have h : (ok a b && ok c d) = false := by cases ha : ok a b <;> cases hc : ok c d <;> simp_all
    rw [h]; rfl
  · have h1 : ok a b = true := by cases ha : ok a b <;> simp_all
    have h2 : ok c d = true := by cases ha : ok c d <;> simp_all
    rw [h1, h2]
    have hr := opR101 h1 h2
    refine ⟨f131 a b c d h1 h2, fun h => ?_, fun h => ⟨f165 _ _ (by simpa using h) hr.1 hr.2, ?_⟩⟩
    · simp only [opr, opF]; rw [if_pos (show (true && true) = true from rfl), if_pos (by simpa using h)]; rfl
    · simp only [opr, opF]; rw [if_pos (show (true && true) = true from rfl), if_neg (by simpa using h)]; rfl
theorem f91 (a b c d : Int) : FnOK Tryz.prog G 91 [fr a b, fr c d] (fe (opr (ok a b && ok c d) (opF 131 a b c d))) := by
  refine FnOK.walk (orc := orc2) (keep := []) follows Tryz.func91 rfl Tryz.call91 ?_
  refine of_tr (fun _ _ _ ZK => (fun Za Zb => ((ZK 129 [Zb] (.clo (.func 164) [] [(.ptr [Zb])]) ∧ ZK 164 [(.agg [(di a), (di b)]), (.agg [(di c), (di d)]), (.ptr [Zb])] (.tup [(.agg [(di Za.fst), (di Za.snd.fst)]), (di Za.snd.snd)])) ∧ ((.tup [(.agg [(di Za.fst), (di Za.snd.fst)]), (di Za.snd.snd)]) : DV) = (fe Za))) (opr (ok a b && ok c d) (opF 131 a b c d)) ((.con (.func (.func 131) ⟨[]⟩ ⟨[]⟩)) : DV)) (by kernel_rfl) ?_
  exact ⟨⟨f129 131, f164_101 a b c d⟩, rfl⟩
theorem f132 (a b c d : Int) (h1 : ok a b = true) (h2 : ok c d = true) : FnOK Tryz.prog G 132 [fr a b, fr c d] (.tup [di (opF 132 a b c d).1, di (opF 132 a b c d).2]) := by
  refine FnOK.walk (orc := orc2) (keep := []) follows Tryz.func132 rfl Tryz.call132 ?_
  refine of_tr (fun _ _ _ _ => (((I64 (a * c)) ∧ (I64 (b * d))) ∧ ((.tup [(di (a * c)), (di (b * d))]) : DV) = (.tup [(di (opF 132 a b c d).fst), (di (opF 132 a b c d).snd)]))) (by kernel_rfl) ?_
  have m0 := mb _ _ (okb h1).1 (okb h2).1
  have m1 := mb _ _ (okb h1).2 (okb h2).2
  exact ⟨⟨⟨by omega, by omega⟩, by omega, by omega⟩, rfl⟩
theorem opR79 {a b c d : Int} (h1 : ok a b = true) (h2 : ok c d = true) : R64 (opF 132 a b c d).1 ∧ R64 (opF 132 a b c d).2 := by
  have m0 := mb _ _ (okb h1).1 (okb h2).1
  have m1 := mb _ _ (okb h1).2 (okb h2).2
  simp only [opF]
  exact ⟨⟨by omega, by omega⟩, by omega, by omega⟩
theorem f164_79 (a b c d : Int) : FnOK Tryz.prog G 164 [fr a b, fr c d, .ptr [fn 132]] (fe (opr (ok a b && ok c d) (opF 132 a b c d))) := by
  refine FnOK.walk (orc := orc2) (keep := []) follows Tryz.func164 rfl Tryz.call164 ?_
  refine of_tr (fun _ _ _ ZK => (fun Za Zb => ((ZK 134 [(.agg [(di a), (di b)])] (db (ok a b)) ∧ (((!!ok a b) = true) → ZK 134 [(.agg [(di c), (di d)])] (db (ok c d)))) ∧ (((!ok a b || !ok c d) = true) → (((.tup [(.agg [(di 0), (di 0)]), (di 1)]) : DV) = Zb)) ∧ (((!ok a b || !ok c d) = false) → (ZK 132 [(.agg [(di a), (di b)]), (.agg [(di c), (di d)])] (.tup [(di (a * c)), (di (b * d))]) ∧ (((b * d == 0) = true) → (((.tup [(.agg [(di 0), (di 0)]), (di 2)]) : DV) = Zb)) ∧ (((b * d == 0) = false) → (ZK 165 [(di (a * c)), (di (b * d))] Za ∧ (Za : DV) = Zb)))))) ((.tup [(.agg [(di (red (a * c) (b * d)).fst), (di (red (a * c) (b * d)).snd.fst)]), (di (red (a * c) (b * d)).snd.snd)]) : DV) (fe (opr (ok a b && ok c d) (opF 132 a b c d)))) (by kernel_rfl) ?_
  refine ⟨⟨f134 a b, fun _ => f134 c d⟩, fun h => ?_, fun h => ?_⟩
  · have h : (ok a b && ok c d) = false := by cases ha : ok a b <;> cases hc : ok c d <;> simp_all
    rw [h]; rfl
  · have h1 : ok a b = true := by cases ha : ok a b <;> simp_all
    have h2 : ok c d = true := by cases ha : ok c d <;> simp_all
    rw [h1, h2]
    have hr := opR79 h1 h2
    refine ⟨f132 a b c d h1 h2, fun h => ?_, fun h => ⟨f165 _ _ (by simpa using h) hr.1 hr.2, ?_⟩⟩
    · simp only [opr, opF]; rw [if_pos (show (true && true) = true from rfl), if_pos (by simpa using h)]; rfl
    · simp only [opr, opF]; rw [if_pos (show (true && true) = true from rfl), if_neg (by simpa using h)]; rfl
theorem f92 (a b c d : Int) : FnOK Tryz.prog G 92 [fr a b, fr c d] (fe (opr (ok a b && ok c d) (opF 132 a b c d))) := by
  refine FnOK.walk (orc := orc2) (keep := []) follows Tryz.func92 rfl Tryz.call92 ?_
  refine of_tr (fun _ _ _ ZK => (fun Za Zb => ((ZK 129 [Zb] (.clo (.func 164) [] [(.ptr [Zb])]) ∧ ZK 164 [(.agg [(di a), (di b)]), (.agg [(di c), (di d)]), (.ptr [Zb])] (.tup [(.agg [(di Za.fst), (di Za.snd.fst)]), (di Za.snd.snd)])) ∧ ((.tup [(.agg [(di Za.fst), (di Za.snd.fst)]), (di Za.snd.snd)]) : DV) = (fe Za))) (opr (ok a b && ok c d) (opF 132 a b c d)) ((.con (.func (.func 132) ⟨[]⟩ ⟨[]⟩)) : DV)) (by kernel_rfl) ?_
  exact ⟨⟨f129 132, f164_79 a b c d⟩, rfl⟩
theorem f130 (a b c d : Int) (h1 : ok a b = true) (h2 : ok c d = true) : FnOK Tryz.prog G 130 [fr a b, fr c d] (.tup [di (opF 130 a b c d).1, di (opF 130 a b c d).2]) := by
  refine FnOK.walk (orc := orc2) (keep := []) follows Tryz.func130 rfl Tryz.call130 ?_
  refine of_tr (fun _ _ _ _ => (((I64 (a * d)) ∧ (I64 (c * b)) ∧ (I64 (a * d - c * b)) ∧ (I64 (b * d))) ∧ ((.tup [(di (a * d - c * b)), (di (b * d))]) : DV) = (.tup [(di (opF 130 a b c d).fst), (di (opF 130 a b c d).snd)]))) (by kernel_rfl) ?_
  have m0 := mb _ _ (okb h1).1 (okb h2).2
  have m1 := mb _ _ (okb h2).1 (okb h1).2
  have m2 := mb _ _ (okb h1).2 (okb h2).2
  exact ⟨⟨⟨by omega, by omega⟩, ⟨by omega, by omega⟩, ⟨by omega, by omega⟩, by omega, by omega⟩, rfl⟩
theorem opR89 {a b c d : Int} (h1 : ok a b = true) (h2 : ok c d = true) : R64 (opF 130 a b c d).1 ∧ R64 (opF 130 a b c d).2 := by
  have m0 := mb _ _ (okb h1).1 (okb h2).2
  have m1 := mb _ _ (okb h2).1 (okb h1).2
  have m2 := mb _ _ (okb h1).2 (okb h2).2
  simp only [opF]
  exact ⟨⟨by omega, by omega⟩, by omega, by omega⟩
theorem f164_89 (a b c d : Int) : FnOK Tryz.prog G 164 [fr a b, fr c d, .ptr [fn 130]] (fe (opr (ok a b && ok c d) (opF 130 a b c d))) := by
  refine FnOK.walk (orc := orc2) (keep := []) follows Tryz.func164 rfl Tryz.call164 ?_
  refine of_tr (fun _ _ _ ZK => (fun Za Zb => ((ZK 134 [(.agg [(di a), (di b)])] (db (ok a b)) ∧ (((!!ok a b) = true) → ZK 134 [(.agg [(di c), (di d)])] (db (ok c d)))) ∧ (((!ok a b || !ok c d) = true) → (((.tup [(.agg [(di 0), (di 0)]), (di 1)]) : DV) = Zb)) ∧ (((!ok a b || !ok c d) = false) → (ZK 130 [(.agg [(di a), (di b)]), (.agg [(di c), (di d)])] (.tup [(di (a * d - c * b)), (di (b * d))]) ∧ (((b * d == 0) = true) → (((.tup [(.agg [(di 0), (di 0)]), (di 2)]) : DV) = Zb)) ∧ (((b * d == 0) = false) → (ZK 165 [(di (a * d - c * b)), (di (b * d))] Za ∧ (Za : DV) = Zb)))))) ((.tup [(.agg [(di (red (a * d - c * b) (b * d)).fst), (di (red (a * d - c * b) (b * d)).snd.fst)]), (di (red (a * d - c * b) (b * d)).snd.snd)]) : DV) (fe (opr (ok a b && ok c d) (opF 130 a b c d)))) (by kernel_rfl) ?_
  refine ⟨⟨f134 a b, fun _ => f134 c d⟩, fun h => ?_, fun h => ?_⟩
  · have h : (ok a b && ok c d) = false := by cases ha : ok a b <;> cases hc : ok c d <;> simp_all
    rw [h]; rfl
  · have h1 : ok a b = true := by cases ha : ok a b <;> simp_all
    have h2 : ok c d = true := by cases ha : ok c d <;> simp_all
    rw [h1, h2]
    have hr := opR89 h1 h2
    refine ⟨f130 a b c d h1 h2, fun h => ?_, fun h => ⟨f165 _ _ (by simpa using h) hr.1 hr.2, ?_⟩⟩
    · simp only [opr, opF]; rw [if_pos (show (true && true) = true from rfl), if_pos (by simpa using h)]; rfl
    · simp only [opr, opF]; rw [if_pos (show (true && true) = true from rfl), if_neg (by simpa using h)]; rfl
theorem f89 (a b c d : Int) : FnOK Tryz.prog G 89 [fr a b, fr c d] (fe (opr (ok a b && ok c d) (opF 130 a b c d))) := by
  refine FnOK.walk (orc := orc2) (keep := []) follows Tryz.func89 rfl Tryz.call89 ?_
  refine of_tr (fun _ _ _ ZK => (fun Za Zb => ((ZK 129 [Zb] (.clo (.func 164) [] [(.ptr [Zb])]) ∧ ZK 164 [(.agg [(di a), (di b)]), (.agg [(di c), (di d)]), (.ptr [Zb])] (.tup [(.agg [(di Za.fst), (di Za.snd.fst)]), (di Za.snd.snd)])) ∧ ((.tup [(.agg [(di Za.fst), (di Za.snd.fst)]), (di Za.snd.snd)]) : DV) = (fe Za))) (opr (ok a b && ok c d) (opF 130 a b c d)) ((.con (.func (.func 130) ⟨[]⟩ ⟨[]⟩)) : DV)) (by kernel_rfl) ?_
  exact ⟨⟨f129 130, f164_89 a b c d⟩, rfl⟩
theorem f133 (a b c d : Int) (h1 : ok a b = true) (h2 : ok c d = true) : FnOK Tryz.prog G 133 [fr a b, fr c d] (.tup [di (opF 133 a b c d).1, di (opF 133 a b c d).2]) := by
  refine FnOK.walk (orc := orc2) (keep := []) follows Tryz.func133 rfl Tryz.call133 ?_
  refine of_tr (fun _ _ _ _ => (((I64 (a * d)) ∧ (I64 (b * c))) ∧ ((.tup [(di (a * d)), (di (b * c))]) : DV) = (.tup [(di (opF 133 a b c d).fst), (di (opF 133 a b c d).snd)]))) (by kernel_rfl) ?_
  have m0 := mb _ _ (okb h1).1 (okb h2).2
  have m1 := mb _ _ (okb h1).2 (okb h2).1
  exact ⟨⟨⟨by omega, by omega⟩, by omega, by omega⟩, rfl⟩
theorem opR133 {a b c d : Int} (h1 : ok a b = true) (h2 : ok c d = true) : R64 (opF 133 a b c d).1 ∧ R64 (opF 133 a b c d).2 := by
  have m0 := mb _ _ (okb h1).1 (okb h2).2
  have m1 := mb _ _ (okb h1).2 (okb h2).1
  simp only [opF]
  exact ⟨⟨by omega, by omega⟩, by omega, by omega⟩
theorem f164_133 (a b c d : Int) : FnOK Tryz.prog G 164 [fr a b, fr c d, .ptr [fn 133]] (fe (opr (ok a b && ok c d) (opF 133 a b c d))) := by
  refine FnOK.walk (orc := orc2) (keep := []) follows Tryz.func164 rfl Tryz.call164 ?_
  refine of_tr (fun _ _ _ ZK => (fun Za Zb => ((ZK 134 [(.agg [(di a), (di b)])] (db (ok a b)) ∧ (((!!ok a b) = true) → ZK 134 [(.agg [(di c), (di d)])] (db (ok c d)))) ∧ (((!ok a b || !ok c d) = true) → (((.tup [(.agg [(di 0), (di 0)]), (di 1)]) : DV) = Zb)) ∧ (((!ok a b || !ok c d) = false) → (ZK 133 [(.agg [(di a), (di b)]), (.agg [(di c), (di d)])] (.tup [(di (a * d)), (di (b * c))]) ∧ (((b * c == 0) = true) → (((.tup [(.agg [(di 0), (di 0)]), (di 2)]) : DV) = Zb)) ∧ (((b * c == 0) = false) → (ZK 165 [(di (a * d)), (di (b * c))] Za ∧ (Za : DV) = Zb)))))) ((.tup [(.agg [(di (red (a * d) (b * c)).fst), (di (red (a * d) (b * c)).snd.fst)]), (di (red (a * d) (b * c)).snd.snd)]) : DV) (fe (opr (ok a b && ok c d) (opF 133 a b c d)))) (by kernel_rfl) ?_
  refine ⟨⟨f134 a b, fun _ => f134 c d⟩, fun h => ?_, fun h => ?_⟩
  · have h : (ok a b && ok c d) = false := by cases ha : ok a b <;> cases hc : ok c d <;> simp_all
    rw [h]; rfl
  · have h1 : ok a b = true := by cases ha : ok a b <;> simp_all
    have h2 : ok c d = true := by cases ha : ok c d <;> simp_all
    rw [h1, h2]
    have hr := opR133 h1 h2
    refine ⟨f133 a b c d h1 h2, fun h => ?_, fun h => ⟨f165 _ _ (by simpa using h) hr.1 hr.2, ?_⟩⟩
    · simp only [opr, opF]; rw [if_pos (show (true && true) = true from rfl), if_pos (by simpa using h)]; rfl
    · simp only [opr, opF]; rw [if_pos (show (true && true) = true from rfl), if_neg (by simpa using h)]; rfl
theorem f93 (a b c d : Int) : FnOK Tryz.prog G 93 [fr a b, fr c d] (fe (opr (ok a b && ok c d) (opF 133 a b c d))) := by
  refine FnOK.walk (orc := orc2) (keep := []) follows Tryz.func93 rfl Tryz.call93 ?_
  refine of_tr (fun _ _ _ ZK => (fun Za Zb => ((ZK 129 [Zb] (.clo (.func 164) [] [(.ptr [Zb])]) ∧ ZK 164 [(.agg [(di a), (di b)]), (.agg [(di c), (di d)]), (.ptr [Zb])] (.tup [(.agg [(di Za.fst), (di Za.snd.fst)]), (di Za.snd.snd)])) ∧ ((.tup [(.agg [(di Za.fst), (di Za.snd.fst)]), (di Za.snd.snd)]) : DV) = (fe Za))) (opr (ok a b && ok c d) (opF 133 a b c d)) ((.con (.func (.func 133) ⟨[]⟩ ⟨[]⟩)) : DV)) (by kernel_rfl) ?_
  exact ⟨⟨f129 133, f164_133 a b c d⟩, rfl⟩
end Go.Proofs
set_option autoImplicit false
namespace Go.Proofs
open Go Go.Ab
def cmpI (x y : Int) : Int := if x < y then -1 else if y < x then 1 else 0
def addF (a b c d : Int) : FE := opr (ok a b && ok c d) (opF 131 a b c d)
def mulF (a b c d : Int) : FE := opr (ok a b && ok c d) (opF 132 a b c d)
def subF (a b c d : Int) : FE := opr (ok a b && ok c d) (opF 130 a b c d)
def divF (a b c d : Int) : FE := opr (ok a b && ok c d) (opF 133 a b c d)
def cmpF (a b c d : Int) : Int := if ok a b && ok c d then cmpI (a * d) (c * b) else 0
def ok2 (a b c d : Int) : Bool := ok a b && ok c d
end Go.Proofs
set_option autoImplicit false
namespace Go.Proofs
open Go Go.Ab
set_option maxHeartbeats 1000000
set_option maxRecDepth 100000
variable {G : IH}
abbrev fe' (x : FE) : DV := .tup [fr x.1 x.2.1, di x.2.2]
def orc3 : Oracle
  | 168, [di _] => some (db false)
  | 135, [di x, di y] => some (di (cmpI x y))
  | 99, [fr a b, fr c d] => some (.tup [di (cmpF a b c d), db (ok2 a b c d)])
  | 19, [fr a b, fr c d] => some (.tup [di (cmpF a b c d), db (ok2 a b c d)])
  | 91, [fr a b, fr c d] => some (fe (addF a b c d))
  | 92, [fr a b, fr c d] => some (fe (mulF a b c d))
  | 89, [fr a b, fr c d] => some (fe (subF a b c d))
  | f, l => orc f l
theorem f91' (a b c d : Int) : FnOK Tryz.prog G 91 [fr a b, fr c d] (fe' (addF a b c d)) := f91 a b c d
theorem f92' (a b c d : Int) : FnOK Tryz.prog G 92 [fr a b, fr c d] (fe' (mulF a b c d)) := f92 a b c d
theorem f89' (a b c d : Int) : FnOK Tryz.prog G 89 [fr a b, fr c d] (fe' (subF a b c d)) := f89 a b c d
theorem f93' (a b c d : Int) : FnOK Tryz.prog G 93 [fr a b, fr c d] (fe' (divF a b c d)) := f93 a b c d
theorem f168 (x : Int) : FnOK Tryz.prog G 168 [di x] (db false) := by
  refine FnOK.walk (orc := orc3) (keep := []) follows Tryz.func168 rfl Tryz.call168 ?_
  refine of_tr (fun _ _ _ _ => (((db (x != x)) : DV) = (db false))) (by kernel_rfl) ?_
  simp
theorem f135 (x y : Int) : FnOK Tryz.prog G 135 [di x, di y] (di (cmpI x y)) := by
  refine FnOK.walk (orc := orc3) (keep := []) follows Tryz.func135 rfl Tryz.call135 ?_
  refine of_tr (fun _ _ _ ZK => (ZK 168 [(di x)] (db false) ∧ ZK 168 [(di y)] (db false) ∧ ((false = true) → (((false = true) → (((di 0) : DV) = (di (cmpI x y)))) ∧ ((false = false) → (((di (-1)) : DV) = (di (cmpI x y)))))) ∧ ((false = false) → (((false = true) → (((di 1) : DV) = (di (cmpI x y)))) ∧ ((false = false) → ((((decide (x < y)) = true) → (((di (-1)) : DV) = (di (cmpI x y)))) ∧ (((decide (x < y)) = false) → ((((decide (x > y)) = true) → (((di 1) : DV) = (di (cmpI x y)))) ∧ (((decide (x > y)) = false) → (((di 0) : DV) = (di (cmpI x y)))))))))))) (by kernel_rfl) ?_
  simp only [f168, cmpI]
  grind
theorem f99 (a b c d : Int) : FnOK Tryz.prog G 99 [fr a b, fr c d] (.tup [di (cmpF a b c d), db (ok2 a b c d)]) := by
  refine FnOK.walk (orc := orc3) (keep := []) follows Tryz.func99 rfl Tryz.call99 ?_
  refine of_tr (fun _ _ _ ZK => ((ZK 134 [(.agg [(di a), (di b)])] (db (ok a b)) ∧ (((!!ok a b) = true) → ZK 134 [(.agg [(di c), (di d)])] (db (ok c d)))) ∧ (((!ok a b || !ok c d) = true) → (((.tup [(di 0), (db false)]) : DV) = (.tup [(di (cmpF a b c d)), (db (ok2 a b c d))]))) ∧ (((!ok a b || !ok c d) = false) → (((I64 (a * d)) ∧ (I64 (c * b)) ∧ ZK 135 [(di (a * d)), (di (c * b))] (di (cmpI (a * d) (c * b)))) ∧ ((.tup [(di (cmpI (a * d) (c * b))), (db true)]) : DV) = (.tup [(di (cmpF a b c d)), (db (ok2 a b c d))]))))) (by kernel_rfl) ?_
  simp only [f134, f135, cmpF, ok2]
  cases h1 : ok a b with
  | false => simp
  | true => cases h2 : ok c d with
    | false => simp
    | true =>
      have m0 := mb _ _ (okb h1).1 (okb h2).2
      have m1 := mb _ _ (okb h2).1 (okb h1).2
      simp [I64]; omega
end Go.Proofs
