import Derived.Test.YtldfegcegedkjaaGreatDoorFA
import Derived.Test.YtldfegcegedkjaaGreatDoorAcC

set_option autoImplicit false
namespace Go.Proofs
open Go Go.Ab
set_option maxHeartbeats 1000000
set_option maxRecDepth 100000
/-- The last k digits of a number. -/
def pad : Nat → Nat → List UInt8
  | 0, _ => []
  | k + 1, r => pad k (r / 10) ++ [UInt8.ofNat (48 + r % 10)]
theorem pad_front : ∀ (k r : Nat), pad (k + 1) r = UInt8.ofNat (48 + r / 10 ^ k % 10) :: pad k (r % 10 ^ k)
  | 0, r => by simp [pad]
  | k + 1, r => by
    have ih := pad_front k (r / 10)
    rw [pad, ih]
    simp only [pad, List.cons_append]
    rw [Nat.div_div_eq_div_mul, show 10 * 10 ^ k = 10 ^ (k + 1) by rw [Nat.pow_succ, Nat.mul_comm]]
    have h1 : r % 10 ^ (k + 1) / 10 = r / 10 % 10 ^ k := by
      rw [Nat.pow_succ, Nat.mul_comm, Nat.mod_mul_right_div_self]
    have h2 : r % 10 ^ (k + 1) % 10 = r % 10 := Nat.mod_mod_of_dvd _ ⟨10 ^ k, by rw [Nat.pow_succ, Nat.mul_comm]⟩
    rw [h1, h2]
theorem dec_pow : ∀ (k r : Nat), r < 10 ^ k → Lib.decDigits (10 ^ k + r) = 49 :: pad k r
  | 0, r, h => by
    have : r = 0 := by simpa using h
    subst this
    rw [dec_small (by decide)]; rfl
  | k + 1, r, h => by
    have hp : 0 < 10 ^ k := Nat.pow_pos (by omega)
    have e : 10 ^ (k + 1) = 10 * 10 ^ k := by rw [Nat.pow_succ, Nat.mul_comm]
    rw [dec_big (by omega), show (10 ^ (k + 1) + r) / 10 = 10 ^ k + r / 10 by omega, dec_pow k (r / 10) (by omega), show (10 ^ (k + 1) + r) % 10 = r % 10 by omega]
    rfl
theorem tail_pad (d : Nat) (hd : 0 < d) : ∀ (m fuel r : Nat), m ≤ fuel → r < d → d ∣ r * 10 ^ m → (∀ i, i < m → ¬ d ∣ r * 10 ^ i) → tailB d fuel r = pad m (r * 10 ^ m / d)
  | 0, fuel, r, _, hr, h, _ => by
    have : r = 0 := Nat.eq_zero_of_dvd_of_lt (by simpa using h) hr
    subst this
    cases fuel <;> simp [tailB, pad]
  | m + 1, 0, r, hf, _, _, _ => by omega
  | m + 1, fuel + 1, r, hf, hr, h, hmin => by
    have hr0 : r ≠ 0 := by
      rintro rfl
      exact hmin 0 (by omega) (by simp)
    have hp : 0 < 10 ^ m := Nat.pow_pos (by omega)
    have hq : 10 * r / d < 10 := by rw [Nat.div_lt_iff_lt_mul hd]; omega
    have hmod : 10 * r % d < d := Nat.mod_lt _ hd
    have hsplit := Nat.div_add_mod (10 * r) d
    have hdv : ∀ i, d ∣ (10 * r % d) * 10 ^ i ↔ d ∣ r * 10 ^ (i + 1) := by
      intro i
      have e : r * 10 ^ (i + 1) = d * (10 * r / d * 10 ^ i) + (10 * r % d) * 10 ^ i := by
        rw [← Nat.mul_assoc, ← Nat.add_mul, hsplit, Nat.pow_succ, Nat.mul_comm (10 ^ i) 10, ← Nat.mul_assoc, Nat.mul_comm r 10]
      rw [e]
      exact (Nat.dvd_add_right (Nat.dvd_mul_right ..)).symm
    have hdm := (hdv m).2 h
    obtain ⟨c, hc⟩ := hdm
    have hcl : c < 10 ^ m := by
      have : d * c < d * 10 ^ m := by rw [← hc]; exact Nat.mul_lt_mul_of_pos_right hmod hp
      exact Nat.lt_of_mul_lt_mul_left this
    have hx : r * 10 ^ (m + 1) / d = 10 * r / d * 10 ^ m + c := by
      have e : r * 10 ^ (m + 1) = d * (10 * r / d * 10 ^ m + c) := by
        rw [Nat.mul_add, ← hc, ← Nat.mul_assoc, ← Nat.add_mul, hsplit, Nat.pow_succ, Nat.mul_comm (10 ^ m) 10, ← Nat.mul_assoc, Nat.mul_comm r 10]
      rw [e, Nat.mul_div_cancel_left _ hd]
    have hcd : (10 * r % d) * 10 ^ m / d = c := by rw [hc, Nat.mul_div_cancel_left _ hd]
    rw [tailB, if_neg hr0, tail_pad d hd m fuel _ (by omega) hmod ⟨c, hc⟩ (fun i hi => by rw [hdv]; exact hmin (i + 1) (by omega)), hcd, dec_small hq, pad_front, hx]
    have e1 : (10 * r / d * 10 ^ m + c) / 10 ^ m = 10 * r / d := by
      rw [Nat.mul_comm, Nat.mul_add_div hp, Nat.div_eq_of_lt hcl, Nat.add_zero]
    have e2 : (10 * r / d * 10 ^ m + c) % 10 ^ m = c := by
      rw [Nat.mul_comm, Nat.mul_add_mod, Nat.mod_eq_of_lt hcl]
    rw [e1, e2, Nat.mod_eq_of_lt hq]; rfl
theorem decA_hit (n : Int) (d k : Nat) (hk : d ∣ 10 ^ k) (hmin : ∀ i, i < k → ¬ d ∣ 10 ^ i) : ∀ (m f i : Nat), i + m = k → m < f →
    decA n d f ((10 ^ i : Nat) : Int) = if k = 0 then (Lib.itoa n, true) else (pt (n * ((10 ^ k / d : Nat) : Int)) ((10 ^ k : Nat) : Int), true)
  | _, 0, _, _, h => by omega
  | m, f + 1, i, hi, hf => by
    rw [decA]
    by_cases hm : m = 0
    · subst hm
      have : i = k := by omega
      subst this
      rw [if_pos (by rw [← Int.ofNat_tmod, Nat.mod_eq_zero_of_dvd hk]; rfl)]
      by_cases h0 : i = 0
      · subst h0; simp
      · have h1 : (10 : Nat) ^ i ≠ 1 := by
          have : 10 ^ 1 ≤ 10 ^ i := Nat.pow_le_pow_right (by omega) (by omega)
          omega
        rw [if_neg (by omega), if_neg h0, ← Int.ofNat_tdiv]
    · rw [if_neg (by
        rw [← Int.ofNat_tmod]
        intro h
        exact hmin i (by omega) (Nat.dvd_of_mod_eq_zero (by omega)))]
      have := decA_hit n d k hk hmin (m - 1) f (i + 1) (by omega) (by omega)
      rw [← this]
      congr 1
      rw [Nat.pow_succ]; omega
theorem decA_miss (n : Int) (d : Nat) : ∀ (f i : Nat), (∀ j, j < i + f → ¬ d ∣ 10 ^ j) → decA n d f ((10 ^ i : Nat) : Int) = ([], false)
  | 0, _, _ => rfl
  | f + 1, i, h => by
    rw [decA, if_neg (by
        rw [← Int.ofNat_tmod]
        intro h'
        exact h i (by omega) (Nat.dvd_of_mod_eq_zero (by omega)))]
    have := decA_miss n d f (i + 1) (fun j hj => h j (by omega))
    rw [← this]
    congr 1
    rw [Nat.pow_succ]; omega
theorem least {p : Nat → Prop} : ∀ (m : Nat), p m → ∃ k, k ≤ m ∧ p k ∧ ∀ i, i < k → ¬ p i
  | 0, h => ⟨0, by omega, h, fun i hi => by omega⟩
  | m + 1, h => by
    classical
    by_cases h' : ∃ i, i < m + 1 ∧ p i
    · obtain ⟨i, hi, hp⟩ := h'
      obtain ⟨k, hk, h1, h2⟩ := least i hp
      exact ⟨k, by omega, h1, h2⟩
    · exact ⟨m + 1, by omega, h, fun i hi hp => h' ⟨i, hi, hp⟩⟩
termination_by m => m
theorem decF_eq (n d : Int) : decF n d = decB n d := by
  unfold decF decB
  cases hok : ok n d with
  | false => simp
  | true =>
    obtain ⟨d1, d2, -, -, hg⟩ := ok_spec hok
    obtain ⟨e, rfl⟩ := Int.eq_ofNat_of_zero_le (show 0 ≤ d by omega)
    simp only [Int.toNat_natCast]
    have he : 0 < e := by omega
    have hgn : Nat.gcd n.natAbs e = 1 := by simpa [Int.gcd] using hg
    have hmod : ((1000000 : Int).tmod e = 0) ↔ e ∣ 10 ^ 6 := by
      rw [show (1000000 : Int) = ((10 ^ 6 : Nat) : Int) by rfl, ← Int.ofNat_tmod]
      exact ⟨fun h => Nat.dvd_of_mod_eq_zero (by omega), fun h => by rw [Nat.mod_eq_zero_of_dvd h]; rfl⟩
    by_cases hdv : e ∣ 10 ^ 6
    · rw [if_pos trivial, if_pos ⟨trivial, hmod.2 hdv⟩]
      obtain ⟨k, hk6, hk, hmin⟩ := least (p := fun k => e ∣ 10 ^ k) 6 hdv
      have := decA_hit n e k hk hmin k 7 0 (by omega) (by omega)
      rw [show (((10 ^ 0 : Nat) : Int)) = 1 by rfl] at this
      rw [this]
      by_cases h0 : k = 0
      · subst h0
        have : e = 1 := by simpa using hk
        subst this
        rw [if_pos rfl, itoa_sg, Nat.mod_one, if_pos rfl]; simp
      · rw [if_neg h0]
        obtain ⟨q, hq⟩ := hk
        have hq0 : 0 < q := by
          rcases Nat.eq_zero_or_pos q with rfl | h
          · have : 0 < 10 ^ k := Nat.pow_pos (by omega)
            omega
          · exact h
        have hqe : 10 ^ k / e = q := by rw [hq, Nat.mul_div_cancel_left _ he]
        have hrd : n.natAbs % e < e := Nat.mod_lt _ he
        have hcop : Nat.gcd e (n.natAbs % e) = 1 := by rw [Nat.gcd_comm, ← Nat.gcd_rec, Nat.gcd_comm]; exact hgn
        have hr0 : n.natAbs % e ≠ 0 := by
          intro h
          rw [h, Nat.gcd_zero_right] at hcop
          subst hcop
          exact hmin 0 (by omega) (by simp)
        rw [if_neg hr0, hqe]
        have ha : (n * (q : Int)).natAbs = n.natAbs * q := by rw [Int.natAbs_mul]; rfl
        have hs : sg (n * (q : Int)) = sg n := by
          unfold sg
          by_cases hn : n < 0
          · rw [if_pos hn, if_pos (Int.mul_neg_of_neg_of_pos hn (by omega))]
          · rw [if_neg hn, if_neg (by have := Int.mul_nonneg (show 0 ≤ n by omega) (show (0 : Int) ≤ q by omega); omega)]
        have hdiv : n.natAbs * q / 10 ^ k = n.natAbs / e := by rw [hq, Nat.mul_div_mul_right _ _ hq0]
        have hmd : n.natAbs * q % 10 ^ k = n.natAbs % e * q := by rw [hq, Nat.mul_mod_mul_right]
        have hlt : n.natAbs % e * q < 10 ^ k := by rw [hq]; exact Nat.mul_lt_mul_of_pos_right hrd hq0
        have ht := tail_pad e he k 7 (n.natAbs % e) (by omega) hrd (by rw [hq]; exact ⟨n.natAbs % e * q, by simp only [Nat.mul_left_comm]⟩) (fun i hi h => hmin i hi (Nat.Coprime.dvd_of_dvd_mul_left hcop h))
        rw [ht]
        have hx : n.natAbs % e * 10 ^ k / e = n.natAbs % e * q := by
          rw [hq, Nat.mul_left_comm, Nat.mul_div_cancel_left _ he]
        rw [hx]
        unfold pt
        rw [hs, ha, ← Int.ofNat_tdiv, ← Int.ofNat_tmod, hdiv, hmd]
        rw [Lib.itoa_nonneg, show (((10 ^ k : Nat) : Int) + ((n.natAbs % e * q : Nat) : Int)) = ((10 ^ k + n.natAbs % e * q : Nat) : Int) by omega, Lib.itoa_nonneg, dec_pow k _ hlt]
        rfl
    · rw [if_pos trivial, if_neg (fun h => hdv (hmod.1 h.2))]
      have := decA_miss n e 7 0 (fun j hj h => hdv (Nat.dvd_trans h (Nat.pow_dvd_pow 10 (by omega))))
      exact this
theorem pts_digits (r : Nat) (h : r < 100) : (Lib.itoa (100 + (r : Int))).drop 1 = Lib.decDigits (r / 10) ++ Lib.decDigits (r % 10) := by
  rw [show (100 + (r : Int)) = ((10 ^ 2 + r : Nat) : Int) by omega, Lib.itoa_nonneg, dec_pow 2 r (by omega), dec_small (show r / 10 < 10 by omega), dec_small (show r % 10 < 10 by omega)]
  simp [pad, show r / 10 % 10 = r / 10 by omega]
end Go.Proofs


set_option autoImplicit false
namespace Go.Proofs
open Go Go.Ab
set_option maxHeartbeats 1000000
set_option maxRecDepth 100000
variable {G : IH}
theorem f57 (n : Int) : FnOK Tryz.prog G 57 [di n] (ds (str (pts n))) := by
  refine FnOK.walk (orc := orc) (keep := []) follows Tryz.func57 rfl Tryz.call57 ?_
  refine of_eqH (b :=
    ((((decide (n < (-100000000 : Int)) || decide (n > (100000000 : Int))) = true) →
    (((ds ({ data := #[] })) : DV) = (ds (str (pts n))))) ∧
    (((decide (n < (-100000000 : Int)) || decide (n > (100000000 : Int))) = false) →
    (FnOK Tryz.prog G 87 [(di n)] (.tup [(ds (str (sg n))), (di ((↑(Int.natAbs n) : Int)))]) ∧
    (((R64 (↑(Int.natAbs n) : Int)) ∧
    (FnOK Tryz.prog G 88 [(di (Int.tdiv (↑(Int.natAbs n) : Int) (100 : Int)))] (ds (str (Lib.decDigits (Int.toNat (Int.tdiv (↑(Int.natAbs n) : Int) (100 : Int)))))) ∧
    ((ByteArray.size (str (sg n)) + ByteArray.size (str (Lib.decDigits (Int.toNat (Int.tdiv (↑(Int.natAbs n) : Int) (100 : Int))))) ≤ (9223372036854775807 : Nat)) ∧
    ((ByteArray.size (str (sg n) ++ str (Lib.decDigits (Int.toNat (Int.tdiv (↑(Int.natAbs n) : Int) (100 : Int))))) + ByteArray.size { data := #[(46 : UInt8)] } ≤ (9223372036854775807 : Nat)) ∧
    ((R64 (↑(Int.natAbs n) : Int)) ∧
    (FnOK Tryz.prog G 88 [(di (Int.tmod (Int.tdiv (↑(Int.natAbs n) : Int) (10 : Int)) (10 : Int)))] (ds (str (Lib.decDigits (Int.toNat (Int.tmod (Int.tdiv (↑(Int.natAbs n) : Int) (10 : Int)) (10 : Int)))))) ∧
    ((ByteArray.size (str (sg n) ++ str (Lib.decDigits (Int.toNat (Int.tdiv (↑(Int.natAbs n) : Int) (100 : Int)))) ++ { data := #[(46 : UInt8)] }) + ByteArray.size (str (Lib.decDigits (Int.toNat (Int.tmod (Int.tdiv (↑(Int.natAbs n) : Int) (10 : Int)) (10 : Int))))) ≤ (9223372036854775807 : Nat)) ∧
    (FnOK Tryz.prog G 88 [(di (Int.tmod (↑(Int.natAbs n) : Int) (10 : Int)))] (ds (str (Lib.decDigits (Int.toNat (Int.tmod (↑(Int.natAbs n) : Int) (10 : Int)))))) ∧
    (ByteArray.size (str (sg n) ++ str (Lib.decDigits (Int.toNat (Int.tdiv (↑(Int.natAbs n) : Int) (100 : Int)))) ++ { data := #[(46 : UInt8)] } ++ str (Lib.decDigits (Int.toNat (Int.tmod (Int.tdiv (↑(Int.natAbs n) : Int) (10 : Int)) (10 : Int))))) + ByteArray.size (str (Lib.decDigits (Int.toNat (Int.tmod (↑(Int.natAbs n) : Int) (10 : Int))))) ≤ (9223372036854775807 : Nat)))))))))) ∧
    (((ds (str (sg n) ++ str (Lib.decDigits (Int.toNat (Int.tdiv (↑(Int.natAbs n) : Int) (100 : Int)))) ++ { data := #[(46 : UInt8)] } ++ str (Lib.decDigits (Int.toNat (Int.tmod (Int.tdiv (↑(Int.natAbs n) : Int) (10 : Int)) (10 : Int)))) ++ str (Lib.decDigits (Int.toNat (Int.tmod (↑(Int.natAbs n) : Int) (10 : Int)))))) : DV) = (ds (str (pts n))))))))) (by kernel_rfl) ?_
  refine ⟨fun h => ?_, fun h => ?_⟩
  · simp at h
    simp only [pts]; rw [if_neg (by omega)]
  · simp at h
    have q1 : (n.natAbs : Int).tdiv 100 = ((n.natAbs / 100 : Nat) : Int) := by rw [Int.tdiv_eq_ediv_of_nonneg (by omega)]; omega
    have q2 : (n.natAbs : Int).tdiv 10 = ((n.natAbs / 10 : Nat) : Int) := by rw [Int.tdiv_eq_ediv_of_nonneg (by omega)]; omega
    have q3 : ((n.natAbs / 10 : Nat) : Int).tmod 10 = ((n.natAbs / 10 % 10 : Nat) : Int) := by rw [Int.tmod_eq_emod_of_nonneg (by omega)]; omega
    have q4 : (n.natAbs : Int).tmod 10 = ((n.natAbs % 10 : Nat) : Int) := by rw [Int.tmod_eq_emod_of_nonneg (by omega)]; omega
    have q5 : (n.natAbs : Int).tmod 100 = ((n.natAbs % 100 : Nat) : Int) := by rw [Int.tmod_eq_emod_of_nonneg (by omega)]; omega
    have l0 := sg_len n
    have l1 := dec_len ((n.natAbs / 100 : Nat) : Int) (by omega)
    have l2 := dec_len ((n.natAbs / 10 % 10 : Nat) : Int) (by omega)
    have l3 := dec_len ((n.natAbs % 10 : Nat) : Int) (by omega)
    simp only [str_app, str_size, List.length_append, List.length_cons, List.length_nil, q1, q2, q3, q4]
    refine ⟨f87 n ⟨by omega, by omega⟩, ⟨⟨by omega, by omega⟩, f88 _ (by omega) (by omega), by omega, by omega, ⟨by omega, by omega⟩, f88 _ (by omega) (by omega), by omega, f88 _ (by omega) (by omega), by omega⟩, ?_⟩
    simp only [pts]; rw [if_pos (by omega)]
    simp only [pt, q1, q5]
    rw [pts_digits _ (by omega), Lib.itoa_nonneg, show n.natAbs % 100 / 10 = n.natAbs / 10 % 10 by omega, show n.natAbs % 100 % 10 = n.natAbs % 10 by omega]
    simp only [Int.toNat_natCast, List.append_assoc, List.cons_append, List.nil_append]
def decS (n d : Int) (x : Nat × Int) : AS := ⟨regs 33 [(0, .d (fr n d)), (1, .box 1 0), (2, vs (str [])), (3, vb false), (4, vi x.2)], [(1, [vi n, vi d])]⟩
def decI (n d : Int) (x : Nat × Int) : Prop := 1 ≤ x.2 ∧ x.2 * 10 ^ x.1 = 10000000 ∧ decF n d = decA n d x.1 x.2
theorem f118 (hT : Tab G) (n d : Int) : FnOK Tryz.prog G 118 [fr n d] (sb (decF n d)) := by
  refine FnOK.walk (orc := orc) (keep := [0, 1, 2, 3, 4, 7, 9, 21, 27]) follows Tryz.func118 rfl Tryz.call118 ?_
  refine of_eqH (b :=
    (FnOK Tryz.prog G 43 [(.agg [(di n), (di d)])] (db (ok n d)) ∧
    ((((!ok n d) = true) →
    (((.tup [(ds ({ data := #[] })), (db false)]) : DV) = (sb (decF n d)))) ∧
    (((!ok n d) = false) →
    AWP Tryz.prog G [.code (cAt (bodyOf Tryz.f118) [1, 1, 0, 1, 0]), (.blk 0), .code (cAt (bodyOf Tryz.f118) [1, 1, 1])] ⟨regs 33 [(0, (.d (.agg [(di n), (di d)]))), (1, (.box 1 0)), (2, (vs ({ data := #[] }))), (3, (vb false)), (4, (vi 1)), (7, (vb (!ok n d)))], [(1, [(vi n), (vi d)])]⟩ (Ret Tryz.prog Tryz.f118 (sb (decF n d))))))) (by kernel_rfl) ?_
  refine ⟨f43 n d, fun h => ?_, fun h => ?_⟩
  · have h : ok n d = false := by simpa using h
    simp [sb, decF, h]
  · have h : ok n d = true := by simpa using h
    have hb := ok_spec h
    refine AWP.loop (c := cAt (bodyOf Tryz.f118) [1, 1, 0, 1, 0, 0]) (by kernel_rfl) (decS n d) (decI n d) (fun x => x.1) (7, 1) ?_ ⟨by simp, by simp, by simp [decF, h]⟩ ?_
    · refine of_eq (b :=
      (((((.d (.agg [(di n), (di d)])) : AV) = (.d (.agg [(di n), (di d)]))) ∧
      ((((.box 1 0) : AV) = (.box 1 0)) ∧
      ((((vs ({ data := #[] })) : AV) = (vs (str []))) ∧
      ((((vb false) : AV) = (vb false)) ∧
      ((((vi 1) : AV) = (vi 1)) ∧
      True))))) ∧
      ((((some [(vi n), (vi d)]) : (Option (List AV))) = (some [(vi n), (vi d)])) ∧
      True))) (by kernel_rfl) ?_
      exact ⟨⟨rfl, rfl, rfl, rfl, rfl, trivial⟩, rfl, trivial⟩
    · rintro ⟨k, p⟩ ⟨hp, hpk, hI⟩
      simp only at hp hpk hI
      refine walk (orc := orc) (keep := [0, 1, 2, 3, 4, 7, 9, 21, 27]) (cuts := []) (n := 1000) follows ?_
      refine of_eqH (b :=
        ((((decide (p ≤ (1000000 : Int))) = true) →
        ((d ≠ (0 : Int)) ∧
        ((((Int.tmod p d != (0 : Int)) = true) →
        ((I64 (p * (10 : Int))) ∧
        Again (decS n d) (decI n d) (fun x => Prod.fst x) ((k, p)) ⟨regs 33 [(0, (.d (.agg [(di n), (di d)]))), (1, (.box 1 0)), (2, (vs (str []))), (3, (vb false)), (4, (vi (p * (10 : Int)))), (9, (vb (decide (p ≤ (1000000 : Int))))), (21, (vb (Int.tmod p d != (0 : Int))))], [(1, [(vi n), (vi d)])]⟩)) ∧
        (((Int.tmod p d != (0 : Int)) = false) →
        ((((p == (1 : Int)) = true) →
        (FnOK Tryz.prog G 85 [(di n)] (ds (str (Lib.itoa n))) ∧
        (((.tup [(ds (str (Lib.itoa n))), (db true)]) : DV) = (sb (decF n d))))) ∧
        (((p == (1 : Int)) = false) →
        (((d ≠ (0 : Int)) ∧
        ((R64 p) ∧
        ((I64 (n * Int.tdiv p d)) ∧
        FnOK Tryz.prog G 86 [(di (n * Int.tdiv p d)), (di p)] (ds (str (pt (n * Int.tdiv p d) p)))))) ∧
        (((.tup [(ds (str (pt (n * Int.tdiv p d) p))), (db true)]) : DV) = (sb (decF n d)))))))))) ∧
        (((decide (p ≤ (1000000 : Int))) = false) →
        AWP Tryz.prog G [.code (cAt (bodyOf Tryz.f118) [1, 1, 1])] ⟨regs 33 [(0, (.d (.agg [(di n), (di d)]))), (1, (.box 1 0)), (2, (vs (str []))), (3, (vb false)), (4, (vi p)), (9, (vb (decide (p ≤ (1000000 : Int)))))], [(1, [(vi n), (vi d)])]⟩ (Ret Tryz.prog Tryz.f118 (sb (decF n d)))))) (by kernel_rfl) ?_
      have hp7 : p ≤ 10000000 := by
        have h1 : (1 : Int) ≤ 10 ^ k := by have := Nat.one_le_pow k 10 (by omega); exact_mod_cast this
        have h2 : p * 1 ≤ p * 10 ^ k := Int.mul_le_mul_of_nonneg_left h1 (by omega)
        omega
      refine ⟨fun h6 => ?_, fun h6 => ?_⟩
      · have h6 : p ≤ 1000000 := by simpa using h6
        obtain ⟨k, rfl⟩ : ∃ k', k = k' + 1 := by
          cases k with
          | zero => simp at hpk; omega
          | succ k => exact ⟨k, rfl⟩
        refine ⟨by omega, fun hm => ⟨⟨by omega, by omega⟩, Again.mk (k, p * 10) ?_ ⟨by simp only; omega, ?_, ?_⟩ (by simp)⟩, fun hm => ⟨fun h1 => ?_, fun h1 => ?_⟩⟩
        · refine of_eq (b :=
          (((((.d (.agg [(di n), (di d)])) : AV) = (.d (.agg [(di n), (di d)]))) ∧
          ((((.box 1 0) : AV) = (.box 1 0)) ∧
          ((((vs (str [])) : AV) = (vs (str []))) ∧
          ((((vb false) : AV) = (vb false)) ∧
          ((((vi (p * (10 : Int))) : AV) = (vi (p * (10 : Int)))) ∧
          True))))) ∧
          ((((some [(vi n), (vi d)]) : (Option (List AV))) = (some [(vi n), (vi d)])) ∧
          True))) (by kernel_rfl) ?_
          exact ⟨⟨rfl, rfl, rfl, rfl, rfl, trivial⟩, rfl, trivial⟩
        · simp only
          rw [← hpk, Int.pow_succ, Int.mul_comm (10 ^ k) 10, Int.mul_assoc]
        · have hm : p.tmod d ≠ 0 := by simpa using hm
          rw [hI, decA, if_neg hm, Int.mul_comm]
        · have hm : p.tmod d = 0 := by simpa using hm
          have h1 : p = 1 := by simpa using h1
          refine ⟨f85 hT n ⟨by omega, by omega⟩, ?_⟩
          rw [hI, decA, if_pos hm, if_pos h1]; rfl
        · have hm : p.tmod d = 0 := by simpa using hm
          have h1 : p ≠ 1 := by simpa using h1
          have hq0 : 0 ≤ p.tdiv d := Int.tdiv_nonneg (by omega) (by omega)
          have hq1 : p.tdiv d ≤ 1000000 := by
            rw [Int.tdiv_eq_ediv_of_nonneg (by omega)]
            have := Int.ediv_le_self d (show 0 ≤ p by omega); omega
          have hx1 : n * p.tdiv d ≤ 1000000000 * p.tdiv d := Int.mul_le_mul_of_nonneg_right (by omega) hq0
          have hx2 : -1000000000 * p.tdiv d ≤ n * p.tdiv d := Int.mul_le_mul_of_nonneg_right (by omega) hq0
          refine ⟨⟨by omega, ⟨by omega, by omega⟩, ⟨by omega, by omega⟩, f86 hT _ _ ⟨by omega, by omega⟩ (by omega) (by omega)⟩, ?_⟩
          rw [hI, decA, if_pos hm, if_neg h1]; rfl
      · have h6 : ¬ p ≤ 1000000 := by simpa using h6
        have hk0 : k = 0 := by
          cases k with
          | zero => rfl
          | succ k =>
            exfalso
            have h1 : (1 : Int) ≤ 10 ^ k := by have := Nat.one_le_pow k 10 (by omega); exact_mod_cast this
            have h2 : (p * 10) * 1 ≤ (p * 10) * 10 ^ k := Int.mul_le_mul_of_nonneg_left h1 (by omega)
            rw [Int.pow_succ, Int.mul_comm (10 ^ k) 10, ← Int.mul_assoc] at hpk
            omega
        subst hk0
        refine walk (orc := orc) (keep := []) (cuts := []) (n := 1000) follows ?_
        refine of_eqH (b :=
          (((.tup [(ds ({ data := #[] })), (db false)]) : DV) = (sb (decF n d)))) (by kernel_rfl) ?_
        rw [hI]; rfl
def tlS (n d : Int) (x : Nat × List UInt8 × Int) : AS := ⟨regs 54 [(0, .d (fr n d)), (1, .box 1 0), (2, vs (str [])), (3, vb false), (6, vs (str x.2.1)), (7, vi x.2.2)], [(1, [vi n, vi d])]⟩
def tlI (d : Int) (T : List UInt8) (x : Nat × List UInt8 × Int) : Prop := 0 ≤ x.2.2 ∧ x.2.2 < d ∧ T = x.2.1 ++ tailB d.toNat x.1 x.2.2.toNat ∧ x.2.1.length + x.1 ≤ 29 ∧ d.toNat ∣ x.2.2.toNat * 10 ^ x.1
theorem tail_zero (d k : Nat) : tailB d k 0 = [] := by cases k <;> rfl
theorem f114 (n d : Int) : FnOK Tryz.prog G 114 [fr n d] (sb (decB n d)) := by
  refine FnOK.walk (orc := orc) (keep := [0, 1, 2, 3, 4, 5, 6, 7, 16, 35, 39]) follows Tryz.func114 rfl Tryz.call114 ?_
  have round : ∀ T, 1 ≤ d → d ≤ 1000000 → decB n d = (T, true) → ∀ x, tlI d T x → AWP Tryz.prog G [.code (cAt (bodyOf Tryz.f114) [1, 1, 1, 1, 1, 0, 0, 0])] (tlS n d x) (RoundQ Tryz.prog G [(.blk 0), .code (cAt (bodyOf Tryz.f114) [1, 1, 1, 1, 1, 1])] (Ret Tryz.prog Tryz.f114 (sb (decB n d))) (tlS n d) (tlI d T) (fun x => x.1) x) := by
    rintro T d1 d2 hT ⟨f, l, r⟩ ⟨hr0, hrd, hI, hl, hdv⟩
    simp only at hr0 hrd hI hl hdv
    refine walk (orc := orc) (keep := [0, 1, 2, 3, 4, 5, 6, 7, 16, 35, 39]) (cuts := []) (n := 1000) follows ?_
    refine of_eqH (b :=
      ((((decide (r > (0 : Int))) = true) →
      ((I64 ((10 : Int) * r)) ∧
      (((d ≠ (0 : Int)) ∧
      ((R64 ((10 : Int) * r)) ∧
      (FnOK Tryz.prog G 88 [(di (Int.tdiv ((10 : Int) * r) d))] (ds (str (Lib.decDigits (Int.toNat (Int.tdiv ((10 : Int) * r) d))))) ∧
      (ByteArray.size (str l) + ByteArray.size (str (Lib.decDigits (Int.toNat (Int.tdiv ((10 : Int) * r) d)))) ≤ (9223372036854775807 : Nat))))) ∧
      ((d ≠ (0 : Int)) ∧
      Again (tlS n d) (tlI d T) (fun x => Prod.fst x) ((f, l, r)) ⟨regs 54 [(0, (.d (.agg [(di n), (di d)]))), (1, (.box 1 0)), (2, (vs (str []))), (3, (vb false)), (6, (vs (str l ++ str (Lib.decDigits (Int.toNat (Int.tdiv ((10 : Int) * r) d)))))), (7, (vi (Int.tmod ((10 : Int) * r) d))), (39, (vb (decide (r > (0 : Int)))))], [(1, [(vi n), (vi d)])]⟩)))) ∧
      (((decide (r > (0 : Int))) = false) →
      AWP Tryz.prog G [.code (cAt (bodyOf Tryz.f114) [1, 1, 1, 1, 1, 1])] ⟨regs 54 [(0, (.d (.agg [(di n), (di d)]))), (1, (.box 1 0)), (2, (vs (str []))), (3, (vb false)), (6, (vs (str l))), (7, (vi r)), (39, (vb (decide (r > (0 : Int)))))], [(1, [(vi n), (vi d)])]⟩ (Ret Tryz.prog Tryz.f114 (sb (decB n d)))))) (by kernel_rfl) ?_
    refine ⟨fun h => ?_, fun h => ?_⟩
    · have h : 0 < r := by simpa using h
      obtain ⟨e, rfl⟩ := Int.eq_ofNat_of_zero_le (show 0 ≤ d by omega)
      obtain ⟨s, rfl⟩ := Int.eq_ofNat_of_zero_le hr0
      simp only [Int.toNat_natCast] at hI hdv
      obtain ⟨f, rfl⟩ : ∃ f', f = f' + 1 := by
        cases f with
        | zero =>
          exfalso
          have := Nat.eq_zero_of_dvd_of_lt (by simpa using hdv) (show s < e by omega)
          omega
        | succ f => exact ⟨f, rfl⟩
      have e1 : ((10 : Int) * (s : Int)).tdiv e = ((10 * s / e : Nat) : Int) := by
        rw [show (10 : Int) * (s : Int) = ((10 * s : Nat) : Int) by omega, ← Int.ofNat_tdiv]
      have e2 : ((10 : Int) * (s : Int)).tmod e = ((10 * s % e : Nat) : Int) := by
        rw [show (10 : Int) * (s : Int) = ((10 * s : Nat) : Int) by omega, ← Int.ofNat_tmod]
      have hq : 10 * s / e < 10 := by rw [Nat.div_lt_iff_lt_mul (by omega)]; omega
      have hml : 10 * s % e < e := Nat.mod_lt _ (by omega)
      have hdl : (Lib.decDigits (10 * s / e)).length = 1 := by rw [dec_small hq]; rfl
      simp only [e1, e2, str_app, str_size, Int.toNat_natCast, hdl]
      refine ⟨⟨by omega, by omega⟩, ⟨by omega, ⟨by omega, by omega⟩, f88 _ (Int.natCast_nonneg _) (by omega), by omega⟩, by omega, Again.mk (f, l ++ Lib.decDigits (10 * s / e), ((10 * s % e : Nat) : Int)) ?_ ⟨by simp only; omega, by simp only; omega, ?_, ?_, ?_⟩ (by simp)⟩
      · refine of_eq (b :=
        (((((.d (.agg [(di n), (di ((↑e : Int)))])) : AV) = (.d (.agg [(di n), (di ((↑e : Int)))]))) ∧
        ((((.box 1 0) : AV) = (.box 1 0)) ∧
        ((((vs (str [])) : AV) = (vs (str []))) ∧
        ((((vb false) : AV) = (vb false)) ∧
        ((((vs (str (l ++ Lib.decDigits ((10 : Nat) * s / e)))) : AV) = (vs (str (l ++ Lib.decDigits ((10 : Nat) * s / e))))) ∧
        ((((vi ((↑((10 : Nat) * s % e) : Int))) : AV) = (vi ((↑((10 : Nat) * s % e) : Int)))) ∧
        True)))))) ∧
        ((((some [(vi n), (vi ((↑e : Int)))]) : (Option (List AV))) = (some [(vi n), (vi ((↑e : Int)))])) ∧
        True))) (by kernel_rfl) ?_
        exact ⟨⟨rfl, rfl, rfl, rfl, rfl, rfl, trivial⟩, rfl, trivial⟩
      · simp only [Int.toNat_natCast]
        rw [hI, tailB, if_neg (by omega), List.append_assoc]
      · simp only [List.length_append, hdl]; omega
      · simp only [Int.toNat_natCast]
        have hsplit := Nat.div_add_mod (10 * s) e
        have e3 : s * 10 ^ (f + 1) = e * (10 * s / e * 10 ^ f) + (10 * s % e) * 10 ^ f := by
          rw [← Nat.mul_assoc, ← Nat.add_mul, hsplit, Nat.pow_succ, Nat.mul_comm (10 ^ f) 10, ← Nat.mul_assoc, Nat.mul_comm s 10]
        rw [e3] at hdv
        exact (Nat.dvd_add_right (Nat.dvd_mul_right ..)).1 hdv
    · have h : r = 0 := by have : ¬ 0 < r := by simpa using h
                           omega
      subst h
      refine walk (orc := orc) (keep := []) (cuts := []) (n := 1000) follows ?_
      refine of_eqH (b :=
        (((.tup [(ds (str l)), (db true)]) : DV) = (sb (decB n d)))) (by kernel_rfl) ?_
      rw [hT, hI]
      simp [sb, tail_zero]
  refine of_eqH (b :=
    ((FnOK Tryz.prog G 36 [(.agg [(di n), (di d)])] (db (ok n d)) ∧
    (((!!ok n d) = true) →
    (d ≠ (0 : Int)))) ∧
    ((((!ok n d || Int.tmod (1000000 : Int) d != (0 : Int)) = true) →
    (((.tup [(ds ({ data := #[] })), (db false)]) : DV) = (sb (decB n d)))) ∧
    (((!ok n d || Int.tmod (1000000 : Int) d != (0 : Int)) = false) →
    (FnOK Tryz.prog G 87 [(di n)] (.tup [(ds (str (sg n))), (di ((↑(Int.natAbs n) : Int)))]) ∧
    (((d ≠ (0 : Int)) ∧
    ((R64 (↑(Int.natAbs n) : Int)) ∧
    (FnOK Tryz.prog G 88 [(di (Int.tdiv (↑(Int.natAbs n) : Int) d))] (ds (str (Lib.decDigits (Int.toNat (Int.tdiv (↑(Int.natAbs n) : Int) d))))) ∧
    ((ByteArray.size (str (sg n)) + ByteArray.size (str (Lib.decDigits (Int.toNat (Int.tdiv (↑(Int.natAbs n) : Int) d)))) ≤ (9223372036854775807 : Nat)) ∧
    (d ≠ (0 : Int)))))) ∧
    ((((decide (Int.tmod (↑(Int.natAbs n) : Int) d > (0 : Int))) = true) →
    ((ByteArray.size (str (sg n) ++ str (Lib.decDigits (Int.toNat (Int.tdiv (↑(Int.natAbs n) : Int) d)))) + ByteArray.size { data := #[(46 : UInt8)] } ≤ (9223372036854775807 : Nat)) ∧
    AWP Tryz.prog G [.code (cAt (bodyOf Tryz.f114) [1, 1, 1, 1, 1, 0, 0]), (.blk 0), .code (cAt (bodyOf Tryz.f114) [1, 1, 1, 1, 1, 1])] ⟨regs 54 [(0, (.d (.agg [(di n), (di d)]))), (1, (.box 1 0)), (2, (vs ({ data := #[] }))), (3, (vb false)), (4, (vs (str (sg n)))), (5, (vi ((↑(Int.natAbs n) : Int)))), (6, (vs (str (sg n) ++ str (Lib.decDigits (Int.toNat (Int.tdiv (↑(Int.natAbs n) : Int) d))) ++ { data := #[(46 : UInt8)] }))), (7, (vi (Int.tmod (↑(Int.natAbs n) : Int) d))), (16, (vb (!ok n d || Int.tmod (1000000 : Int) d != (0 : Int)))), (35, (vb (decide (Int.tmod (↑(Int.natAbs n) : Int) d > (0 : Int)))))], [(1, [(vi n), (vi d)])]⟩ (Ret Tryz.prog Tryz.f114 (sb (decB n d))))) ∧
    (((decide (Int.tmod (↑(Int.natAbs n) : Int) d > (0 : Int))) = false) →
    AWP Tryz.prog G [.code (cAt (bodyOf Tryz.f114) [1, 1, 1, 1, 1, 0, 0]), (.blk 0), .code (cAt (bodyOf Tryz.f114) [1, 1, 1, 1, 1, 1])] ⟨regs 54 [(0, (.d (.agg [(di n), (di d)]))), (1, (.box 1 0)), (2, (vs ({ data := #[] }))), (3, (vb false)), (4, (vs (str (sg n)))), (5, (vi ((↑(Int.natAbs n) : Int)))), (6, (vs (str (sg n) ++ str (Lib.decDigits (Int.toNat (Int.tdiv (↑(Int.natAbs n) : Int) d)))))), (7, (vi (Int.tmod (↑(Int.natAbs n) : Int) d))), (16, (vb (!ok n d || Int.tmod (1000000 : Int) d != (0 : Int)))), (35, (vb (decide (Int.tmod (↑(Int.natAbs n) : Int) d > (0 : Int)))))], [(1, [(vi n), (vi d)])]⟩ (Ret Tryz.prog Tryz.f114 (sb (decB n d))))))))))) (by kernel_rfl) ?_
  refine ⟨⟨f36 n d, fun h => ?_⟩, fun h => ?_, fun h => ?_⟩
  · have h : ok n d = true := by simpa using h
    have := ok_spec h
    omega
  · have h : ¬ (ok n d = true ∧ (1000000 : Int).tmod d = 0) := by
      intro hh; simp [hh.1, hh.2] at h
    unfold decB
    rw [if_neg h]; rfl
  · have h : ok n d = true ∧ (1000000 : Int).tmod d = 0 := by simpa using h
    obtain ⟨d1, d2, n1, n2, -⟩ := ok_spec h.1
    obtain ⟨e, rfl⟩ := Int.eq_ofNat_of_zero_le (show 0 ≤ d by omega)
    have e1 : (n.natAbs : Int).tdiv e = ((n.natAbs / e : Nat) : Int) := by rw [← Int.ofNat_tdiv]
    have e2 : (n.natAbs : Int).tmod e = ((n.natAbs % e : Nat) : Int) := by rw [← Int.ofNat_tmod]
    have hml : n.natAbs % e < e := Nat.mod_lt _ (by omega)
    have hdv : e ∣ 10 ^ 6 := by
      have := h.2
      rw [show (1000000 : Int) = ((10 ^ 6 : Nat) : Int) by rfl, ← Int.ofNat_tmod] at this
      exact Nat.dvd_of_mod_eq_zero (by omega)
    have hdv' : e ∣ n.natAbs % e * 10 ^ 7 := Nat.dvd_trans hdv (Nat.dvd_trans (Nat.pow_dvd_pow 10 (by omega)) (Nat.dvd_mul_left ..))
    have hB : decB n e = (sg n ++ (Lib.decDigits (n.natAbs / e) ++ (if n.natAbs % e = 0 then [] else 46 :: tailB e 7 (n.natAbs % e))), true) := by
      unfold decB; rw [if_pos h]; rfl
    have l0 := sg_len n
    have hqle : n.natAbs / e ≤ n.natAbs := Nat.div_le_self ..
    have l1 := dec_len ((n.natAbs / e : Nat) : Int) (by omega)
    simp only [Int.toNat_natCast] at l1
    simp only [e1, e2, str_app, str_size, Int.toNat_natCast, List.length_append, List.length_cons, List.length_nil]
    refine ⟨f87 n ⟨by omega, by omega⟩, ⟨by omega, ⟨by omega, by omega⟩, f88 _ (Int.natCast_nonneg _) (by omega), by omega, by omega⟩, fun hr => ⟨by omega, ?_⟩, fun hr => ?_⟩
    · have hr : n.natAbs % e ≠ 0 := by have : 0 < ((n.natAbs % e : Nat) : Int) := by simpa using hr
                                       omega
      refine AWP.loop (c := cAt (bodyOf Tryz.f114) [1, 1, 1, 1, 1, 0, 0, 0]) (by kernel_rfl) (tlS n e) (tlI e _) (fun x => x.1) (7, sg n ++ Lib.decDigits (n.natAbs / e) ++ [46], ((n.natAbs % e : Nat) : Int)) ?_ ⟨by simp only; omega, by simp only; omega, ?_, ?_, ?_⟩ (round _ d1 d2 hB)
      · refine of_eq (b :=
        (((((.d (.agg [(di n), (di ((↑e : Int)))])) : AV) = (.d (.agg [(di n), (di ((↑e : Int)))]))) ∧
        ((((.box 1 0) : AV) = (.box 1 0)) ∧
        ((((vs ({ data := #[] })) : AV) = (vs (str []))) ∧
        ((((vb false) : AV) = (vb false)) ∧
        ((((vs (str (sg n ++ Lib.decDigits (Int.natAbs n / e) ++ [(46 : UInt8)]))) : AV) = (vs (str (sg n ++ Lib.decDigits (Int.natAbs n / e) ++ [(46 : UInt8)])))) ∧
        ((((vi ((↑(Int.natAbs n % e) : Int))) : AV) = (vi ((↑(Int.natAbs n % e) : Int)))) ∧
        True)))))) ∧
        ((((some [(vi n), (vi ((↑e : Int)))]) : (Option (List AV))) = (some [(vi n), (vi ((↑e : Int)))])) ∧
        True))) (by kernel_rfl) ?_
        exact ⟨⟨rfl, rfl, rfl, rfl, rfl, rfl, trivial⟩, rfl, trivial⟩
      · simp only [Int.toNat_natCast, if_neg hr]; simp
      · simp only [List.length_append, List.length_cons, List.length_nil]; omega
      · simp only [Int.toNat_natCast]; exact hdv'
    · have hr : n.natAbs % e = 0 := by have : ¬ 0 < ((n.natAbs % e : Nat) : Int) := by simpa using hr
                                       omega
      refine AWP.loop (c := cAt (bodyOf Tryz.f114) [1, 1, 1, 1, 1, 0, 0, 0]) (by kernel_rfl) (tlS n e) (tlI e _) (fun x => x.1) (7, sg n ++ Lib.decDigits (n.natAbs / e), ((n.natAbs % e : Nat) : Int)) ?_ ⟨by simp only; omega, by simp only; omega, ?_, ?_, ?_⟩ (round _ d1 d2 hB)
      · refine of_eq (b :=
        (((((.d (.agg [(di n), (di ((↑e : Int)))])) : AV) = (.d (.agg [(di n), (di ((↑e : Int)))]))) ∧
        ((((.box 1 0) : AV) = (.box 1 0)) ∧
        ((((vs ({ data := #[] })) : AV) = (vs (str []))) ∧
        ((((vb false) : AV) = (vb false)) ∧
        ((((vs (str (sg n ++ Lib.decDigits (Int.natAbs n / e)))) : AV) = (vs (str (sg n ++ Lib.decDigits (Int.natAbs n / e))))) ∧
        ((((vi ((↑(Int.natAbs n % e) : Int))) : AV) = (vi ((↑(Int.natAbs n % e) : Int)))) ∧
        True)))))) ∧
        ((((some [(vi n), (vi ((↑e : Int)))]) : (Option (List AV))) = (some [(vi n), (vi ((↑e : Int)))])) ∧
        True))) (by kernel_rfl) ?_
        exact ⟨⟨rfl, rfl, rfl, rfl, rfl, rfl, trivial⟩, rfl, trivial⟩
      · simp only [Int.toNat_natCast, hr, tail_zero]; simp
      · simp only [List.length_append]; omega
      · simp only [Int.toNat_natCast]; exact hdv'
end Go.Proofs
