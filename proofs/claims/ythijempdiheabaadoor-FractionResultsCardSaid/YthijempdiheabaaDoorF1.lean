import Derived.Test.YthijempdiheabaaDoorAb15
import Derived.Test.YthijempdiheabaaDoorFb
set_option autoImplicit false
namespace Go.Proofs
open Go Go.Ab
set_option maxHeartbeats 1000000
set_option maxRecDepth 100000
variable {G : IH}
theorem gcd_step {x y : Int} (hx : 0 ≤ x) (hy : 0 ≤ y) : Int.gcd y (x.tmod y) = Int.gcd x y := by
  obtain ⟨a, rfl⟩ := Int.eq_ofNat_of_zero_le hx
  obtain ⟨b, rfl⟩ := Int.eq_ofNat_of_zero_le hy
  rw [← Int.ofNat_tmod]
  simp only [Int.gcd_natCast_natCast]
  rw [Nat.gcd_comm b, ← Nat.gcd_rec, Nat.gcd_comm]
theorem f49 (n : Int) (h0 : -9223372036854775807 ≤ n) (h1 : n ≤ 9223372036854775807) : FnOK Tryd.prog G 49 [di n] (di (n.natAbs : Int)) := by
  refine FnOK.walk (orc := orc) (keep := []) follows Tryd.func49 rfl Tryd.call49 ?_
  refine of_eqH (b :=
    ((R64 n) ∧
    (((.con (.int .i64 (if -n > n then -n else n))) : DV) = (di (↑(Int.natAbs n) : Int))))) (by kernel_rfl) ?_
  refine ⟨⟨h0, h1⟩, congrArg di ?_⟩
  split <;> omega
def gcdI (a b : Int) (x : Int × Int) : Prop := 0 ≤ x.1 ∧ 0 ≤ x.2 ∧ Int.gcd x.1 x.2 = Int.gcd a b
def gcdM (x : Int × Int) : Nat := x.2.toNat
theorem tmod_bd {x y : Int} (hx : 0 ≤ x) (hy : 0 < y) : 0 ≤ x.tmod y ∧ x.tmod y < y := by
  rw [Int.tmod_eq_emod_of_nonneg hx]
  exact ⟨Int.emod_nonneg _ (by omega), Int.emod_lt_of_pos _ hy⟩
def gcdS (x : Int × Int) : AS := ⟨regs 12 [(0, vi x.1), (1, vi x.2)], []⟩
theorem f48 (a b : Int) (ha : 0 ≤ a) (hb : 0 ≤ b) : FnOK Tryd.prog G 48 [di a, di b] (di (Int.gcd a b)) := by
  refine FnOK.walk (orc := orc) (keep := []) follows Tryd.func48 rfl Tryd.call48 ?_
  refine of_eqH (b :=
    AWP Tryd.prog G [.code (cAt (bodyOf Tryd.f48) [1, 0, 0]), (.blk ((0 : Nat))), .code (cAt (bodyOf Tryd.f48) [1, 1])] ⟨[(.d (.con (.int .i64 a))), (.d (.con (.int .i64 b))), .any, .any, (.d (.con (.int .i64 ((0 : Int))))), .any, .any, .any, .any, .any, .any, .any], []⟩ (Ret Tryd.prog Tryd.f48 (di (↑(Int.gcd a b) : Int)))) (by kernel_rfl) ?_
  refine AWP.loop (c := cAt (bodyOf Tryd.f48) [1, 0, 0, 0]) (by kernel_rfl) gcdS (gcdI a b) gcdM (a, b) ?_ ⟨ha, hb, rfl⟩ ?_
  · refine of_eq (b :=
    (((((.d (.con (.int .i64 a))) : AV) = (.d (.con (.int .i64 a)))) ∧
    ((((.d (.con (.int .i64 b))) : AV) = (.d (.con (.int .i64 b)))) ∧
    True)) ∧
    True)) (by kernel_rfl) ?_
    exact ⟨⟨rfl, rfl, trivial⟩, trivial⟩
  · rintro ⟨x, y⟩ ⟨hx, hy, hg⟩
    simp only at hx hy hg
    refine walk (orc := orc) (keep := []) (cuts := []) (n := 1000) follows ?_
    refine of_eqH (b :=
      ((((decide (y > (0 : Int))) = true) →
      ((y ≠ (0 : Int)) ∧
      Again gcdS (gcdI a b) gcdM ((x, y)) ⟨[(.d (.con (.int .i64 y))), (.d (.con (.int .i64 (Int.tmod x y)))), .any, .any, .any, (.d (.con (.int .i64 y))), (.d (.con (.bool (decide (y > (0 : Int)))))), (.d (.con (.int .i64 y))), (.d (.con (.int .i64 x))), (.d (.con (.int .i64 y))), (.d (.con (.int .i64 (Int.tmod x y)))), .any], []⟩)) ∧
      (((decide (y > (0 : Int))) = false) →
      AWP Tryd.prog G [.code (cAt (bodyOf Tryd.f48) [1, 1])] ⟨[(.d (.con (.int .i64 x))), (.d (.con (.int .i64 y))), .any, .any, .any, (.d (.con (.int .i64 y))), (.d (.con (.bool (decide (y > (0 : Int)))))), .any, .any, .any, .any, .any], []⟩ (Ret Tryd.prog Tryd.f48 (di (↑(Int.gcd a b) : Int)))))) (by kernel_rfl) ?_
    refine ⟨fun h => ?_, fun h => ?_⟩
    · have hy' : 0 < y := by simpa using h
      have hb := tmod_bd hx hy'
      refine ⟨by omega, Again.mk (y, x.tmod y) ?_ ⟨hy, hb.1, by rw [← hg]; exact gcd_step hx hy⟩ (by simp only [gcdM]; omega)⟩
      refine of_eq (b :=
        (((((.d (.con (.int .i64 y))) : AV) = (.d (.con (.int .i64 y)))) ∧
        ((((.d (.con (.int .i64 (Int.tmod x y)))) : AV) = (.d (.con (.int .i64 (Int.tmod x y))))) ∧
        True)) ∧
        True)) (by kernel_rfl) ?_
      exact ⟨⟨rfl, rfl, trivial⟩, trivial⟩
    · refine walk (orc := orc) (keep := []) (cuts := []) (n := 1000) follows ?_
      refine of_eqH (b :=
        (((.con (.int .i64 x)) : DV) = (di (↑(Int.gcd a b) : Int)))) (by kernel_rfl) ?_
      have : y = 0 := by simp at h; omega
      subst this
      rw [← hg]; simp; omega
def gcdS' (x : Int × Int) : AS := ⟨regs 16 [(0, vi x.1), (1, vi x.2)], []⟩
theorem f50 (a b : Int) (h0 : -9223372036854775807 ≤ a) (h1 : a ≤ 9223372036854775807) (hb : 0 ≤ b) : FnOK Tryd.prog G 50 [di a, di b] (di (Int.gcd a b)) := by
  refine FnOK.walk (orc := orc) (keep := []) follows Tryd.func50 rfl Tryd.call50 ?_
  have round : ∀ x, gcdI a b x → AWP Tryd.prog G [.code (cAt (bodyOf Tryd.f50) [1, 1, 0, 0, 0])] (gcdS' x) (RoundQ Tryd.prog G [.blk 0, .code (cAt (bodyOf Tryd.f50) [1, 1, 1])] (Ret Tryd.prog Tryd.f50 (di (Int.gcd a b))) gcdS' (gcdI a b) gcdM x) := by
    rintro ⟨x, y⟩ ⟨hx, hy, hg⟩
    simp only at hx hy hg
    refine walk (orc := orc) (keep := []) (cuts := []) (n := 1000) follows ?_
    refine of_eqH (b :=
      ((((decide (y > (0 : Int))) = true) →
      ((y ≠ (0 : Int)) ∧
      Again gcdS' (gcdI a b) gcdM ((x, y)) ⟨[(.d (.con (.int .i64 y))), (.d (.con (.int .i64 (Int.tmod x y)))), .any, .any, .any, .any, .any, .any, .any, (.d (.con (.int .i64 y))), (.d (.con (.bool (decide (y > (0 : Int)))))), (.d (.con (.int .i64 y))), (.d (.con (.int .i64 x))), (.d (.con (.int .i64 y))), (.d (.con (.int .i64 (Int.tmod x y)))), .any], []⟩)) ∧
      (((decide (y > (0 : Int))) = false) →
      AWP Tryd.prog G [.code (cAt (bodyOf Tryd.f50) [1, 1, 1])] ⟨[(.d (.con (.int .i64 x))), (.d (.con (.int .i64 y))), .any, .any, .any, .any, .any, .any, .any, (.d (.con (.int .i64 y))), (.d (.con (.bool (decide (y > (0 : Int)))))), .any, .any, .any, .any, .any], []⟩ (Ret Tryd.prog Tryd.f50 (di (↑(Int.gcd a b) : Int)))))) (by kernel_rfl) ?_
    refine ⟨fun h => ?_, fun h => ?_⟩
    · have hy' : 0 < y := by simpa using h
      have hb := tmod_bd hx hy'
      refine ⟨by omega, Again.mk (y, x.tmod y) ?_ ⟨hy, hb.1, by rw [← hg]; exact gcd_step hx hy⟩ (by simp only [gcdM]; omega)⟩
      refine of_eq (b :=
        (((((.d (.con (.int .i64 y))) : AV) = (.d (.con (.int .i64 y)))) ∧
        ((((.d (.con (.int .i64 (Int.tmod x y)))) : AV) = (.d (.con (.int .i64 (Int.tmod x y))))) ∧
        True)) ∧
        True)) (by kernel_rfl) ?_
      exact ⟨⟨rfl, rfl, trivial⟩, trivial⟩
    · refine walk (orc := orc) (keep := []) (cuts := []) (n := 1000) follows ?_
      refine of_eqH (b :=
        (((.con (.int .i64 x)) : DV) = (di (↑(Int.gcd a b) : Int)))) (by kernel_rfl) ?_
      have : y = 0 := by simp at h; omega
      subst this
      rw [← hg]; simp; omega
  refine of_eqH (b :=
    ((((decide (a < (0 : Int))) = true) →
    ((R64 a) ∧
    AWP Tryd.prog G [.code (cAt (bodyOf Tryd.f50) [1, 1, 0, 0]), (.blk ((0 : Nat))), .code (cAt (bodyOf Tryd.f50) [1, 1, 1])] ⟨[(.d (.con (.int .i64 (-a)))), (.d (.con (.int .i64 b))), .any, .any, (.d (.con (.int .i64 ((0 : Int))))), (.d (.con (.int .i64 a))), (.d (.con (.bool (decide (a < (0 : Int)))))), (.d (.con (.int .i64 a))), (.d (.con (.int .i64 (-a)))), .any, .any, .any, .any, .any, .any, .any], []⟩ (Ret Tryd.prog Tryd.f50 (di (↑(Int.gcd a b) : Int))))) ∧
    (((decide (a < (0 : Int))) = false) →
    AWP Tryd.prog G [.code (cAt (bodyOf Tryd.f50) [1, 1, 0, 0]), (.blk ((0 : Nat))), .code (cAt (bodyOf Tryd.f50) [1, 1, 1])] ⟨[(.d (.con (.int .i64 a))), (.d (.con (.int .i64 b))), .any, .any, (.d (.con (.int .i64 ((0 : Int))))), (.d (.con (.int .i64 a))), (.d (.con (.bool (decide (a < (0 : Int)))))), .any, .any, .any, .any, .any, .any, .any, .any, .any], []⟩ (Ret Tryd.prog Tryd.f50 (di (↑(Int.gcd a b) : Int)))))) (by kernel_rfl) ?_
  refine ⟨fun h => ⟨⟨h0, h1⟩, ?_⟩, fun h => ?_⟩
  · have ha : a < 0 := by simpa using h
    refine AWP.loop (c := cAt (bodyOf Tryd.f50) [1, 1, 0, 0, 0]) (by kernel_rfl) gcdS' (gcdI a b) gcdM (-a, b) ?_ ⟨by simp only; omega, hb, by simp⟩ round
    refine of_eq (b :=
      (((((.d (.con (.int .i64 (-a)))) : AV) = (.d (.con (.int .i64 (-a))))) ∧
      ((((.d (.con (.int .i64 b))) : AV) = (.d (.con (.int .i64 b)))) ∧
      True)) ∧
      True)) (by kernel_rfl) ?_
    exact ⟨⟨rfl, rfl, trivial⟩, trivial⟩
  · have ha : ¬ a < 0 := by simpa using h
    refine AWP.loop (c := cAt (bodyOf Tryd.f50) [1, 1, 0, 0, 0]) (by kernel_rfl) gcdS' (gcdI a b) gcdM (a, b) ?_ ⟨by simp only; omega, hb, rfl⟩ round
    refine of_eq (b :=
      (((((.d (.con (.int .i64 a))) : AV) = (.d (.con (.int .i64 a)))) ∧
      ((((.d (.con (.int .i64 b))) : AV) = (.d (.con (.int .i64 b)))) ∧
      True)) ∧
      True)) (by kernel_rfl) ?_
    exact ⟨⟨rfl, rfl, trivial⟩, trivial⟩
theorem gcd_abs (n d : Int) : Int.gcd (n.natAbs : Int) d = Int.gcd n d := by simp [Int.gcd]
theorem f15 (n d : Int) : FnOK Tryd.prog G 15 [fr n d] (db (ok n d)) := by
  refine FnOK.walk (orc := orc) (keep := []) follows Tryd.func15 rfl Tryd.call15 ?_
  refine of_eqH (b :=
    (((((decide (d ≥ (1 : Int)) && decide (d ≤ (1000000 : Int)) && decide (n ≥ (-1000000000 : Int)) && decide (n ≤ (1000000000 : Int))) = true) →
    FnOK Tryd.prog G ((49 : Nat)) [(.con (.int .i64 n))] (.con (.int .i64 ((↑(Int.natAbs n) : Int))))) ∧
    (((decide (d ≥ (1 : Int)) && decide (d ≤ (1000000 : Int)) && decide (n ≥ (-1000000000 : Int)) && decide (n ≤ (1000000000 : Int))) = true) →
    FnOK Tryd.prog G ((48 : Nat)) [(.con (.int .i64 ((↑(Int.natAbs n) : Int)))), (.con (.int .i64 d))] (.con (.int .i64 ((↑(Int.gcd (↑(Int.natAbs n) : Int) d) : Int)))))) ∧
    (((.con (.bool (decide (d ≥ (1 : Int)) && decide (d ≤ (1000000 : Int)) && decide (n ≥ (-1000000000 : Int)) && decide (n ≤ (1000000000 : Int)) && (↑(Int.gcd (↑(Int.natAbs n) : Int) d) : Int) == (1 : Int)))) : DV) = (db (ok n d))))) (by kernel_rfl) ?_
  refine ⟨⟨fun h => ?_, fun h => ?_⟩, congrArg db ?_⟩
  · simp at h; exact f49 n (by omega) (by omega)
  · simp at h; exact f48 _ d (by omega) (by omega)
  · rw [gcd_abs, Bool.eq_iff_iff]; simp [ok]; omega
theorem f16 (n d : Int) : FnOK Tryd.prog G 16 [fr n d] (db (ok n d)) := by
  refine FnOK.walk (orc := orc) (keep := []) follows Tryd.func16 rfl Tryd.call16 ?_
  refine of_eqH (b :=
    ((((decide (d ≥ (1 : Int)) && decide (d ≤ (1000000 : Int)) && decide (n ≥ (-1000000000 : Int)) && decide (n ≤ (1000000000 : Int))) = true) →
    FnOK Tryd.prog G ((50 : Nat)) [(.con (.int .i64 n)), (.con (.int .i64 d))] (.con (.int .i64 ((↑(Int.gcd n d) : Int))))) ∧
    (((.con (.bool (decide (d ≥ (1 : Int)) && decide (d ≤ (1000000 : Int)) && decide (n ≥ (-1000000000 : Int)) && decide (n ≤ (1000000000 : Int)) && (↑(Int.gcd n d) : Int) == (1 : Int)))) : DV) = (db (ok n d))))) (by kernel_rfl) ?_
  refine ⟨fun h => ?_, congrArg db ?_⟩
  · simp at h; exact f50 n d (by omega) (by omega) (by omega)
  · rw [Bool.eq_iff_iff]; simp [ok]; omega
theorem gcd_pos {n d : Int} (hd : d ≠ 0) : Int.gcd n d ≠ 0 := by
  intro h; rw [Int.gcd_eq_zero_iff] at h; exact hd h.2
theorem f42 (n d : Int) (hd : d ≠ 0) (hn : R64 n) (hd' : R64 d) : FnOK Tryd.prog G 42 [di n, di d] (fe (red n d)) := by
  obtain ⟨n0, n1⟩ := hn
  obtain ⟨d0, d1⟩ := hd'
  refine FnOK.walk (orc := orc) (keep := []) follows Tryd.func42 rfl Tryd.call42 ?_
  refine of_eqH (b :=
    ((((decide (d < (0 : Int))) = true) →
    (((R64 n) ∧
    (R64 d)) ∧
    ((FnOK Tryd.prog G ((49 : Nat)) [(.con (.int .i64 (-n)))] (.con (.int .i64 ((↑(Int.natAbs (-n)) : Int)))) ∧
    FnOK Tryd.prog G ((48 : Nat)) [(.con (.int .i64 ((↑(Int.natAbs (-n)) : Int)))), (.con (.int .i64 (-d)))] (.con (.int .i64 ((↑(Int.gcd (↑(Int.natAbs (-n)) : Int) (-d)) : Int))))) ∧
    ((((↑(Int.gcd (↑(Int.natAbs (-n)) : Int) (-d)) : Int) ≠ (0 : Int)) ∧
    ((R64 (-n)) ∧
    (((↑(Int.gcd (↑(Int.natAbs (-n)) : Int) (-d)) : Int) ≠ (0 : Int)) ∧
    (R64 (-d))))) ∧
    (FnOK Tryd.prog G ((15 : Nat)) [(.agg [(.con (.int .i64 (Int.tdiv (-n) (↑(Int.gcd (↑(Int.natAbs (-n)) : Int) (-d)) : Int)))), (.con (.int .i64 (Int.tdiv (-d) (↑(Int.gcd (↑(Int.natAbs (-n)) : Int) (-d)) : Int))))])] (.con (.bool (ok (Int.tdiv (-n) (↑(Int.gcd (↑(Int.natAbs (-n)) : Int) (-d)) : Int)) (Int.tdiv (-d) (↑(Int.gcd (↑(Int.natAbs (-n)) : Int) (-d)) : Int))))) ∧
    ((((!ok (Int.tdiv (-n) (↑(Int.gcd (↑(Int.natAbs (-n)) : Int) (-d)) : Int)) (Int.tdiv (-d) (↑(Int.gcd (↑(Int.natAbs (-n)) : Int) (-d)) : Int))) = true) →
    (((.tup [(.agg [(.con (.int .i64 ((0 : Int)))), (.con (.int .i64 ((0 : Int))))]), (.con (.int .i64 ((2 : Int))))]) : DV) = (fe (red n d)))) ∧
    (((!ok (Int.tdiv (-n) (↑(Int.gcd (↑(Int.natAbs (-n)) : Int) (-d)) : Int)) (Int.tdiv (-d) (↑(Int.gcd (↑(Int.natAbs (-n)) : Int) (-d)) : Int))) = false) →
    (((.tup [(.agg [(.con (.int .i64 (Int.tdiv (-n) (↑(Int.gcd (↑(Int.natAbs (-n)) : Int) (-d)) : Int)))), (.con (.int .i64 (Int.tdiv (-d) (↑(Int.gcd (↑(Int.natAbs (-n)) : Int) (-d)) : Int))))]), (.con (.int .i64 ((0 : Int))))]) : DV) = (fe (red n d)))))))))) ∧
    (((decide (d < (0 : Int))) = false) →
    ((FnOK Tryd.prog G ((49 : Nat)) [(.con (.int .i64 n))] (.con (.int .i64 ((↑(Int.natAbs n) : Int)))) ∧
    FnOK Tryd.prog G ((48 : Nat)) [(.con (.int .i64 ((↑(Int.natAbs n) : Int)))), (.con (.int .i64 d))] (.con (.int .i64 ((↑(Int.gcd (↑(Int.natAbs n) : Int) d) : Int))))) ∧
    ((((↑(Int.gcd (↑(Int.natAbs n) : Int) d) : Int) ≠ (0 : Int)) ∧
    ((R64 n) ∧
    (((↑(Int.gcd (↑(Int.natAbs n) : Int) d) : Int) ≠ (0 : Int)) ∧
    (R64 d)))) ∧
    (FnOK Tryd.prog G ((15 : Nat)) [(.agg [(.con (.int .i64 (Int.tdiv n (↑(Int.gcd (↑(Int.natAbs n) : Int) d) : Int)))), (.con (.int .i64 (Int.tdiv d (↑(Int.gcd (↑(Int.natAbs n) : Int) d) : Int))))])] (.con (.bool (ok (Int.tdiv n (↑(Int.gcd (↑(Int.natAbs n) : Int) d) : Int)) (Int.tdiv d (↑(Int.gcd (↑(Int.natAbs n) : Int) d) : Int))))) ∧
    ((((!ok (Int.tdiv n (↑(Int.gcd (↑(Int.natAbs n) : Int) d) : Int)) (Int.tdiv d (↑(Int.gcd (↑(Int.natAbs n) : Int) d) : Int))) = true) →
    (((.tup [(.agg [(.con (.int .i64 ((0 : Int)))), (.con (.int .i64 ((0 : Int))))]), (.con (.int .i64 ((2 : Int))))]) : DV) = (fe (red n d)))) ∧
    (((!ok (Int.tdiv n (↑(Int.gcd (↑(Int.natAbs n) : Int) d) : Int)) (Int.tdiv d (↑(Int.gcd (↑(Int.natAbs n) : Int) d) : Int))) = false) →
    (((.tup [(.agg [(.con (.int .i64 (Int.tdiv n (↑(Int.gcd (↑(Int.natAbs n) : Int) d) : Int)))), (.con (.int .i64 (Int.tdiv d (↑(Int.gcd (↑(Int.natAbs n) : Int) d) : Int))))]), (.con (.int .i64 ((0 : Int))))]) : DV) = (fe (red n d))))))))))) (by kernel_rfl) ?_
  have aux : ∀ n d : Int, 0 < d → R64 n → R64 d → (FnOK Tryd.prog G 49 [di n] (di (n.natAbs : Int)) ∧ FnOK Tryd.prog G 48 [di (n.natAbs : Int), di d] (di (Int.gcd (n.natAbs : Int) d))) ∧ ((Int.gcd (n.natAbs : Int) d : Int) ≠ 0) := by
    intro n d hd hn hd'
    exact ⟨⟨f49 n hn.1 hn.2, f48 _ d (by omega) (by omega)⟩, by have := gcd_pos (n := (n.natAbs : Int)) (d := d) (by omega); omega⟩
  refine ⟨fun h => ?_, fun h => ?_⟩
  · have hneg : d < 0 := by simpa using h
    obtain ⟨h1, h2⟩ := aux (-n) (-d) (by omega) ⟨by omega, by omega⟩ ⟨by omega, by omega⟩
    refine ⟨⟨⟨n0, n1⟩, d0, d1⟩, h1, ⟨h2, ⟨by omega, by omega⟩, h2, by omega, by omega⟩, f15 _ _, fun h => ?_, fun h => ?_⟩
    · simp only [gcd_abs] at h
      simp only [red, if_pos hneg, red1]
      rw [if_neg (by simpa using h)]; rfl
    · simp only [gcd_abs] at h ⊢
      simp only [red, if_pos hneg, red1]
      rw [if_pos (by simpa using h)]; rfl
  · have hpos : ¬ d < 0 := by simpa using h
    obtain ⟨h1, h2⟩ := aux n d (by omega) ⟨by omega, by omega⟩ ⟨by omega, by omega⟩
    refine ⟨h1, ⟨h2, ⟨by omega, by omega⟩, h2, by omega, by omega⟩, f15 _ _, fun h => ?_, fun h => ?_⟩
    · simp only [gcd_abs] at h
      simp only [red, if_neg hpos, red1]
      rw [if_neg (by simpa using h)]; rfl
    · simp only [gcd_abs] at h ⊢
      simp only [red, if_neg hpos, red1]
      rw [if_pos (by simpa using h)]; rfl
end Go.Proofs
