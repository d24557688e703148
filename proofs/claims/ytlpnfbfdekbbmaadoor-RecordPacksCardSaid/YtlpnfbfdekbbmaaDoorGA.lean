import Derived.Test.YtlpnfbfdekbbmaaDoorProg
import Derived.Test.YtlpnfbfdekbbmaaDoorAcC
import Derived.Lib.ItoaLen
set_option autoImplicit false
namespace Go.Proofs
open Go Go.Ab
set_option maxHeartbeats 1000000
set_option maxRecDepth 100000
theorem follows : Tryd.prog.follows .mixedOrders = true := by kernel_rfl
abbrev byteK : Go.Ab.RK := ⟨false, 5, false⟩
abbrev str (l : List UInt8) : ByteArray := ⟨l.toArray⟩
end Go.Proofs

set_option autoImplicit false
namespace Go.Proofs
open Go Go.Ab
set_option maxHeartbeats 1000000
set_option maxRecDepth 100000
variable {G : IH}
def orc0 : Oracle := fun _ _ => none
abbrev du (n : Int) : DV := .con (.int .u64 n)
abbrev vu (n : Int) : AV := .d (.con (.int .u64 n))
def okGen (g : Int) : Bool := decide (1 ≤ g) && decide (g ≤ 1099511627776)
theorem f29 (g : Int) : FnOK Tryd.prog G 29 [di g] (db (okGen g)) := by
  refine FnOK.walk (orc := orc0) (keep := []) follows Tryd.func29 rfl Tryd.call29 ?_
  refine of_eqH (b :=
    (((.con (.bool (decide (g ≥ (1 : Int)) && decide (g ≤ (1099511627776 : Int))))) : DV) = (db (okGen g)))) (by kernel_rfl) ?_
  rfl
theorem f37 (g : Int) : FnOK Tryd.prog G 37 [di g] (db (okGen g)) := by
  refine FnOK.walk (orc := orc0) (keep := []) follows Tryd.func37 rfl Tryd.call37 ?_
  refine of_eqH (b :=
    (((.con (.bool (decide (g ≥ (1 : Int)) && decide (g ≤ (1099511627776 : Int))))) : DV) = (db (okGen g)))) (by kernel_rfl) ?_
  rfl
/-- One byte of a sum. -/
def fnv (h b : Int) : Int := IntKind.wrap .u64 (IntKind.wrap .u64 ((BitVec.ofInt (IntKind.bits .u64) h ^^^ BitVec.ofInt (IntKind.bits .u64) (IntKind.wrap .u64 b)).toNat : Int) * 1099511628211)
/-- The sum of the first i bytes. -/
def sumI (s : ByteArray) : Nat → Int
  | 0 => 14695981039346656037
  | i + 1 => fnv (sumI s i) (byteAt s i)
def S27 (s : ByteArray) (x : Nat) : AS := ⟨regs 19 [(0, vs s), (3, vu (sumI s x)), (5, vs s), (6, vi s.size), (7, vi x)], []⟩
def I27 (s : ByteArray) (x : Nat) : Prop := x ≤ s.size
def M27 (s : ByteArray) (x : Nat) : Nat := s.size - x
theorem f27 (s : ByteArray) (hs : s.size ≤ 281474976710656) : FnOK Tryd.prog G 27 [ds s] (du (sumI s s.size)) := by
  refine FnOK.walk (orc := orc0) (keep := []) follows Tryd.func27 rfl Tryd.call27 ?_
  refine of_eqH (b :=
    AWP Tryd.prog G [.code (cAt (bodyOf Tryd.f27) [1, 1, 0, 1, 0]), (.blk ((0 : Nat))), .code (cAt (bodyOf Tryd.f27) [1, 1, 1])] ⟨[(.d (.con (.string s))), .any, (.d (.con (.int .u64 ((0 : Int))))), (.d (.con (.int .u64 ((14695981039346656037 : Int))))), .any, (.d (.con (.string s))), (.d (.con (.int .i64 ((↑(ByteArray.size s) : Int))))), (.d (.con (.int .i64 ((0 : Int))))), .any, .any, .any, .any, .any, .any, .any, .any, .any, .any, .any], []⟩ (Ret Tryd.prog Tryd.f27 (du (sumI s (ByteArray.size s))))) (by kernel_rfl) ?_
  refine AWP.loop (c := cAt (bodyOf Tryd.f27) [1, 1, 0, 1, 0, 0]) (by kernel_rfl) (S27 s) (I27 s) (M27 s) 0 ?_ (Nat.zero_le _) ?_
  · refine of_eq (b :=
    (((((.d (.con (.string s))) : AV) = (.d (.con (.string s)))) ∧
    ((((.d (.con (.int .u64 ((14695981039346656037 : Int))))) : AV) = (.d (.con (.int .u64 (sumI s (0 : Nat)))))) ∧
    ((((.d (.con (.string s))) : AV) = (.d (.con (.string s)))) ∧
    ((((.d (.con (.int .i64 ((↑(ByteArray.size s) : Int))))) : AV) = (.d (.con (.int .i64 ((↑(ByteArray.size s) : Int)))))) ∧
    ((((.d (.con (.int .i64 ((0 : Int))))) : AV) = (.d (.con (.int .i64 ((0 : Int)))))) ∧
    True))))) ∧
    True)) (by kernel_rfl) ?_
    exact ⟨⟨rfl, rfl, rfl, rfl, rfl, trivial⟩, trivial⟩
  · intro i hi
    simp only [I27] at hi
    refine walk (orc := orc0) (keep := []) (cuts := []) (n := 1000) follows ?_
    refine of_eqH (b :=
      ((((decide ((↑i : Int) < (↑(ByteArray.size s) : Int))) = true) →
      ((((0 : Int) ≤ (↑i : Int)) ∧
      ((↑i : Int) < (↑(ByteArray.size s) : Int))) ∧
      ((I64 ((↑i : Int) + (1 : Int))) ∧
      Again (S27 s) (I27 s) (M27 s) i ⟨[(.d (.con (.string s))), .any, .any, (.d (.con (.int .u64 (IntKind.wrap IntKind.u64 (IntKind.wrap IntKind.u64 (↑(BitVec.toNat (BitVec.ofInt (IntKind.bits IntKind.u64) (sumI s i) ^^^ BitVec.ofInt (IntKind.bits IntKind.u64) (IntKind.wrap IntKind.u64 (byteAt s (Int.toNat (↑i : Int)))))) : Int) * (1099511628211 : Int)))))), (.d (.con (.int .i64 ((↑i : Int))))), (.d (.con (.string s))), (.d (.con (.int .i64 ((↑(ByteArray.size s) : Int))))), (.d (.con (.int .i64 ((↑i : Int) + (1 : Int))))), (.d (.con (.bool (decide ((↑i : Int) < (↑(ByteArray.size s) : Int)))))), (.d (.con (.int .i64 ((↑i : Int))))), (.d (.con (.int .u64 (sumI s i)))), (.d (.con (.string s))), (.d (.con (.int .i64 ((↑i : Int))))), (.d (.con (.int .u8 (byteAt s (Int.toNat (↑i : Int)))))), (.d (.con (.int .u64 (IntKind.wrap IntKind.u64 (byteAt s (Int.toNat (↑i : Int))))))), (.d (.con (.int .u64 (IntKind.wrap IntKind.u64 (↑(BitVec.toNat (BitVec.ofInt (IntKind.bits IntKind.u64) (sumI s i) ^^^ BitVec.ofInt (IntKind.bits IntKind.u64) (IntKind.wrap IntKind.u64 (byteAt s (Int.toNat (↑i : Int)))))) : Int))))), (.d (.con (.int .u64 (IntKind.wrap IntKind.u64 (IntKind.wrap IntKind.u64 (↑(BitVec.toNat (BitVec.ofInt (IntKind.bits IntKind.u64) (sumI s i) ^^^ BitVec.ofInt (IntKind.bits IntKind.u64) (IntKind.wrap IntKind.u64 (byteAt s (Int.toNat (↑i : Int)))))) : Int) * (1099511628211 : Int)))))), (.d (.con (.int .i64 ((↑i : Int) + (1 : Int))))), .any], []⟩))) ∧
      (((decide ((↑i : Int) < (↑(ByteArray.size s) : Int))) = false) →
      AWP Tryd.prog G [.code (cAt (bodyOf Tryd.f27) [1, 1, 1])] ⟨[(.d (.con (.string s))), .any, .any, (.d (.con (.int .u64 (sumI s i)))), .any, (.d (.con (.string s))), (.d (.con (.int .i64 ((↑(ByteArray.size s) : Int))))), (.d (.con (.int .i64 ((↑i : Int))))), (.d (.con (.bool (decide ((↑i : Int) < (↑(ByteArray.size s) : Int)))))), .any, .any, .any, .any, .any, .any, .any, .any, .any, .any], []⟩ (Ret Tryd.prog Tryd.f27 (du (sumI s (ByteArray.size s))))))) (by kernel_rfl) ?_
    refine ⟨fun h => ?_, fun h => ?_⟩
    · have hi' : i < s.size := by simpa using h
      refine ⟨⟨by omega, by omega⟩, ⟨by omega, by omega⟩, Again.mk (i + 1) ?_ (by simp only [I27]; omega) (by simp only [M27]; omega)⟩
      refine of_eq (b :=
        (((((.d (.con (.string s))) : AV) = (.d (.con (.string s)))) ∧
        ((((.d (.con (.int .u64 (IntKind.wrap IntKind.u64 (IntKind.wrap IntKind.u64 (↑(BitVec.toNat (BitVec.ofInt (IntKind.bits IntKind.u64) (sumI s i) ^^^ BitVec.ofInt (IntKind.bits IntKind.u64) (IntKind.wrap IntKind.u64 (byteAt s (Int.toNat (↑i : Int)))))) : Int) * (1099511628211 : Int)))))) : AV) = (.d (.con (.int .u64 (sumI s (i + (1 : Nat))))))) ∧
        ((((.d (.con (.string s))) : AV) = (.d (.con (.string s)))) ∧
        ((((.d (.con (.int .i64 ((↑(ByteArray.size s) : Int))))) : AV) = (.d (.con (.int .i64 ((↑(ByteArray.size s) : Int)))))) ∧
        ((((.d (.con (.int .i64 ((↑i : Int) + (1 : Int))))) : AV) = (.d (.con (.int .i64 ((↑(i + (1 : Nat)) : Int)))))) ∧
        True))))) ∧
        True)) (by kernel_rfl) ?_
      exact ⟨⟨rfl, rfl, rfl, rfl, rfl, trivial⟩, trivial⟩
    · refine walk (orc := orc0) (keep := []) (cuts := []) (n := 1000) follows ?_
      refine of_eqH (b :=
        (((.con (.int .u64 (sumI s i))) : DV) = (du (sumI s (ByteArray.size s))))) (by kernel_rfl) ?_
      have : i = s.size := by simp at h; omega
      subst this
      rfl
def S28 (s : ByteArray) (x : Nat) : AS := ⟨regs 19 [(0, vs s), (3, vu (sumI s x)), (4, vi x)], []⟩
theorem f28 (s : ByteArray) (hs : s.size ≤ 281474976710656) : FnOK Tryd.prog G 28 [ds s] (du (sumI s s.size)) := by
  refine FnOK.walk (orc := orc0) (keep := []) follows Tryd.func28 rfl Tryd.call28 ?_
  refine of_eqH (b :=
    AWP Tryd.prog G [.code (cAt (bodyOf Tryd.f28) [1, 1, 0, 1, 0]), (.blk ((0 : Nat))), .code (cAt (bodyOf Tryd.f28) [1, 1, 1])] ⟨[(.d (.con (.string s))), .any, (.d (.con (.int .u64 ((0 : Int))))), (.d (.con (.int .u64 ((14695981039346656037 : Int))))), (.d (.con (.int .i64 ((0 : Int))))), .any, .any, .any, .any, .any, .any, .any, .any, .any, .any, .any, .any, .any, .any], []⟩ (Ret Tryd.prog Tryd.f28 (du (sumI s (ByteArray.size s))))) (by kernel_rfl) ?_
  refine AWP.loop (c := cAt (bodyOf Tryd.f28) [1, 1, 0, 1, 0, 0]) (by kernel_rfl) (S28 s) (I27 s) (M27 s) 0 ?_ (Nat.zero_le _) ?_
  · refine of_eq (b :=
    (((((.d (.con (.string s))) : AV) = (.d (.con (.string s)))) ∧
    ((((.d (.con (.int .u64 ((14695981039346656037 : Int))))) : AV) = (.d (.con (.int .u64 (sumI s (0 : Nat)))))) ∧
    ((((.d (.con (.int .i64 ((0 : Int))))) : AV) = (.d (.con (.int .i64 ((0 : Int)))))) ∧
    True))) ∧
    True)) (by kernel_rfl) ?_
    exact ⟨⟨rfl, rfl, rfl, trivial⟩, trivial⟩
  · intro i hi
    simp only [I27] at hi
    refine walk (orc := orc0) (keep := []) (cuts := []) (n := 1000) follows ?_
    refine of_eqH (b :=
      ((((decide ((↑i : Int) < (↑(ByteArray.size s) : Int))) = true) →
      ((((0 : Int) ≤ (↑i : Int)) ∧
      ((↑i : Int) < (↑(ByteArray.size s) : Int))) ∧
      ((I64 ((↑i : Int) + (1 : Int))) ∧
      Again (S28 s) (I27 s) (M27 s) i ⟨[(.d (.con (.string s))), .any, .any, (.d (.con (.int .u64 (IntKind.wrap IntKind.u64 (IntKind.wrap IntKind.u64 (↑(BitVec.toNat (BitVec.ofInt (IntKind.bits IntKind.u64) (sumI s i) ^^^ BitVec.ofInt (IntKind.bits IntKind.u64) (IntKind.wrap IntKind.u64 (byteAt s (Int.toNat (↑i : Int)))))) : Int) * (1099511628211 : Int)))))), (.d (.con (.int .i64 ((↑i : Int) + (1 : Int))))), (.d (.con (.int .i64 ((↑i : Int))))), (.d (.con (.string s))), (.d (.con (.int .i64 ((↑(ByteArray.size s) : Int))))), (.d (.con (.bool (decide ((↑i : Int) < (↑(ByteArray.size s) : Int)))))), (.d (.con (.int .i64 ((↑i : Int))))), (.d (.con (.int .i64 ((↑i : Int) + (1 : Int))))), (.d (.con (.int .u64 (sumI s i)))), (.d (.con (.string s))), (.d (.con (.int .i64 ((↑i : Int))))), (.d (.con (.int .u8 (byteAt s (Int.toNat (↑i : Int)))))), (.d (.con (.int .u64 (IntKind.wrap IntKind.u64 (byteAt s (Int.toNat (↑i : Int))))))), (.d (.con (.int .u64 (IntKind.wrap IntKind.u64 (↑(BitVec.toNat (BitVec.ofInt (IntKind.bits IntKind.u64) (sumI s i) ^^^ BitVec.ofInt (IntKind.bits IntKind.u64) (IntKind.wrap IntKind.u64 (byteAt s (Int.toNat (↑i : Int)))))) : Int))))), (.d (.con (.int .u64 (IntKind.wrap IntKind.u64 (IntKind.wrap IntKind.u64 (↑(BitVec.toNat (BitVec.ofInt (IntKind.bits IntKind.u64) (sumI s i) ^^^ BitVec.ofInt (IntKind.bits IntKind.u64) (IntKind.wrap IntKind.u64 (byteAt s (Int.toNat (↑i : Int)))))) : Int) * (1099511628211 : Int)))))), .any], []⟩))) ∧
      (((decide ((↑i : Int) < (↑(ByteArray.size s) : Int))) = false) →
      AWP Tryd.prog G [.code (cAt (bodyOf Tryd.f28) [1, 1, 1])] ⟨[(.d (.con (.string s))), .any, .any, (.d (.con (.int .u64 (sumI s i)))), (.d (.con (.int .i64 ((↑i : Int))))), (.d (.con (.int .i64 ((↑i : Int))))), (.d (.con (.string s))), (.d (.con (.int .i64 ((↑(ByteArray.size s) : Int))))), (.d (.con (.bool (decide ((↑i : Int) < (↑(ByteArray.size s) : Int)))))), .any, .any, .any, .any, .any, .any, .any, .any, .any, .any], []⟩ (Ret Tryd.prog Tryd.f28 (du (sumI s (ByteArray.size s))))))) (by kernel_rfl) ?_
    refine ⟨fun h => ?_, fun h => ?_⟩
    · have hi' : i < s.size := by simpa using h
      refine ⟨⟨by omega, by omega⟩, ⟨by omega, by omega⟩, Again.mk (i + 1) ?_ (by simp only [I27]; omega) (by simp only [M27]; omega)⟩
      refine of_eq (b :=
        (((((.d (.con (.string s))) : AV) = (.d (.con (.string s)))) ∧
        ((((.d (.con (.int .u64 (IntKind.wrap IntKind.u64 (IntKind.wrap IntKind.u64 (↑(BitVec.toNat (BitVec.ofInt (IntKind.bits IntKind.u64) (sumI s i) ^^^ BitVec.ofInt (IntKind.bits IntKind.u64) (IntKind.wrap IntKind.u64 (byteAt s (Int.toNat (↑i : Int)))))) : Int) * (1099511628211 : Int)))))) : AV) = (.d (.con (.int .u64 (sumI s (i + (1 : Nat))))))) ∧
        ((((.d (.con (.int .i64 ((↑i : Int) + (1 : Int))))) : AV) = (.d (.con (.int .i64 ((↑(i + (1 : Nat)) : Int)))))) ∧
        True))) ∧
        True)) (by kernel_rfl) ?_
      exact ⟨⟨rfl, rfl, rfl, trivial⟩, trivial⟩
    · refine walk (orc := orc0) (keep := []) (cuts := []) (n := 1000) follows ?_
      refine of_eqH (b :=
        (((.con (.int .u64 (sumI s i))) : DV) = (du (sumI s (ByteArray.size s))))) (by kernel_rfl) ?_
      have : i = s.size := by simp at h; omega
      subst this
      rfl
end Go.Proofs

set_option autoImplicit false
namespace Go.Proofs
open Go Go.Ab
theorem ofInt_nat (n : Nat) : BitVec.ofInt 64 (n : Int) = BitVec.ofNat 64 n := by
  simp [BitVec.ofInt_natCast]
theorem fdiv_pow (g k : Nat) (hk : k ≤ 64) : Int.fdiv (g : Int) (2 ^ (min k 64)) = ((g / 2 ^ k : Nat) : Int) := by
  rw [Nat.min_eq_left hk, Int.fdiv_eq_ediv_of_nonneg _ (Int.le_of_lt (Int.pow_pos (by decide)))]
  push_cast
  rfl
theorem and_mask (m b : Nat) (hm : m < 18446744073709551616) (hb : b ≤ 64) : ((BitVec.ofInt 64 (m : Int) &&& BitVec.ofInt 64 ((2 ^ b - 1 : Nat) : Int)).toNat) = m % 2 ^ b := by
  rw [ofInt_nat, ofInt_nat]
  simp only [BitVec.toNat_and, BitVec.toNat_ofNat]
  have : 2 ^ b ≤ 2 ^ 64 := Nat.pow_le_pow_right (by decide) hb
  have : 0 < 2 ^ b := Nat.pow_pos (by decide)
  rw [Nat.mod_eq_of_lt (by omega : m < 2 ^ 64), Nat.mod_eq_of_lt (by omega : 2 ^ b - 1 < 2 ^ 64), Nat.and_two_pow_sub_one_eq_mod]
theorem i64_nat (n : Nat) (h : n < 9223372036854775808) : IntKind.wrap .i64 (n : Int) = n := IntWalk.i64_in n ⟨by omega, by omega⟩
theorem u64_nat (n : Nat) (h : n < 18446744073709551616) : IntKind.wrap .u64 (n : Int) = n := IntWalk.u64_in n ⟨by omega, by omega⟩
theorem u8_nat (n : Nat) (h : n < 256) : IntKind.wrap .u8 (n : Int) = n := IntWalk.u8_in n ⟨by omega, by omega⟩
theorem and127 (m : Nat) (hm : m < 18446744073709551616) : (BitVec.ofInt (IntKind.bits .i64) (m : Int) &&& BitVec.ofInt (IntKind.bits .i64) (127 : Int)).toNat = m % 128 := and_mask m 7 hm (by decide)
theorem and15 (m : Nat) (hm : m < 18446744073709551616) : (BitVec.ofInt (IntKind.bits .u64) (m : Int) &&& BitVec.ofInt (IntKind.bits .u64) (15 : Int)).toNat = m % 16 := and_mask m 4 hm (by decide)
theorem fdiv_i64 (g k : Nat) (hk : k ≤ 64) : Int.fdiv (g : Int) (2 ^ (min k (IntKind.bits .i64))) = ((g / 2 ^ k : Nat) : Int) := fdiv_pow g k hk
theorem fdiv_u64 (g k : Nat) (hk : k ≤ 64) : Int.fdiv (g : Int) (2 ^ (min k (IntKind.bits .u64))) = ((g / 2 ^ k : Nat) : Int) := fdiv_pow g k hk
/-- A row of bytes, of which the first i are written. -/
def rowB (f : Nat → UInt8) (i : Nat) : Nat → DV := fun j => .con (.int .u8 (if j < i then ((f j).toNat : Int) else 0))
/-- .. of which the last i of n are written. -/
def rowE (f : Nat → UInt8) (n i : Nat) : Nat → DV := fun j => .con (.int .u8 (if j < n ∧ n - i ≤ j then ((f j).toNat : Int) else 0))
theorem rowB_zero (f : Nat → UInt8) : rowB f 0 = fun _ => DV.con (.int .u8 0) := by
  funext j; simp [rowB]
theorem rowE_zero (f : Nat → UInt8) (n : Nat) : rowE f n 0 = fun _ => DV.con (.int .u8 0) := by
  funext j; simp only [rowE]
  rw [if_neg (by omega)]
theorem nbeq_ne {j i : Nat} (h : ¬ j = i) : Nat.beq j i = false := by
  cases hb : Nat.beq j i with
  | false => rfl
  | true => exact absurd (Nat.eq_of_beq_eq_true hb) h
theorem nbeq_self (j : Nat) : Nat.beq j j = true := Nat.beq_refl j
theorem rowB_succ (f : Nat → UInt8) (i : Nat) (v : Int) (hv : v = (f i).toNat) : (fun j => bif Nat.beq j i then DV.con (.int .u8 v) else rowB f i j) = rowB f (i + 1) := by
  funext j
  simp only [rowB]
  by_cases h : j = i
  · subst h; rw [nbeq_self, cond_true, hv, if_pos (show j < j + 1 by omega)]
  · have h3 : (j < i + 1) = (j < i) := by rw [eq_iff_iff]; omega
    simp only [nbeq_ne h, h3, cond_false]
theorem rowE_succ (f : Nat → UInt8) (n i : Nat) (hi : i < n) (v : Int) (hv : v = (f (n - 1 - i)).toNat) : (fun j => bif Nat.beq j (n - 1 - i) then DV.con (.int .u8 v) else rowE f n i j) = rowE f n (i + 1) := by
  funext j
  simp only [rowE]
  by_cases h : j = n - 1 - i
  · subst h; rw [nbeq_self, cond_true, hv, if_pos (show n - 1 - i < n ∧ n - (i + 1) ≤ n - 1 - i by omega)]
  · have h3 : (j < n ∧ n - (i + 1) ≤ j) = (j < n ∧ n - i ≤ j) := by rw [eq_iff_iff]; omega
    simp only [nbeq_ne h, h3, cond_false]
theorem rowE_full (f : Nat → UInt8) (n : Nat) : rowE f n n = rowB f n := by
  funext j; simp only [rowE, rowB]
  have h3 : (j < n ∧ n - n ≤ j) = (j < n) := by rw [eq_iff_iff]; omega
  simp only [h3]
theorem rowB_at (f : Nat → UInt8) (n : Nat) : BytesAt n (fun i => rowB f n (0 + i)) := by
  intro i hi
  simp [rowB, byteOfD, hi]
theorem rowB_bytes (f : Nat → UInt8) (n : Nat) : bytesOf n (fun i => rowB f n (0 + i)) = (List.range n).map f := by
  unfold bytesOf
  refine List.map_congr_left fun i hi => ?_
  have hi := List.mem_range.1 hi
  simp [rowB, byteOfD, hi]
end Go.Proofs

set_option autoImplicit false
namespace Go.Proofs
open Go Go.Ab
set_option maxHeartbeats 1000000
set_option maxRecDepth 100000
variable {G : IH}
def stampC (g : Nat) (j : Nat) : UInt8 := UInt8.ofNat (128 + g / 128 ^ (8 - j) % 128)
/-- The stamp of a generation. -/
def stampB (g : Nat) : ByteArray := ⟨((List.range 9).map (stampC g)).toArray⟩
def S36 (g : Nat) (x : Nat) : AS := ⟨regs 23 [(0, vi g), (3, .vec 5 1 0 9), (6, vi x)], [(5, [.arr byteK 1 (rowB (stampC g) x)])]⟩
theorem stamp_val (g k : Nat) (hk : k ≤ 8) (hg : g < 9223372036854775808) :
    IntKind.wrap .u8 (128 + IntKind.wrap .u8 (IntKind.wrap .i64 ((BitVec.ofInt (IntKind.bits .i64) (Int.fdiv (g : Int) ((2 : Int) ^ min (Int.toNat ((7 : Int) * ((k : Nat) : Int))) (IntKind.bits .i64))) &&& BitVec.ofInt (IntKind.bits .i64) (127 : Int)).toNat : Int))) = ((UInt8.ofNat (128 + g / 128 ^ k % 128)).toNat : Int) := by
  have e1 : (Int.toNat ((7 : Int) * (k : Int))) = 7 * k := by omega
  have e2 : g / 2 ^ (7 * k) = g / 128 ^ k := by rw [Nat.pow_mul]
  have h1 : g / 128 ^ k < 18446744073709551616 := Nat.lt_of_le_of_lt (Nat.div_le_self _ _) (by omega)
  have h2 : g / 128 ^ k % 128 < 128 := Nat.mod_lt _ (by decide)
  rw [e1, fdiv_i64 _ _ (by omega), e2, and127 _ h1, i64_nat _ (by omega), u8_nat _ (by omega)]
  have : (128 : Int) + ((g / 128 ^ k % 128 : Nat) : Int) = ((128 + g / 128 ^ k % 128 : Nat) : Int) := by push_cast; rfl
  rw [this, u8_nat _ (by omega)]
  simp only [UInt8.toNat_ofNat']
  omega
theorem f36 (g : Nat) (hg : g < 9223372036854775808) : FnOK Tryd.prog G 36 [di g] (ds (stampB g)) := by
  refine FnOK.walk (orc := orc0) (keep := []) follows Tryd.func36 rfl Tryd.call36 ?_
  refine of_eqH (b :=
    (((((9 : Int)) = ((9 : Int))) ∧
    (((0 : Int) ≤ (9 : Int)) ∧
    (((↑(1 : Nat) : Int) * (9 : Int) ≤ (281474976710656 : Int)) ∧
    ((9 : Int) ≤ (9223372036854775807 : Int))))) ∧
    AWP Tryd.prog G [.code (cAt (bodyOf Tryd.f36) [1, 1, 0, 1, 0]), (.blk ((0 : Nat))), .code (cAt (bodyOf Tryd.f36) [1, 1, 1])] ⟨[(.d (.con (.int .i64 ((↑g : Int))))), .any, (.d (.con (.string ({ data := #[] })))), (.vec ((5 : Nat)) ((1 : Nat)) ((0 : Nat)) ((9 : Nat))), .any, (.vec ((5 : Nat)) ((1 : Nat)) ((0 : Nat)) ((9 : Nat))), (.d (.con (.int .i64 ((0 : Int))))), .any, .any, .any, .any, .any, .any, .any, .any, .any, .any, .any, .any, .any, .any, .any, .any], [(((5 : Nat)), [(.arr ⟨false, ((5 : Nat)), false⟩ ((1 : Nat)) (fun x => DV.con (List.getD [Value.int IntKind.u8 (0 : Int)] (0 : Nat) undef)))])]⟩ (Ret Tryd.prog Tryd.f36 (ds (stampB g))))) (by kernel_rfl) ?_
  refine ⟨by decide, ?_⟩
  refine AWP.loop (c := cAt (bodyOf Tryd.f36) [1, 1, 0, 1, 0, 0]) (by kernel_rfl) (S36 g) (fun x => x ≤ 9) (fun x => 9 - x) 0 ?_ (Nat.zero_le _) ?_
  · refine of_eq (b :=
    (((((.d (.con (.int .i64 ((↑g : Int))))) : AV) = (.d (.con (.int .i64 ((↑g : Int)))))) ∧
    ((((.vec ((5 : Nat)) ((1 : Nat)) ((0 : Nat)) ((9 : Nat))) : AV) = (.vec ((5 : Nat)) ((1 : Nat)) ((0 : Nat)) ((9 : Nat)))) ∧
    ((((.d (.con (.int .i64 ((0 : Int))))) : AV) = (.d (.con (.int .i64 ((0 : Int)))))) ∧
    True))) ∧
    ((((some [(.arr ⟨false, ((5 : Nat)), false⟩ ((1 : Nat)) (fun x => DV.con (List.getD [Value.int IntKind.u8 (0 : Int)] (0 : Nat) undef)))]) : (Option (List AV))) = (some [(.arr ⟨false, ((5 : Nat)), false⟩ ((1 : Nat)) (rowB (stampC g) (0 : Nat)))])) ∧
    True))) (by kernel_rfl) ?_
    refine ⟨⟨rfl, rfl, rfl, trivial⟩, ?_, trivial⟩
    rw [rowB_zero]; rfl
  · intro i hi
    refine walk (orc := orc0) (keep := []) (cuts := []) (n := 1000) follows ?_
    refine of_eqH (b :=
      ((((decide ((↑i : Int) < (9 : Int))) = true) →
      (((I64 ((8 : Int) - (↑i : Int))) ∧
      ((I64 ((7 : Int) * ((8 : Int) - (↑i : Int)))) ∧
      (((0 : Int) ≤ (7 : Int) * ((8 : Int) - (↑i : Int))) ∧
      (((0 : Int) ≤ (↑i : Int)) ∧
      ((↑i : Int) < (↑(9 : Nat) : Int)))))) ∧
      ((I64 ((↑i : Int) + (1 : Int))) ∧
      Again (S36 g) (fun x => x ≤ (9 : Nat)) (fun x => (9 : Nat) - x) i ⟨[(.d (.con (.int .i64 ((↑g : Int))))), .any, .any, (.vec ((5 : Nat)) ((1 : Nat)) ((0 : Nat)) ((9 : Nat))), (.d (.con (.int .i64 ((↑i : Int))))), .any, (.d (.con (.int .i64 ((↑i : Int) + (1 : Int))))), (.d (.con (.bool (decide ((↑i : Int) < (9 : Int)))))), (.d (.con (.int .i64 ((↑i : Int))))), (.vec ((5 : Nat)) ((1 : Nat)) ((0 : Nat)) ((9 : Nat))), (.d (.con (.int .i64 ((↑i : Int))))), (.d (.con (.int .i64 ((↑g : Int))))), (.d (.con (.int .i64 ((↑i : Int))))), (.d (.con (.int .i64 ((8 : Int) - (↑i : Int))))), (.d (.con (.int .i64 ((7 : Int) * ((8 : Int) - (↑i : Int)))))), (.d (.con (.int .i64 (Int.fdiv (↑g : Int) ((2 : Int) ^ min (Int.toNat ((7 : Int) * ((8 : Int) - (↑i : Int)))) (IntKind.bits IntKind.i64)))))), (.d (.con (.int .i64 (IntKind.wrap IntKind.i64 (↑(BitVec.toNat (BitVec.ofInt (IntKind.bits IntKind.i64) (Int.fdiv (↑g : Int) ((2 : Int) ^ min (Int.toNat ((7 : Int) * ((8 : Int) - (↑i : Int)))) (IntKind.bits IntKind.i64))) &&& BitVec.ofInt (IntKind.bits IntKind.i64) (127 : Int))) : Int))))), (.d (.con (.int .u8 (IntKind.wrap IntKind.u8 (IntKind.wrap IntKind.i64 (↑(BitVec.toNat (BitVec.ofInt (IntKind.bits IntKind.i64) (Int.fdiv (↑g : Int) ((2 : Int) ^ min (Int.toNat ((7 : Int) * ((8 : Int) - (↑i : Int)))) (IntKind.bits IntKind.i64))) &&& BitVec.ofInt (IntKind.bits IntKind.i64) (127 : Int))) : Int)))))), (.d (.con (.int .u8 (IntKind.wrap IntKind.u8 ((128 : Int) + IntKind.wrap IntKind.u8 (IntKind.wrap IntKind.i64 (↑(BitVec.toNat (BitVec.ofInt (IntKind.bits IntKind.i64) (Int.fdiv (↑g : Int) ((2 : Int) ^ min (Int.toNat ((7 : Int) * ((8 : Int) - (↑i : Int)))) (IntKind.bits IntKind.i64))) &&& BitVec.ofInt (IntKind.bits IntKind.i64) (127 : Int))) : Int))))))), (.elem ((5 : Nat)) ((1 : Nat)) ((0 : Nat) + Int.toNat (↑i : Int)) ((0 : Nat))), (.d (.con (.int .i64 ((↑i : Int) + (1 : Int))))), .any, .any], [(((5 : Nat)), [(.arr ⟨false, ((5 : Nat)), false⟩ ((1 : Nat)) (fun j => bif Nat.beq j ((0 : Nat) + Int.toNat (↑i : Int)) then DV.con (Value.int IntKind.u8 (IntKind.wrap IntKind.u8 ((128 : Int) + IntKind.wrap IntKind.u8 (IntKind.wrap IntKind.i64 (↑(BitVec.toNat (BitVec.ofInt (IntKind.bits IntKind.i64) (Int.fdiv (↑g : Int) ((2 : Int) ^ min (Int.toNat ((7 : Int) * ((8 : Int) - (↑i : Int)))) (IntKind.bits IntKind.i64))) &&& BitVec.ofInt (IntKind.bits IntKind.i64) (127 : Int))) : Int))))) else rowB (stampC g) i j))])]⟩))) ∧
      (((decide ((↑i : Int) < (9 : Int))) = false) →
      AWP Tryd.prog G [.code (cAt (bodyOf Tryd.f36) [1, 1, 1])] ⟨[(.d (.con (.int .i64 ((↑g : Int))))), .any, .any, (.vec ((5 : Nat)) ((1 : Nat)) ((0 : Nat)) ((9 : Nat))), .any, .any, (.d (.con (.int .i64 ((↑i : Int))))), (.d (.con (.bool (decide ((↑i : Int) < (9 : Int)))))), .any, .any, .any, .any, .any, .any, .any, .any, .any, .any, .any, .any, .any, .any, .any], [(((5 : Nat)), [(.arr ⟨false, ((5 : Nat)), false⟩ ((1 : Nat)) (rowB (stampC g) i))])]⟩ (Ret Tryd.prog Tryd.f36 (ds (stampB g)))))) (by kernel_rfl) ?_
    refine ⟨fun h => ?_, fun h => ?_⟩
    · have hi' : i < 9 := by simp at h; omega
      have e : (8 : Int) - (i : Int) = ((8 - i : Nat) : Int) := by omega
      rw [e]
      refine ⟨⟨⟨by omega, by omega⟩, ⟨by omega, by omega⟩, by omega, by omega, by omega⟩, ⟨by omega, by omega⟩, Again.mk (i + 1) ?_ (by omega) (by omega)⟩
      refine of_eq (b :=
        (((((.d (.con (.int .i64 ((↑g : Int))))) : AV) = (.d (.con (.int .i64 ((↑g : Int)))))) ∧
        ((((.vec ((5 : Nat)) ((1 : Nat)) ((0 : Nat)) ((9 : Nat))) : AV) = (.vec ((5 : Nat)) ((1 : Nat)) ((0 : Nat)) ((9 : Nat)))) ∧
        ((((.d (.con (.int .i64 ((↑i : Int) + (1 : Int))))) : AV) = (.d (.con (.int .i64 ((↑(i + (1 : Nat)) : Int)))))) ∧
        True))) ∧
        ((((some [(.arr ⟨false, ((5 : Nat)), false⟩ ((1 : Nat)) (fun j => bif Nat.beq j ((0 : Nat) + Int.toNat (↑i : Int)) then DV.con (Value.int IntKind.u8 (IntKind.wrap IntKind.u8 ((128 : Int) + IntKind.wrap IntKind.u8 (IntKind.wrap IntKind.i64 (↑(BitVec.toNat (BitVec.ofInt (IntKind.bits IntKind.i64) (Int.fdiv (↑g : Int) ((2 : Int) ^ min (Int.toNat ((7 : Int) * (↑((8 : Nat) - i) : Int))) (IntKind.bits IntKind.i64))) &&& BitVec.ofInt (IntKind.bits IntKind.i64) (127 : Int))) : Int))))) else rowB (stampC g) i j))]) : (Option (List AV))) = (some [(.arr ⟨false, ((5 : Nat)), false⟩ ((1 : Nat)) (rowB (stampC g) (i + (1 : Nat))))])) ∧
        True))) (by kernel_rfl) ?_
      refine ⟨⟨rfl, rfl, rfl, trivial⟩, ?_, trivial⟩
      rw [← rowB_succ (stampC g) i _ (stamp_val g (8 - i) (by omega) hg), Nat.zero_add]
      rfl
    · have : i = 9 := by simp at h; omega
      subst this
      refine walk (orc := orc0) (keep := []) (cuts := []) (n := 1000) follows ?_
      refine of_eqH (b :=
        (BytesAt ((9 : Nat)) (fun i => rowB (stampC g) (9 : Nat) ((0 : Nat) + i)) ∧
        (((.con (.string ({ data := List.toArray (bytesOf (9 : Nat) fun i => rowB (stampC g) (9 : Nat) ((0 : Nat) + i)) }))) : DV) = (ds (stampB g))))) (by kernel_rfl) ?_
      exact ⟨rowB_at _ _, by rw [rowB_bytes]; rfl⟩
end Go.Proofs

set_option autoImplicit false
namespace Go.Proofs
open Go Go.Ab
set_option maxHeartbeats 1000000
set_option maxRecDepth 100000
variable {G : IH}
def hexC (k : Nat) : UInt8 := UInt8.ofNat (if k < 10 then 48 + k else 87 + k)
def digitC (n w : Nat) (j : Nat) : UInt8 := hexC (n / 16 ^ (w - 1 - j) % 16)
/-- A number in w hexadecimal digits. -/
def hexB (n w : Nat) : ByteArray := ⟨((List.range w).map (digitC n w)).toArray⟩
theorem hex_at : ∀ k : Nat, k < 16 → byteAt { data := #[48, 49, 50, 51, 52, 53, 54, 55, 56, 57, 97, 98, 99, 100, 101, 102] } k = ((hexC k).toNat : Int) := by decide
theorem hex_val (g k : Nat) (hk : k ≤ 16) (hg : g < 18446744073709551616) :
    IntKind.wrap .u64 ((BitVec.ofInt (IntKind.bits .u64) (Int.fdiv (IntKind.wrap .u64 (g : Int)) ((2 : Int) ^ min (Int.toNat ((4 : Int) * ((k : Nat) : Int))) (IntKind.bits .u64))) &&& BitVec.ofInt (IntKind.bits .u64) (15 : Int)).toNat : Int) = ((g / 16 ^ k % 16 : Nat) : Int) := by
  have e1 : (Int.toNat ((4 : Int) * (k : Int))) = 4 * k := by omega
  have e2 : g / 2 ^ (4 * k) = g / 16 ^ k := by rw [Nat.pow_mul]
  have h1 : g / 16 ^ k < 18446744073709551616 := Nat.lt_of_le_of_lt (Nat.div_le_self _ _) (by omega)
  have h2 : g / 16 ^ k % 16 < 16 := Nat.mod_lt _ (by decide)
  rw [u64_nat g hg, e1, fdiv_u64 _ _ (by omega), e2, and15 _ h1, u64_nat _ (by omega)]
def S32 (g n : Nat) (x : Nat) : AS := ⟨regs 29 [(0, vi g), (1, vi n), (5, .vec 8 1 0 n), (9, vi n), (10, vi x)], [(8, [.arr byteK 1 (rowE (digitC g n) n x)])]⟩
theorem f32 (g n : Nat) (hg : g < 9223372036854775808) (hn : n ≤ 16) : FnOK Tryd.prog G 32 [di g, di n] (ds (hexB g n)) := by
  refine FnOK.walk (orc := orc0) (keep := []) follows Tryd.func32 rfl Tryd.call32 ?_
  refine of_eqH (b :=
    (((((↑n : Int)) = ((↑n : Int))) ∧
    (((0 : Int) ≤ (↑n : Int)) ∧
    (((↑(1 : Nat) : Int) * (↑n : Int) ≤ (281474976710656 : Int)) ∧
    ((↑n : Int) ≤ (9223372036854775807 : Int))))) ∧
    AWP Tryd.prog G [.code (cAt (bodyOf Tryd.f32) [1, 1, 0, 1, 0]), (.blk ((0 : Nat))), .code (cAt (bodyOf Tryd.f32) [1, 1, 1])] ⟨[(.d (.con (.int .i64 ((↑g : Int))))), (.d (.con (.int .i64 ((↑n : Int))))), .any, .any, (.d (.con (.string ({ data := #[] })))), (.vec ((8 : Nat)) ((1 : Nat)) ((0 : Nat)) (Int.toNat (↑n : Int))), .any, (.d (.con (.int .i64 ((↑n : Int))))), (.vec ((8 : Nat)) ((1 : Nat)) ((0 : Nat)) (Int.toNat (↑n : Int))), (.d (.con (.int .i64 ((↑n : Int))))), (.d (.con (.int .i64 ((0 : Int))))), .any, .any, .any, .any, .any, .any, .any, .any, .any, .any, .any, .any, .any, .any, .any, .any, .any, .any], [(((8 : Nat)), [(.arr ⟨false, ((5 : Nat)), false⟩ ((1 : Nat)) (fun x => DV.con (List.getD [Value.int IntKind.u8 (0 : Int)] (0 : Nat) undef)))])]⟩ (Ret Tryd.prog Tryd.f32 (ds (hexB g n))))) (by kernel_rfl) ?_
  refine ⟨⟨rfl, by omega, by omega, by omega⟩, ?_⟩
  refine AWP.loop (c := cAt (bodyOf Tryd.f32) [1, 1, 0, 1, 0, 0]) (by kernel_rfl) (S32 g n) (fun x => x ≤ n) (fun x => n - x) 0 ?_ (Nat.zero_le _) ?_
  · refine of_eq (b :=
    (((((.d (.con (.int .i64 ((↑g : Int))))) : AV) = (.d (.con (.int .i64 ((↑g : Int)))))) ∧
    ((((.d (.con (.int .i64 ((↑n : Int))))) : AV) = (.d (.con (.int .i64 ((↑n : Int)))))) ∧
    ((((.vec ((8 : Nat)) ((1 : Nat)) ((0 : Nat)) (Int.toNat (↑n : Int))) : AV) = (.vec ((8 : Nat)) ((1 : Nat)) ((0 : Nat)) n)) ∧
    ((((.d (.con (.int .i64 ((↑n : Int))))) : AV) = (.d (.con (.int .i64 ((↑n : Int)))))) ∧
    ((((.d (.con (.int .i64 ((0 : Int))))) : AV) = (.d (.con (.int .i64 ((0 : Int)))))) ∧
    True))))) ∧
    ((((some [(.arr ⟨false, ((5 : Nat)), false⟩ ((1 : Nat)) (fun x => DV.con (List.getD [Value.int IntKind.u8 (0 : Int)] (0 : Nat) undef)))]) : (Option (List AV))) = (some [(.arr ⟨false, ((5 : Nat)), false⟩ ((1 : Nat)) (rowE (digitC g n) n (0 : Nat)))])) ∧
    True))) (by kernel_rfl) ?_
    refine ⟨⟨rfl, rfl, rfl, rfl, rfl, trivial⟩, ?_, trivial⟩
    rw [rowE_zero]; rfl
  · intro i hi
    refine walk (orc := orc0) (keep := []) (cuts := []) (n := 1000) follows ?_
    refine of_eqH (b :=
      ((((decide ((↑i : Int) < (↑n : Int))) = true) →
      (((I64 ((↑n : Int) - (1 : Int))) ∧
      ((I64 ((↑n : Int) - (1 : Int) - (↑i : Int))) ∧
      ((I64 ((4 : Int) * (↑i : Int))) ∧
      (((0 : Int) ≤ (4 : Int) * (↑i : Int)) ∧
      ((((0 : Int) ≤ IntKind.wrap IntKind.u64 (↑(BitVec.toNat (BitVec.ofInt (IntKind.bits IntKind.u64) (Int.fdiv (IntKind.wrap IntKind.u64 (↑g : Int)) ((2 : Int) ^ min (Int.toNat ((4 : Int) * (↑i : Int))) (IntKind.bits IntKind.u64))) &&& BitVec.ofInt (IntKind.bits IntKind.u64) (15 : Int))) : Int)) ∧
      (IntKind.wrap IntKind.u64 (↑(BitVec.toNat (BitVec.ofInt (IntKind.bits IntKind.u64) (Int.fdiv (IntKind.wrap IntKind.u64 (↑g : Int)) ((2 : Int) ^ min (Int.toNat ((4 : Int) * (↑i : Int))) (IntKind.bits IntKind.u64))) &&& BitVec.ofInt (IntKind.bits IntKind.u64) (15 : Int))) : Int) < (↑(ByteArray.size { data := #[(48 : UInt8), (49 : UInt8), (50 : UInt8), (51 : UInt8), (52 : UInt8), (53 : UInt8), (54 : UInt8), (55 : UInt8), (56 : UInt8), (57 : UInt8), (97 : UInt8), (98 : UInt8), (99 : UInt8), (100 : UInt8), (101 : UInt8), (102 : UInt8)] }) : Int))) ∧
      (((0 : Int) ≤ (↑n : Int) - (1 : Int) - (↑i : Int)) ∧
      ((↑n : Int) - (1 : Int) - (↑i : Int) < (↑n : Int)))))))) ∧
      ((I64 ((↑i : Int) + (1 : Int))) ∧
      Again (S32 g n) (fun x => x ≤ n) (fun x => n - x) i ⟨[(.d (.con (.int .i64 ((↑g : Int))))), (.d (.con (.int .i64 ((↑n : Int))))), .any, .any, .any, (.vec ((8 : Nat)) ((1 : Nat)) ((0 : Nat)) n), (.d (.con (.int .i64 ((↑i : Int))))), .any, .any, (.d (.con (.int .i64 ((↑n : Int))))), (.d (.con (.int .i64 ((↑i : Int) + (1 : Int))))), (.d (.con (.bool (decide ((↑i : Int) < (↑n : Int)))))), (.d (.con (.int .i64 ((↑i : Int))))), (.vec ((8 : Nat)) ((1 : Nat)) ((0 : Nat)) n), (.d (.con (.int .i64 ((↑n : Int))))), (.d (.con (.int .i64 ((↑n : Int) - (1 : Int))))), (.d (.con (.int .i64 ((↑i : Int))))), (.d (.con (.int .i64 ((↑n : Int) - (1 : Int) - (↑i : Int))))), (.d (.con (.int .i64 ((↑g : Int))))), (.d (.con (.int .u64 (IntKind.wrap IntKind.u64 (↑g : Int))))), (.d (.con (.int .i64 ((↑i : Int))))), (.d (.con (.int .i64 ((4 : Int) * (↑i : Int))))), (.d (.con (.int .u64 (Int.fdiv (IntKind.wrap IntKind.u64 (↑g : Int)) ((2 : Int) ^ min (Int.toNat ((4 : Int) * (↑i : Int))) (IntKind.bits IntKind.u64)))))), (.d (.con (.int .u64 (IntKind.wrap IntKind.u64 (↑(BitVec.toNat (BitVec.ofInt (IntKind.bits IntKind.u64) (Int.fdiv (IntKind.wrap IntKind.u64 (↑g : Int)) ((2 : Int) ^ min (Int.toNat ((4 : Int) * (↑i : Int))) (IntKind.bits IntKind.u64))) &&& BitVec.ofInt (IntKind.bits IntKind.u64) (15 : Int))) : Int))))), (.d (.con (.int .u8 (byteAt { data := #[(48 : UInt8), (49 : UInt8), (50 : UInt8), (51 : UInt8), (52 : UInt8), (53 : UInt8), (54 : UInt8), (55 : UInt8), (56 : UInt8), (57 : UInt8), (97 : UInt8), (98 : UInt8), (99 : UInt8), (100 : UInt8), (101 : UInt8), (102 : UInt8)] } (Int.toNat (IntKind.wrap IntKind.u64 (↑(BitVec.toNat (BitVec.ofInt (IntKind.bits IntKind.u64) (Int.fdiv (IntKind.wrap IntKind.u64 (↑g : Int)) ((2 : Int) ^ min (Int.toNat ((4 : Int) * (↑i : Int))) (IntKind.bits IntKind.u64))) &&& BitVec.ofInt (IntKind.bits IntKind.u64) (15 : Int))) : Int))))))), (.elem ((8 : Nat)) ((1 : Nat)) ((0 : Nat) + Int.toNat ((↑n : Int) - (1 : Int) - (↑i : Int))) ((0 : Nat))), (.d (.con (.int .i64 ((↑i : Int) + (1 : Int))))), .any, .any], [(((8 : Nat)), [(.arr ⟨false, ((5 : Nat)), false⟩ ((1 : Nat)) (fun j => bif Nat.beq j ((0 : Nat) + Int.toNat ((↑n : Int) - (1 : Int) - (↑i : Int))) then DV.con (Value.int IntKind.u8 (byteAt { data := #[(48 : UInt8), (49 : UInt8), (50 : UInt8), (51 : UInt8), (52 : UInt8), (53 : UInt8), (54 : UInt8), (55 : UInt8), (56 : UInt8), (57 : UInt8), (97 : UInt8), (98 : UInt8), (99 : UInt8), (100 : UInt8), (101 : UInt8), (102 : UInt8)] } (Int.toNat (IntKind.wrap IntKind.u64 (↑(BitVec.toNat (BitVec.ofInt (IntKind.bits IntKind.u64) (Int.fdiv (IntKind.wrap IntKind.u64 (↑g : Int)) ((2 : Int) ^ min (Int.toNat ((4 : Int) * (↑i : Int))) (IntKind.bits IntKind.u64))) &&& BitVec.ofInt (IntKind.bits IntKind.u64) (15 : Int))) : Int))))) else rowE (digitC g n) n i j))])]⟩))) ∧
      (((decide ((↑i : Int) < (↑n : Int))) = false) →
      AWP Tryd.prog G [.code (cAt (bodyOf Tryd.f32) [1, 1, 1])] ⟨[(.d (.con (.int .i64 ((↑g : Int))))), (.d (.con (.int .i64 ((↑n : Int))))), .any, .any, .any, (.vec ((8 : Nat)) ((1 : Nat)) ((0 : Nat)) n), .any, .any, .any, (.d (.con (.int .i64 ((↑n : Int))))), (.d (.con (.int .i64 ((↑i : Int))))), (.d (.con (.bool (decide ((↑i : Int) < (↑n : Int)))))), .any, .any, .any, .any, .any, .any, .any, .any, .any, .any, .any, .any, .any, .any, .any, .any, .any], [(((8 : Nat)), [(.arr ⟨false, ((5 : Nat)), false⟩ ((1 : Nat)) (rowE (digitC g n) n i))])]⟩ (Ret Tryd.prog Tryd.f32 (ds (hexB g n)))))) (by kernel_rfl) ?_
    refine ⟨fun h => ?_, fun h => ?_⟩
    · have hi' : i < n := by simpa using h
      have e := hex_val g i (by omega) (by omega)
      have e3 : (n : Int) - 1 - (i : Int) = ((n - 1 - i : Nat) : Int) := by omega
      have h2 : g / 16 ^ i % 16 < 16 := Nat.mod_lt _ (by decide)
      rw [e, e3]
      refine ⟨⟨⟨by omega, by omega⟩, ⟨by omega, by omega⟩, ⟨by omega, by omega⟩, by omega, ⟨by omega, Int.ofNat_lt.2 h2⟩, by omega, by omega⟩, ⟨by omega, by omega⟩, Again.mk (i + 1) ?_ (by omega) (by omega)⟩
      refine of_eq (b :=
        (((((.d (.con (.int .i64 ((↑g : Int))))) : AV) = (.d (.con (.int .i64 ((↑g : Int)))))) ∧
        ((((.d (.con (.int .i64 ((↑n : Int))))) : AV) = (.d (.con (.int .i64 ((↑n : Int)))))) ∧
        ((((.vec ((8 : Nat)) ((1 : Nat)) ((0 : Nat)) n) : AV) = (.vec ((8 : Nat)) ((1 : Nat)) ((0 : Nat)) n)) ∧
        ((((.d (.con (.int .i64 ((↑n : Int))))) : AV) = (.d (.con (.int .i64 ((↑n : Int)))))) ∧
        ((((.d (.con (.int .i64 ((↑i : Int) + (1 : Int))))) : AV) = (.d (.con (.int .i64 ((↑(i + (1 : Nat)) : Int)))))) ∧
        True))))) ∧
        ((((some [(.arr ⟨false, ((5 : Nat)), false⟩ ((1 : Nat)) (fun j => bif Nat.beq j ((0 : Nat) + Int.toNat (↑(n - (1 : Nat) - i) : Int)) then DV.con (Value.int IntKind.u8 (byteAt { data := #[(48 : UInt8), (49 : UInt8), (50 : UInt8), (51 : UInt8), (52 : UInt8), (53 : UInt8), (54 : UInt8), (55 : UInt8), (56 : UInt8), (57 : UInt8), (97 : UInt8), (98 : UInt8), (99 : UInt8), (100 : UInt8), (101 : UInt8), (102 : UInt8)] } (Int.toNat (↑(g / (16 : Nat) ^ i % (16 : Nat)) : Int)))) else rowE (digitC g n) n i j))]) : (Option (List AV))) = (some [(.arr ⟨false, ((5 : Nat)), false⟩ ((1 : Nat)) (rowE (digitC g n) n (i + (1 : Nat))))])) ∧
        True))) (by kernel_rfl) ?_
      refine ⟨⟨rfl, rfl, rfl, rfl, rfl, trivial⟩, ?_, trivial⟩
      have e4 : digitC g n (n - 1 - i) = hexC (g / 16 ^ i % 16) := by
        have : n - 1 - (n - 1 - i) = i := by omega
        rw [digitC, this]
      rw [← rowE_succ (digitC g n) n i hi' _ ((hex_at _ h2).trans (by rw [e4])), Nat.zero_add]
      rfl
    · have : i = n := by simp at h; omega
      subst this
      refine walk (orc := orc0) (keep := []) (cuts := []) (n := 1000) follows ?_
      refine of_eqH (b :=
        (BytesAt i (fun i_1 => rowE (digitC g i) i i ((0 : Nat) + i_1)) ∧
        (((.con (.string ({ data := List.toArray (bytesOf i fun i_1 => rowE (digitC g i) i i ((0 : Nat) + i_1)) }))) : DV) = (ds (hexB g i))))) (by kernel_rfl) ?_
      rw [rowE_full]
      exact ⟨rowB_at _ _, by rw [rowB_bytes]; rfl⟩
def S33 (g n : Nat) (x : Nat) : AS := ⟨regs 29 [(0, .d (.con (.int .u8 g))), (1, vi n), (5, .vec 8 1 0 n), (9, vi n), (10, vi x)], [(8, [.arr byteK 1 (rowE (digitC g n) n x)])]⟩
theorem f33 (g n : Nat) (hg : g < 256) (hn : n ≤ 16) : FnOK Tryd.prog G 33 [.con (.int .u8 g), di n] (ds (hexB g n)) := by
  refine FnOK.walk (orc := orc0) (keep := []) follows Tryd.func33 rfl Tryd.call33 ?_
  refine of_eqH (b :=
    (((((↑n : Int)) = ((↑n : Int))) ∧
    (((0 : Int) ≤ (↑n : Int)) ∧
    (((↑(1 : Nat) : Int) * (↑n : Int) ≤ (281474976710656 : Int)) ∧
    ((↑n : Int) ≤ (9223372036854775807 : Int))))) ∧
    AWP Tryd.prog G [.code (cAt (bodyOf Tryd.f33) [1, 1, 0, 1, 0]), (.blk ((0 : Nat))), .code (cAt (bodyOf Tryd.f33) [1, 1, 1])] ⟨[(.d (.con (.int .u8 ((↑g : Int))))), (.d (.con (.int .i64 ((↑n : Int))))), .any, .any, (.d (.con (.string ({ data := #[] })))), (.vec ((8 : Nat)) ((1 : Nat)) ((0 : Nat)) (Int.toNat (↑n : Int))), .any, (.d (.con (.int .i64 ((↑n : Int))))), (.vec ((8 : Nat)) ((1 : Nat)) ((0 : Nat)) (Int.toNat (↑n : Int))), (.d (.con (.int .i64 ((↑n : Int))))), (.d (.con (.int .i64 ((0 : Int))))), .any, .any, .any, .any, .any, .any, .any, .any, .any, .any, .any, .any, .any, .any, .any, .any, .any, .any], [(((8 : Nat)), [(.arr ⟨false, ((5 : Nat)), false⟩ ((1 : Nat)) (fun x => DV.con (List.getD [Value.int IntKind.u8 (0 : Int)] (0 : Nat) undef)))])]⟩ (Ret Tryd.prog Tryd.f33 (ds (hexB g n))))) (by kernel_rfl) ?_
  refine ⟨⟨rfl, by omega, by omega, by omega⟩, ?_⟩
  refine AWP.loop (c := cAt (bodyOf Tryd.f33) [1, 1, 0, 1, 0, 0]) (by kernel_rfl) (S33 g n) (fun x => x ≤ n) (fun x => n - x) 0 ?_ (Nat.zero_le _) ?_
  · refine of_eq (b :=
    (((((.d (.con (.int .u8 ((↑g : Int))))) : AV) = (.d (.con (.int .u8 ((↑g : Int)))))) ∧
    ((((.d (.con (.int .i64 ((↑n : Int))))) : AV) = (.d (.con (.int .i64 ((↑n : Int)))))) ∧
    ((((.vec ((8 : Nat)) ((1 : Nat)) ((0 : Nat)) (Int.toNat (↑n : Int))) : AV) = (.vec ((8 : Nat)) ((1 : Nat)) ((0 : Nat)) n)) ∧
    ((((.d (.con (.int .i64 ((↑n : Int))))) : AV) = (.d (.con (.int .i64 ((↑n : Int)))))) ∧
    ((((.d (.con (.int .i64 ((0 : Int))))) : AV) = (.d (.con (.int .i64 ((0 : Int)))))) ∧
    True))))) ∧
    ((((some [(.arr ⟨false, ((5 : Nat)), false⟩ ((1 : Nat)) (fun x => DV.con (List.getD [Value.int IntKind.u8 (0 : Int)] (0 : Nat) undef)))]) : (Option (List AV))) = (some [(.arr ⟨false, ((5 : Nat)), false⟩ ((1 : Nat)) (rowE (digitC g n) n (0 : Nat)))])) ∧
    True))) (by kernel_rfl) ?_
    refine ⟨⟨rfl, rfl, rfl, rfl, rfl, trivial⟩, ?_, trivial⟩
    rw [rowE_zero]; rfl
  · intro i hi
    refine walk (orc := orc0) (keep := []) (cuts := []) (n := 1000) follows ?_
    refine of_eqH (b :=
      ((((decide ((↑i : Int) < (↑n : Int))) = true) →
      (((I64 ((↑n : Int) - (1 : Int))) ∧
      ((I64 ((↑n : Int) - (1 : Int) - (↑i : Int))) ∧
      ((I64 ((4 : Int) * (↑i : Int))) ∧
      (((0 : Int) ≤ (4 : Int) * (↑i : Int)) ∧
      ((((0 : Int) ≤ IntKind.wrap IntKind.u64 (↑(BitVec.toNat (BitVec.ofInt (IntKind.bits IntKind.u64) (Int.fdiv (IntKind.wrap IntKind.u64 (↑g : Int)) ((2 : Int) ^ min (Int.toNat ((4 : Int) * (↑i : Int))) (IntKind.bits IntKind.u64))) &&& BitVec.ofInt (IntKind.bits IntKind.u64) (15 : Int))) : Int)) ∧
      (IntKind.wrap IntKind.u64 (↑(BitVec.toNat (BitVec.ofInt (IntKind.bits IntKind.u64) (Int.fdiv (IntKind.wrap IntKind.u64 (↑g : Int)) ((2 : Int) ^ min (Int.toNat ((4 : Int) * (↑i : Int))) (IntKind.bits IntKind.u64))) &&& BitVec.ofInt (IntKind.bits IntKind.u64) (15 : Int))) : Int) < (↑(ByteArray.size { data := #[(48 : UInt8), (49 : UInt8), (50 : UInt8), (51 : UInt8), (52 : UInt8), (53 : UInt8), (54 : UInt8), (55 : UInt8), (56 : UInt8), (57 : UInt8), (97 : UInt8), (98 : UInt8), (99 : UInt8), (100 : UInt8), (101 : UInt8), (102 : UInt8)] }) : Int))) ∧
      (((0 : Int) ≤ (↑n : Int) - (1 : Int) - (↑i : Int)) ∧
      ((↑n : Int) - (1 : Int) - (↑i : Int) < (↑n : Int)))))))) ∧
      ((I64 ((↑i : Int) + (1 : Int))) ∧
      Again (S33 g n) (fun x => x ≤ n) (fun x => n - x) i ⟨[(.d (.con (.int .u8 ((↑g : Int))))), (.d (.con (.int .i64 ((↑n : Int))))), .any, .any, .any, (.vec ((8 : Nat)) ((1 : Nat)) ((0 : Nat)) n), (.d (.con (.int .i64 ((↑i : Int))))), .any, .any, (.d (.con (.int .i64 ((↑n : Int))))), (.d (.con (.int .i64 ((↑i : Int) + (1 : Int))))), (.d (.con (.bool (decide ((↑i : Int) < (↑n : Int)))))), (.d (.con (.int .i64 ((↑i : Int))))), (.vec ((8 : Nat)) ((1 : Nat)) ((0 : Nat)) n), (.d (.con (.int .i64 ((↑n : Int))))), (.d (.con (.int .i64 ((↑n : Int) - (1 : Int))))), (.d (.con (.int .i64 ((↑i : Int))))), (.d (.con (.int .i64 ((↑n : Int) - (1 : Int) - (↑i : Int))))), (.d (.con (.int .u8 ((↑g : Int))))), (.d (.con (.int .u64 (IntKind.wrap IntKind.u64 (↑g : Int))))), (.d (.con (.int .i64 ((↑i : Int))))), (.d (.con (.int .i64 ((4 : Int) * (↑i : Int))))), (.d (.con (.int .u64 (Int.fdiv (IntKind.wrap IntKind.u64 (↑g : Int)) ((2 : Int) ^ min (Int.toNat ((4 : Int) * (↑i : Int))) (IntKind.bits IntKind.u64)))))), (.d (.con (.int .u64 (IntKind.wrap IntKind.u64 (↑(BitVec.toNat (BitVec.ofInt (IntKind.bits IntKind.u64) (Int.fdiv (IntKind.wrap IntKind.u64 (↑g : Int)) ((2 : Int) ^ min (Int.toNat ((4 : Int) * (↑i : Int))) (IntKind.bits IntKind.u64))) &&& BitVec.ofInt (IntKind.bits IntKind.u64) (15 : Int))) : Int))))), (.d (.con (.int .u8 (byteAt { data := #[(48 : UInt8), (49 : UInt8), (50 : UInt8), (51 : UInt8), (52 : UInt8), (53 : UInt8), (54 : UInt8), (55 : UInt8), (56 : UInt8), (57 : UInt8), (97 : UInt8), (98 : UInt8), (99 : UInt8), (100 : UInt8), (101 : UInt8), (102 : UInt8)] } (Int.toNat (IntKind.wrap IntKind.u64 (↑(BitVec.toNat (BitVec.ofInt (IntKind.bits IntKind.u64) (Int.fdiv (IntKind.wrap IntKind.u64 (↑g : Int)) ((2 : Int) ^ min (Int.toNat ((4 : Int) * (↑i : Int))) (IntKind.bits IntKind.u64))) &&& BitVec.ofInt (IntKind.bits IntKind.u64) (15 : Int))) : Int))))))), (.elem ((8 : Nat)) ((1 : Nat)) ((0 : Nat) + Int.toNat ((↑n : Int) - (1 : Int) - (↑i : Int))) ((0 : Nat))), (.d (.con (.int .i64 ((↑i : Int) + (1 : Int))))), .any, .any], [(((8 : Nat)), [(.arr ⟨false, ((5 : Nat)), false⟩ ((1 : Nat)) (fun j => bif Nat.beq j ((0 : Nat) + Int.toNat ((↑n : Int) - (1 : Int) - (↑i : Int))) then DV.con (Value.int IntKind.u8 (byteAt { data := #[(48 : UInt8), (49 : UInt8), (50 : UInt8), (51 : UInt8), (52 : UInt8), (53 : UInt8), (54 : UInt8), (55 : UInt8), (56 : UInt8), (57 : UInt8), (97 : UInt8), (98 : UInt8), (99 : UInt8), (100 : UInt8), (101 : UInt8), (102 : UInt8)] } (Int.toNat (IntKind.wrap IntKind.u64 (↑(BitVec.toNat (BitVec.ofInt (IntKind.bits IntKind.u64) (Int.fdiv (IntKind.wrap IntKind.u64 (↑g : Int)) ((2 : Int) ^ min (Int.toNat ((4 : Int) * (↑i : Int))) (IntKind.bits IntKind.u64))) &&& BitVec.ofInt (IntKind.bits IntKind.u64) (15 : Int))) : Int))))) else rowE (digitC g n) n i j))])]⟩))) ∧
      (((decide ((↑i : Int) < (↑n : Int))) = false) →
      AWP Tryd.prog G [.code (cAt (bodyOf Tryd.f33) [1, 1, 1])] ⟨[(.d (.con (.int .u8 ((↑g : Int))))), (.d (.con (.int .i64 ((↑n : Int))))), .any, .any, .any, (.vec ((8 : Nat)) ((1 : Nat)) ((0 : Nat)) n), .any, .any, .any, (.d (.con (.int .i64 ((↑n : Int))))), (.d (.con (.int .i64 ((↑i : Int))))), (.d (.con (.bool (decide ((↑i : Int) < (↑n : Int)))))), .any, .any, .any, .any, .any, .any, .any, .any, .any, .any, .any, .any, .any, .any, .any, .any, .any], [(((8 : Nat)), [(.arr ⟨false, ((5 : Nat)), false⟩ ((1 : Nat)) (rowE (digitC g n) n i))])]⟩ (Ret Tryd.prog Tryd.f33 (ds (hexB g n)))))) (by kernel_rfl) ?_
    refine ⟨fun h => ?_, fun h => ?_⟩
    · have hi' : i < n := by simpa using h
      have e := hex_val g i (by omega) (by omega)
      have e3 : (n : Int) - 1 - (i : Int) = ((n - 1 - i : Nat) : Int) := by omega
      have h2 : g / 16 ^ i % 16 < 16 := Nat.mod_lt _ (by decide)
      rw [e, e3]
      refine ⟨⟨⟨by omega, by omega⟩, ⟨by omega, by omega⟩, ⟨by omega, by omega⟩, by omega, ⟨by omega, Int.ofNat_lt.2 h2⟩, by omega, by omega⟩, ⟨by omega, by omega⟩, Again.mk (i + 1) ?_ (by omega) (by omega)⟩
      refine of_eq (b :=
        (((((.d (.con (.int .u8 ((↑g : Int))))) : AV) = (.d (.con (.int .u8 ((↑g : Int)))))) ∧
        ((((.d (.con (.int .i64 ((↑n : Int))))) : AV) = (.d (.con (.int .i64 ((↑n : Int)))))) ∧
        ((((.vec ((8 : Nat)) ((1 : Nat)) ((0 : Nat)) n) : AV) = (.vec ((8 : Nat)) ((1 : Nat)) ((0 : Nat)) n)) ∧
        ((((.d (.con (.int .i64 ((↑n : Int))))) : AV) = (.d (.con (.int .i64 ((↑n : Int)))))) ∧
        ((((.d (.con (.int .i64 ((↑i : Int) + (1 : Int))))) : AV) = (.d (.con (.int .i64 ((↑(i + (1 : Nat)) : Int)))))) ∧
        True))))) ∧
        ((((some [(.arr ⟨false, ((5 : Nat)), false⟩ ((1 : Nat)) (fun j => bif Nat.beq j ((0 : Nat) + Int.toNat (↑(n - (1 : Nat) - i) : Int)) then DV.con (Value.int IntKind.u8 (byteAt { data := #[(48 : UInt8), (49 : UInt8), (50 : UInt8), (51 : UInt8), (52 : UInt8), (53 : UInt8), (54 : UInt8), (55 : UInt8), (56 : UInt8), (57 : UInt8), (97 : UInt8), (98 : UInt8), (99 : UInt8), (100 : UInt8), (101 : UInt8), (102 : UInt8)] } (Int.toNat (↑(g / (16 : Nat) ^ i % (16 : Nat)) : Int)))) else rowE (digitC g n) n i j))]) : (Option (List AV))) = (some [(.arr ⟨false, ((5 : Nat)), false⟩ ((1 : Nat)) (rowE (digitC g n) n (i + (1 : Nat))))])) ∧
        True))) (by kernel_rfl) ?_
      refine ⟨⟨rfl, rfl, rfl, rfl, rfl, trivial⟩, ?_, trivial⟩
      have e4 : digitC g n (n - 1 - i) = hexC (g / 16 ^ i % 16) := by
        have : n - 1 - (n - 1 - i) = i := by omega
        rw [digitC, this]
      rw [← rowE_succ (digitC g n) n i hi' _ ((hex_at _ h2).trans (by rw [e4])), Nat.zero_add]
      rfl
    · have : i = n := by simp at h; omega
      subst this
      refine walk (orc := orc0) (keep := []) (cuts := []) (n := 1000) follows ?_
      refine of_eqH (b :=
        (BytesAt i (fun i_1 => rowE (digitC g i) i i ((0 : Nat) + i_1)) ∧
        (((.con (.string ({ data := List.toArray (bytesOf i fun i_1 => rowE (digitC g i) i i ((0 : Nat) + i_1)) }))) : DV) = (ds (hexB g i))))) (by kernel_rfl) ?_
      rw [rowE_full]
      exact ⟨rowB_at _ _, by rw [rowB_bytes]; rfl⟩
def S34 (g n : Nat) (x : Nat) : AS := ⟨regs 28 [(0, vu g), (1, vi n), (5, .vec 8 1 0 n), (9, vi n), (10, vi x)], [(8, [.arr byteK 1 (rowE (digitC g n) n x)])]⟩
theorem f34 (g n : Nat) (hg : g < 18446744073709551616) (hn : n ≤ 16) : FnOK Tryd.prog G 34 [du g, di n] (ds (hexB g n)) := by
  refine FnOK.walk (orc := orc0) (keep := []) follows Tryd.func34 rfl Tryd.call34 ?_
  refine of_eqH (b :=
    (((((↑n : Int)) = ((↑n : Int))) ∧
    (((0 : Int) ≤ (↑n : Int)) ∧
    (((↑(1 : Nat) : Int) * (↑n : Int) ≤ (281474976710656 : Int)) ∧
    ((↑n : Int) ≤ (9223372036854775807 : Int))))) ∧
    AWP Tryd.prog G [.code (cAt (bodyOf Tryd.f34) [1, 1, 0, 1, 0]), (.blk ((0 : Nat))), .code (cAt (bodyOf Tryd.f34) [1, 1, 1])] ⟨[(.d (.con (.int .u64 ((↑g : Int))))), (.d (.con (.int .i64 ((↑n : Int))))), .any, .any, (.d (.con (.string ({ data := #[] })))), (.vec ((8 : Nat)) ((1 : Nat)) ((0 : Nat)) (Int.toNat (↑n : Int))), .any, (.d (.con (.int .i64 ((↑n : Int))))), (.vec ((8 : Nat)) ((1 : Nat)) ((0 : Nat)) (Int.toNat (↑n : Int))), (.d (.con (.int .i64 ((↑n : Int))))), (.d (.con (.int .i64 ((0 : Int))))), .any, .any, .any, .any, .any, .any, .any, .any, .any, .any, .any, .any, .any, .any, .any, .any, .any], [(((8 : Nat)), [(.arr ⟨false, ((5 : Nat)), false⟩ ((1 : Nat)) (fun x => DV.con (List.getD [Value.int IntKind.u8 (0 : Int)] (0 : Nat) undef)))])]⟩ (Ret Tryd.prog Tryd.f34 (ds (hexB g n))))) (by kernel_rfl) ?_
  refine ⟨⟨rfl, by omega, by omega, by omega⟩, ?_⟩
  refine AWP.loop (c := cAt (bodyOf Tryd.f34) [1, 1, 0, 1, 0, 0]) (by kernel_rfl) (S34 g n) (fun x => x ≤ n) (fun x => n - x) 0 ?_ (Nat.zero_le _) ?_
  · refine of_eq (b :=
    (((((.d (.con (.int .u64 ((↑g : Int))))) : AV) = (.d (.con (.int .u64 ((↑g : Int)))))) ∧
    ((((.d (.con (.int .i64 ((↑n : Int))))) : AV) = (.d (.con (.int .i64 ((↑n : Int)))))) ∧
    ((((.vec ((8 : Nat)) ((1 : Nat)) ((0 : Nat)) (Int.toNat (↑n : Int))) : AV) = (.vec ((8 : Nat)) ((1 : Nat)) ((0 : Nat)) n)) ∧
    ((((.d (.con (.int .i64 ((↑n : Int))))) : AV) = (.d (.con (.int .i64 ((↑n : Int)))))) ∧
    ((((.d (.con (.int .i64 ((0 : Int))))) : AV) = (.d (.con (.int .i64 ((0 : Int)))))) ∧
    True))))) ∧
    ((((some [(.arr ⟨false, ((5 : Nat)), false⟩ ((1 : Nat)) (fun x => DV.con (List.getD [Value.int IntKind.u8 (0 : Int)] (0 : Nat) undef)))]) : (Option (List AV))) = (some [(.arr ⟨false, ((5 : Nat)), false⟩ ((1 : Nat)) (rowE (digitC g n) n (0 : Nat)))])) ∧
    True))) (by kernel_rfl) ?_
    refine ⟨⟨rfl, rfl, rfl, rfl, rfl, trivial⟩, ?_, trivial⟩
    rw [rowE_zero]; rfl
  · intro i hi
    refine walk (orc := orc0) (keep := []) (cuts := []) (n := 1000) follows ?_
    refine of_eqH (b :=
      ((((decide ((↑i : Int) < (↑n : Int))) = true) →
      (((I64 ((↑n : Int) - (1 : Int))) ∧
      ((I64 ((↑n : Int) - (1 : Int) - (↑i : Int))) ∧
      ((I64 ((4 : Int) * (↑i : Int))) ∧
      (((0 : Int) ≤ (4 : Int) * (↑i : Int)) ∧
      ((((0 : Int) ≤ IntKind.wrap IntKind.u64 (↑(BitVec.toNat (BitVec.ofInt (IntKind.bits IntKind.u64) (Int.fdiv (↑g : Int) ((2 : Int) ^ min (Int.toNat ((4 : Int) * (↑i : Int))) (IntKind.bits IntKind.u64))) &&& BitVec.ofInt (IntKind.bits IntKind.u64) (15 : Int))) : Int)) ∧
      (IntKind.wrap IntKind.u64 (↑(BitVec.toNat (BitVec.ofInt (IntKind.bits IntKind.u64) (Int.fdiv (↑g : Int) ((2 : Int) ^ min (Int.toNat ((4 : Int) * (↑i : Int))) (IntKind.bits IntKind.u64))) &&& BitVec.ofInt (IntKind.bits IntKind.u64) (15 : Int))) : Int) < (↑(ByteArray.size { data := #[(48 : UInt8), (49 : UInt8), (50 : UInt8), (51 : UInt8), (52 : UInt8), (53 : UInt8), (54 : UInt8), (55 : UInt8), (56 : UInt8), (57 : UInt8), (97 : UInt8), (98 : UInt8), (99 : UInt8), (100 : UInt8), (101 : UInt8), (102 : UInt8)] }) : Int))) ∧
      (((0 : Int) ≤ (↑n : Int) - (1 : Int) - (↑i : Int)) ∧
      ((↑n : Int) - (1 : Int) - (↑i : Int) < (↑n : Int)))))))) ∧
      ((I64 ((↑i : Int) + (1 : Int))) ∧
      Again (S34 g n) (fun x => x ≤ n) (fun x => n - x) i ⟨[(.d (.con (.int .u64 ((↑g : Int))))), (.d (.con (.int .i64 ((↑n : Int))))), .any, .any, .any, (.vec ((8 : Nat)) ((1 : Nat)) ((0 : Nat)) n), (.d (.con (.int .i64 ((↑i : Int))))), .any, .any, (.d (.con (.int .i64 ((↑n : Int))))), (.d (.con (.int .i64 ((↑i : Int) + (1 : Int))))), (.d (.con (.bool (decide ((↑i : Int) < (↑n : Int)))))), (.d (.con (.int .i64 ((↑i : Int))))), (.vec ((8 : Nat)) ((1 : Nat)) ((0 : Nat)) n), (.d (.con (.int .i64 ((↑n : Int))))), (.d (.con (.int .i64 ((↑n : Int) - (1 : Int))))), (.d (.con (.int .i64 ((↑i : Int))))), (.d (.con (.int .i64 ((↑n : Int) - (1 : Int) - (↑i : Int))))), (.d (.con (.int .u64 ((↑g : Int))))), (.d (.con (.int .i64 ((↑i : Int))))), (.d (.con (.int .i64 ((4 : Int) * (↑i : Int))))), (.d (.con (.int .u64 (Int.fdiv (↑g : Int) ((2 : Int) ^ min (Int.toNat ((4 : Int) * (↑i : Int))) (IntKind.bits IntKind.u64)))))), (.d (.con (.int .u64 (IntKind.wrap IntKind.u64 (↑(BitVec.toNat (BitVec.ofInt (IntKind.bits IntKind.u64) (Int.fdiv (↑g : Int) ((2 : Int) ^ min (Int.toNat ((4 : Int) * (↑i : Int))) (IntKind.bits IntKind.u64))) &&& BitVec.ofInt (IntKind.bits IntKind.u64) (15 : Int))) : Int))))), (.d (.con (.int .u8 (byteAt { data := #[(48 : UInt8), (49 : UInt8), (50 : UInt8), (51 : UInt8), (52 : UInt8), (53 : UInt8), (54 : UInt8), (55 : UInt8), (56 : UInt8), (57 : UInt8), (97 : UInt8), (98 : UInt8), (99 : UInt8), (100 : UInt8), (101 : UInt8), (102 : UInt8)] } (Int.toNat (IntKind.wrap IntKind.u64 (↑(BitVec.toNat (BitVec.ofInt (IntKind.bits IntKind.u64) (Int.fdiv (↑g : Int) ((2 : Int) ^ min (Int.toNat ((4 : Int) * (↑i : Int))) (IntKind.bits IntKind.u64))) &&& BitVec.ofInt (IntKind.bits IntKind.u64) (15 : Int))) : Int))))))), (.elem ((8 : Nat)) ((1 : Nat)) ((0 : Nat) + Int.toNat ((↑n : Int) - (1 : Int) - (↑i : Int))) ((0 : Nat))), (.d (.con (.int .i64 ((↑i : Int) + (1 : Int))))), .any, .any], [(((8 : Nat)), [(.arr ⟨false, ((5 : Nat)), false⟩ ((1 : Nat)) (fun j => bif Nat.beq j ((0 : Nat) + Int.toNat ((↑n : Int) - (1 : Int) - (↑i : Int))) then DV.con (Value.int IntKind.u8 (byteAt { data := #[(48 : UInt8), (49 : UInt8), (50 : UInt8), (51 : UInt8), (52 : UInt8), (53 : UInt8), (54 : UInt8), (55 : UInt8), (56 : UInt8), (57 : UInt8), (97 : UInt8), (98 : UInt8), (99 : UInt8), (100 : UInt8), (101 : UInt8), (102 : UInt8)] } (Int.toNat (IntKind.wrap IntKind.u64 (↑(BitVec.toNat (BitVec.ofInt (IntKind.bits IntKind.u64) (Int.fdiv (↑g : Int) ((2 : Int) ^ min (Int.toNat ((4 : Int) * (↑i : Int))) (IntKind.bits IntKind.u64))) &&& BitVec.ofInt (IntKind.bits IntKind.u64) (15 : Int))) : Int))))) else rowE (digitC g n) n i j))])]⟩))) ∧
      (((decide ((↑i : Int) < (↑n : Int))) = false) →
      AWP Tryd.prog G [.code (cAt (bodyOf Tryd.f34) [1, 1, 1])] ⟨[(.d (.con (.int .u64 ((↑g : Int))))), (.d (.con (.int .i64 ((↑n : Int))))), .any, .any, .any, (.vec ((8 : Nat)) ((1 : Nat)) ((0 : Nat)) n), .any, .any, .any, (.d (.con (.int .i64 ((↑n : Int))))), (.d (.con (.int .i64 ((↑i : Int))))), (.d (.con (.bool (decide ((↑i : Int) < (↑n : Int)))))), .any, .any, .any, .any, .any, .any, .any, .any, .any, .any, .any, .any, .any, .any, .any, .any], [(((8 : Nat)), [(.arr ⟨false, ((5 : Nat)), false⟩ ((1 : Nat)) (rowE (digitC g n) n i))])]⟩ (Ret Tryd.prog Tryd.f34 (ds (hexB g n)))))) (by kernel_rfl) ?_
    refine ⟨fun h => ?_, fun h => ?_⟩
    · have hi' : i < n := by simpa using h
      have e := hex_val g i (by omega) (by omega)
      rw [u64_nat g hg] at e
      have e3 : (n : Int) - 1 - (i : Int) = ((n - 1 - i : Nat) : Int) := by omega
      have h2 : g / 16 ^ i % 16 < 16 := Nat.mod_lt _ (by decide)
      rw [e, e3]
      refine ⟨⟨⟨by omega, by omega⟩, ⟨by omega, by omega⟩, ⟨by omega, by omega⟩, by omega, ⟨by omega, Int.ofNat_lt.2 h2⟩, by omega, by omega⟩, ⟨by omega, by omega⟩, Again.mk (i + 1) ?_ (by omega) (by omega)⟩
      refine of_eq (b :=
        (((((.d (.con (.int .u64 ((↑g : Int))))) : AV) = (.d (.con (.int .u64 ((↑g : Int)))))) ∧
        ((((.d (.con (.int .i64 ((↑n : Int))))) : AV) = (.d (.con (.int .i64 ((↑n : Int)))))) ∧
        ((((.vec ((8 : Nat)) ((1 : Nat)) ((0 : Nat)) n) : AV) = (.vec ((8 : Nat)) ((1 : Nat)) ((0 : Nat)) n)) ∧
        ((((.d (.con (.int .i64 ((↑n : Int))))) : AV) = (.d (.con (.int .i64 ((↑n : Int)))))) ∧
        ((((.d (.con (.int .i64 ((↑i : Int) + (1 : Int))))) : AV) = (.d (.con (.int .i64 ((↑(i + (1 : Nat)) : Int)))))) ∧
        True))))) ∧
        ((((some [(.arr ⟨false, ((5 : Nat)), false⟩ ((1 : Nat)) (fun j => bif Nat.beq j ((0 : Nat) + Int.toNat (↑(n - (1 : Nat) - i) : Int)) then DV.con (Value.int IntKind.u8 (byteAt { data := #[(48 : UInt8), (49 : UInt8), (50 : UInt8), (51 : UInt8), (52 : UInt8), (53 : UInt8), (54 : UInt8), (55 : UInt8), (56 : UInt8), (57 : UInt8), (97 : UInt8), (98 : UInt8), (99 : UInt8), (100 : UInt8), (101 : UInt8), (102 : UInt8)] } (Int.toNat (↑(g / (16 : Nat) ^ i % (16 : Nat)) : Int)))) else rowE (digitC g n) n i j))]) : (Option (List AV))) = (some [(.arr ⟨false, ((5 : Nat)), false⟩ ((1 : Nat)) (rowE (digitC g n) n (i + (1 : Nat))))])) ∧
        True))) (by kernel_rfl) ?_
      refine ⟨⟨rfl, rfl, rfl, rfl, rfl, trivial⟩, ?_, trivial⟩
      have e4 : digitC g n (n - 1 - i) = hexC (g / 16 ^ i % 16) := by
        have : n - 1 - (n - 1 - i) = i := by omega
        rw [digitC, this]
      rw [← rowE_succ (digitC g n) n i hi' _ ((hex_at _ h2).trans (by rw [e4])), Nat.zero_add]
      rfl
    · have : i = n := by simp at h; omega
      subst this
      refine walk (orc := orc0) (keep := []) (cuts := []) (n := 1000) follows ?_
      refine of_eqH (b :=
        (BytesAt i (fun i_1 => rowE (digitC g i) i i ((0 : Nat) + i_1)) ∧
        (((.con (.string ({ data := List.toArray (bytesOf i fun i_1 => rowE (digitC g i) i i ((0 : Nat) + i_1)) }))) : DV) = (ds (hexB g i))))) (by kernel_rfl) ?_
      rw [rowE_full]
      exact ⟨rowB_at _ _, by rw [rowB_bytes]; rfl⟩
end Go.Proofs

set_option autoImplicit false
namespace Go.Proofs
open Go Go.Ab
def bs (l : List UInt8) : ByteArray := ⟨l.toArray⟩
theorem bs_size (l : List UInt8) : (bs l).size = l.length := by simp [bs, ByteArray.size]
theorem bs_append (l m : List UInt8) : bs l ++ bs m = bs (l ++ m) := by
  apply ByteArray.ext; simp [bs]
theorem bytes_one (v : Int) (c : UInt8) (hv : v = c.toNat) : bytesOf 1 (elemF false 1 [.con (.int .u8 v)]) = [c] := by
  subst hv
  show [UInt8.ofNat (Int.toNat (c.toNat : Int))] = [c]
  simp
theorem bytes_oneAt (v : Int) (c : UInt8) (hv : v = c.toNat) : BytesAt 1 (elemF false 1 [.con (.int .u8 v)]) := by
  subst hv
  intro i hi
  obtain rfl : i = 0 := by omega
  rfl
/-- The low digits of a number. -/
def lowHex (n : Nat) (i : Nat) : List UInt8 := (List.range i).map (digitC n i)
theorem lowHex_succ (n i : Nat) : lowHex n (i + 1) = hexC (n / 16 ^ i % 16) :: lowHex n i := by
  rw [lowHex, List.range_succ_eq_map, List.map_cons, List.map_map]
  congr 1
  refine List.map_congr_left fun j hj => ?_
  have := List.mem_range.1 hj
  have e : i + 1 - 1 - (j + 1) = i - 1 - j := by omega
  simp only [Function.comp, digitC, Nat.succ_eq_add_one, e]
def stampW (g w j : Nat) : UInt8 := UInt8.ofNat (128 + g / 128 ^ (w - 1 - j) % 128)
def lowStamp (n : Nat) (i : Nat) : List UInt8 := (List.range i).map (stampW n i)
theorem lowStamp_succ (n i : Nat) : lowStamp n (i + 1) = UInt8.ofNat (128 + n / 128 ^ i % 128) :: lowStamp n i := by
  rw [lowStamp, List.range_succ_eq_map, List.map_cons, List.map_map]
  congr 1
  refine List.map_congr_left fun j hj => ?_
  have := List.mem_range.1 hj
  have e : i + 1 - 1 - (j + 1) = i - 1 - j := by omega
  simp only [Function.comp, stampW, Nat.succ_eq_add_one, e]
theorem lowHex_len (n i : Nat) : (lowHex n i).length = i := by simp [lowHex]
theorem lowStamp_len (n i : Nat) : (lowStamp n i).length = i := by simp [lowStamp]
theorem ndiv_succ (g b i : Nat) : g / b ^ i / b = g / b ^ (i + 1) := by rw [Nat.div_div_eq_div_mul, Nat.pow_succ]
end Go.Proofs

set_option autoImplicit false
namespace Go.Proofs
open Go Go.Ab
set_option maxHeartbeats 1000000
set_option maxRecDepth 100000
variable {G : IH}
def S38 (g n : Nat) (x : Nat) : AS := ⟨regs 22 [(0, vu (g / 16 ^ x : Nat)), (1, vi n), (5, vs (bs (lowHex g x))), (6, vi x)], []⟩
theorem f38 (g n : Nat) (hg : g < 18446744073709551616) (hn : n ≤ 16) : FnOK Tryd.prog G 38 [du g, di n] (ds (hexB g n)) := by
  refine FnOK.walk (orc := orc0) (keep := []) follows Tryd.func38 rfl Tryd.call38 ?_
  refine of_eqH (b :=
    AWP Tryd.prog G [.code (cAt (bodyOf Tryd.f38) [1, 1, 0, 1, 0]), (.blk ((0 : Nat))), .code (cAt (bodyOf Tryd.f38) [1, 1, 1])] ⟨[(.d (.con (.int .u64 ((↑g : Int))))), (.d (.con (.int .i64 ((↑n : Int))))), .any, .any, (.d (.con (.string ({ data := #[] })))), (.d (.con (.string ({ data := #[] })))), (.d (.con (.int .i64 ((0 : Int))))), .any, .any, .any, .any, .any, .any, .any, .any, .any, .any, .any, .any, .any, .any, .any], []⟩ (Ret Tryd.prog Tryd.f38 (ds (hexB g n)))) (by kernel_rfl) ?_
  refine AWP.loop (c := cAt (bodyOf Tryd.f38) [1, 1, 0, 1, 0, 0]) (by kernel_rfl) (S38 g n) (fun x => x ≤ n) (fun x => n - x) 0 ?_ (Nat.zero_le _) ?_
  · refine of_eq (b :=
    (((((.d (.con (.int .u64 ((↑g : Int))))) : AV) = (.d (.con (.int .u64 ((↑(g / (16 : Nat) ^ (0 : Nat)) : Int)))))) ∧
    ((((.d (.con (.int .i64 ((↑n : Int))))) : AV) = (.d (.con (.int .i64 ((↑n : Int)))))) ∧
    ((((.d (.con (.string ({ data := #[] })))) : AV) = (.d (.con (.string (bs (lowHex g (0 : Nat))))))) ∧
    ((((.d (.con (.int .i64 ((0 : Int))))) : AV) = (.d (.con (.int .i64 ((0 : Int)))))) ∧
    True)))) ∧
    True)) (by kernel_rfl) ?_
    refine ⟨⟨?_, rfl, rfl, rfl, trivial⟩, trivial⟩
    rw [Nat.pow_zero, Nat.div_one]
  · intro i hi
    refine walk (orc := orc0) (keep := []) (cuts := []) (n := 1000) follows ?_
    refine of_eqH (b :=
      ((((decide ((↑i : Int) < (↑n : Int))) = true) →
      (((((0 : Int) ≤ Int.tmod (↑(g / (16 : Nat) ^ i) : Int) (16 : Int)) ∧
      (Int.tmod (↑(g / (16 : Nat) ^ i) : Int) (16 : Int) < (↑(ByteArray.size { data := #[(48 : UInt8), (49 : UInt8), (50 : UInt8), (51 : UInt8), (52 : UInt8), (53 : UInt8), (54 : UInt8), (55 : UInt8), (56 : UInt8), (57 : UInt8), (97 : UInt8), (98 : UInt8), (99 : UInt8), (100 : UInt8), (101 : UInt8), (102 : UInt8)] }) : Int))) ∧
      (BytesAt ((1 : Nat)) (elemF false ((1 : Nat)) [(.con (.int .u8 (byteAt { data := #[(48 : UInt8), (49 : UInt8), (50 : UInt8), (51 : UInt8), (52 : UInt8), (53 : UInt8), (54 : UInt8), (55 : UInt8), (56 : UInt8), (57 : UInt8), (97 : UInt8), (98 : UInt8), (99 : UInt8), (100 : UInt8), (101 : UInt8), (102 : UInt8)] } (Int.toNat (Int.tmod (↑(g / (16 : Nat) ^ i) : Int) (16 : Int))))))]) ∧
      (ByteArray.size { data := List.toArray (bytesOf (1 : Nat) (elemF false (1 : Nat) [DV.con (Value.int IntKind.u8 (byteAt { data := #[(48 : UInt8), (49 : UInt8), (50 : UInt8), (51 : UInt8), (52 : UInt8), (53 : UInt8), (54 : UInt8), (55 : UInt8), (56 : UInt8), (57 : UInt8), (97 : UInt8), (98 : UInt8), (99 : UInt8), (100 : UInt8), (101 : UInt8), (102 : UInt8)] } (Int.toNat (Int.tmod (↑(g / (16 : Nat) ^ i) : Int) (16 : Int)))))])) } + ByteArray.size (bs (lowHex g i)) ≤ (9223372036854775807 : Nat)))) ∧
      ((I64 ((↑i : Int) + (1 : Int))) ∧
      Again (S38 g n) (fun x => x ≤ n) (fun x => n - x) i ⟨[(.d (.con (.int .u64 (IntKind.wrap IntKind.u64 (Int.tdiv (↑(g / (16 : Nat) ^ i) : Int) (16 : Int)))))), (.d (.con (.int .i64 ((↑n : Int))))), .any, .any, .any, (.d (.con (.string ({ data := List.toArray (bytesOf (1 : Nat) (elemF false (1 : Nat) [DV.con (Value.int IntKind.u8 (byteAt { data := #[(48 : UInt8), (49 : UInt8), (50 : UInt8), (51 : UInt8), (52 : UInt8), (53 : UInt8), (54 : UInt8), (55 : UInt8), (56 : UInt8), (57 : UInt8), (97 : UInt8), (98 : UInt8), (99 : UInt8), (100 : UInt8), (101 : UInt8), (102 : UInt8)] } (Int.toNat (Int.tmod (↑(g / (16 : Nat) ^ i) : Int) (16 : Int)))))])) } ++ bs (lowHex g i))))), (.d (.con (.int .i64 ((↑i : Int) + (1 : Int))))), (.d (.con (.int .i64 ((↑i : Int))))), (.d (.con (.int .i64 ((↑n : Int))))), (.d (.con (.bool (decide ((↑i : Int) < (↑n : Int)))))), (.d (.con (.int .i64 ((↑i : Int))))), (.d (.con (.int .i64 ((↑i : Int) + (1 : Int))))), (.d (.con (.int .u64 ((↑(g / (16 : Nat) ^ i) : Int))))), (.d (.con (.int .u64 (Int.tmod (↑(g / (16 : Nat) ^ i) : Int) (16 : Int))))), (.d (.con (.int .u8 (byteAt { data := #[(48 : UInt8), (49 : UInt8), (50 : UInt8), (51 : UInt8), (52 : UInt8), (53 : UInt8), (54 : UInt8), (55 : UInt8), (56 : UInt8), (57 : UInt8), (97 : UInt8), (98 : UInt8), (99 : UInt8), (100 : UInt8), (101 : UInt8), (102 : UInt8)] } (Int.toNat (Int.tmod (↑(g / (16 : Nat) ^ i) : Int) (16 : Int))))))), (.d (.slc ((1 : Nat)) ((1 : Nat)) (elemF false ((1 : Nat)) [(.con (.int .u8 (byteAt { data := #[(48 : UInt8), (49 : UInt8), (50 : UInt8), (51 : UInt8), (52 : UInt8), (53 : UInt8), (54 : UInt8), (55 : UInt8), (56 : UInt8), (57 : UInt8), (97 : UInt8), (98 : UInt8), (99 : UInt8), (100 : UInt8), (101 : UInt8), (102 : UInt8)] } (Int.toNat (Int.tmod (↑(g / (16 : Nat) ^ i) : Int) (16 : Int))))))]))), (.d (.con (.string ({ data := List.toArray (bytesOf (1 : Nat) (elemF false (1 : Nat) [DV.con (Value.int IntKind.u8 (byteAt { data := #[(48 : UInt8), (49 : UInt8), (50 : UInt8), (51 : UInt8), (52 : UInt8), (53 : UInt8), (54 : UInt8), (55 : UInt8), (56 : UInt8), (57 : UInt8), (97 : UInt8), (98 : UInt8), (99 : UInt8), (100 : UInt8), (101 : UInt8), (102 : UInt8)] } (Int.toNat (Int.tmod (↑(g / (16 : Nat) ^ i) : Int) (16 : Int)))))])) })))), (.d (.con (.string (bs (lowHex g i))))), (.d (.con (.string ({ data := List.toArray (bytesOf (1 : Nat) (elemF false (1 : Nat) [DV.con (Value.int IntKind.u8 (byteAt { data := #[(48 : UInt8), (49 : UInt8), (50 : UInt8), (51 : UInt8), (52 : UInt8), (53 : UInt8), (54 : UInt8), (55 : UInt8), (56 : UInt8), (57 : UInt8), (97 : UInt8), (98 : UInt8), (99 : UInt8), (100 : UInt8), (101 : UInt8), (102 : UInt8)] } (Int.toNat (Int.tmod (↑(g / (16 : Nat) ^ i) : Int) (16 : Int)))))])) } ++ bs (lowHex g i))))), (.d (.con (.int .u64 ((↑(g / (16 : Nat) ^ i) : Int))))), (.d (.con (.int .u64 (IntKind.wrap IntKind.u64 (Int.tdiv (↑(g / (16 : Nat) ^ i) : Int) (16 : Int)))))), .any], []⟩))) ∧
      (((decide ((↑i : Int) < (↑n : Int))) = false) →
      AWP Tryd.prog G [.code (cAt (bodyOf Tryd.f38) [1, 1, 1])] ⟨[(.d (.con (.int .u64 ((↑(g / (16 : Nat) ^ i) : Int))))), (.d (.con (.int .i64 ((↑n : Int))))), .any, .any, .any, (.d (.con (.string (bs (lowHex g i))))), (.d (.con (.int .i64 ((↑i : Int))))), (.d (.con (.int .i64 ((↑i : Int))))), (.d (.con (.int .i64 ((↑n : Int))))), (.d (.con (.bool (decide ((↑i : Int) < (↑n : Int)))))), .any, .any, .any, .any, .any, .any, .any, .any, .any, .any, .any, .any], []⟩ (Ret Tryd.prog Tryd.f38 (ds (hexB g n)))))) (by kernel_rfl) ?_
    refine ⟨fun h => ?_, fun h => ?_⟩
    · have hi' : i < n := by simpa using h
      have h2 : g / 16 ^ i % 16 < 16 := Nat.mod_lt _ (by decide)
      have h3 : g / 16 ^ i ≤ g := Nat.div_le_self _ _
      have e : Int.tmod ((g / 16 ^ i : Nat) : Int) 16 = ((g / 16 ^ i % 16 : Nat) : Int) := rfl
      have e2 : IntKind.wrap .u64 (Int.tdiv ((g / 16 ^ i : Nat) : Int) 16) = ((g / 16 ^ (i + 1) : Nat) : Int) := by
        rw [← ndiv_succ]
        exact u64_nat _ (Nat.lt_of_le_of_lt (Nat.div_le_self _ _) (by omega))
      have e3 := hex_at _ h2
      rw [e, e2]
      simp only [Int.toNat_natCast]
      rw [e3]
      have e4 : (⟨(bytesOf 1 (elemF false 1 [DV.con (Value.int IntKind.u8 (((hexC (g / 16 ^ i % 16)).toNat : Nat) : Int))])).toArray⟩ : ByteArray) = bs [hexC (g / 16 ^ i % 16)] := by rw [bytes_one _ _ rfl]; rfl
      rw [e4, bs_append, List.singleton_append, ← lowHex_succ]
      refine ⟨⟨⟨by omega, Int.ofNat_lt.2 h2⟩, bytes_oneAt _ _ rfl, ?_⟩, ⟨by omega, by omega⟩, Again.mk (i + 1) ?_ (by omega) (by omega)⟩
      · rw [bs_size, bs_size, lowHex_len, List.length_singleton]; omega
      refine of_eq (b :=
        (((((.d (.con (.int .u64 ((↑(g / (16 : Nat) ^ (i + (1 : Nat))) : Int))))) : AV) = (.d (.con (.int .u64 ((↑(g / (16 : Nat) ^ (i + (1 : Nat))) : Int)))))) ∧
        ((((.d (.con (.int .i64 ((↑n : Int))))) : AV) = (.d (.con (.int .i64 ((↑n : Int)))))) ∧
        ((((.d (.con (.string (bs (lowHex g (i + (1 : Nat))))))) : AV) = (.d (.con (.string (bs (lowHex g (i + (1 : Nat)))))))) ∧
        ((((.d (.con (.int .i64 ((↑i : Int) + (1 : Int))))) : AV) = (.d (.con (.int .i64 ((↑(i + (1 : Nat)) : Int)))))) ∧
        True)))) ∧
        True)) (by kernel_rfl) ?_
      exact ⟨⟨rfl, rfl, rfl, rfl, trivial⟩, trivial⟩
    · have : i = n := by simp at h; omega
      subst this
      refine walk (orc := orc0) (keep := []) (cuts := []) (n := 1000) follows ?_
      refine of_eqH (b :=
        (((.con (.string (bs (lowHex g i)))) : DV) = (ds (hexB g i)))) (by kernel_rfl) ?_
      rfl
def S39 (g : Nat) (x : Nat) : AS := ⟨regs 20 [(0, vi (g / 128 ^ x : Nat)), (3, vs (bs (lowStamp g x))), (4, vi x)], []⟩
theorem f39 (g : Nat) (hg : g < 9223372036854775808) : FnOK Tryd.prog G 39 [di g] (ds (stampB g)) := by
  refine FnOK.walk (orc := orc0) (keep := []) follows Tryd.func39 rfl Tryd.call39 ?_
  refine of_eqH (b :=
    AWP Tryd.prog G [.code (cAt (bodyOf Tryd.f39) [1, 1, 0, 1, 0]), (.blk ((0 : Nat))), .code (cAt (bodyOf Tryd.f39) [1, 1, 1])] ⟨[(.d (.con (.int .i64 ((↑g : Int))))), .any, (.d (.con (.string ({ data := #[] })))), (.d (.con (.string ({ data := #[] })))), (.d (.con (.int .i64 ((0 : Int))))), .any, .any, .any, .any, .any, .any, .any, .any, .any, .any, .any, .any, .any, .any, .any], []⟩ (Ret Tryd.prog Tryd.f39 (ds (stampB g)))) (by kernel_rfl) ?_
  refine AWP.loop (c := cAt (bodyOf Tryd.f39) [1, 1, 0, 1, 0, 0]) (by kernel_rfl) (S39 g) (fun x => x ≤ 9) (fun x => 9 - x) 0 ?_ (Nat.zero_le _) ?_
  · refine of_eq (b :=
    (((((.d (.con (.int .i64 ((↑g : Int))))) : AV) = (.d (.con (.int .i64 ((↑(g / (128 : Nat) ^ (0 : Nat)) : Int)))))) ∧
    ((((.d (.con (.string ({ data := #[] })))) : AV) = (.d (.con (.string (bs (lowStamp g (0 : Nat))))))) ∧
    ((((.d (.con (.int .i64 ((0 : Int))))) : AV) = (.d (.con (.int .i64 ((0 : Int)))))) ∧
    True))) ∧
    True)) (by kernel_rfl) ?_
    refine ⟨⟨?_, rfl, rfl, trivial⟩, trivial⟩
    rw [Nat.pow_zero, Nat.div_one]
  · intro i hi
    refine walk (orc := orc0) (keep := []) (cuts := []) (n := 1000) follows ?_
    refine of_eqH (b :=
      ((((decide ((↑i : Int) < (9 : Int))) = true) →
      (((I64 ((128 : Int) + Int.tmod (↑(g / (128 : Nat) ^ i) : Int) (128 : Int))) ∧
      (BytesAt ((1 : Nat)) (elemF false ((1 : Nat)) [(.con (.int .u8 (IntKind.wrap IntKind.u8 ((128 : Int) + Int.tmod (↑(g / (128 : Nat) ^ i) : Int) (128 : Int)))))]) ∧
      (ByteArray.size { data := List.toArray (bytesOf (1 : Nat) (elemF false (1 : Nat) [DV.con (Value.int IntKind.u8 (IntKind.wrap IntKind.u8 ((128 : Int) + Int.tmod (↑(g / (128 : Nat) ^ i) : Int) (128 : Int))))])) } + ByteArray.size (bs (lowStamp g i)) ≤ (9223372036854775807 : Nat)))) ∧
      ((R64 (↑(g / (128 : Nat) ^ i) : Int)) ∧
      ((I64 ((↑i : Int) + (1 : Int))) ∧
      Again (S39 g) (fun x => x ≤ (9 : Nat)) (fun x => (9 : Nat) - x) i ⟨[(.d (.con (.int .i64 (Int.tdiv (↑(g / (128 : Nat) ^ i) : Int) (128 : Int))))), .any, .any, (.d (.con (.string ({ data := List.toArray (bytesOf (1 : Nat) (elemF false (1 : Nat) [DV.con (Value.int IntKind.u8 (IntKind.wrap IntKind.u8 ((128 : Int) + Int.tmod (↑(g / (128 : Nat) ^ i) : Int) (128 : Int))))])) } ++ bs (lowStamp g i))))), (.d (.con (.int .i64 ((↑i : Int) + (1 : Int))))), (.d (.con (.int .i64 ((↑i : Int))))), (.d (.con (.bool (decide ((↑i : Int) < (9 : Int)))))), (.d (.con (.int .i64 ((↑i : Int))))), (.d (.con (.int .i64 ((↑i : Int) + (1 : Int))))), (.d (.con (.int .i64 ((↑(g / (128 : Nat) ^ i) : Int))))), (.d (.con (.int .i64 (Int.tmod (↑(g / (128 : Nat) ^ i) : Int) (128 : Int))))), (.d (.con (.int .i64 ((128 : Int) + Int.tmod (↑(g / (128 : Nat) ^ i) : Int) (128 : Int))))), (.d (.con (.int .u8 (IntKind.wrap IntKind.u8 ((128 : Int) + Int.tmod (↑(g / (128 : Nat) ^ i) : Int) (128 : Int)))))), (.d (.slc ((1 : Nat)) ((1 : Nat)) (elemF false ((1 : Nat)) [(.con (.int .u8 (IntKind.wrap IntKind.u8 ((128 : Int) + Int.tmod (↑(g / (128 : Nat) ^ i) : Int) (128 : Int)))))]))), (.d (.con (.string ({ data := List.toArray (bytesOf (1 : Nat) (elemF false (1 : Nat) [DV.con (Value.int IntKind.u8 (IntKind.wrap IntKind.u8 ((128 : Int) + Int.tmod (↑(g / (128 : Nat) ^ i) : Int) (128 : Int))))])) })))), (.d (.con (.string (bs (lowStamp g i))))), (.d (.con (.string ({ data := List.toArray (bytesOf (1 : Nat) (elemF false (1 : Nat) [DV.con (Value.int IntKind.u8 (IntKind.wrap IntKind.u8 ((128 : Int) + Int.tmod (↑(g / (128 : Nat) ^ i) : Int) (128 : Int))))])) } ++ bs (lowStamp g i))))), (.d (.con (.int .i64 ((↑(g / (128 : Nat) ^ i) : Int))))), (.d (.con (.int .i64 (Int.tdiv (↑(g / (128 : Nat) ^ i) : Int) (128 : Int))))), .any], []⟩)))) ∧
      (((decide ((↑i : Int) < (9 : Int))) = false) →
      AWP Tryd.prog G [.code (cAt (bodyOf Tryd.f39) [1, 1, 1])] ⟨[(.d (.con (.int .i64 ((↑(g / (128 : Nat) ^ i) : Int))))), .any, .any, (.d (.con (.string (bs (lowStamp g i))))), (.d (.con (.int .i64 ((↑i : Int))))), (.d (.con (.int .i64 ((↑i : Int))))), (.d (.con (.bool (decide ((↑i : Int) < (9 : Int)))))), .any, .any, .any, .any, .any, .any, .any, .any, .any, .any, .any, .any, .any], []⟩ (Ret Tryd.prog Tryd.f39 (ds (stampB g)))))) (by kernel_rfl) ?_
    refine ⟨fun h => ?_, fun h => ?_⟩
    · have hi' : i < 9 := by simp at h; omega
      have h2 : g / 128 ^ i % 128 < 128 := Nat.mod_lt _ (by decide)
      have h3 : g / 128 ^ i ≤ g := Nat.div_le_self _ _
      have e : (128 : Int) + Int.tmod ((g / 128 ^ i : Nat) : Int) 128 = ((128 + g / 128 ^ i % 128 : Nat) : Int) := by push_cast; rfl
      have e2 : Int.tdiv ((g / 128 ^ i : Nat) : Int) 128 = ((g / 128 ^ (i + 1) : Nat) : Int) := by
        rw [← ndiv_succ]; rfl
      rw [e, e2]
      rw [u8_nat _ (by omega)]
      have e5 : ((128 + g / 128 ^ i % 128 : Nat) : Int) = ((UInt8.ofNat (128 + g / 128 ^ i % 128)).toNat : Int) := by
        simp only [UInt8.toNat_ofNat']; omega
      have e4 : (⟨(bytesOf 1 (elemF false 1 [DV.con (Value.int IntKind.u8 ((128 + g / 128 ^ i % 128 : Nat) : Int))])).toArray⟩ : ByteArray) = bs [UInt8.ofNat (128 + g / 128 ^ i % 128)] := by rw [bytes_one _ _ e5]; rfl
      rw [e4, bs_append, List.singleton_append, ← lowStamp_succ]
      refine ⟨⟨⟨by omega, by omega⟩, bytes_oneAt _ _ e5, ?_⟩, ⟨Int.le_trans (by decide) (Int.natCast_nonneg _), by omega⟩, ⟨by omega, by omega⟩, Again.mk (i + 1) ?_ (by omega) (by omega)⟩
      · rw [bs_size, bs_size, lowStamp_len, List.length_singleton]; omega
      refine of_eq (b :=
        (((((.d (.con (.int .i64 ((↑(g / (128 : Nat) ^ (i + (1 : Nat))) : Int))))) : AV) = (.d (.con (.int .i64 ((↑(g / (128 : Nat) ^ (i + (1 : Nat))) : Int)))))) ∧
        ((((.d (.con (.string (bs (lowStamp g (i + (1 : Nat))))))) : AV) = (.d (.con (.string (bs (lowStamp g (i + (1 : Nat)))))))) ∧
        ((((.d (.con (.int .i64 ((↑i : Int) + (1 : Int))))) : AV) = (.d (.con (.int .i64 ((↑(i + (1 : Nat)) : Int)))))) ∧
        True))) ∧
        True)) (by kernel_rfl) ?_
      exact ⟨⟨rfl, rfl, rfl, trivial⟩, trivial⟩
    · have : i = 9 := by simp at h; omega
      subst this
      refine walk (orc := orc0) (keep := []) (cuts := []) (n := 1000) follows ?_
      refine of_eqH (b :=
        (((.con (.string (bs (lowStamp g (9 : Nat))))) : DV) = (ds (stampB g)))) (by kernel_rfl) ?_
      rfl
end Go.Proofs

set_option autoImplicit false
namespace Go.Proofs
open Go Go.Ab
set_option maxHeartbeats 1000000
set_option maxRecDepth 100000
variable {G : IH}
def orcW : Orc := { d := fun _ _ => none, w := true }
/-- What a hexadecimal digit stands for. -/
def hexI (c : Int) : Option Nat := if 48 ≤ c ∧ c ≤ 57 then some (c - 48).toNat else if 97 ≤ c ∧ c ≤ 102 then some (c - 87).toNat else none
/-- The number that the first i digits are. -/
def numP (s : ByteArray) : Nat → Option Nat
  | 0 => some 0
  | i + 1 => match numP s i, hexI (byteAt s i) with | some n, some d => some (16 * n + d) | _, _ => none
theorem numP_none {s : ByteArray} {i : Nat} (h : numP s i = none) : ∀ j, i ≤ j → numP s j = none := by
  intro j hj
  induction j with
  | zero => obtain rfl : i = 0 := by omega
            exact h
  | succ j ih =>
    rcases Nat.lt_or_ge j i with h' | h'
    · obtain rfl : i = j + 1 := by omega
      exact h
    · simp only [numP, ih h']
def numR (f : Int → DV) (r : Option Nat) : DV := match r with | some n => .tup [f n, db true] | none => .tup [f 0, db false]
theorem byteAt_bd (s : ByteArray) (i : Nat) : 0 ≤ byteAt s i ∧ byteAt s i ≤ 255 := by
  unfold byteAt
  have := ((s.data[i]?).getD 0).toNat_lt
  omega
theorem w_add (a b : Int) : IntKind.wrap .i64 (IntKind.wrap .i64 a + b) = IntKind.wrap .i64 (a + b) := by
  simp only [IntKind.wrap_i64]; omega
theorem w_sub (a b : Int) : IntKind.wrap .i64 (IntKind.wrap .i64 a - b) = IntKind.wrap .i64 (a - b) := by
  simp only [IntKind.wrap_i64]; omega
theorem w_16 (a : Int) : IntKind.wrap .i64 (16 * IntKind.wrap .i64 a) = IntKind.wrap .i64 (16 * a) := by
  simp only [IntKind.wrap_i64]; omega
def S40 (s : ByteArray) (x : Nat × Nat) : AS := ⟨regs 43 [(0, vs s), (4, vi (IntKind.wrap .i64 (x.2 : Int))), (5, vi x.1)], []⟩
theorem f40 (s : ByteArray) (hs : s.size < 281474976710656) : FnOK Tryd.prog G 40 [ds s] (numR (fun n => di (IntKind.wrap .i64 n)) (numP s s.size)) := by
  refine FnOK.walk (orc := orcW) (keep := []) follows Tryd.func40 rfl Tryd.call40 ?_
  refine of_eqH (b :=
    AWP Tryd.prog G [.code (cAt (bodyOf Tryd.f40) [1, 1, 0, 1, 0]), (.blk ((0 : Nat))), .code (cAt (bodyOf Tryd.f40) [1, 1, 1])] ⟨[(.d (.con (.string s))), .any, (.d (.con (.int .i64 ((0 : Int))))), (.d (.con (.bool false))), (.d (.con (.int .i64 ((0 : Int))))), (.d (.con (.int .i64 ((0 : Int))))), .any, .any, .any, .any, .any, .any, .any, .any, .any, .any, .any, .any, .any, .any, .any, .any, .any, .any, .any, .any, .any, .any, .any, .any, .any, .any, .any, .any, .any, .any, .any, .any, .any, .any, .any, .any, .any], []⟩ (Ret Tryd.prog Tryd.f40 (numR (fun n => di (IntKind.wrap IntKind.i64 n)) (numP s (ByteArray.size s))))) (by kernel_rfl) ?_
  refine AWP.loop (c := cAt (bodyOf Tryd.f40) [1, 1, 0, 1, 0, 0]) (by kernel_rfl) (S40 s) (fun x => x.1 ≤ s.size ∧ numP s x.1 = some x.2) (fun x => s.size - x.1) (0, 0) ?_ ⟨Nat.zero_le _, rfl⟩ ?_
  · refine of_eq (b :=
    (((((.d (.con (.string s))) : AV) = (.d (.con (.string s)))) ∧
    ((((.d (.con (.int .i64 ((0 : Int))))) : AV) = (.d (.con (.int .i64 ((0 : Int)))))) ∧
    ((((.d (.con (.int .i64 ((0 : Int))))) : AV) = (.d (.con (.int .i64 ((0 : Int)))))) ∧
    True))) ∧
    True)) (by kernel_rfl) ?_
    exact ⟨⟨rfl, rfl, rfl, trivial⟩, trivial⟩
  · rintro ⟨i, n⟩ ⟨hi, hn⟩
    simp only at hi hn
    refine walk (orc := orcW) (keep := []) (cuts := []) (n := 1000) follows ?_
    refine of_eqH (b :=
      ((((decide ((↑i : Int) < (↑(ByteArray.size s) : Int))) = true) →
      ((((0 : Int) ≤ (↑i : Int)) ∧
      ((↑i : Int) < (↑(ByteArray.size s) : Int))) ∧
      ((((decide (IntKind.wrap IntKind.i64 (byteAt s (Int.toNat (↑i : Int))) ≥ (48 : Int)) && decide (IntKind.wrap IntKind.i64 (byteAt s (Int.toNat (↑i : Int))) ≤ (57 : Int))) = true) →
      Again (S40 s) (fun x => Prod.fst x ≤ ByteArray.size s ∧ numP s (Prod.fst x) = some (Prod.snd x)) (fun x => ByteArray.size s - Prod.fst x) ((i, n)) ⟨[(.d (.con (.string s))), .any, .any, .any, (.d (.con (.int .i64 (IntKind.wrap IntKind.i64 (IntKind.wrap IntKind.i64 (IntKind.wrap IntKind.i64 ((16 : Int) * IntKind.wrap IntKind.i64 (↑n : Int)) + IntKind.wrap IntKind.i64 (byteAt s (Int.toNat (↑i : Int)))) - (48 : Int)))))), (.d (.con (.int .i64 (IntKind.wrap IntKind.i64 ((↑i : Int) + (1 : Int)))))), (.d (.con (.int .i64 (IntKind.wrap IntKind.i64 (byteAt s (Int.toNat (↑i : Int))))))), (.d (.con (.int .i64 ((↑i : Int))))), (.d (.con (.string s))), (.d (.con (.int .i64 ((↑(ByteArray.size s) : Int))))), (.d (.con (.bool (decide ((↑i : Int) < (↑(ByteArray.size s) : Int)))))), (.d (.con (.int .i64 ((↑i : Int))))), (.d (.con (.int .i64 (IntKind.wrap IntKind.i64 ((↑i : Int) + (1 : Int)))))), (.d (.con (.string s))), (.d (.con (.int .i64 ((↑i : Int))))), (.d (.con (.int .u8 (byteAt s (Int.toNat (↑i : Int)))))), (.d (.con (.int .i64 (IntKind.wrap IntKind.i64 (byteAt s (Int.toNat (↑i : Int))))))), (.d (.con (.bool (decide (IntKind.wrap IntKind.i64 (byteAt s (Int.toNat (↑i : Int))) ≥ (48 : Int)) && decide (IntKind.wrap IntKind.i64 (byteAt s (Int.toNat (↑i : Int))) ≤ (57 : Int)))))), (.d (.con (.int .i64 (IntKind.wrap IntKind.i64 (byteAt s (Int.toNat (↑i : Int))))))), (.d (.con (.bool (decide (IntKind.wrap IntKind.i64 (byteAt s (Int.toNat (↑i : Int))) ≥ (48 : Int)))))), (.d (.con (.bool (decide (IntKind.wrap IntKind.i64 (byteAt s (Int.toNat (↑i : Int))) ≥ (48 : Int)))))), .any, .any, (.d (.con (.bool (decide (IntKind.wrap IntKind.i64 (byteAt s (Int.toNat (↑i : Int))) ≥ (48 : Int)) && decide (IntKind.wrap IntKind.i64 (byteAt s (Int.toNat (↑i : Int))) ≤ (57 : Int)))))), (.d (.con (.int .i64 (IntKind.wrap IntKind.i64 (↑n : Int))))), (.d (.con (.int .i64 (IntKind.wrap IntKind.i64 ((16 : Int) * IntKind.wrap IntKind.i64 (↑n : Int)))))), (.d (.con (.int .i64 (IntKind.wrap IntKind.i64 (byteAt s (Int.toNat (↑i : Int))))))), (.d (.con (.int .i64 (IntKind.wrap IntKind.i64 (IntKind.wrap IntKind.i64 ((16 : Int) * IntKind.wrap IntKind.i64 (↑n : Int)) + IntKind.wrap IntKind.i64 (byteAt s (Int.toNat (↑i : Int)))))))), (.d (.con (.int .i64 (IntKind.wrap IntKind.i64 (IntKind.wrap IntKind.i64 (IntKind.wrap IntKind.i64 ((16 : Int) * IntKind.wrap IntKind.i64 (↑n : Int)) + IntKind.wrap IntKind.i64 (byteAt s (Int.toNat (↑i : Int)))) - (48 : Int)))))), .any, .any, .any, .any, .any, .any, .any, .any, .any, .any, .any, .any, .any, .any], []⟩) ∧
      (((decide (IntKind.wrap IntKind.i64 (byteAt s (Int.toNat (↑i : Int))) ≥ (48 : Int)) && decide (IntKind.wrap IntKind.i64 (byteAt s (Int.toNat (↑i : Int))) ≤ (57 : Int))) = false) →
      ((((decide (IntKind.wrap IntKind.i64 (byteAt s (Int.toNat (↑i : Int))) ≥ (97 : Int)) && decide (IntKind.wrap IntKind.i64 (byteAt s (Int.toNat (↑i : Int))) ≤ (102 : Int))) = true) →
      Again (S40 s) (fun x => Prod.fst x ≤ ByteArray.size s ∧ numP s (Prod.fst x) = some (Prod.snd x)) (fun x => ByteArray.size s - Prod.fst x) ((i, n)) ⟨[(.d (.con (.string s))), .any, .any, .any, (.d (.con (.int .i64 (IntKind.wrap IntKind.i64 (IntKind.wrap IntKind.i64 (IntKind.wrap IntKind.i64 (IntKind.wrap IntKind.i64 ((16 : Int) * IntKind.wrap IntKind.i64 (↑n : Int)) + IntKind.wrap IntKind.i64 (byteAt s (Int.toNat (↑i : Int)))) - (97 : Int)) + (10 : Int)))))), (.d (.con (.int .i64 (IntKind.wrap IntKind.i64 ((↑i : Int) + (1 : Int)))))), (.d (.con (.int .i64 (IntKind.wrap IntKind.i64 (byteAt s (Int.toNat (↑i : Int))))))), (.d (.con (.int .i64 ((↑i : Int))))), (.d (.con (.string s))), (.d (.con (.int .i64 ((↑(ByteArray.size s) : Int))))), (.d (.con (.bool (decide ((↑i : Int) < (↑(ByteArray.size s) : Int)))))), (.d (.con (.int .i64 ((↑i : Int))))), (.d (.con (.int .i64 (IntKind.wrap IntKind.i64 ((↑i : Int) + (1 : Int)))))), (.d (.con (.string s))), (.d (.con (.int .i64 ((↑i : Int))))), (.d (.con (.int .u8 (byteAt s (Int.toNat (↑i : Int)))))), (.d (.con (.int .i64 (IntKind.wrap IntKind.i64 (byteAt s (Int.toNat (↑i : Int))))))), (.d (.con (.bool (decide (IntKind.wrap IntKind.i64 (byteAt s (Int.toNat (↑i : Int))) ≥ (48 : Int)) && decide (IntKind.wrap IntKind.i64 (byteAt s (Int.toNat (↑i : Int))) ≤ (57 : Int)))))), (.d (.con (.int .i64 (IntKind.wrap IntKind.i64 (byteAt s (Int.toNat (↑i : Int))))))), (.d (.con (.bool (decide (IntKind.wrap IntKind.i64 (byteAt s (Int.toNat (↑i : Int))) ≥ (48 : Int)))))), (.d (.con (.bool (decide (IntKind.wrap IntKind.i64 (byteAt s (Int.toNat (↑i : Int))) ≥ (48 : Int)))))), .any, .any, (.d (.con (.bool (decide (IntKind.wrap IntKind.i64 (byteAt s (Int.toNat (↑i : Int))) ≥ (48 : Int)) && decide (IntKind.wrap IntKind.i64 (byteAt s (Int.toNat (↑i : Int))) ≤ (57 : Int)))))), .any, .any, .any, .any, .any, (.d (.con (.bool (decide (IntKind.wrap IntKind.i64 (byteAt s (Int.toNat (↑i : Int))) ≥ (97 : Int)) && decide (IntKind.wrap IntKind.i64 (byteAt s (Int.toNat (↑i : Int))) ≤ (102 : Int)))))), (.d (.con (.int .i64 (IntKind.wrap IntKind.i64 (byteAt s (Int.toNat (↑i : Int))))))), (.d (.con (.bool (decide (IntKind.wrap IntKind.i64 (byteAt s (Int.toNat (↑i : Int))) ≥ (97 : Int)))))), (.d (.con (.bool (decide (IntKind.wrap IntKind.i64 (byteAt s (Int.toNat (↑i : Int))) ≥ (97 : Int)))))), .any, .any, (.d (.con (.bool (decide (IntKind.wrap IntKind.i64 (byteAt s (Int.toNat (↑i : Int))) ≥ (97 : Int)) && decide (IntKind.wrap IntKind.i64 (byteAt s (Int.toNat (↑i : Int))) ≤ (102 : Int)))))), (.d (.con (.int .i64 (IntKind.wrap IntKind.i64 (↑n : Int))))), (.d (.con (.int .i64 (IntKind.wrap IntKind.i64 ((16 : Int) * IntKind.wrap IntKind.i64 (↑n : Int)))))), (.d (.con (.int .i64 (IntKind.wrap IntKind.i64 (byteAt s (Int.toNat (↑i : Int))))))), (.d (.con (.int .i64 (IntKind.wrap IntKind.i64 (IntKind.wrap IntKind.i64 ((16 : Int) * IntKind.wrap IntKind.i64 (↑n : Int)) + IntKind.wrap IntKind.i64 (byteAt s (Int.toNat (↑i : Int)))))))), (.d (.con (.int .i64 (IntKind.wrap IntKind.i64 (IntKind.wrap IntKind.i64 (IntKind.wrap IntKind.i64 ((16 : Int) * IntKind.wrap IntKind.i64 (↑n : Int)) + IntKind.wrap IntKind.i64 (byteAt s (Int.toNat (↑i : Int)))) - (97 : Int)))))), (.d (.con (.int .i64 (IntKind.wrap IntKind.i64 (IntKind.wrap IntKind.i64 (IntKind.wrap IntKind.i64 (IntKind.wrap IntKind.i64 ((16 : Int) * IntKind.wrap IntKind.i64 (↑n : Int)) + IntKind.wrap IntKind.i64 (byteAt s (Int.toNat (↑i : Int)))) - (97 : Int)) + (10 : Int)))))), .any], []⟩) ∧
      (((decide (IntKind.wrap IntKind.i64 (byteAt s (Int.toNat (↑i : Int))) ≥ (97 : Int)) && decide (IntKind.wrap IntKind.i64 (byteAt s (Int.toNat (↑i : Int))) ≤ (102 : Int))) = false) →
      (((.tup [(.con (.int .i64 ((0 : Int)))), (.con (.bool false))]) : DV) = (numR (fun n => di (IntKind.wrap IntKind.i64 n)) (numP s (ByteArray.size s)))))))))) ∧
      (((decide ((↑i : Int) < (↑(ByteArray.size s) : Int))) = false) →
      AWP Tryd.prog G [.code (cAt (bodyOf Tryd.f40) [1, 1, 1])] ⟨[(.d (.con (.string s))), .any, .any, .any, (.d (.con (.int .i64 (IntKind.wrap IntKind.i64 (↑n : Int))))), (.d (.con (.int .i64 ((↑i : Int))))), .any, (.d (.con (.int .i64 ((↑i : Int))))), (.d (.con (.string s))), (.d (.con (.int .i64 ((↑(ByteArray.size s) : Int))))), (.d (.con (.bool (decide ((↑i : Int) < (↑(ByteArray.size s) : Int)))))), .any, .any, .any, .any, .any, .any, .any, .any, .any, .any, .any, .any, .any, .any, .any, .any, .any, .any, .any, .any, .any, .any, .any, .any, .any, .any, .any, .any, .any, .any, .any, .any], []⟩ (Ret Tryd.prog Tryd.f40 (numR (fun n => di (IntKind.wrap IntKind.i64 n)) (numP s (ByteArray.size s))))))) (by kernel_rfl) ?_
    have hb := byteAt_bd s i
    have ew : IntKind.wrap .i64 (byteAt s i) = byteAt s i := IntWalk.i64_in _ ⟨by omega, by omega⟩
    simp only [Int.toNat_natCast, ew]
    refine ⟨fun h => ?_, fun h => ?_⟩
    · have hi' : i < s.size := by simpa using h
      have e2 : IntKind.wrap .i64 ((i : Int) + 1) = ((i + 1 : Nat) : Int) := i64_nat (i + 1) (by omega)
      refine ⟨⟨by omega, by omega⟩, fun h1 => ?_, fun h1 => ⟨fun h2 => ?_, fun h2 => ?_⟩⟩
      · have h1 : 48 ≤ byteAt s i ∧ byteAt s i ≤ 57 := by simpa using h1
        have e3 : numP s (i + 1) = some (16 * n + (byteAt s i - 48).toNat) := by simp only [numP, hn, hexI, if_pos h1]
        rw [e2]
        refine Again.mk (i + 1, 16 * n + (byteAt s i - 48).toNat) ?_ ⟨by simp only; omega, e3⟩ (by simp only; omega)
        refine of_eq (b :=
          (((((.d (.con (.string s))) : AV) = (.d (.con (.string s)))) ∧
          ((((.d (.con (.int .i64 (IntKind.wrap IntKind.i64 (IntKind.wrap IntKind.i64 (IntKind.wrap IntKind.i64 ((16 : Int) * IntKind.wrap IntKind.i64 (↑n : Int)) + byteAt s i) - (48 : Int)))))) : AV) = (.d (.con (.int .i64 (IntKind.wrap IntKind.i64 (↑((16 : Nat) * n + Int.toNat (byteAt s i - (48 : Int))) : Int)))))) ∧
          ((((.d (.con (.int .i64 ((↑(i + (1 : Nat)) : Int))))) : AV) = (.d (.con (.int .i64 ((↑(i + (1 : Nat)) : Int)))))) ∧
          True))) ∧
          True)) (by kernel_rfl) ?_
        refine ⟨⟨rfl, ?_, rfl, trivial⟩, trivial⟩
        refine congrArg (fun z => AV.d (DV.con (.int .i64 z))) ?_
        simp only [w_add, w_sub, w_16]
        exact congrArg _ (by omega)
      · have h2 : 97 ≤ byteAt s i ∧ byteAt s i ≤ 102 := by simpa using h2
        have h1 : ¬ (48 ≤ byteAt s i ∧ byteAt s i ≤ 57) := by omega
        have e3 : numP s (i + 1) = some (16 * n + (byteAt s i - 87).toNat) := by simp only [numP, hn, hexI, if_neg h1, if_pos h2]
        rw [e2]
        refine Again.mk (i + 1, 16 * n + (byteAt s i - 87).toNat) ?_ ⟨by simp only; omega, e3⟩ (by simp only; omega)
        refine of_eq (b :=
          (((((.d (.con (.string s))) : AV) = (.d (.con (.string s)))) ∧
          ((((.d (.con (.int .i64 (IntKind.wrap IntKind.i64 (IntKind.wrap IntKind.i64 (IntKind.wrap IntKind.i64 (IntKind.wrap IntKind.i64 ((16 : Int) * IntKind.wrap IntKind.i64 (↑n : Int)) + byteAt s i) - (97 : Int)) + (10 : Int)))))) : AV) = (.d (.con (.int .i64 (IntKind.wrap IntKind.i64 (↑((16 : Nat) * n + Int.toNat (byteAt s i - (87 : Int))) : Int)))))) ∧
          ((((.d (.con (.int .i64 ((↑(i + (1 : Nat)) : Int))))) : AV) = (.d (.con (.int .i64 ((↑(i + (1 : Nat)) : Int)))))) ∧
          True))) ∧
          True)) (by kernel_rfl) ?_
        refine ⟨⟨rfl, ?_, rfl, trivial⟩, trivial⟩
        refine congrArg (fun z => AV.d (DV.con (.int .i64 z))) ?_
        simp only [w_add, w_sub, w_16]
        exact congrArg _ (by omega)
      · have h1 : ¬ (48 ≤ byteAt s i ∧ byteAt s i ≤ 57) := by simp at h1; omega
        have h2 : ¬ (97 ≤ byteAt s i ∧ byteAt s i ≤ 102) := by simp at h2; omega
        have e3 : numP s (i + 1) = none := by simp only [numP, hn, hexI, if_neg h1, if_neg h2]
        rw [numP_none e3 s.size hi']
        rfl
    · have : i = s.size := by simp at h; omega
      subst this
      refine walk (orc := orcW) (keep := []) (cuts := []) (n := 1000) follows ?_
      refine of_eqH (b :=
        (((.tup [(.con (.int .i64 (IntKind.wrap IntKind.i64 (↑n : Int)))), (.con (.bool true))]) : DV) = (numR (fun n => di (IntKind.wrap IntKind.i64 n)) (numP s (ByteArray.size s))))) (by kernel_rfl) ?_
      rw [hn]
      rfl
end Go.Proofs

set_option autoImplicit false
namespace Go.Proofs
open Go Go.Ab
set_option maxHeartbeats 1000000
set_option maxRecDepth 100000
variable {G : IH}
def orcRef : Oracle := fun f args => match f, args with
  | 38, [.con (.int .u64 g), .con (.int .i64 n)] => some (ds (hexB g.toNat n.toNat))
  | 37, [.con (.int .i64 g)] => some (db (okGen g))
  | 28, [.con (.string s)] => some (du (sumI s s.size))
  | 39, [.con (.int .i64 g)] => some (ds (stampB g.toNat))
  | _, _ => none
def hexL (n w : Nat) : List UInt8 := (List.range w).map (digitC n w)
theorem hexL_len (n w : Nat) : (hexL n w).length = w := by simp [hexL]
def byteN (s : ByteArray) (i : Nat) : Nat := ((s.data[i]?).getD 0).toNat
theorem byteAt_N (s : ByteArray) (i : Nat) : byteAt s i = (byteN s i : Int) := rfl
theorem byteN_lt (s : ByteArray) (i : Nat) : byteN s i < 256 := ((s.data[i]?).getD 0).toNat_lt
/-- What a record holds ahead of its stamp, and behind its sum, up to the byte i of its content. -/
def bodyP (g : Nat) (p : ByteArray) : Nat → List UInt8
  | 0 => hexL g 16 ++ hexL p.size 8
  | i + 1 => bodyP g p i ++ hexL (byteN p i) 2
theorem bodyP_len (g : Nat) (p : ByteArray) (i : Nat) : (bodyP g p i).length = 24 + 2 * i := by
  induction i with
  | zero => simp [bodyP, hexL_len]
  | succ i ih => simp only [bodyP, List.length_append, ih, hexL_len]; omega
def bodyL (g : Nat) (p : ByteArray) : List UInt8 := bodyP g p p.size
def sumN (l : List UInt8) : Nat := (sumI (bs l) l.length).toNat
def stampL (g : Nat) : List UInt8 := (List.range 9).map (stampC g)
/-- The bytes of a record. -/
def encL (g : Nat) (p : ByteArray) : List UInt8 := [82] ++ hexL (sumN (bodyL g p)) 16 ++ bodyL g p ++ stampL g
def encR (g : Int) (p : ByteArray) : DV := if okGen g = true then if p.size > 30000 then .tup [ds ByteArray.empty, di 8] else .tup [ds (bs (encL g.toNat p)), di 0] else .tup [ds ByteArray.empty, di 2]
theorem sumI_bd (s : ByteArray) (i : Nat) : 0 ≤ sumI s i ∧ sumI s i < 18446744073709551616 := by
  cases i with
  | zero => simp only [sumI]; omega
  | succ i =>
    simp only [sumI, fnv]
    generalize IntKind.wrap .u64 ((BitVec.ofInt (IntKind.bits .u64) (sumI s i) ^^^ BitVec.ofInt (IntKind.bits .u64) (IntKind.wrap .u64 (byteAt s i))).toNat : Int) * 1099511628211 = z
    simp only [IntKind.wrap, IntKind.bits, IntKind.signed]
    simp
    omega
noncomputable def S18 (g : Int) (p : ByteArray) (x : Nat) : AS := ⟨regs Tryd.f18.ntmps [(0, vi g), (1, vs p), (6, vs (bs (bodyP g.toNat p x))), (7, vi x)], []⟩
theorem f18 (g : Int) (p : ByteArray) : FnOK Tryd.prog G 18 [di g, ds p] (encR g p) := by
  refine FnOK.walk (orc := orcRef) (keep := []) follows Tryd.func18 rfl Tryd.call18 ?_
  refine of_eqH (b :=
    (FnOK Tryd.prog G ((37 : Nat)) [(.con (.int .i64 g))] (.con (.bool (okGen g))) ∧
    ((((!okGen g) = true) →
    (((.tup [(.con (.string ({ data := #[] }))), (.con (.int .i64 ((2 : Int))))]) : DV) = (encR g p))) ∧
    (((!okGen g) = false) →
    ((((decide ((↑(ByteArray.size p) : Int) > (30000 : Int))) = true) →
    (((.tup [(.con (.string ({ data := #[] }))), (.con (.int .i64 ((8 : Int))))]) : DV) = (encR g p))) ∧
    (((decide ((↑(ByteArray.size p) : Int) > (30000 : Int))) = false) →
    ((FnOK Tryd.prog G ((38 : Nat)) [(.con (.int .u64 (IntKind.wrap IntKind.u64 g))), (.con (.int .i64 ((16 : Int))))] (.con (.string (hexB (Int.toNat (IntKind.wrap IntKind.u64 g)) (Int.toNat (16 : Int))))) ∧
    (FnOK Tryd.prog G ((38 : Nat)) [(.con (.int .u64 (IntKind.wrap IntKind.u64 (↑(ByteArray.size p) : Int)))), (.con (.int .i64 ((8 : Int))))] (.con (.string (hexB (Int.toNat (IntKind.wrap IntKind.u64 (↑(ByteArray.size p) : Int))) (Int.toNat (8 : Int))))) ∧
    (ByteArray.size (hexB (Int.toNat (IntKind.wrap IntKind.u64 g)) (Int.toNat (16 : Int))) + ByteArray.size (hexB (Int.toNat (IntKind.wrap IntKind.u64 (↑(ByteArray.size p) : Int))) (Int.toNat (8 : Int))) ≤ (9223372036854775807 : Nat)))) ∧
    AWP Tryd.prog G [.code (cAt (bodyOf Tryd.f18) [1, 1, 1, 1, 0, 1, 0]), (.blk ((0 : Nat))), .code (cAt (bodyOf Tryd.f18) [1, 1, 1, 1, 1])] ⟨[(.d (.con (.int .i64 g))), (.d (.con (.string p))), .any, .any, (.d (.con (.string ({ data := #[] })))), (.d (.con (.int .i64 ((0 : Int))))), (.d (.con (.string (hexB (Int.toNat (IntKind.wrap IntKind.u64 g)) (Int.toNat (16 : Int)) ++ hexB (Int.toNat (IntKind.wrap IntKind.u64 (↑(ByteArray.size p) : Int))) (Int.toNat (8 : Int)))))), (.d (.con (.int .i64 ((0 : Int))))), (.d (.con (.int .i64 g))), (.d (.con (.bool (okGen g)))), (.d (.con (.bool (!okGen g)))), (.d (.con (.string p))), (.d (.con (.int .i64 ((↑(ByteArray.size p) : Int))))), (.d (.con (.bool (decide ((↑(ByteArray.size p) : Int) > (30000 : Int)))))), (.d (.con (.int .i64 g))), (.d (.con (.int .u64 (IntKind.wrap IntKind.u64 g)))), (.d (.con (.string (hexB (Int.toNat (IntKind.wrap IntKind.u64 g)) (Int.toNat (16 : Int)))))), (.d (.con (.string p))), (.d (.con (.int .i64 ((↑(ByteArray.size p) : Int))))), (.d (.con (.int .u64 (IntKind.wrap IntKind.u64 (↑(ByteArray.size p) : Int))))), (.d (.con (.string (hexB (Int.toNat (IntKind.wrap IntKind.u64 (↑(ByteArray.size p) : Int))) (Int.toNat (8 : Int)))))), (.d (.con (.string (hexB (Int.toNat (IntKind.wrap IntKind.u64 g)) (Int.toNat (16 : Int)) ++ hexB (Int.toNat (IntKind.wrap IntKind.u64 (↑(ByteArray.size p) : Int))) (Int.toNat (8 : Int)))))), .any, .any, .any, .any, .any, .any, .any, .any, .any, .any, .any, .any, .any, .any, .any, .any, .any, .any, .any, .any, .any, .any], []⟩ (Ret Tryd.prog Tryd.f18 (encR g p))))))))) (by kernel_rfl) ?_
  refine ⟨f37 g, fun h => ?_, fun h => ⟨fun h2 => ?_, fun h2 => ?_⟩⟩
  · have : okGen g = false := by simpa using h
    simp only [encR, this]; rfl
  · have h : okGen g = true := by simpa using h
    have h2 : p.size > 30000 := by simp at h2; omega
    simp only [encR, if_pos h, if_pos h2]; rfl
  · have h : okGen g = true := by simpa using h
    have h2 : ¬ p.size > 30000 := by simp at h2; omega
    have hg : 1 ≤ g ∧ g ≤ 1099511627776 := by simpa [okGen] using h
    obtain ⟨g, rfl⟩ := Int.eq_ofNat_of_zero_le (show 0 ≤ g by omega)
    have hg : 1 ≤ g ∧ g ≤ 1099511627776 := by omega
    have h18 := h
    rw [u64_nat g (by omega), u64_nat p.size (by omega)]
    simp only [Int.toNat_natCast]
    refine ⟨⟨f38 g 16 (by omega) (by omega), f38 p.size 8 (by omega) (by omega), ?_⟩, ?_⟩
    · show (bs (hexL g 16)).size + (bs (hexL p.size 8)).size ≤ _
      rw [bs_size, bs_size, hexL_len, hexL_len]; decide
    refine AWP.loop (c := cAt (bodyOf Tryd.f18) [1, 1, 1, 1, 0, 1, 0, 0]) (by kernel_rfl) (S18 g p) (fun x => x ≤ p.size) (fun x => p.size - x) 0 ?_ (Nat.zero_le _) ?_
    · refine of_eq (b :=
      (((((.d (.con (.int .i64 ((↑g : Int))))) : AV) = (.d (.con (.int .i64 ((↑g : Int)))))) ∧
      ((((.d (.con (.string p))) : AV) = (.d (.con (.string p)))) ∧
      ((((.d (.con (.string (hexB g (Int.toNat (16 : Int)) ++ hexB (ByteArray.size p) (Int.toNat (8 : Int)))))) : AV) = (.d (.con (.string (bs (bodyP (Int.toNat (↑g : Int)) p (0 : Nat))))))) ∧
      ((((.d (.con (.int .i64 ((0 : Int))))) : AV) = (.d (.con (.int .i64 ((0 : Int)))))) ∧
      True)))) ∧
      True)) (by kernel_rfl) ?_
      refine ⟨⟨rfl, rfl, ?_, rfl, trivial⟩, trivial⟩
      exact congrArg vs (bs_append (hexL g 16) (hexL p.size 8))
    · intro i hi
      refine walk (orc := orcRef) (keep := []) (cuts := []) (n := 1000) follows ?_
      refine of_eqH (b :=
        ((((decide ((↑i : Int) < (↑(ByteArray.size p) : Int))) = true) →
        (((((0 : Int) ≤ (↑i : Int)) ∧
        ((↑i : Int) < (↑(ByteArray.size p) : Int))) ∧
        (FnOK Tryd.prog G ((38 : Nat)) [(.con (.int .u64 (IntKind.wrap IntKind.u64 (byteAt p (Int.toNat (↑i : Int)))))), (.con (.int .i64 ((2 : Int))))] (.con (.string (hexB (Int.toNat (IntKind.wrap IntKind.u64 (byteAt p (Int.toNat (↑i : Int))))) (Int.toNat (2 : Int))))) ∧
        (ByteArray.size (bs (bodyP (Int.toNat (↑g : Int)) p i)) + ByteArray.size (hexB (Int.toNat (IntKind.wrap IntKind.u64 (byteAt p (Int.toNat (↑i : Int))))) (Int.toNat (2 : Int))) ≤ (9223372036854775807 : Nat)))) ∧
        ((I64 ((↑i : Int) + (1 : Int))) ∧
        Again (S18 (↑g : Int) p) (fun x => x ≤ ByteArray.size p) (fun x => ByteArray.size p - x) i ⟨[(.d (.con (.int .i64 ((↑g : Int))))), (.d (.con (.string p))), .any, .any, .any, .any, (.d (.con (.string (bs (bodyP (Int.toNat (↑g : Int)) p i) ++ hexB (Int.toNat (IntKind.wrap IntKind.u64 (byteAt p (Int.toNat (↑i : Int))))) (Int.toNat (2 : Int)))))), (.d (.con (.int .i64 ((↑i : Int) + (1 : Int))))), .any, .any, .any, .any, .any, .any, .any, .any, .any, .any, .any, .any, .any, .any, (.d (.con (.int .i64 ((↑i : Int))))), (.d (.con (.string p))), (.d (.con (.int .i64 ((↑(ByteArray.size p) : Int))))), (.d (.con (.bool (decide ((↑i : Int) < (↑(ByteArray.size p) : Int)))))), (.d (.con (.int .i64 ((↑i : Int))))), (.d (.con (.int .i64 ((↑i : Int) + (1 : Int))))), (.d (.con (.string (bs (bodyP (Int.toNat (↑g : Int)) p i))))), (.d (.con (.string p))), (.d (.con (.int .i64 ((↑i : Int))))), (.d (.con (.int .u8 (byteAt p (Int.toNat (↑i : Int)))))), (.d (.con (.int .u64 (IntKind.wrap IntKind.u64 (byteAt p (Int.toNat (↑i : Int))))))), (.d (.con (.string (hexB (Int.toNat (IntKind.wrap IntKind.u64 (byteAt p (Int.toNat (↑i : Int))))) (Int.toNat (2 : Int)))))), (.d (.con (.string (bs (bodyP (Int.toNat (↑g : Int)) p i) ++ hexB (Int.toNat (IntKind.wrap IntKind.u64 (byteAt p (Int.toNat (↑i : Int))))) (Int.toNat (2 : Int)))))), .any, .any, .any, .any, .any, .any, .any, .any, .any], []⟩))) ∧
        (((decide ((↑i : Int) < (↑(ByteArray.size p) : Int))) = false) →
        AWP Tryd.prog G [.code (cAt (bodyOf Tryd.f18) [1, 1, 1, 1, 1])] ⟨[(.d (.con (.int .i64 ((↑g : Int))))), (.d (.con (.string p))), .any, .any, .any, .any, (.d (.con (.string (bs (bodyP (Int.toNat (↑g : Int)) p i))))), (.d (.con (.int .i64 ((↑i : Int))))), .any, .any, .any, .any, .any, .any, .any, .any, .any, .any, .any, .any, .any, .any, (.d (.con (.int .i64 ((↑i : Int))))), (.d (.con (.string p))), (.d (.con (.int .i64 ((↑(ByteArray.size p) : Int))))), (.d (.con (.bool (decide ((↑i : Int) < (↑(ByteArray.size p) : Int)))))), .any, .any, .any, .any, .any, .any, .any, .any, .any, .any, .any, .any, .any, .any, .any, .any, .any, .any], []⟩ (Ret Tryd.prog Tryd.f18 (encR (↑g : Int) p))))) (by kernel_rfl) ?_
      simp only [Int.toNat_natCast]
      have hl := bodyP_len g p i
      refine ⟨fun h => ?_, fun h => ?_⟩
      · have hi' : i < p.size := by simpa using h
        have hb := byteN_lt p i
        rw [byteAt_N, u64_nat _ (by omega)]
        simp only [Int.toNat_natCast]
        have e : hexB (byteN p i) (Int.toNat 2) = bs (hexL (byteN p i) 2) := rfl
        rw [e, bs_append]
        refine ⟨⟨⟨by omega, by omega⟩, f38 _ 2 (by omega) (by omega), ?_⟩, ⟨by omega, by omega⟩, Again.mk (i + 1) ?_ (by omega) (by omega)⟩
        · rw [bs_size, bs_size, hl, hexL_len]; omega
        refine of_eq (b :=
          (((((.d (.con (.int .i64 ((↑g : Int))))) : AV) = (.d (.con (.int .i64 ((↑g : Int)))))) ∧
          ((((.d (.con (.string p))) : AV) = (.d (.con (.string p)))) ∧
          ((((.d (.con (.string (bs (bodyP g p i ++ hexL (byteN p i) (2 : Nat)))))) : AV) = (.d (.con (.string (bs (bodyP (Int.toNat (↑g : Int)) p (i + (1 : Nat)))))))) ∧
          ((((.d (.con (.int .i64 ((↑i : Int) + (1 : Int))))) : AV) = (.d (.con (.int .i64 ((↑(i + (1 : Nat)) : Int)))))) ∧
          True)))) ∧
          True)) (by kernel_rfl) ?_
        exact ⟨⟨rfl, rfl, rfl, rfl, trivial⟩, trivial⟩
      · have : i = p.size := by simp at h; omega
        subst this
        refine walk (orc := orcRef) (keep := []) (cuts := []) (n := 1000) follows ?_
        refine of_eqH (b :=
          ((FnOK Tryd.prog G ((28 : Nat)) [(.con (.string (bs (bodyP g p (ByteArray.size p)))))] (.con (.int .u64 (sumI (bs (bodyP g p (ByteArray.size p))) (ByteArray.size (bs (bodyP g p (ByteArray.size p))))))) ∧
          (FnOK Tryd.prog G ((38 : Nat)) [(.con (.int .u64 (sumI (bs (bodyP g p (ByteArray.size p))) (ByteArray.size (bs (bodyP g p (ByteArray.size p))))))), (.con (.int .i64 ((16 : Int))))] (.con (.string (hexB (Int.toNat (sumI (bs (bodyP g p (ByteArray.size p))) (ByteArray.size (bs (bodyP g p (ByteArray.size p)))))) (Int.toNat (16 : Int))))) ∧
          ((ByteArray.size { data := #[(82 : UInt8)] } + ByteArray.size (hexB (Int.toNat (sumI (bs (bodyP g p (ByteArray.size p))) (ByteArray.size (bs (bodyP g p (ByteArray.size p)))))) (Int.toNat (16 : Int))) ≤ (9223372036854775807 : Nat)) ∧
          ((ByteArray.size ({ data := #[(82 : UInt8)] } ++ hexB (Int.toNat (sumI (bs (bodyP g p (ByteArray.size p))) (ByteArray.size (bs (bodyP g p (ByteArray.size p)))))) (Int.toNat (16 : Int))) + ByteArray.size (bs (bodyP g p (ByteArray.size p))) ≤ (9223372036854775807 : Nat)) ∧
          (FnOK Tryd.prog G ((39 : Nat)) [(.con (.int .i64 ((↑g : Int))))] (.con (.string (stampB (Int.toNat (↑g : Int))))) ∧
          (ByteArray.size ({ data := #[(82 : UInt8)] } ++ hexB (Int.toNat (sumI (bs (bodyP g p (ByteArray.size p))) (ByteArray.size (bs (bodyP g p (ByteArray.size p)))))) (Int.toNat (16 : Int)) ++ bs (bodyP g p (ByteArray.size p))) + ByteArray.size (stampB (Int.toNat (↑g : Int))) ≤ (9223372036854775807 : Nat))))))) ∧
          (((.tup [(.con (.string ({ data := #[(82 : UInt8)] } ++ hexB (Int.toNat (sumI (bs (bodyP g p (ByteArray.size p))) (ByteArray.size (bs (bodyP g p (ByteArray.size p)))))) (Int.toNat (16 : Int)) ++ bs (bodyP g p (ByteArray.size p)) ++ stampB (Int.toNat (↑g : Int))))), (.con (.int .i64 ((0 : Int))))]) : DV) = (encR (↑g : Int) p)))) (by kernel_rfl) ?_
        have ez : sumI (bs (bodyP g p p.size)) (bs (bodyP g p p.size)).size = ((sumN (bodyL g p) : Nat) : Int) := (Int.toNat_of_nonneg (sumI_bd _ _).1).symm
        have hz : sumN (bodyL g p) < 18446744073709551616 := by
          have := (sumI_bd (bs (bodyP g p p.size)) (bs (bodyP g p p.size)).size).2
          rw [ez] at this; omega
        have k28 := f28 (G := G) (bs (bodyP g p p.size)) (by rw [bs_size, hl]; omega)
        rw [ez] at k28 ⊢
        simp only [Int.toNat_natCast]
        have e1 : hexB (sumN (bodyL g p)) (Int.toNat 16) = bs (hexL (sumN (bodyL g p)) 16) := rfl
        have e2 : (⟨#[82]⟩ : ByteArray) = bs [82] := rfl
        have e3 : stampB g = bs (stampL g) := rfl
        have l3 : (stampL g).length = 9 := by simp [stampL]
        rw [e1, e2, e3]
        simp only [bs_append, bs_size, List.length_append, hl, hexL_len, l3, List.length_singleton]
        refine ⟨⟨k28, f38 _ 16 hz (by omega), by omega, by omega, f39 g (by omega), by omega⟩, ?_⟩
        simp only [encR, if_pos h18, if_neg h2, Int.toNat_natCast]
        rfl
end Go.Proofs

set_option autoImplicit false
namespace Go.Proofs
open Go Go.Ab
set_option maxHeartbeats 1000000
set_option maxRecDepth 100000
variable {G : IH}
/-- A row of n strings. -/
def strs (n : Nat) (a : Nat → ByteArray) : DV := .slc 1 n (fun i => ds (a i))
theorem toList_inj {a b : ByteArray} : a.toList = b.toList ↔ a = b := by
  rw [ByteArray.toList_eq, ByteArray.toList_eq]
  constructor
  · intro h; apply ByteArray.ext; exact Array.toList_inj.1 h
  · rintro rfl; rfl
noncomputable def S13 (n : Nat) (a b : Nat → ByteArray) (x : Nat) : AS := ⟨regs Tryd.f13.ntmps [(0, .d (strs n a)), (1, .d (strs n b)), (5, vi x)], []⟩
theorem f13 (n m : Nat) (a b : Nat → ByteArray) (hn : n < 1000000) : FnOK Tryd.prog G 13 [strs n a, strs m b] (db (decide (n = m ∧ ∀ i, i < n → a i = b i))) := by
  refine FnOK.walk (orc := orc0) (keep := []) follows Tryd.func13 rfl Tryd.call13 ?_
  refine of_eqH (b :=
    (((((↑n : Int) != (↑m : Int)) = true) →
    (((.con (.bool false)) : DV) = (db (decide (n = m ∧ ∀ (i : Nat), i < n → a i = b i))))) ∧
    ((((↑n : Int) != (↑m : Int)) = false) →
    AWP Tryd.prog G [.code (cAt (bodyOf Tryd.f13) [1, 1, 0, 1, 0]), (.blk ((0 : Nat))), .code (cAt (bodyOf Tryd.f13) [1, 1, 1])] ⟨[(.d (.slc ((1 : Nat)) n (fun i => DV.con (Value.string (a i))))), (.d (.slc ((1 : Nat)) m (fun i => DV.con (Value.string (b i))))), .any, .any, (.d (.con (.bool false))), (.d (.con (.int .i64 ((0 : Int))))), (.d (.slc ((1 : Nat)) n (fun i => DV.con (Value.string (a i))))), (.d (.con (.int .i64 ((↑n : Int))))), (.d (.slc ((1 : Nat)) m (fun i => DV.con (Value.string (b i))))), (.d (.con (.int .i64 ((↑m : Int))))), (.d (.con (.bool ((↑n : Int) != (↑m : Int))))), .any, .any, .any, .any, .any, .any, .any, .any, .any, .any, .any, .any, .any, .any, .any], []⟩ (Ret Tryd.prog Tryd.f13 (db (decide (n = m ∧ ∀ (i : Nat), i < n → a i = b i))))))) (by kernel_rfl) ?_
  refine ⟨fun h => ?_, fun h => ?_⟩
  · have h : n ≠ m := by simp at h; omega
    rw [decide_eq_false (fun k => h k.1)]
  · have h : n = m := by simp at h; omega
    subst h
    refine AWP.loop (c := cAt (bodyOf Tryd.f13) [1, 1, 0, 1, 0, 0]) (by kernel_rfl) (S13 n a b) (fun x => x ≤ n ∧ ∀ i, i < x → a i = b i) (fun x => n - x) 0 ?_ ⟨Nat.zero_le _, fun i hi => by omega⟩ ?_
    · refine of_eq (b :=
      (((((.d (.slc ((1 : Nat)) n (fun i => DV.con (Value.string (a i))))) : AV) = (.d (.slc ((1 : Nat)) n (fun i => DV.con (Value.string (a i)))))) ∧
      ((((.d (.slc ((1 : Nat)) n (fun i => DV.con (Value.string (b i))))) : AV) = (.d (.slc ((1 : Nat)) n (fun i => DV.con (Value.string (b i)))))) ∧
      ((((.d (.con (.int .i64 ((0 : Int))))) : AV) = (.d (.con (.int .i64 ((0 : Int)))))) ∧
      True))) ∧
      True)) (by kernel_rfl) ?_
      exact ⟨⟨rfl, rfl, rfl, trivial⟩, trivial⟩
    · rintro i ⟨hi, hab⟩
      refine walk (orc := orc0) (keep := []) (cuts := []) (n := 1000) follows ?_
      refine of_eqH (b :=
        ((((decide ((↑i : Int) < (↑n : Int))) = true) →
        (((((0 : Int) ≤ (↑i : Int)) ∧
        ((↑i : Int) < (↑n : Int))) ∧
        (((0 : Int) ≤ (↑i : Int)) ∧
        ((↑i : Int) < (↑n : Int)))) ∧
        ((((!ByteArray.toList (a (Int.toNat (↑i : Int))) == ByteArray.toList (b (Int.toNat (↑i : Int)))) = true) →
        (((.con (.bool false)) : DV) = (db (decide (n = n ∧ ∀ (i : Nat), i < n → a i = b i))))) ∧
        (((!ByteArray.toList (a (Int.toNat (↑i : Int))) == ByteArray.toList (b (Int.toNat (↑i : Int)))) = false) →
        ((I64 ((↑i : Int) + (1 : Int))) ∧
        Again (S13 n a b) (fun x => x ≤ n ∧ ∀ (i : Nat), i < x → a i = b i) (fun x => n - x) i ⟨[(.d (.slc ((1 : Nat)) n (fun i => DV.con (Value.string (a i))))), (.d (.slc ((1 : Nat)) n (fun i => DV.con (Value.string (b i))))), .any, .any, .any, (.d (.con (.int .i64 ((↑i : Int) + (1 : Int))))), .any, .any, .any, .any, .any, (.d (.con (.int .i64 ((↑i : Int))))), (.d (.slc ((1 : Nat)) n (fun i => DV.con (Value.string (a i))))), (.d (.con (.int .i64 ((↑n : Int))))), (.d (.con (.bool (decide ((↑i : Int) < (↑n : Int)))))), (.d (.con (.int .i64 ((↑i : Int))))), (.d (.con (.int .i64 ((↑i : Int) + (1 : Int))))), (.d (.slc ((1 : Nat)) n (fun i => DV.con (Value.string (a i))))), (.d (.con (.int .i64 ((↑i : Int))))), (.d (.ptr [(.con (.string (a (Int.toNat (↑i : Int)))))])), (.d (.con (.string (a (Int.toNat (↑i : Int)))))), (.d (.slc ((1 : Nat)) n (fun i => DV.con (Value.string (b i))))), (.d (.con (.int .i64 ((↑i : Int))))), (.d (.ptr [(.con (.string (b (Int.toNat (↑i : Int)))))])), (.d (.con (.string (b (Int.toNat (↑i : Int)))))), (.d (.con (.bool (!ByteArray.toList (a (Int.toNat (↑i : Int))) == ByteArray.toList (b (Int.toNat (↑i : Int)))))))], []⟩))))) ∧
        (((decide ((↑i : Int) < (↑n : Int))) = false) →
        AWP Tryd.prog G [.code (cAt (bodyOf Tryd.f13) [1, 1, 1])] ⟨[(.d (.slc ((1 : Nat)) n (fun i => DV.con (Value.string (a i))))), (.d (.slc ((1 : Nat)) n (fun i => DV.con (Value.string (b i))))), .any, .any, .any, (.d (.con (.int .i64 ((↑i : Int))))), .any, .any, .any, .any, .any, (.d (.con (.int .i64 ((↑i : Int))))), (.d (.slc ((1 : Nat)) n (fun i => DV.con (Value.string (a i))))), (.d (.con (.int .i64 ((↑n : Int))))), (.d (.con (.bool (decide ((↑i : Int) < (↑n : Int)))))), .any, .any, .any, .any, .any, .any, .any, .any, .any, .any, .any], []⟩ (Ret Tryd.prog Tryd.f13 (db (decide (n = n ∧ ∀ (i : Nat), i < n → a i = b i))))))) (by kernel_rfl) ?_
      simp only [Int.toNat_natCast]
      refine ⟨fun h => ?_, fun h => ?_⟩
      · have hi' : i < n := by simpa using h
        refine ⟨⟨⟨by omega, by omega⟩, by omega, by omega⟩, fun h2 => ?_, fun h2 => ?_⟩
        · have h2 : ¬ a i = b i := by simpa [toList_inj] using h2
          rw [decide_eq_false (fun k => h2 (k.2 i hi'))]
        · have h2 : a i = b i := by simpa [toList_inj] using h2
          refine ⟨⟨by omega, by omega⟩, Again.mk (i + 1) ?_ ⟨by omega, fun j hj => ?_⟩ (by omega)⟩
          · refine of_eq (b :=
            (((((.d (.slc ((1 : Nat)) n (fun i => DV.con (Value.string (a i))))) : AV) = (.d (.slc ((1 : Nat)) n (fun i => DV.con (Value.string (a i)))))) ∧
            ((((.d (.slc ((1 : Nat)) n (fun i => DV.con (Value.string (b i))))) : AV) = (.d (.slc ((1 : Nat)) n (fun i => DV.con (Value.string (b i)))))) ∧
            ((((.d (.con (.int .i64 ((↑i : Int) + (1 : Int))))) : AV) = (.d (.con (.int .i64 ((↑(i + (1 : Nat)) : Int)))))) ∧
            True))) ∧
            True)) (by kernel_rfl) ?_
            exact ⟨⟨rfl, rfl, rfl, trivial⟩, trivial⟩
          · rcases Nat.lt_or_ge j i with h | h
            · exact hab j h
            · obtain rfl : j = i := by omega
              exact h2
      · have : i = n := by simp at h; omega
        subst this
        refine walk (orc := orc0) (keep := []) (cuts := []) (n := 1000) follows ?_
        refine of_eqH (b :=
          (((.con (.bool true)) : DV) = (db (decide (True ∧ ∀ (i_1 : Nat), i_1 < i → a i_1 = b i_1))))) (by kernel_rfl) ?_
        rw [decide_eq_true (show True ∧ ∀ j, j < i → a j = b j from ⟨trivial, hab⟩)]
noncomputable def S14 (n : Nat) (a : Nat → ByteArray) (c k : Int) (x : Nat) : AS := ⟨regs Tryd.f14.ntmps [(0, .d (strs n a)), (1, vi c), (2, vi k), (7, vi x)], []⟩
theorem f14 (n : Nat) (a : Nat → ByteArray) (c k : Int) (hn : n ≤ 9223372036854775807) : FnOK Tryd.prog G 14 [strs n a, di c, di k] (db (decide ((n : Int) ≤ c ∧ ∀ i, i < n → ((a i).size : Int) ≤ k))) := by
  refine FnOK.walk (orc := orc0) (keep := []) follows Tryd.func14 rfl Tryd.call14 ?_
  refine of_eqH (b :=
    AWP Tryd.prog G [.code (cAt (bodyOf Tryd.f14) [1, 0, 1, 0]), (.blk ((0 : Nat))), .code (cAt (bodyOf Tryd.f14) [1, 1])] ⟨[(.d (.slc ((1 : Nat)) n (fun i => DV.con (Value.string (a i))))), (.d (.con (.int .i64 c))), (.d (.con (.int .i64 k))), .any, .any, .any, (.d (.con (.bool false))), (.d (.con (.int .i64 ((0 : Int))))), .any, .any, .any, .any, .any, .any, .any, .any, .any, .any, .any, .any, .any, .any, .any, .any, .any], []⟩ (Ret Tryd.prog Tryd.f14 (db (decide ((↑n : Int) ≤ c ∧ ∀ (i : Nat), i < n → (↑(ByteArray.size (a i)) : Int) ≤ k))))) (by kernel_rfl) ?_
  refine AWP.loop (c := cAt (bodyOf Tryd.f14) [1, 0, 1, 0, 0]) (by kernel_rfl) (S14 n a c k) (fun x => x ≤ n ∧ ∀ i, i < x → ((a i).size : Int) ≤ k) (fun x => n - x) 0 ?_ ⟨Nat.zero_le _, fun i hi => by omega⟩ ?_
  · refine of_eq (b :=
    (((((.d (.slc ((1 : Nat)) n (fun i => DV.con (Value.string (a i))))) : AV) = (.d (.slc ((1 : Nat)) n (fun i => DV.con (Value.string (a i)))))) ∧
    ((((.d (.con (.int .i64 c))) : AV) = (.d (.con (.int .i64 c)))) ∧
    ((((.d (.con (.int .i64 k))) : AV) = (.d (.con (.int .i64 k)))) ∧
    ((((.d (.con (.int .i64 ((0 : Int))))) : AV) = (.d (.con (.int .i64 ((0 : Int)))))) ∧
    True)))) ∧
    True)) (by kernel_rfl) ?_
    exact ⟨⟨rfl, rfl, rfl, rfl, trivial⟩, trivial⟩
  · rintro i ⟨hi, hab⟩
    refine walk (orc := orc0) (keep := []) (cuts := []) (n := 1000) follows ?_
    refine of_eqH (b :=
      ((((decide ((↑i : Int) < (↑n : Int))) = true) →
      ((((0 : Int) ≤ (↑i : Int)) ∧
      ((↑i : Int) < (↑n : Int))) ∧
      ((((decide ((↑(ByteArray.size (a (Int.toNat (↑i : Int)))) : Int) > k)) = true) →
      (((.con (.bool false)) : DV) = (db (decide ((↑n : Int) ≤ c ∧ ∀ (i : Nat), i < n → (↑(ByteArray.size (a i)) : Int) ≤ k))))) ∧
      (((decide ((↑(ByteArray.size (a (Int.toNat (↑i : Int)))) : Int) > k)) = false) →
      ((I64 ((↑i : Int) + (1 : Int))) ∧
      Again (S14 n a c k) (fun x => x ≤ n ∧ ∀ (i : Nat), i < x → (↑(ByteArray.size (a i)) : Int) ≤ k) (fun x => n - x) i ⟨[(.d (.slc ((1 : Nat)) n (fun i => DV.con (Value.string (a i))))), (.d (.con (.int .i64 c))), (.d (.con (.int .i64 k))), .any, .any, .any, .any, (.d (.con (.int .i64 ((↑i : Int) + (1 : Int))))), (.d (.con (.int .i64 ((↑i : Int))))), (.d (.slc ((1 : Nat)) n (fun i => DV.con (Value.string (a i))))), (.d (.con (.int .i64 ((↑n : Int))))), (.d (.con (.bool (decide ((↑i : Int) < (↑n : Int)))))), (.d (.con (.int .i64 ((↑i : Int))))), (.d (.con (.int .i64 ((↑i : Int) + (1 : Int))))), (.d (.slc ((1 : Nat)) n (fun i => DV.con (Value.string (a i))))), (.d (.con (.int .i64 ((↑i : Int))))), (.d (.ptr [(.con (.string (a (Int.toNat (↑i : Int)))))])), (.d (.con (.string (a (Int.toNat (↑i : Int)))))), (.d (.con (.int .i64 ((↑(ByteArray.size (a (Int.toNat (↑i : Int)))) : Int))))), (.d (.con (.int .i64 k))), (.d (.con (.bool (decide ((↑(ByteArray.size (a (Int.toNat (↑i : Int)))) : Int) > k))))), .any, .any, .any, .any], []⟩))))) ∧
      (((decide ((↑i : Int) < (↑n : Int))) = false) →
      AWP Tryd.prog G [.code (cAt (bodyOf Tryd.f14) [1, 1])] ⟨[(.d (.slc ((1 : Nat)) n (fun i => DV.con (Value.string (a i))))), (.d (.con (.int .i64 c))), (.d (.con (.int .i64 k))), .any, .any, .any, .any, (.d (.con (.int .i64 ((↑i : Int))))), (.d (.con (.int .i64 ((↑i : Int))))), (.d (.slc ((1 : Nat)) n (fun i => DV.con (Value.string (a i))))), (.d (.con (.int .i64 ((↑n : Int))))), (.d (.con (.bool (decide ((↑i : Int) < (↑n : Int)))))), .any, .any, .any, .any, .any, .any, .any, .any, .any, .any, .any, .any, .any], []⟩ (Ret Tryd.prog Tryd.f14 (db (decide ((↑n : Int) ≤ c ∧ ∀ (i : Nat), i < n → (↑(ByteArray.size (a i)) : Int) ≤ k))))))) (by kernel_rfl) ?_
    simp only [Int.toNat_natCast]
    refine ⟨fun h => ?_, fun h => ?_⟩
    · have hi' : i < n := by simpa using h
      refine ⟨⟨by omega, by omega⟩, fun h2 => ?_, fun h2 => ?_⟩
      · have h2 : ¬ ((a i).size : Int) ≤ k := by simp at h2; omega
        rw [decide_eq_false (fun k => h2 (k.2 i hi'))]
      · have h2 : ((a i).size : Int) ≤ k := by simp at h2; omega
        refine ⟨⟨by omega, by omega⟩, Again.mk (i + 1) ?_ ⟨by omega, fun j hj => ?_⟩ (by omega)⟩
        · refine of_eq (b :=
          (((((.d (.slc ((1 : Nat)) n (fun i => DV.con (Value.string (a i))))) : AV) = (.d (.slc ((1 : Nat)) n (fun i => DV.con (Value.string (a i)))))) ∧
          ((((.d (.con (.int .i64 c))) : AV) = (.d (.con (.int .i64 c)))) ∧
          ((((.d (.con (.int .i64 k))) : AV) = (.d (.con (.int .i64 k)))) ∧
          ((((.d (.con (.int .i64 ((↑i : Int) + (1 : Int))))) : AV) = (.d (.con (.int .i64 ((↑(i + (1 : Nat)) : Int)))))) ∧
          True)))) ∧
          True)) (by kernel_rfl) ?_
          exact ⟨⟨rfl, rfl, rfl, rfl, trivial⟩, trivial⟩
        · rcases Nat.lt_or_ge j i with h | h
          · exact hab j h
          · obtain rfl : j = i := by omega
            exact h2
    · have : i = n := by simp at h; omega
      subst this
      refine walk (orc := orc0) (keep := []) (cuts := []) (n := 1000) follows ?_
      refine of_eqH (b :=
        (((.con (.bool (decide ((↑i : Int) ≤ c)))) : DV) = (db (decide ((↑i : Int) ≤ c ∧ ∀ (i_1 : Nat), i_1 < i → (↑(ByteArray.size (a i_1)) : Int) ≤ k))))) (by kernel_rfl) ?_
      refine congrArg db ?_
      rw [decide_eq_decide]
      exact ⟨fun h => ⟨h, hab⟩, fun h => h.1⟩
end Go.Proofs

set_option autoImplicit false
namespace Go.Proofs
open Go Go.Ab
set_option maxHeartbeats 1000000
set_option maxRecDepth 100000
variable {G : IH}
/-- The digits of a number; none of 0. -/
def decT (n : Nat) : List UInt8 := if h : n = 0 then [] else decT (n / 10) ++ [UInt8.ofNat (48 + n % 10)]
termination_by n
decreasing_by omega
/-- A number in decimal. -/
def decP (n : Nat) : List UInt8 := if n = 0 then [48] else decT n
theorem decT_zero : decT 0 = [] := by rw [decT]; rfl
theorem decT_pos {n : Nat} (h : n ≠ 0) : decT n = decT (n / 10) ++ [UInt8.ofNat (48 + n % 10)] := by rw [decT, dif_neg h]
theorem decP_step (n : Nat) : decT (n / 10) ++ [UInt8.ofNat (48 + n % 10)] = decP n := by
  unfold decP
  split
  · rename_i h; subst h; rw [show 0 / 10 = 0 from rfl, decT_zero]; rfl
  · rename_i h; rw [decT_pos h]
def I47 (n : Nat) (x : Nat × List UInt8) : Prop := x.1 ≤ n ∧ x.2.length + x.1 ≤ n + 1 ∧ ((x.2 = [] ∧ x.1 = n) ∨ (x.2 ≠ [] ∧ decT x.1 ++ x.2 = decP n))
def M47 (x : Nat × List UInt8) : Nat := 2 * x.1 + (if x.2 = [] then 1 else 0)
noncomputable def S47 (x : Nat × List UInt8) : AS := ⟨regs Tryd.f47.ntmps [(0, vi x.1), (3, vs (bs x.2))], []⟩
theorem f47 (n : Nat) (hn : n < 1000000) : FnOK Tryd.prog G 47 [di n] (ds (bs (decP n))) := by
  refine FnOK.walk (orc := orc0) (keep := []) follows Tryd.func47 rfl Tryd.call47 ?_
  refine of_eqH (b :=
    AWP Tryd.prog G [.code (cAt (bodyOf Tryd.f47) [1, 1, 0, 0]), (.blk ((0 : Nat))), .code (cAt (bodyOf Tryd.f47) [1, 1, 1])] ⟨[(.d (.con (.int .i64 ((↑n : Int))))), .any, (.d (.con (.string ({ data := #[] })))), (.d (.con (.string ({ data := #[] })))), .any, .any, .any, .any, .any, .any, .any, .any, .any, .any, .any, .any, .any, .any, .any, .any, .any], []⟩ (Ret Tryd.prog Tryd.f47 (ds (bs (decP n))))) (by kernel_rfl) ?_
  refine AWP.loop (c := cAt (bodyOf Tryd.f47) [1, 1, 0, 0, 0]) (by kernel_rfl) S47 (I47 n) M47 (n, []) ?_ ⟨Nat.le_refl _, by simp only [List.length_nil]; omega, .inl ⟨rfl, rfl⟩⟩ ?_
  · refine of_eq (b :=
    (((((.d (.con (.int .i64 ((↑n : Int))))) : AV) = (.d (.con (.int .i64 ((↑n : Int)))))) ∧
    ((((.d (.con (.string ({ data := #[] })))) : AV) = (.d (.con (.string (bs []))))) ∧
    True)) ∧
    True)) (by kernel_rfl) ?_
    exact ⟨⟨rfl, rfl, trivial⟩, trivial⟩
  · rintro ⟨m, l⟩ ⟨hm, hlen, hI⟩
    simp only at hm hlen hI
    refine walk (orc := orc0) (keep := []) (cuts := []) (n := 1000) follows ?_
    refine of_eqH (b :=
      ((((ByteArray.toList (bs l) == ByteArray.toList { data := #[] } || decide ((↑m : Int) > (0 : Int))) = true) →
      (((I64 ((48 : Int) + Int.tmod (↑m : Int) (10 : Int))) ∧
      (BytesAt ((1 : Nat)) (elemF false ((1 : Nat)) [(.con (.int .u8 (IntKind.wrap IntKind.u8 ((48 : Int) + Int.tmod (↑m : Int) (10 : Int)))))]) ∧
      (ByteArray.size { data := List.toArray (bytesOf (1 : Nat) (elemF false (1 : Nat) [DV.con (Value.int IntKind.u8 (IntKind.wrap IntKind.u8 ((48 : Int) + Int.tmod (↑m : Int) (10 : Int))))])) } + ByteArray.size (bs l) ≤ (9223372036854775807 : Nat)))) ∧
      ((R64 (↑m : Int)) ∧
      Again S47 (I47 n) M47 ((m, l)) ⟨[(.d (.con (.int .i64 (Int.tdiv (↑m : Int) (10 : Int))))), .any, .any, (.d (.con (.string ({ data := List.toArray (bytesOf (1 : Nat) (elemF false (1 : Nat) [DV.con (Value.int IntKind.u8 (IntKind.wrap IntKind.u8 ((48 : Int) + Int.tmod (↑m : Int) (10 : Int))))])) } ++ bs l)))), (.d (.con (.string (bs l)))), (.d (.con (.bool (ByteArray.toList (bs l) == ByteArray.toList { data := #[] })))), (.d (.con (.bool (ByteArray.toList (bs l) == ByteArray.toList { data := #[] })))), .any, .any, (.d (.con (.bool (ByteArray.toList (bs l) == ByteArray.toList { data := #[] } || decide ((↑m : Int) > (0 : Int)))))), (.d (.con (.int .i64 ((↑m : Int))))), (.d (.con (.int .i64 (Int.tmod (↑m : Int) (10 : Int))))), (.d (.con (.int .i64 ((48 : Int) + Int.tmod (↑m : Int) (10 : Int))))), (.d (.con (.int .u8 (IntKind.wrap IntKind.u8 ((48 : Int) + Int.tmod (↑m : Int) (10 : Int)))))), (.d (.slc ((1 : Nat)) ((1 : Nat)) (elemF false ((1 : Nat)) [(.con (.int .u8 (IntKind.wrap IntKind.u8 ((48 : Int) + Int.tmod (↑m : Int) (10 : Int)))))]))), (.d (.con (.string ({ data := List.toArray (bytesOf (1 : Nat) (elemF false (1 : Nat) [DV.con (Value.int IntKind.u8 (IntKind.wrap IntKind.u8 ((48 : Int) + Int.tmod (↑m : Int) (10 : Int))))])) })))), (.d (.con (.string (bs l)))), (.d (.con (.string ({ data := List.toArray (bytesOf (1 : Nat) (elemF false (1 : Nat) [DV.con (Value.int IntKind.u8 (IntKind.wrap IntKind.u8 ((48 : Int) + Int.tmod (↑m : Int) (10 : Int))))])) } ++ bs l)))), (.d (.con (.int .i64 ((↑m : Int))))), (.d (.con (.int .i64 (Int.tdiv (↑m : Int) (10 : Int))))), .any], []⟩))) ∧
      (((ByteArray.toList (bs l) == ByteArray.toList { data := #[] } || decide ((↑m : Int) > (0 : Int))) = false) →
      AWP Tryd.prog G [.code (cAt (bodyOf Tryd.f47) [1, 1, 1])] ⟨[(.d (.con (.int .i64 ((↑m : Int))))), .any, .any, (.d (.con (.string (bs l)))), (.d (.con (.string (bs l)))), (.d (.con (.bool (ByteArray.toList (bs l) == ByteArray.toList { data := #[] })))), (.d (.con (.bool (ByteArray.toList (bs l) == ByteArray.toList { data := #[] })))), (.gate ((6 : Nat)) false (!ByteArray.toList (bs l) == ByteArray.toList { data := #[] }) (.d (.con (.int .i64 ((↑m : Int)))))), (.gate ((6 : Nat)) false (!ByteArray.toList (bs l) == ByteArray.toList { data := #[] }) (.d (.con (.bool (decide ((↑m : Int) > (0 : Int))))))), (.d (.con (.bool (ByteArray.toList (bs l) == ByteArray.toList { data := #[] } || decide ((↑m : Int) > (0 : Int)))))), .any, .any, .any, .any, .any, .any, .any, .any, .any, .any, .any], []⟩ (Ret Tryd.prog Tryd.f47 (ds (bs (decP n))))))) (by kernel_rfl) ?_
    have el : (ByteArray.toList (bs l) == ByteArray.toList { data := #[] }) = decide (l = []) := by
      rw [Bool.eq_iff_iff, beq_iff_eq, decide_eq_true_eq, toList_inj]
      constructor
      · intro h
        have := congrArg ByteArray.size h
        rw [bs_size] at this
        exact List.length_eq_zero_iff.1 this
      · rintro rfl; rfl
    rw [el]
    refine ⟨fun h => ?_, fun h => ?_⟩
    · have h2 : m % 10 < 10 := Nat.mod_lt _ (by decide)
      have e : (48 : Int) + Int.tmod (m : Int) 10 = ((48 + m % 10 : Nat) : Int) := by push_cast; rfl
      have e2 : Int.tdiv (m : Int) 10 = ((m / 10 : Nat) : Int) := rfl
      rw [e, e2, u8_nat _ (by omega)]
      have e5 : ((48 + m % 10 : Nat) : Int) = ((UInt8.ofNat (48 + m % 10)).toNat : Int) := by
        simp only [UInt8.toNat_ofNat']; omega
      have e4 : (⟨(bytesOf 1 (elemF false 1 [DV.con (Value.int IntKind.u8 ((48 + m % 10 : Nat) : Int))])).toArray⟩ : ByteArray) = bs [UInt8.ofNat (48 + m % 10)] := by rw [bytes_one _ _ e5]; rfl
      rw [e4, bs_append, List.singleton_append]
      refine ⟨⟨⟨by omega, by omega⟩, bytes_oneAt _ _ e5, ?_⟩, ⟨by omega, by omega⟩, Again.mk (m / 10, UInt8.ofNat (48 + m % 10) :: l) ?_ ⟨by simp only; omega, ?_, .inr ⟨by simp, ?_⟩⟩ ?_⟩
      · rw [bs_size, bs_size, List.length_singleton]; omega
      · refine of_eq (b :=
        (((((.d (.con (.int .i64 ((↑(m / (10 : Nat)) : Int))))) : AV) = (.d (.con (.int .i64 ((↑(m / (10 : Nat)) : Int)))))) ∧
        ((((.d (.con (.string (bs (UInt8.ofNat ((48 : Nat) + m % (10 : Nat)) :: l))))) : AV) = (.d (.con (.string (bs (UInt8.ofNat ((48 : Nat) + m % (10 : Nat)) :: l)))))) ∧
        True)) ∧
        True)) (by kernel_rfl) ?_
        exact ⟨⟨rfl, rfl, trivial⟩, trivial⟩
      · have hp : l = [] ∨ 0 < m := by simpa using h
        simp only [List.length_cons]
        rcases hp with rfl | hp
        · simp only [List.length_nil]; omega
        · omega
      · have hp : l = [] ∨ 0 < m := by simpa using h
        simp only
        rcases hI with ⟨rfl, rfl⟩ | ⟨hl, hI⟩
        · exact decP_step m
        · have hp : m ≠ 0 := by rcases hp with h | h; exact absurd h hl; omega
          rw [← hI, decT_pos hp, List.append_assoc]; rfl
      · have hp : l = [] ∨ 0 < m := by simpa using h
        simp only [M47]
        rw [if_neg (by simp)]
        rcases hp with rfl | hp
        · rw [if_pos rfl]; omega
        · omega
    · have hp : ¬ l = [] ∧ m = 0 := by simpa using h
      obtain ⟨hl, rfl⟩ := hp
      rcases hI with ⟨h, _⟩ | ⟨_, hI⟩
      · exact absurd h hl
      rw [decT_zero, List.nil_append] at hI
      refine walk (orc := orc0) (keep := []) (cuts := []) (n := 1000) follows ?_
      refine of_eqH (b :=
        (((.con (.string (bs l))) : DV) = (ds (bs (decP n))))) (by kernel_rfl) ?_
      rw [hI]
end Go.Proofs

set_option autoImplicit false
namespace Go.Proofs
open Go Go.Ab
set_option maxHeartbeats 1000000
set_option maxRecDepth 100000
variable {G : IH}
/-- The number that digits are, as an int; and whether they are digits. -/
def numV (s : ByteArray) : Int := IntKind.wrap .i64 (((numP s s.size).getD 0 : Nat) : Int)
def numB (s : ByteArray) : Bool := (numP s s.size).isSome
theorem f40' (s : ByteArray) (hs : s.size < 281474976710656) : FnOK Tryd.prog G 40 [ds s] (.tup [di (numV s), db (numB s)]) := by
  have h := f40 (G := G) s hs
  have e : numR (fun n => di (IntKind.wrap .i64 n)) (numP s s.size) = .tup [di (numV s), db (numB s)] := by
    unfold numR numV numB
    cases numP s s.size <;> rfl
  rwa [e] at h
/-- What Encode returns. -/
def encS (g : Int) (p : ByteArray) : ByteArray := if okGen g = true ∧ p.size ≤ 30000 then bs (encL g.toNat p) else ByteArray.empty
def encE (g : Int) (p : ByteArray) : Int := if okGen g = true then if p.size > 30000 then 8 else 0 else 2
theorem encR_eq (g : Int) (p : ByteArray) : encR g p = .tup [ds (encS g p), di (encE g p)] := by
  unfold encR encS encE
  by_cases h : okGen g = true
  · by_cases h2 : p.size > 30000
    · rw [if_pos h, if_pos h2, if_neg (by omega), if_pos h, if_pos h2]
    · rw [if_pos h, if_neg h2, if_pos ⟨h, by omega⟩, if_pos h, if_neg h2]
  · rw [if_neg h, if_neg (fun k => h k.1), if_neg h]
theorem f18' (g : Int) (p : ByteArray) : FnOK Tryd.prog G 18 [di g, ds p] (.tup [ds (encS g p), di (encE g p)]) := encR_eq g p ▸ f18 g p
def orcDec : Oracle := fun f args => match f, args with
  | 37, [.con (.int .i64 g)] => some (db (okGen g))
  | 40, [.con (.string s)] => some (.tup [di (numV s), db (numB s)])
  | 18, [.con (.int .i64 g), .con (.string p)] => some (.tup [ds (encS g p), di (encE g p)])
  | _, _ => none
end Go.Proofs
