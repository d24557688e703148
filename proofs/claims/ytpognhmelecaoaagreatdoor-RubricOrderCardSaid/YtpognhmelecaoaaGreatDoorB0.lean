import Derived.Test.YtpognhmelecaoaaGreatDoorAcD
import Derived.Lib.AtoiTie
import Derived.Lib.AtoiAllCases
import Derived.Lib.ItoaNum
import Derived.Lib.IndexLaws
import Derived.Lib.Bytealg
/- Bytes, strings and decimal digits, plain; of no program. -/
set_option autoImplicit false
namespace Go.Proofs
open Go Go.Ab
def bs (l : List UInt8) : ByteArray := ⟨l.toArray⟩
theorem size_list (s : ByteArray) : s.data.toList.length = s.size := Array.length_toList
theorem toList_inj {a b : ByteArray} : a.toList = b.toList ↔ a = b := by
  rw [ByteArray.toList_eq, ByteArray.toList_eq]
  constructor
  · intro h; apply ByteArray.ext; exact Array.toList_inj.1 h
  · rintro rfl; rfl
theorem toList_beq (a b : ByteArray) : (ByteArray.toList a == ByteArray.toList b) = decide (a = b) := by
  rw [Bool.eq_iff_iff, beq_iff_eq, toList_inj, decide_eq_true_iff]
/-! Decimal digits. -/
def isD (c : UInt8) : Prop := 48 ≤ c.toNat ∧ c.toNat ≤ 57
def valD (l : List UInt8) : Nat := l.foldl (fun a c => 10 * a + (c.toNat - 48)) 0
theorem valD_app (l : List UInt8) (c : UInt8) : valD (l ++ [c]) = 10 * valD l + (c.toNat - 48) := by
  simp [valD, List.foldl_append]
theorem dig_nat {k : Nat} (h : k < 10) : (UInt8.ofNat (48 + k)).toNat = 48 + k := by
  rw [UInt8.toNat_ofNat']; omega
theorem decDigits_all : ∀ n : Nat, (∀ c ∈ Lib.decDigits n, isD c) ∧ valD (Lib.decDigits n) = n ∧ Lib.decDigits n ≠ [] ∧ (1 < (Lib.decDigits n).length → ∀ c, (Lib.decDigits n).head? = some c → c.toNat ≠ 48) ∧ (1 ≤ n → ∀ c, (Lib.decDigits n).head? = some c → c.toNat ≠ 48) := by
  intro n
  induction n using Nat.strongRecOn with
  | _ n ih =>
    rw [Lib.decDigits]
    by_cases h : n < 10
    · rw [dif_pos h]
      have hd := dig_nat h
      refine ⟨fun c hc => ?_, ?_, by simp, fun h2 => by simp at h2, fun h2 c hc => ?_⟩
      · rw [List.mem_singleton] at hc; subst hc; exact ⟨by omega, by omega⟩
      · show 10 * 0 + ((UInt8.ofNat (48 + n)).toNat - 48) = n
        rw [hd]; omega
      · simp only [List.head?_cons, Option.some.injEq] at hc; subst hc; omega
    · rw [dif_neg h]
      obtain ⟨h1, h2, h3, h4, h5⟩ := ih (n / 10) (by omega)
      have hd := dig_nat (show n % 10 < 10 by omega)
      have hhead : ∀ c, (Lib.decDigits (n / 10) ++ [UInt8.ofNat (48 + n % 10)]).head? = some c → c.toNat ≠ 48 := by
        intro c hc
        refine h5 (by omega) c ?_
        cases hq : Lib.decDigits (n / 10) with
        | nil => exact absurd hq h3
        | cons a l => rw [hq] at hc; simpa using hc
      refine ⟨fun c hc => ?_, ?_, by simp, fun _ => hhead, fun _ => hhead⟩
      · rcases List.mem_append.1 hc with hc | hc
        · exact h1 c hc
        · rw [List.mem_singleton] at hc; subst hc; exact ⟨by omega, by omega⟩
      · rw [valD_app, h2, hd]; omega
theorem decDigits_len : ∀ k n : Nat, n < 10 ^ (k + 1) → (Lib.decDigits n).length ≤ k + 1
  | 0, n, h => by
    rw [Lib.decDigits, dif_pos (by omega)]; simp
  | k + 1, n, h => by
    rw [Lib.decDigits]
    by_cases h2 : n < 10
    · rw [dif_pos h2]; simp
    · rw [dif_neg h2, List.length_append]
      have := decDigits_len k (n / 10) (by rw [Nat.pow_succ] at h; omega)
      simp; omega
theorem decDigits_valN : ∀ (n : Nat) (l : List UInt8), l.length = n → l ≠ [] → (∀ c ∈ l, isD c) → (1 < l.length → ∀ c, l.head? = some c → c.toNat ≠ 48) → Lib.decDigits (valD l) = l := by
  intro n
  induction n with
  | zero => intro l hn h0; exact absurd (List.eq_nil_of_length_eq_zero hn) h0
  | succ n ih =>
    intro l' hn h0 hd hz
    obtain ⟨l, c, rfl⟩ : ∃ l c, l' = l ++ [c] := ⟨l'.dropLast, l'.getLast h0, (List.dropLast_concat_getLast h0).symm⟩
    have hc := hd c (by simp)
    have hc' : UInt8.ofNat (48 + (c.toNat - 48)) = c := by
      rw [Nat.add_sub_cancel' hc.1]; exact UInt8.ofNat_toNat
    have hll : l.length = n := by rw [List.length_append, List.length_singleton] at hn; omega
    rw [valD_app]
    by_cases hl : l = []
    · subst hl
      have e : 10 * valD [] + (c.toNat - 48) = c.toNat - 48 := by
        show 10 * 0 + (c.toNat - 48) = _
        omega
      rw [e, Lib.decDigits, dif_pos (by have := hc.2; omega), hc', List.nil_append]
    · have hh : ∀ a, l.head? = some a → a.toNat ≠ 48 := by
        intro a ha
        refine hz (by rw [List.length_append]; have := List.length_pos_iff.2 hl; simp; omega) a ?_
        cases l with
        | nil => exact absurd rfl hl
        | cons x l => simpa using ha
      have ihl := ih l hll hl (fun a ha => hd a (by simp [ha])) (fun _ => hh)
      have hv : 1 ≤ valD l := by
        rcases Nat.eq_zero_or_pos (valD l) with h | h
        · rw [h, Lib.decDigits, dif_pos (by decide)] at ihl
          rw [← ihl] at hh
          exact absurd rfl (hh _ rfl)
        · exact h
      rw [Lib.decDigits, dif_neg (by omega), show (10 * valD l + (c.toNat - 48)) / 10 = valD l by have := hc.2; omega, show (10 * valD l + (c.toNat - 48)) % 10 = c.toNat - 48 by have := hc.2; omega, ihl, hc']
theorem decDigits_val {l : List UInt8} (h0 : l ≠ []) (hd : ∀ c ∈ l, isD c) (hz : 1 < l.length → ∀ c, l.head? = some c → c.toNat ≠ 48) : Lib.decDigits (valD l) = l := decDigits_valN _ l rfl h0 hd hz
end Go.Proofs
