import Derived.Test.YtpognhmelecaoaaGreatDoorAcD
import Derived.Lib.AtoiTie
import Derived.Lib.AtoiAllCases
import Derived.Lib.ItoaNum
import Derived.Lib.IndexLaws
import Derived.Lib.Bytealg
/- Bytes, strings and decimal digits, plain; of no program. -/
set_option autoImplicit false
namespace Go.Proofs
open Go Go.Ab
def bs (l : List UInt8) : ByteArray := ⟨l.toArray⟩
theorem bs_size (l : List UInt8) : (bs l).size = l.length := by simp [bs, ByteArray.size]
theorem bs_append (l m : List UInt8) : bs l ++ bs m = bs (l ++ m) := by
  apply ByteArray.ext; simp [bs]
theorem size_list (s : ByteArray) : s.data.toList.length = s.size := Array.length_toList
theorem toList_inj {a b : ByteArray} : a.toList = b.toList ↔ a = b := by
  rw [ByteArray.toList_eq, ByteArray.toList_eq]
  constructor
  · intro h; apply ByteArray.ext; exact Array.toList_inj.1 h
  · rintro rfl; rfl
theorem toList_beq (a b : ByteArray) : (ByteArray.toList a == ByteArray.toList b) = decide (a = b) := by
  rw [Bool.eq_iff_iff, beq_iff_eq, toList_inj, decide_eq_true_iff]
theorem byteAt_bs (l : List UInt8) (i : Nat) : byteAt (bs l) i = (((l[i]?).getD 0).toNat : Int) := by
  simp [byteAt, bs]
theorem extract_bs (s : ByteArray) (i j : Nat) : s.extract i j = bs ((s.data.toList.drop i).take (j - i)) := by
  apply ByteArray.ext
  rw [ByteArray.data_extract]
  apply Array.ext'
  simp [bs]
theorem bs_toList (s : ByteArray) : bs s.data.toList = s := by simp [bs]
theorem bs_inj {l m : List UInt8} (h : bs l = bs m) : l = m := by
  have := congrArg (fun s : ByteArray => s.data.toList) h
  simpa [bs] using this
theorem toList_bs (l : List UInt8) : (bs l).data.toList = l := by simp [bs]
theorem index_at {l : List UInt8} {c : UInt8} {o : Nat} (h : l[o]? = some c) (h2 : ∀ k, k < o → l[k]? ≠ some c) : Lib.indexByte l c = o := by
  rcases Int.lt_or_le (Lib.indexByte l c) 0 with h3 | h3
  · have := Lib.indexByte_ge l c
    exact absurd h (Lib.indexByte_none (show Lib.indexByte l c = -1 by omega) o)
  · obtain ⟨n, hn⟩ := Int.eq_ofNat_of_zero_le h3
    obtain ⟨h4, h5⟩ := Lib.indexByte_some hn
    rcases Nat.lt_trichotomy n o with h6 | h6 | h6
    · exact absurd h4 (h2 n h6)
    · rw [hn, h6]
    · exact absurd h (h5 o h6)
theorem extract_list (s : ByteArray) (i j : Nat) : (s.extract i j).data.toList = (s.data.toList.drop i).take (j - i) := by
  rw [extract_bs, toList_bs]
/-! Decimal digits. -/
def isD (c : UInt8) : Prop := 48 ≤ c.toNat ∧ c.toNat ≤ 57
def valD (l : List UInt8) : Nat := l.foldl (fun a c => 10 * a + (c.toNat - 48)) 0
theorem valD_app (l : List UInt8) (c : UInt8) : valD (l ++ [c]) = 10 * valD l + (c.toNat - 48) := by
  simp [valD, List.foldl_append]
theorem dig_nat {k : Nat} (h : k < 10) : (UInt8.ofNat (48 + k)).toNat = 48 + k := by
  rw [UInt8.toNat_ofNat']; omega
theorem decDigits_all : ∀ n : Nat, (∀ c ∈ Lib.decDigits n, isD c) ∧ valD (Lib.decDigits n) = n ∧ Lib.decDigits n ≠ [] ∧ (1 < (Lib.decDigits n).length → ∀ c, (Lib.decDigits n).head? = some c → c.toNat ≠ 48) ∧ (1 ≤ n → ∀ c, (Lib.decDigits n).head? = some c → c.toNat ≠ 48) := by
  intro n
  induction n using Nat.strongRecOn with
  | _ n ih =>
    rw [Lib.decDigits]
    by_cases h : n < 10
    · rw [dif_pos h]
      have hd := dig_nat h
      refine ⟨fun c hc => ?_, ?_, by simp, fun h2 => by simp at h2, fun h2 c hc => ?_⟩
      · rw [List.mem_singleton] at hc; subst hc; exact ⟨by omega, by omega⟩
      · show 10 * 0 + ((UInt8.ofNat (48 + n)).toNat - 48) = n
        rw [hd]; omega
      · simp only [List.head?_cons, Option.some.injEq] at hc; subst hc; omega
    · rw [dif_neg h]
      obtain ⟨h1, h2, h3, h4, h5⟩ := ih (n / 10) (by omega)
      have hd := dig_nat (show n % 10 < 10 by omega)
      have hhead : ∀ c, (Lib.decDigits (n / 10) ++ [UInt8.ofNat (48 + n % 10)]).head? = some c → c.toNat ≠ 48 := by
        intro c hc
        refine h5 (by omega) c ?_
        cases hq : Lib.decDigits (n / 10) with
        | nil => exact absurd hq h3
        | cons a l => rw [hq] at hc; simpa using hc
      refine ⟨fun c hc => ?_, ?_, by simp, fun _ => hhead, fun _ => hhead⟩
      · rcases List.mem_append.1 hc with hc | hc
        · exact h1 c hc
        · rw [List.mem_singleton] at hc; subst hc; exact ⟨by omega, by omega⟩
      · rw [valD_app, h2, hd]; omega
theorem decDigits_len : ∀ k n : Nat, n < 10 ^ (k + 1) → (Lib.decDigits n).length ≤ k + 1
  | 0, n, h => by
    rw [Lib.decDigits, dif_pos (by omega)]; simp
  | k + 1, n, h => by
    rw [Lib.decDigits]
    by_cases h2 : n < 10
    · rw [dif_pos h2]; simp
    · rw [dif_neg h2, List.length_append]
      have := decDigits_len k (n / 10) (by rw [Nat.pow_succ] at h; omega)
      simp; omega
theorem decDigits_valN : ∀ (n : Nat) (l : List UInt8), l.length = n → l ≠ [] → (∀ c ∈ l, isD c) → (1 < l.length → ∀ c, l.head? = some c → c.toNat ≠ 48) → Lib.decDigits (valD l) = l := by
  intro n
  induction n with
  | zero => intro l hn h0; exact absurd (List.eq_nil_of_length_eq_zero hn) h0
  | succ n ih =>
    intro l' hn h0 hd hz
    obtain ⟨l, c, rfl⟩ : ∃ l c, l' = l ++ [c] := ⟨l'.dropLast, l'.getLast h0, (List.dropLast_concat_getLast h0).symm⟩
    have hc := hd c (by simp)
    have hc' : UInt8.ofNat (48 + (c.toNat - 48)) = c := by
      rw [Nat.add_sub_cancel' hc.1]; exact UInt8.ofNat_toNat
    have hll : l.length = n := by rw [List.length_append, List.length_singleton] at hn; omega
    rw [valD_app]
    by_cases hl : l = []
    · subst hl
      have e : 10 * valD [] + (c.toNat - 48) = c.toNat - 48 := by
        show 10 * 0 + (c.toNat - 48) = _
        omega
      rw [e, Lib.decDigits, dif_pos (by have := hc.2; omega), hc', List.nil_append]
    · have hh : ∀ a, l.head? = some a → a.toNat ≠ 48 := by
        intro a ha
        refine hz (by rw [List.length_append]; have := List.length_pos_iff.2 hl; simp; omega) a ?_
        cases l with
        | nil => exact absurd rfl hl
        | cons x l => simpa using ha
      have ihl := ih l hll hl (fun a ha => hd a (by simp [ha])) (fun _ => hh)
      have hv : 1 ≤ valD l := by
        rcases Nat.eq_zero_or_pos (valD l) with h | h
        · rw [h, Lib.decDigits, dif_pos (by decide)] at ihl
          rw [← ihl] at hh
          exact absurd rfl (hh _ rfl)
        · exact h
      rw [Lib.decDigits, dif_neg (by omega), show (10 * valD l + (c.toNat - 48)) / 10 = valD l by have := hc.2; omega, show (10 * valD l + (c.toNat - 48)) % 10 = c.toNat - 48 by have := hc.2; omega, ihl, hc']
theorem decDigits_val {l : List UInt8} (h0 : l ≠ []) (hd : ∀ c ∈ l, isD c) (hz : 1 < l.length → ∀ c, l.head? = some c → c.toNat ≠ 48) : Lib.decDigits (valD l) = l := decDigits_valN _ l rfl h0 hd hz
theorem decFrom_digits {l : List UInt8} : ∀ (a : Nat), (∀ c ∈ l, isD c) → Lib.decFrom a l = some (l.foldl (fun a c => 10 * a + (c.toNat - 48)) a) := by
  induction l with
  | nil => intro a _; rfl
  | cons c l ih =>
    intro a hd
    have hc := hd c (by simp)
    have e : Lib.digitVal c = some (c.toNat - 48) := by
      unfold Lib.digitVal
      rw [if_pos ⟨hc.1, hc.2⟩]
    rw [Lib.decFrom, e]
    simp only
    rw [ih _ fun d hd2 => hd d (by simp [hd2]), List.foldl_cons, Nat.mul_comm]
theorem atoi_digits {l : List UInt8} (h0 : l ≠ []) (hd : ∀ c ∈ l, isD c) (hl : l.length ≤ 18) : Lib.atoiAll l = .ok (valD l : Int) := by
  rw [Lib.atoiAll_short l hl]
  cases l with
  | nil => exact absurd rfl h0
  | cons c l =>
    have hc := hd c (by simp)
    have h45 : (c == 45) = false := by
      rw [beq_eq_false_iff_ne]; intro e; subst e; have := hc.1; simp at this
    have h43 : (c == 43) = false := by
      rw [beq_eq_false_iff_ne]; intro e; subst e; have := hc.1; simp at this
    rw [Lib.atoi, h45, h43]
    simp only [Bool.false_eq_true, if_false]
    rw [Lib.decNat, if_neg (by simp), decFrom_digits 0 hd]
    rfl
theorem itoa_nat (n : Nat) : Lib.itoa (n : Int) = Lib.decDigits n := by
  unfold Lib.itoa
  rw [if_neg (show ¬ (n : Int) < 0 by omega), Int.toNat_natCast]
theorem valD_ltN : ∀ (n : Nat) (l : List UInt8), l.length = n → (∀ c ∈ l, isD c) → valD l < 10 ^ n := by
  intro n
  induction n with
  | zero => intro l hn _; rw [List.eq_nil_of_length_eq_zero hn]; decide
  | succ n ih =>
    intro l' hn hd
    have h0 : l' ≠ [] := by intro e; rw [e] at hn; simp at hn
    obtain ⟨l, c, rfl⟩ : ∃ l c, l' = l ++ [c] := ⟨l'.dropLast, l'.getLast h0, (List.dropLast_concat_getLast h0).symm⟩
    have hc := hd c (by simp)
    have := ih l (by rw [List.length_append, List.length_singleton] at hn; omega) fun a ha => hd a (by simp [ha])
    rw [valD_app, Nat.pow_succ]
    have h2 := hc.2
    omega
theorem valD_take {l : List UInt8} {k : Nat} (hk : k < l.length) : valD (l.take (k + 1)) = 10 * valD (l.take k) + ((l[k]).toNat - 48) := by
  rw [List.take_succ_eq_append_getElem hk, valD_app]
theorem byteAt_get {s : ByteArray} {k : Nat} (hk : k < s.data.toList.length) : byteAt s k = ((s.data.toList[k]).toNat : Int) := by
  have := byteAt_bs s.data.toList k
  rw [bs_toList, List.getElem?_eq_getElem hk] at this
  exact this
theorem atoi_i64 {l : List UInt8} {v : Int} (h : Lib.atoiAll l = .ok v) : I64 v := Lib.atoiAll_bounds h
end Go.Proofs