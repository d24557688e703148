import Derived.Test.YthijempdiheabaaDoorAcD
import Derived.Lib.AtoiTie
import Derived.Lib.AtoiAllCases
import Derived.Lib.ItoaNum
import Derived.Lib.IndexLaws
import Derived.Lib.Bytealg
import Derived.Lib.SlTrimSet
/- Bytes, strings and decimal digits, plain; of no program. -/
set_option autoImplicit false
namespace Go.Proofs
open Go Go.Ab
def bs (l : List UInt8) : ByteArray := ⟨l.toArray⟩
theorem bs_size (l : List UInt8) : (bs l).size = l.length := by simp [bs, ByteArray.size]
theorem bs_append (l m : List UInt8) : bs l ++ bs m = bs (l ++ m) := by
  apply ByteArray.ext; simp [bs]
theorem size_list (s : ByteArray) : s.data.toList.length = s.size := Array.length_toList
theorem toList_inj {a b : ByteArray} : a.toList = b.toList ↔ a = b := by
  rw [ByteArray.toList_eq, ByteArray.toList_eq]
  constructor
  · intro h; apply ByteArray.ext; exact Array.toList_inj.1 h
  · rintro rfl; rfl
theorem toList_beq (a b : ByteArray) : (ByteArray.toList a == ByteArray.toList b) = decide (a = b) := by
  rw [Bool.eq_iff_iff, beq_iff_eq, toList_inj, decide_eq_true_iff]
theorem byteAt_bs (l : List UInt8) (i : Nat) : byteAt (bs l) i = (((l[i]?).getD 0).toNat : Int) := by
  simp [byteAt, bs]
theorem extract_bs (s : ByteArray) (i j : Nat) : s.extract i j = bs ((s.data.toList.drop i).take (j - i)) := by
  apply ByteArray.ext
  rw [ByteArray.data_extract]
  apply Array.ext'
  simp [bs]
theorem bs_toList (s : ByteArray) : bs s.data.toList = s := by simp [bs]
theorem bs_inj {l m : List UInt8} (h : bs l = bs m) : l = m := by
  have := congrArg (fun s : ByteArray => s.data.toList) h
  simpa [bs] using this
theorem toList_bs (l : List UInt8) : (bs l).data.toList = l := by simp [bs]
theorem index_at {l : List UInt8} {c : UInt8} {o : Nat} (h : l[o]? = some c) (h2 : ∀ k, k < o → l[k]? ≠ some c) : Lib.indexByte l c = o := by
  rcases Int.lt_or_le (Lib.indexByte l c) 0 with h3 | h3
  · have := Lib.indexByte_ge l c
    exact absurd h (Lib.indexByte_none (show Lib.indexByte l c = -1 by omega) o)
  · obtain ⟨n, hn⟩ := Int.eq_ofNat_of_zero_le h3
    obtain ⟨h4, h5⟩ := Lib.indexByte_some hn
    rcases Nat.lt_trichotomy n o with h6 | h6 | h6
    · exact absurd h4 (h2 n h6)
    · rw [hn, h6]
    · exact absurd h (h5 o h6)
theorem extract_list (s : ByteArray) (i j : Nat) : (s.extract i j).data.toList = (s.data.toList.drop i).take (j - i) := by
  rw [extract_bs, toList_bs]
/-! Decimal digits. -/
def isD (c : UInt8) : Prop := 48 ≤ c.toNat ∧ c.toNat ≤ 57
def valD (l : List UInt8) : Nat := l.foldl (fun a c => 10 * a + (c.toNat - 48)) 0
theorem valD_app (l : List UInt8) (c : UInt8) : valD (l ++ [c]) = 10 * valD l + (c.toNat - 48) := by
  simp [valD, List.foldl_append]
theorem dig_nat {k : Nat} (h : k < 10) : (UInt8.ofNat (48 + k)).toNat = 48 + k := by
  rw [UInt8.toNat_ofNat']; omega
theorem decDigits_all : ∀ n : Nat, (∀ c ∈ Lib.decDigits n, isD c) ∧ valD (Lib.decDigits n) = n ∧ Lib.decDigits n ≠ [] ∧ (1 < (Lib.decDigits n).length → ∀ c, (Lib.decDigits n).head? = some c → c.toNat ≠ 48) ∧ (1 ≤ n → ∀ c, (Lib.decDigits n).head? = some c → c.toNat ≠ 48) := by
  intro n
  induction n using Nat.strongRecOn with
  | _ n ih =>
    rw [Lib.decDigits]
    by_cases h : n < 10
    · rw [dif_pos h]
      have hd := dig_nat h
      refine ⟨fun c hc => ?_, ?_, by simp, fun h2 => by simp at h2, fun h2 c hc => ?_⟩
      · rw [List.mem_singleton] at hc; subst hc; exact ⟨by omega, by omega⟩
      · show 10 * 0 + ((UInt8.ofNat (48 + n)).toNat - 48) = n
        rw [hd]; omega
      · simp only [List.head?_cons, Option.some.injEq] at hc; subst hc; omega
    · rw [dif_neg h]
      obtain ⟨h1, h2, h3, h4, h5⟩ := ih (n / 10) (by omega)
      have hd := dig_nat (show n % 10 < 10 by omega)
      have hhead : ∀ c, (Lib.decDigits (n / 10) ++ [UInt8.ofNat (48 + n % 10)]).head? = some c → c.toNat ≠ 48 := by
        intro c hc
        refine h5 (by omega) c ?_
        cases hq : Lib.decDigits (n / 10) with
        | nil => exact absurd hq h3
        | cons a l => rw [hq] at hc; simpa using hc
      refine ⟨fun c hc => ?_, ?_, by simp, fun _ => hhead, fun _ => hhead⟩
      · rcases List.mem_append.1 hc with hc | hc
        · exact h1 c hc
        · rw [List.mem_singleton] at hc; subst hc; exact ⟨by omega, by omega⟩
      · rw [valD_app, h2, hd]; omega
theorem decDigits_len : ∀ k n : Nat, n < 10 ^ (k + 1) → (Lib.decDigits n).length ≤ k + 1
  | 0, n, h => by
    rw [Lib.decDigits, dif_pos (by omega)]; simp
  | k + 1, n, h => by
    rw [Lib.decDigits]
    by_cases h2 : n < 10
    · rw [dif_pos h2]; simp
    · rw [dif_neg h2, List.length_append]
      have := decDigits_len k (n / 10) (by rw [Nat.pow_succ] at h; omega)
      simp; omega
/-- Digits without a zero in front are those of their number. -/
theorem decDigits_valN : ∀ (n : Nat) (l : List UInt8), l.length = n → l ≠ [] → (∀ c ∈ l, isD c) → (1 < l.length → ∀ c, l.head? = some c → c.toNat ≠ 48) → Lib.decDigits (valD l) = l := by
  intro n
  induction n with
  | zero => intro l hn h0; exact absurd (List.eq_nil_of_length_eq_zero hn) h0
  | succ n ih =>
    intro l' hn h0 hd hz
    obtain ⟨l, c, rfl⟩ : ∃ l c, l' = l ++ [c] := ⟨l'.dropLast, l'.getLast h0, (List.dropLast_concat_getLast h0).symm⟩
    have hc := hd c (by simp)
    have hc' : UInt8.ofNat (48 + (c.toNat - 48)) = c := by
      rw [Nat.add_sub_cancel' hc.1]; exact UInt8.ofNat_toNat
    have hll : l.length = n := by rw [List.length_append, List.length_singleton] at hn; omega
    rw [valD_app]
    by_cases hl : l = []
    · subst hl
      have e : 10 * valD [] + (c.toNat - 48) = c.toNat - 48 := by
        show 10 * 0 + (c.toNat - 48) = _
        omega
      rw [e, Lib.decDigits, dif_pos (by have := hc.2; omega), hc', List.nil_append]
    · have hh : ∀ a, l.head? = some a → a.toNat ≠ 48 := by
        intro a ha
        refine hz (by rw [List.length_append]; have := List.length_pos_iff.2 hl; simp; omega) a ?_
        cases l with
        | nil => exact absurd rfl hl
        | cons x l => simpa using ha
      have ihl := ih l hll hl (fun a ha => hd a (by simp [ha])) (fun _ => hh)
      have hv : 1 ≤ valD l := by
        rcases Nat.eq_zero_or_pos (valD l) with h | h
        · rw [h, Lib.decDigits, dif_pos (by decide)] at ihl
          rw [← ihl] at hh
          exact absurd rfl (hh _ rfl)
        · exact h
      rw [Lib.decDigits, dif_neg (by omega), show (10 * valD l + (c.toNat - 48)) / 10 = valD l by have := hc.2; omega, show (10 * valD l + (c.toNat - 48)) % 10 = c.toNat - 48 by have := hc.2; omega, ihl, hc']
theorem decDigits_val {l : List UInt8} (h0 : l ≠ []) (hd : ∀ c ∈ l, isD c) (hz : 1 < l.length → ∀ c, l.head? = some c → c.toNat ≠ 48) : Lib.decDigits (valD l) = l := decDigits_valN _ l rfl h0 hd hz
theorem decFrom_digits {l : List UInt8} : ∀ (a : Nat), (∀ c ∈ l, isD c) → Lib.decFrom a l = some (l.foldl (fun a c => 10 * a + (c.toNat - 48)) a) := by
  induction l with
  | nil => intro a _; rfl
  | cons c l ih =>
    intro a hd
    have hc := hd c (by simp)
    have e : Lib.digitVal c = some (c.toNat - 48) := by
      unfold Lib.digitVal
      rw [if_pos ⟨hc.1, hc.2⟩]
    rw [Lib.decFrom, e]
    simp only
    rw [ih _ fun d hd2 => hd d (by simp [hd2]), List.foldl_cons, Nat.mul_comm]
theorem atoi_digits {l : List UInt8} (h0 : l ≠ []) (hd : ∀ c ∈ l, isD c) (hl : l.length ≤ 18) : Lib.atoiAll l = .ok (valD l : Int) := by
  rw [Lib.atoiAll_short l hl]
  cases l with
  | nil => exact absurd rfl h0
  | cons c l =>
    have hc := hd c (by simp)
    have h45 : (c == 45) = false := by
      rw [beq_eq_false_iff_ne]; intro e; subst e; have := hc.1; simp at this
    have h43 : (c == 43) = false := by
      rw [beq_eq_false_iff_ne]; intro e; subst e; have := hc.1; simp at this
    rw [Lib.atoi, h45, h43]
    simp only [Bool.false_eq_true, if_false]
    rw [Lib.decNat, if_neg (by simp), decFrom_digits 0 hd]
    rfl
theorem itoa_nat (n : Nat) : Lib.itoa (n : Int) = Lib.decDigits n := by
  unfold Lib.itoa
  rw [if_neg (show ¬ (n : Int) < 0 by omega), Int.toNat_natCast]
theorem valD_ltN : ∀ (n : Nat) (l : List UInt8), l.length = n → (∀ c ∈ l, isD c) → valD l < 10 ^ n := by
  intro n
  induction n with
  | zero => intro l hn _; rw [List.eq_nil_of_length_eq_zero hn]; decide
  | succ n ih =>
    intro l' hn hd
    have h0 : l' ≠ [] := by intro e; rw [e] at hn; simp at hn
    obtain ⟨l, c, rfl⟩ : ∃ l c, l' = l ++ [c] := ⟨l'.dropLast, l'.getLast h0, (List.dropLast_concat_getLast h0).symm⟩
    have hc := hd c (by simp)
    have := ih l (by rw [List.length_append, List.length_singleton] at hn; omega) fun a ha => hd a (by simp [ha])
    rw [valD_app, Nat.pow_succ]
    have h2 := hc.2
    omega
theorem valD_take {l : List UInt8} {k : Nat} (hk : k < l.length) : valD (l.take (k + 1)) = 10 * valD (l.take k) + ((l[k]).toNat - 48) := by
  rw [List.take_succ_eq_append_getElem hk, valD_app]
theorem byteAt_get {s : ByteArray} {k : Nat} (hk : k < s.data.toList.length) : byteAt s k = ((s.data.toList[k]).toNat : Int) := by
  have := byteAt_bs s.data.toList k
  rw [bs_toList, List.getElem?_eq_getElem hk] at this
  exact this
theorem atoi_i64 {l : List UInt8} {v : Int} (h : Lib.atoiAll l = .ok v) : I64 v := Lib.atoiAll_bounds h
end Go.Proofs

/- What the text of a fraction says, plain. -/
set_option autoImplicit false
namespace Go.Proofs
open Go Go.Ab
def isDb (c : UInt8) : Bool := decide (48 ≤ c.toNat) && decide (c.toNat ≤ 57)
theorem isDb_iff (c : UInt8) : isDb c = true ↔ isD c := by
  unfold isDb isD; rw [Bool.and_eq_true, decide_eq_true_eq, decide_eq_true_eq]
/-- The digits in front, and what is behind. -/
def spl : List UInt8 → List UInt8 × List UInt8
  | [] => ([], [])
  | c :: l => bif isDb c then (c :: (spl l).1, (spl l).2) else ([], c :: l)
theorem spl_app : ∀ S, (spl S).1 ++ (spl S).2 = S
  | [] => rfl
  | c :: l => by
    rw [spl]
    cases isDb c with
    | true => simp only [cond_true, List.cons_append, spl_app l]
    | false => rfl
theorem spl_digits : ∀ S, ∀ c ∈ (spl S).1, isDb c = true
  | [], c, h => by simp [spl] at h
  | d :: l, c, h => by
    rw [spl] at h
    cases hd : isDb d with
    | true =>
      rw [hd, cond_true] at h
      rcases List.mem_cons.1 h with rfl | h
      · exact hd
      · exact spl_digits l c h
    | false => rw [hd, cond_false] at h; simp at h
theorem spl_stop : ∀ {S : List UInt8} {c : UInt8} {T : List UInt8}, (spl S).2 = c :: T → isDb c = false
  | [], c, T, h => by simp [spl] at h
  | d :: l, c, T, h => by
    rw [spl] at h
    cases hd : isDb d with
    | true => rw [hd, cond_true] at h; exact spl_stop h
    | false => rw [hd, cond_false] at h; simp at h; rw [← h.1]; exact hd
theorem spl_unique : ∀ {D R : List UInt8}, (∀ c ∈ D, isDb c = true) → (∀ c T, R = c :: T → isDb c = false) → spl (D ++ R) = (D, R)
  | [], [], _, _ => rfl
  | [], c :: R, _, h => by rw [List.nil_append, spl, h c R rfl]; rfl
  | d :: D, R, hd, h => by
    rw [List.cons_append, spl, hd d (by simp), cond_true, spl_unique (fun c hc => hd c (by simp [hc])) h]
theorem spl_all {S : List UInt8} (h : S.all isDb = true) : spl S = (S, []) := by
  have := spl_unique (D := S) (R := []) (fun c hc => List.all_eq_true.1 h c hc) (fun c T h => by cases h)
  rwa [List.append_nil] at this
theorem spl_all_iff {S : List UInt8} : S.all isDb = true ↔ (spl S).2 = [] := by
  refine ⟨fun h => by rw [spl_all h], fun h => ?_⟩
  have e := spl_app S
  rw [h, List.append_nil] at e
  rw [← e, List.all_eq_true]
  exact fun c hc => spl_digits S c hc
/-- Digits, at least one and at most some. -/
def dgO (l : List UInt8) (most : Nat) : Option Nat := if 1 ≤ l.length ∧ l.length ≤ most ∧ l.all isDb = true then some (valD l) else none
/-- Behind the digits in front. -/
def restO (D : List UInt8) : List UInt8 → Option (Nat × Nat)
  | [] => some (valD D, 1)
  | c :: T => if c = 47 then (dgO T 7).map fun b => (valD D, b) else if c = 46 then (dgO T 6).map fun b => (valD D * 10 ^ T.length + b, 10 ^ T.length) else none
/-- Numerator and denominator of a text without a sign. -/
def partsO (S : List UInt8) : Option (Nat × Nat) := if 1 ≤ (spl S).1.length ∧ (spl S).1.length ≤ 10 then restO (spl S).1 (spl S).2 else none
theorem dgO_bad {l : List UInt8} {m : Nat} {c : UInt8} (h : c ∈ l) (hc : isDb c = false) : dgO l m = none := by
  unfold dgO
  rw [if_neg]
  rintro ⟨_, _, h3⟩
  have := List.all_eq_true.1 h3 c h
  rw [hc] at this; cases this
theorem restO_bad {D T : List UInt8} {c d : UInt8} (hd : d ∈ T) (hb : isDb d = false) : restO D (c :: T) = none := by
  unfold restO
  simp only [dgO_bad hd hb, Option.map_none]
  split
  · rfl
  · split <;> rfl
theorem spl_at {w r : List UInt8} {d : UInt8} (hd : isDb d = false) (hw : ∀ c ∈ w, isDb c = true) : spl (w ++ d :: r) = (w, d :: r) :=
  spl_unique hw fun c T h => by simp at h; rw [← h.1]; exact hd
/-- Where what stands before a byte that is no digit are not all digits. -/
theorem spl_not {w r : List UInt8} {d : UInt8} (hw : ¬ ∀ c ∈ w, isDb c = true) : ∃ D c T, spl (w ++ d :: r) = (D, c :: T) ∧ isDb c = false ∧ c ∈ w ∧ d ∈ T := by
  induction w with
  | nil => exact absurd (fun c hc => by simp at hc) hw
  | cons x w ih =>
    cases hx : isDb x with
    | false => exact ⟨[], x, w ++ d :: r, by rw [List.cons_append, spl, hx]; rfl, hx, by simp, by simp⟩
    | true =>
      obtain ⟨D, c, T, h1, h2, h3, h4⟩ := ih (fun h => hw fun c hc => by
        rcases List.mem_cons.1 hc with rfl | hc
        · exact hx
        · exact h c hc)
      exact ⟨x :: D, c, T, by rw [List.cons_append, spl, hx, cond_true, h1], h2, by simp [h3], h4⟩
theorem dgO_none {l : List UInt8} {m : Nat} (h : ¬ ∀ c ∈ l, isDb c = true) : dgO l m = none := by
  unfold dgO
  rw [if_neg]
  rintro ⟨_, _, h3⟩
  exact h fun c hc => List.all_eq_true.1 h3 c hc
theorem dgO_iff {l : List UInt8} {m : Nat} (h : ∀ c ∈ l, isDb c = true) : dgO l m = if 1 ≤ l.length ∧ l.length ≤ m then some (valD l) else none := by
  unfold dgO
  have := List.all_eq_true.2 h
  simp only [this, and_true]
theorem parts_slash {w r : List UInt8} : partsO (w ++ 47 :: r) = (dgO w 10).bind fun a => (dgO r 7).map fun b => (a, b) := by
  by_cases h : ∀ c ∈ w, isDb c = true
  · unfold partsO
    rw [spl_at rfl h, dgO_iff h]
    simp only
    by_cases h2 : 1 ≤ w.length ∧ w.length ≤ 10
    · rw [if_pos h2, if_pos h2]; rfl
    · rw [if_neg h2, if_neg h2]; rfl
  · obtain ⟨D, c, T, h1, _, _, h4⟩ := spl_not (r := r) (d := 47) h
    unfold partsO
    rw [h1, dgO_none h]
    simp only
    rw [restO_bad h4 rfl]
    split <;> rfl
theorem parts_dot {w r : List UInt8} : partsO (w ++ 46 :: r) = (dgO w 10).bind fun a => (dgO r 6).map fun b => (a * 10 ^ r.length + b, 10 ^ r.length) := by
  by_cases h : ∀ c ∈ w, isDb c = true
  · unfold partsO
    rw [spl_at rfl h, dgO_iff h]
    simp only
    by_cases h2 : 1 ≤ w.length ∧ w.length ≤ 10
    · rw [if_pos h2, if_pos h2]; rfl
    · rw [if_neg h2, if_neg h2]; rfl
  · obtain ⟨D, c, T, h1, _, _, h4⟩ := spl_not (r := r) (d := 46) h
    unfold partsO
    rw [h1, dgO_none h]
    simp only
    rw [restO_bad h4 rfl]
    split <;> rfl
theorem parts_whole {S : List UInt8} (hs : (47 : UInt8) ∉ S) (hw : (46 : UInt8) ∉ S) : partsO S = (dgO S 10).map fun a => (a, 1) := by
  by_cases h : S.all isDb = true
  · unfold partsO
    rw [spl_all h, dgO_iff (fun c hc => List.all_eq_true.1 h c hc)]
    simp only
    by_cases h2 : 1 ≤ S.length ∧ S.length ≤ 10
    · rw [if_pos h2, if_pos h2]; rfl
    · rw [if_neg h2, if_neg h2]; rfl
  · have h' : ¬ ∀ c ∈ S, isDb c = true := fun h2 => h (List.all_eq_true.2 h2)
    rw [dgO_none h']
    have hn : (spl S).2 ≠ [] := fun e => h (spl_all_iff.2 e)
    obtain ⟨c, T, hc⟩ := List.exists_cons_of_ne_nil hn
    have hm : c ∈ S := by rw [← spl_app S, hc]; simp
    unfold partsO
    rw [hc]
    have h1 : c ≠ 47 := fun e => hs (e ▸ hm)
    have h2 : c ≠ 46 := fun e => hw (e ▸ hm)
    simp only [restO, if_neg h1, if_neg h2, Option.map_none]
    split <;> rfl
end Go.Proofs

/- The texts that are written are read again, plain. -/
set_option autoImplicit false
namespace Go.Proofs
open Go Go.Ab
theorem dec_all (n : Nat) : ∀ c ∈ Lib.decDigits n, isDb c = true := fun c hc => (isDb_iff c).2 ((decDigits_all n).1 c hc)
theorem dec_pos (n : Nat) : 1 ≤ (Lib.decDigits n).length := List.length_pos_iff.2 (decDigits_all n).2.2.1
theorem dgO_dec {n m : Nat} (h : (Lib.decDigits n).length ≤ m) : dgO (Lib.decDigits n) m = some n := by
  rw [dgO_iff (dec_all n), if_pos ⟨dec_pos n, h⟩, (decDigits_all n).2.1]
theorem no_dig {n : Nat} {c : UInt8} (hc : isDb c = false) : c ∉ Lib.decDigits n := fun h => by
  rw [dec_all n c h] at hc; cases hc
theorem parts_int {n : Nat} (h : n < 10000000000) : partsO (Lib.decDigits n) = some (n, 1) := by
  rw [parts_whole (no_dig rfl) (no_dig rfl), dgO_dec (decDigits_len 9 n (by omega))]; rfl
theorem parts_frac {n d : Nat} (h : n < 10000000000) (hd : d < 10000000) : partsO (Lib.decDigits n ++ 47 :: Lib.decDigits d) = some (n, d) := by
  rw [parts_slash, dgO_dec (decDigits_len 9 n (by omega)), dgO_dec (decDigits_len 6 d (by omega))]; rfl
theorem parts_point {n : Nat} {T : List UInt8} (h : n < 10000000000) (hT : ∀ c ∈ T, isDb c = true) (h1 : 1 ≤ T.length) (h6 : T.length ≤ 6) : partsO (Lib.decDigits n ++ 46 :: T) = some (n * 10 ^ T.length + valD T, 10 ^ T.length) := by
  rw [parts_dot, dgO_dec (decDigits_len 9 n (by omega)), dgO_iff hT, if_pos ⟨h1, h6⟩]; rfl
theorem valD_cons_zero (l : List UInt8) : valD (48 :: l) = valD l := rfl
/-- The digits of a number behind a one. -/
theorem dec_one : ∀ (j r : Nat), r < 10 ^ j → ∃ T, Lib.decDigits (10 ^ j + r) = 49 :: T ∧ T.length = j ∧ (∀ c ∈ T, isDb c = true) ∧ valD T = r
  | 0, r, h => ⟨[], by
      have : r = 0 := by simpa using h
      subst this
      rw [Lib.decDigits, dif_pos (by decide)]; rfl, rfl, fun c hc => by simp at hc, by
      have : r = 0 := by simpa using h
      subst this; rfl⟩
  | j + 1, r, h => by
    rw [Nat.pow_succ] at h
    obtain ⟨T, h1, h2, h3, h4⟩ := dec_one j (r / 10) (by omega)
    have hp : 0 < 10 ^ j := Nat.pow_pos (by decide)
    have hd := dig_nat (show r % 10 < 10 by omega)
    have e1 : (10 ^ (j + 1) + r) / 10 = 10 ^ j + r / 10 := by rw [Nat.pow_succ]; omega
    have e2 : (10 ^ (j + 1) + r) % 10 = r % 10 := by rw [Nat.pow_succ]; omega
    refine ⟨T ++ [UInt8.ofNat (48 + r % 10)], ?_, by rw [List.length_append, h2]; rfl, fun c hc => ?_, ?_⟩
    · rw [Lib.decDigits, dif_neg (by rw [Nat.pow_succ]; omega), e1, e2, h1]; rfl
    · rcases List.mem_append.1 hc with hc | hc
      · exact h3 c hc
      · rw [List.mem_singleton] at hc; subst hc
        exact (isDb_iff _).2 ⟨by omega, by omega⟩
    · rw [valD_app, h4, hd]; omega
/-- A decimal number of some places is read again. -/
theorem parts_place {n j r : Nat} (h : n < 10000000000) (hj : 1 ≤ j) (hj6 : j ≤ 6) (hr : r < 10 ^ j) : partsO (Lib.decDigits n ++ 46 :: (Lib.decDigits (10 ^ j + r)).tail) = some (n * 10 ^ j + r, 10 ^ j) := by
  obtain ⟨T, h1, h2, h3, h4⟩ := dec_one j r hr
  rw [h1, List.tail_cons, parts_point h h3 (by omega) (by omega), h2, h4]
end Go.Proofs

/- Trimming digits leaves nothing exactly of digits, plain. -/
set_option autoImplicit false
namespace Go.Proofs
open Go Go.Ab
theorem drop_head {p : UInt8 → Bool} : ∀ {l : List UInt8} {c : UInt8} {t : List UInt8}, l.dropWhile p = c :: t → p c = false
  | [], c, t, h => by cases h
  | d :: l, c, t, h => by
    rw [List.dropWhile_cons] at h
    by_cases hd : p d = true
    · rw [if_pos hd] at h; exact drop_head h
    · rw [if_neg hd] at h
      injection h with h1 h2
      rw [← h1]; simpa using hd
theorem drop_nil {p : UInt8 → Bool} : ∀ {l : List UInt8}, l.dropWhile p = [] ↔ ∀ c ∈ l, p c = true
  | [] => by simp
  | d :: l => by
    rw [List.dropWhile_cons]
    by_cases hd : p d = true
    · rw [if_pos hd, drop_nil]
      simp [hd]
    · rw [if_neg hd]
      simp [hd]
theorem trim_nil (l cs : List UInt8) : Lib.trimS l cs = [] ↔ ∀ c ∈ l, cs.contains c = true := by
  unfold Lib.trimS Lib.trimLeftS Lib.trimRightS
  rw [drop_nil]
  refine ⟨fun h => ?_, fun h c hc => ?_⟩
  · cases hr : l.reverse.dropWhile (cs.contains ·) with
    | nil => intro c hc; exact drop_nil.1 hr c (List.mem_reverse.2 hc)
    | cons d t =>
      have h1 := drop_head hr
      have h2 := h d (by rw [hr]; simp)
      rw [h2] at h1; cases h1
  · have : l.reverse.dropWhile (cs.contains ·) = [] := drop_nil.2 fun c hc => h c (List.mem_reverse.1 hc)
    rw [this] at hc; simp at hc
def digSet : List UInt8 := [48, 49, 50, 51, 52, 53, 54, 55, 56, 57]
theorem digSet_iff (c : UInt8) : digSet.contains c = isDb c := by
  revert c
  have : ∀ n : Nat, n < 256 → digSet.contains (UInt8.ofNat n) = isDb (UInt8.ofNat n) := by decide +kernel
  intro c
  have h := this c.toNat c.toNat_lt
  rwa [UInt8.ofNat_toNat] at h
theorem trim_digits (l : List UInt8) : Lib.trimS l digSet = [] ↔ l.all isDb = true := by
  rw [trim_nil, List.all_eq_true]
  simp only [digSet_iff]
end Go.Proofs

/- What a text says, by cases as the reference asks them, plain. -/
set_option autoImplicit false
namespace Go.Proofs
open Go Go.Ab
theorem po_bad {T : List UInt8} (h : (spl T).1.length < 1 ∨ 10 < (spl T).1.length) : partsO T = none := by
  unfold partsO
  rw [if_neg (by omega)]
theorem po_whole {T : List UInt8} (h1 : 1 ≤ (spl T).1.length) (h2 : (spl T).1.length ≤ 10) (hR : (spl T).2 = []) : partsO T = some (valD (spl T).1, 1) := by
  unfold partsO
  rw [if_pos ⟨h1, h2⟩, hR]; rfl
theorem dgO_spl {U : List UInt8} {m : Nat} : dgO U m = if (spl U).1.length = U.length ∧ 1 ≤ U.length ∧ U.length ≤ m then some (valD U) else none := by
  have e := spl_app U
  have el := congrArg List.length e
  rw [List.length_append] at el
  by_cases h : (spl U).1.length = U.length
  · have h2 : (spl U).2 = [] := List.eq_nil_of_length_eq_zero (by omega)
    have h3 : ∀ c ∈ U, isDb c = true := fun c hc => List.all_eq_true.1 (spl_all_iff.2 h2) c hc
    rw [dgO_iff h3]
    simp only [h, true_and]
  · rw [if_neg (fun hh => h hh.1)]
    unfold dgO
    rw [if_neg]
    rintro ⟨_, _, h3⟩
    rw [spl_all h3] at h
    exact h rfl
theorem po_rest {T U : List UInt8} {c : UInt8} (h1 : 1 ≤ (spl T).1.length) (h2 : (spl T).1.length ≤ 10) (hR : (spl T).2 = c :: U) :
    partsO T = if c = 47 then (dgO U 7).map fun b => (valD (spl T).1, b) else if c = 46 then (dgO U 6).map fun b => (valD (spl T).1 * 10 ^ U.length + b, 10 ^ U.length) else none := by
  unfold partsO
  rw [if_pos ⟨h1, h2⟩, hR]; rfl
theorem po_none {T U : List UInt8} {c : UInt8} (h1 : 1 ≤ (spl T).1.length) (h2 : (spl T).1.length ≤ 10) (hR : (spl T).2 = c :: U)
    (h : (spl U).1.length ≠ U.length ∨ (spl U).1.length < 1 ∨ (c ≠ 46 ∧ c ≠ 47) ∨ (c = 46 ∧ 6 < (spl U).1.length) ∨ 7 < (spl U).1.length) : partsO T = none := by
  rw [po_rest h1 h2 hR, dgO_spl, dgO_spl]
  by_cases c1 : c = 47
  · rw [if_pos c1, if_neg]
    · rfl
    · rintro ⟨q1, q2, q3⟩
      rcases h with h | h | h | h | h
      · omega
      · omega
      · exact h.2 c1
      · rw [c1] at h; exact absurd h.1 (by decide)
      · omega
  · rw [if_neg c1]
    by_cases c2 : c = 46
    · rw [if_pos c2, if_neg]
      · rfl
      · rintro ⟨q1, q2, q3⟩
        rcases h with h | h | h | h | h
        · omega
        · omega
        · exact h.1 c2
        · omega
        · omega
    · rw [if_neg c2]
theorem po_slash {T U : List UInt8} (h1 : 1 ≤ (spl T).1.length) (h2 : (spl T).1.length ≤ 10) (hR : (spl T).2 = 47 :: U)
    (q1 : (spl U).1.length = U.length) (q2 : 1 ≤ (spl U).1.length) (q3 : (spl U).1.length ≤ 7) : partsO T = some (valD (spl T).1, valD U) := by
  rw [po_rest h1 h2 hR, if_pos rfl, dgO_spl, if_pos ⟨q1, by omega, by omega⟩]; rfl
theorem po_dot {T U : List UInt8} (h1 : 1 ≤ (spl T).1.length) (h2 : (spl T).1.length ≤ 10) (hR : (spl T).2 = 46 :: U)
    (q1 : (spl U).1.length = U.length) (q2 : 1 ≤ (spl U).1.length) (q3 : (spl U).1.length ≤ 6) : partsO T = some (valD (spl T).1 * 10 ^ U.length + valD U, 10 ^ U.length) := by
  rw [po_rest h1 h2 hR, if_neg (by decide), if_pos rfl, dgO_spl, if_pos ⟨q1, by omega, by omega⟩]; rfl
theorem spl_fst_all {U : List UInt8} (q1 : (spl U).1.length = U.length) : (spl U).1 = U := by
  have e := spl_app U
  have el := congrArg List.length e
  rw [List.length_append] at el
  have h2 : (spl U).2 = [] := List.eq_nil_of_length_eq_zero (by omega)
  rw [h2, List.append_nil] at e
  exact e
theorem spl_snd {T : List UInt8} : (spl T).2 = T.drop (spl T).1.length := by
  have h := List.drop_left (l₁ := (spl T).1) (l₂ := (spl T).2)
  rw [spl_app] at h
  exact h.symm
end Go.Proofs
