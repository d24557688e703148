import Derived.Test.YtlpnfbfdekbbmaaDoorGA
import Derived.Test.YtlpnfbfdekbbmaaDoorAcC
import Derived.Shelf.Strings.BuilderX
import Derived.Shelf.RegionOpenPlain
import Derived.Lib.Strings
import Derived.Lib.Slices
import Derived.Lib.Walk
import Derived.Lib.Builder
import Derived.Lib.AppendStr
import Derived.Lib.UnsafeStr
import Derived.Lib.MakeNoZero
import Derived.WalkKit
import Derived.Laws.Externs
import Derived.Laws.IdiomCopy
import Derived.Laws.BitsLemmas
set_option autoImplicit false
namespace Go.Proofs
open Go Go.Ab
theorem hexC_inj : ∀ a, a < 16 → ∀ b, b < 16 → hexC a = hexC b → a = b := by decide
theorem hexL_low (n w : Nat) : hexL n w = lowHex n w := rfl
theorem hexL_inj {a b w : Nat} (h : hexL a w = hexL b w) : a % 16 ^ w = b % 16 ^ w := by
  induction w with
  | zero => simp [Nat.mod_one]
  | succ w ih =>
    rw [hexL_low, hexL_low, lowHex_succ, lowHex_succ, List.cons.injEq] at h
    have h1 := hexC_inj _ (Nat.mod_lt _ (by decide)) _ (Nat.mod_lt _ (by decide)) h.1
    rw [Nat.mod_pow_succ, Nat.mod_pow_succ, ih h.2, h1]
theorem hexL_inj' {a b w : Nat} (h : hexL a w = hexL b w) (ha : a < 16 ^ w) (hb : b < 16 ^ w) : a = b := by
  have := hexL_inj h
  rwa [Nat.mod_eq_of_lt ha, Nat.mod_eq_of_lt hb] at this
/-- The bytes of a content are in its body. -/
theorem bodyP_inj {g h : Nat} {p q : ByteArray} {n : Nat} (e : bodyP g p n = bodyP h q n) : hexL g 16 = hexL h 16 ∧ hexL p.size 8 = hexL q.size 8 ∧ ∀ i, i < n → byteN p i = byteN q i := by
  induction n with
  | zero =>
    have := List.append_inj e (by rw [hexL_len, hexL_len])
    exact ⟨this.1, this.2, fun i hi => by omega⟩
  | succ n ih =>
    have := List.append_inj e (by rw [bodyP_len, bodyP_len])
    obtain ⟨h1, h2, h3⟩ := ih this.1
    refine ⟨h1, h2, fun i hi => ?_⟩
    rcases Nat.lt_or_ge i n with h | h
    · exact h3 i h
    · obtain rfl : i = n := by omega
      have b1 := byteN_lt p i
      have b2 := byteN_lt q i
      exact hexL_inj' this.2 (by omega) (by omega)
theorem ext_byteN {p q : ByteArray} (hs : p.size = q.size) (h : ∀ i, i < p.size → byteN p i = byteN q i) : p = q := by
  apply ByteArray.ext
  apply Array.ext hs
  intro i h1 h2
  have := h i h1
  simp only [byteN, Array.getElem?_eq_getElem h1, Array.getElem?_eq_getElem h2, Option.getD_some] at this
  exact UInt8.toNat_inj.1 this
theorem bodyP_head (g : Nat) (p : ByteArray) (n : Nat) : ∃ t, bodyP g p n = hexL g 16 ++ hexL p.size 8 ++ t := by
  induction n with
  | zero => exact ⟨[], by simp [bodyP]⟩
  | succ n ih =>
    obtain ⟨t, ht⟩ := ih
    exact ⟨t ++ hexL (byteN p n) 2, by rw [bodyP, ht, List.append_assoc]⟩
theorem stampL_len (g : Nat) : (stampL g).length = 9 := by simp [stampL]
theorem encL_len (g : Nat) (p : ByteArray) : (encL g p).length = 50 + 2 * p.size := by
  simp only [encL, bodyL, List.length_append, List.length_singleton, hexL_len, bodyP_len, stampL_len]; omega
theorem encL_head (g : Nat) (p : ByteArray) : ∃ t, encL g p = ([82] ++ hexL (sumN (bodyL g p)) 16) ++ (hexL g 16 ++ (hexL p.size 8 ++ t)) := by
  obtain ⟨t, ht⟩ := bodyP_head g p p.size
  have hb : bodyL g p = hexL g 16 ++ hexL p.size 8 ++ t := ht
  refine ⟨t ++ stampL g, ?_⟩
  unfold encL
  generalize sumN (bodyL g p) = z
  rw [hb]
  simp only [List.append_assoc]
theorem encL_eq {g h : Nat} {p q : ByteArray} (e : encL g p = encL h q) (hp : p.size ≤ 30000) (hq : q.size ≤ 30000) : p = q ∧ hexL g 16 = hexL h 16 := by
  have hl := congrArg List.length e
  rw [encL_len, encL_len] at hl
  have hs : p.size = q.size := by omega
  unfold encL at e
  have e1 := (List.append_inj' e (by rw [stampL_len, stampL_len])).1
  have e2 := (List.append_inj' e1 (by rw [bodyL, bodyL, bodyP_len, bodyP_len, hs])).2
  unfold bodyL at e2
  rw [← hs] at e2
  obtain ⟨h1, _, h3⟩ := bodyP_inj e2
  exact ⟨ext_byteN hs h3, h1⟩
/-- A record at the front of some bytes is the only one. -/
theorem encL_unique {g h : Nat} {p q : ByteArray} {s : List UInt8} (h1 : encL g p <+: s) (h2 : encL h q <+: s) (hp : p.size ≤ 30000) (hq : q.size ≤ 30000) : p = q ∧ hexL g 16 = hexL h 16 := by
  obtain ⟨t1, k1⟩ := h1
  obtain ⟨t2, k2⟩ := h2
  have e : encL g p ++ t1 = encL h q ++ t2 := k1.trans k2.symm
  have hs : p.size = q.size := by
    obtain ⟨u, hu⟩ := encL_head g p
    obtain ⟨v, hv⟩ := encL_head h q
    have e' := e
    rw [hu, hv] at e'
    simp only [List.append_assoc] at e'
    have a1 := (List.append_inj e' rfl).2
    have a2 := (List.append_inj a1 (by rw [hexL_len, hexL_len])).2
    have a3 := (List.append_inj a2 (by rw [hexL_len, hexL_len])).2
    have a4 := (List.append_inj a3 (by rw [hexL_len, hexL_len])).1
    exact hexL_inj' a4 (by omega) (by omega)
  exact encL_eq (List.append_inj e (by rw [encL_len, encL_len, hs])).1 hp hq
end Go.Proofs

set_option autoImplicit false
namespace Go.Proofs
open Go Go.Ab
open Classical in
/-- THE CONTENT OF THE RECORD AT THE FRONT. -/
noncomputable def decSpec (g : Nat) (s : List UInt8) : Option ByteArray :=
  if h : ∃ p : ByteArray, p.size ≤ 30000 ∧ encL g p <+: s then some (Classical.choose h) else none
theorem decSpec_some {g : Nat} {p : ByteArray} {s : List UInt8} (hp : p.size ≤ 30000) (h : encL g p <+: s) : decSpec g s = some p := by
  have hx : ∃ p : ByteArray, p.size ≤ 30000 ∧ encL g p <+: s := ⟨p, hp, h⟩
  unfold decSpec
  rw [dif_pos hx]
  have := Classical.choose_spec hx
  exact congrArg some (encL_unique this.2 h this.1 hp).1
theorem decSpec_none {g : Nat} {s : List UInt8} (h : ∀ p : ByteArray, p.size ≤ 30000 → ¬ encL g p <+: s) : decSpec g s = none := by
  unfold decSpec
  exact dif_neg fun ⟨p, hp, k⟩ => h p hp k
theorem decSpec_eq {g : Nat} {s : List UInt8} {p : ByteArray} (h : decSpec g s = some p) : p.size ≤ 30000 ∧ encL g p <+: s := by
  by_cases hx : ∃ p : ByteArray, p.size ≤ 30000 ∧ encL g p <+: s
  · obtain ⟨q, hq, k⟩ := hx
    have := decSpec_some hq k
    rw [this, Option.some.injEq] at h
    subst h
    exact ⟨hq, k⟩
  · rw [decSpec_none fun p hp k => hx ⟨p, hp, k⟩] at h
    cases h
theorem gen_eq {g h : Nat} (e : hexL g 16 = hexL h 16) (hg : g ≤ 1099511627776) (hh : h ≤ 1099511627776) : g = h := hexL_inj' e (by omega) (by omega)
end Go.Proofs

set_option autoImplicit false
namespace Go.Proofs
open Go Go.Ab
theorem hexI_hexC : ∀ k, k < 16 → hexI ((hexC k).toNat : Int) = some k := by decide
theorem byteAt_bs (l : List UInt8) (i : Nat) : byteAt (bs l) i = (((l[i]?).getD 0).toNat : Int) := by
  simp [byteAt, bs]
theorem numP_hex (k w : Nat) : ∀ i, i ≤ w → numP (bs (hexL k w)) i = some (k / 16 ^ (w - i) % 16 ^ i) := by
  intro i
  induction i with
  | zero => intro _; simp [numP, Nat.mod_one]
  | succ i ih =>
    intro hi
    have e1 : (hexL k w)[i]? = some (digitC k w i) := by
      simp [hexL, List.getElem?_map, List.getElem?_range (show i < w by omega)]
    have h2 : k / 16 ^ (w - 1 - i) % 16 < 16 := Nat.mod_lt _ (by decide)
    have e2 : byteAt (bs (hexL k w)) i = ((hexC (k / 16 ^ (w - 1 - i) % 16)).toNat : Int) := by
      rw [byteAt_bs, e1]; rfl
    simp only [numP, ih (by omega), e2, hexI_hexC _ h2]
    have e3 : w - i = (w - 1 - i) + 1 := by omega
    have e4 : w - (i + 1) = w - 1 - i := by omega
    rw [e3, e4]
    generalize w - 1 - i = q
    congr 1
    rw [Nat.pow_succ 16 q, ← Nat.div_div_eq_div_mul]
    generalize k / 16 ^ q = z
    rw [Nat.pow_succ, Nat.mul_comm (16 ^ i) 16, Nat.mod_mul]
    omega
theorem num_hex (k w : Nat) (hk : k < 16 ^ w) : numP (bs (hexL k w)) (bs (hexL k w)).size = some k := by
  rw [bs_size, hexL_len, numP_hex k w w (Nat.le_refl _), Nat.sub_self, Nat.pow_zero, Nat.div_one, Nat.mod_eq_of_lt hk]
theorem numP_bd {s : ByteArray} : ∀ {i n : Nat}, numP s i = some n → n < 16 ^ i
  | 0, n, h => by simp only [numP, Option.some.injEq] at h; subst h; decide
  | i + 1, n, h => by
    simp only [numP] at h
    split at h
    · rename_i m d hm hd
      simp only [Option.some.injEq] at h; subst h
      have := numP_bd hm
      have hd16 : d < 16 := by
        unfold hexI at hd
        split at hd
        · simp only [Option.some.injEq] at hd; omega
        · split at hd
          · simp only [Option.some.injEq] at hd; omega
          · cases hd
      rw [Nat.pow_succ]; omega
    · cases h
theorem extract_bs (s : ByteArray) (i j : Nat) : s.extract i j = bs ((s.data.toList.drop i).take (j - i)) := by
  apply ByteArray.ext
  rw [ByteArray.data_extract]
  apply Array.ext'
  simp [bs]
theorem bodyP_split (g : Nat) (p : ByteArray) (i : Nat) : ∀ n, i < n → ∃ t, bodyP g p n = bodyP g p i ++ (hexL (byteN p i) 2 ++ t) := by
  intro n
  induction n with
  | zero => intro h; omega
  | succ n ih =>
    intro h
    rcases Nat.lt_or_ge i n with h' | h'
    · obtain ⟨t, ht⟩ := ih h'
      exact ⟨t ++ hexL (byteN p n) 2, by rw [bodyP, ht]; simp only [List.append_assoc]⟩
    · obtain rfl : i = n := by omega
      exact ⟨[], by rw [bodyP, List.append_nil]⟩
theorem take_drop_mid {a b c : List UInt8} {i n : Nat} (ha : a.length = i) (hb : b.length = n) : ((a ++ (b ++ c)).drop i).take n = b := by
  subst ha; subst hb
  simp
/-- What is read of the bytes with a record at the front. -/
theorem read_enc {g : Nat} {p : ByteArray} {S : List UInt8} (h : encL g p <+: S) :
    50 + 2 * p.size ≤ S.length ∧ (S.drop 33).take 8 = hexL p.size 8 ∧ (S.drop 17).take 16 = hexL g 16 ∧ (∀ i, i < p.size → (S.drop (41 + 2 * i)).take 2 = hexL (byteN p i) 2) ∧ S.take (50 + 2 * p.size) = encL g p := by
  obtain ⟨t, rfl⟩ := h
  have hl := encL_len g p
  refine ⟨by rw [List.length_append, hl]; omega, ?_, ?_, fun i hi => ?_, ?_⟩
  · obtain ⟨u, hu⟩ := encL_head g p
    rw [hu]
    have e : ([82] ++ hexL (sumN (bodyL g p)) 16) ++ (hexL g 16 ++ (hexL p.size 8 ++ u)) ++ t = (([82] ++ hexL (sumN (bodyL g p)) 16) ++ hexL g 16) ++ (hexL p.size 8 ++ (u ++ t)) := by simp only [List.append_assoc]
    rw [e]
    exact take_drop_mid (by simp only [List.length_append, List.length_singleton, hexL_len]) (hexL_len _ _)
  · obtain ⟨u, hu⟩ := encL_head g p
    rw [hu]
    have e : ([82] ++ hexL (sumN (bodyL g p)) 16) ++ (hexL g 16 ++ (hexL p.size 8 ++ u)) ++ t = ([82] ++ hexL (sumN (bodyL g p)) 16) ++ (hexL g 16 ++ ((hexL p.size 8 ++ u) ++ t)) := by simp only [List.append_assoc]
    rw [e]
    exact take_drop_mid (by simp only [List.length_append, List.length_singleton, hexL_len]) (hexL_len _ _)
  · obtain ⟨u, hu⟩ := bodyP_split g p i p.size hi
    have hb : bodyL g p = bodyP g p i ++ (hexL (byteN p i) 2 ++ u) := hu
    have e : encL g p ++ t = (([82] ++ hexL (sumN (bodyL g p)) 16) ++ bodyP g p i) ++ (hexL (byteN p i) 2 ++ (u ++ stampL g ++ t)) := by
      unfold encL
      generalize sumN (bodyL g p) = z
      rw [hb]; simp only [List.append_assoc]
    rw [e]
    exact take_drop_mid (by simp only [List.length_append, List.length_singleton, hexL_len, bodyP_len]; omega) (hexL_len _ _)
  · rw [← hl, List.take_left']; rfl
/-- The numbers that the digits are. -/
def numAt (s : ByteArray) (i j : Nat) : Option Nat := numP (s.extract i j) (s.extract i j).size
theorem numAt_hex {s : ByteArray} {i w k : Nat} (h : (s.data.toList.drop i).take w = hexL k w) (hk : k < 16 ^ w) : numAt s i (i + w) = some k := by
  unfold numAt
  rw [extract_bs, show i + w - i = w by omega, h]
  exact num_hex k w hk
/-- The content that the first i pairs of digits are. -/
def payB (s : ByteArray) (i : Nat) : List UInt8 := (List.range i).map fun j => UInt8.ofNat ((numAt s (41 + 2 * j) (43 + 2 * j)).getD 0)
theorem payB_succ (s : ByteArray) (i : Nat) : payB s (i + 1) = payB s i ++ [UInt8.ofNat ((numAt s (41 + 2 * i) (43 + 2 * i)).getD 0)] := by
  simp [payB, List.range_succ]
theorem payB_len (s : ByteArray) (i : Nat) : (payB s i).length = i := by simp [payB]
theorem bs_eq {l : List UInt8} {p : ByteArray} (hl : l.length = p.size) (h : ∀ i, i < p.size → ((l[i]?).getD 0).toNat = byteN p i) : bs l = p := by
  refine ext_byteN (by rw [bs_size, hl]) fun i hi => ?_
  rw [bs_size, hl] at hi
  rw [← h i hi]
  simp [byteN, bs]
theorem pay_enc {g : Nat} {p : ByteArray} {s : ByteArray} (h : encL g p <+: s.data.toList) : bs (payB s p.size) = p := by
  obtain ⟨_, _, _, h4, _⟩ := read_enc h
  refine bs_eq (payB_len _ _) fun i hi => ?_
  have hb := byteN_lt p i
  have := numAt_hex (h4 i hi) (show byteN p i < 16 ^ 2 by omega)
  have e : 41 + 2 * i + 2 = 43 + 2 * i := by omega
  rw [e] at this
  simp only [payB, List.getElem?_map, List.getElem?_range hi, Option.map_some, Option.getD_some, this, UInt8.toNat_ofNat']
  omega
/-- The record at the front, as a program reads it. -/
theorem decSpec_read (g : Nat) (s : ByteArray) : decSpec g s.data.toList = (match numAt s 33 41 with
    | some n => if n ≤ 30000 ∧ 50 + 2 * n ≤ s.size ∧ (∀ i, i < n → (numAt s (41 + 2 * i) (43 + 2 * i)).isSome = true) ∧ s.data.toList.take (50 + 2 * n) = encL g (bs (payB s n)) then some (bs (payB s n)) else none
    | none => none) := by
  cases hd : decSpec g s.data.toList with
  | some p =>
    obtain ⟨hp, h⟩ := decSpec_eq hd
    obtain ⟨h1, h2, h3, h4, h5⟩ := read_enc h
    have hn := numAt_hex h2 (show p.size < 16 ^ 8 by omega)
    have e33 : 33 + 8 = 41 := rfl
    rw [e33] at hn
    rw [hn]
    simp only
    have hpay := pay_enc h
    rw [if_pos]
    · rw [hpay]
    · refine ⟨hp, by have : s.data.toList.length = s.size := Array.length_toList; omega, fun i hi => ?_, by rw [hpay]; exact h5⟩
      have hb := byteN_lt p i
      have := numAt_hex (h4 i hi) (show byteN p i < 16 ^ 2 by omega)
      rw [show 41 + 2 * i + 2 = 43 + 2 * i by omega] at this
      rw [this]; rfl
  | none =>
    symm
    cases numAt s 33 41 with
    | none => rfl
    | some n =>
      simp only
      rw [if_neg]
      rintro ⟨h1, h2, _, h4⟩
      have : decSpec g s.data.toList = some (bs (payB s n)) := by
        refine decSpec_some (by rw [bs_size, payB_len]; exact h1) ?_
        rw [← h4]
        exact List.take_prefix _ _
      rw [hd] at this; cases this
end Go.Proofs

set_option autoImplicit false
namespace Go.Proofs
open Go Go.Ab
set_option maxHeartbeats 1000000
set_option maxRecDepth 100000
variable {G : IH}
theorem ext_drop (d : ByteArray) (i : Nat) : (d.extract i d.size).data.toList = d.data.toList.drop i := by
  rw [extract_bs]
  simp only [bs]
  have : (List.drop i d.data.toList).length = d.size - i := by rw [List.length_drop, Array.length_toList]; rfl
  rw [← this, List.take_length]
/-- What Decode returns for the bytes from the offset on. -/
noncomputable def decRs (g : Nat) (s : ByteArray) : DV := match decSpec g s.data.toList with
  | some p => .tup [ds p, di (50 + 2 * p.size : Nat), di 0]
  | none => .tup [ds ByteArray.empty, di 0, di 11]
/-- What Decode returns. -/
noncomputable def decR (d : ByteArray) (a g : Int) : DV :=
  if okGen g = true ∧ 0 ≤ a ∧ a ≤ d.size then
    if a = d.size then .tup [ds ByteArray.empty, di 0, di 7]
    else decRs g.toNat (d.extract a.toNat d.size)
  else .tup [ds ByteArray.empty, di 0, di 2]
theorem numV_at {s : ByteArray} {i j n : Nat} (h : numAt s i j = some n) (hj : j ≤ i + 8) : numV (s.extract i j) = n ∧ numB (s.extract i j) = true := by
  unfold numAt at h
  have hb := numP_bd h
  have hs : (s.extract i j).size ≤ 8 := by
    rw [ByteArray.size_extract]; omega
  have : 16 ^ (s.extract i j).size ≤ 16 ^ 8 := Nat.pow_le_pow_right (by decide) hs
  unfold numV numB
  rw [h, Option.getD_some, i64_nat _ (by omega)]
  exact ⟨rfl, rfl⟩
theorem numB_none {s : ByteArray} {i j : Nat} (h : numAt s i j = none) : numB (s.extract i j) = false := by
  unfold numAt at h
  unfold numB
  rw [h]; rfl
theorem decRs_none {g : Nat} {s : ByteArray} (h : decSpec g s.data.toList = none) : decRs g s = .tup [ds ByteArray.empty, di 0, di 11] := by
  unfold decRs; rw [h]
noncomputable def S19 (g : Int) (s : ByteArray) (n : Nat) (x : Nat) : AS := ⟨regs Tryd.f19.ntmps [(2, vi g), (9, vs s), (10, vi n), (12, vs (bs (payB s x))), (13, vi x)], []⟩
theorem f19 (d : ByteArray) (a g : Int) (hd : d.size < 1000000) : FnOK Tryd.prog G 19 [ds d, di a, di g] (decR d a g) := by
  refine FnOK.walk (orc := orcDec) (keep := []) follows Tryd.func19 rfl Tryd.call19 ?_
  refine of_eqH (b :=
    (FnOK Tryd.prog G ((37 : Nat)) [(.con (.int .i64 g))] (.con (.bool (okGen g))) ∧
    ((((!okGen g || decide (a < (0 : Int)) || decide (a > (↑(ByteArray.size d) : Int))) = true) →
    (((.tup [(.con (.string ({ data := #[] }))), (.con (.int .i64 ((0 : Int)))), (.con (.int .i64 ((2 : Int))))]) : DV) = (decR d a g))) ∧
    (((!okGen g || decide (a < (0 : Int)) || decide (a > (↑(ByteArray.size d) : Int))) = false) →
    ((((a == (↑(ByteArray.size d) : Int)) = true) →
    (((.tup [(.con (.string ({ data := #[] }))), (.con (.int .i64 ((0 : Int)))), (.con (.int .i64 ((7 : Int))))]) : DV) = (decR d a g))) ∧
    (((a == (↑(ByteArray.size d) : Int)) = false) →
    ((((0 : Int) ≤ a) ∧
    ((a ≤ (↑(ByteArray.size d) : Int)) ∧
    ((↑(ByteArray.size d) : Int) ≤ (↑(ByteArray.size d) : Int)))) ∧
    ((((decide ((↑(ByteArray.size (ByteArray.extract d (Int.toNat a) (Int.toNat (↑(ByteArray.size d) : Int)))) : Int) < (41 : Int))) = true) →
    (((.tup [(.con (.string ({ data := #[] }))), (.con (.int .i64 ((0 : Int)))), (.con (.int .i64 ((11 : Int))))]) : DV) = (decR d a g))) ∧
    (((decide ((↑(ByteArray.size (ByteArray.extract d (Int.toNat a) (Int.toNat (↑(ByteArray.size d) : Int)))) : Int) < (41 : Int))) = false) →
    (((((0 : Int) ≤ (33 : Int)) ∧
    (((33 : Int) ≤ (41 : Int)) ∧
    ((41 : Int) ≤ (↑(ByteArray.size (ByteArray.extract d (Int.toNat a) (Int.toNat (↑(ByteArray.size d) : Int)))) : Int)))) ∧
    FnOK Tryd.prog G ((40 : Nat)) [(.con (.string (ByteArray.extract (ByteArray.extract d (Int.toNat a) (Int.toNat (↑(ByteArray.size d) : Int))) (Int.toNat (33 : Int)) (Int.toNat (41 : Int)))))] (.tup [(.con (.int .i64 (numV (ByteArray.extract (ByteArray.extract d (Int.toNat a) (Int.toNat (↑(ByteArray.size d) : Int))) (Int.toNat (33 : Int)) (Int.toNat (41 : Int)))))), (.con (.bool (numB (ByteArray.extract (ByteArray.extract d (Int.toNat a) (Int.toNat (↑(ByteArray.size d) : Int))) (Int.toNat (33 : Int)) (Int.toNat (41 : Int))))))])) ∧
    (((((!(!numB (ByteArray.extract (ByteArray.extract d (Int.toNat a) (Int.toNat (↑(ByteArray.size d) : Int))) (Int.toNat (33 : Int)) (Int.toNat (41 : Int))) || decide (numV (ByteArray.extract (ByteArray.extract d (Int.toNat a) (Int.toNat (↑(ByteArray.size d) : Int))) (Int.toNat (33 : Int)) (Int.toNat (41 : Int))) > (30000 : Int)))) = true) →
    (I64 ((2 : Int) * numV (ByteArray.extract (ByteArray.extract d (Int.toNat a) (Int.toNat (↑(ByteArray.size d) : Int))) (Int.toNat (33 : Int)) (Int.toNat (41 : Int)))))) ∧
    (((!(!numB (ByteArray.extract (ByteArray.extract d (Int.toNat a) (Int.toNat (↑(ByteArray.size d) : Int))) (Int.toNat (33 : Int)) (Int.toNat (41 : Int))) || decide (numV (ByteArray.extract (ByteArray.extract d (Int.toNat a) (Int.toNat (↑(ByteArray.size d) : Int))) (Int.toNat (33 : Int)) (Int.toNat (41 : Int))) > (30000 : Int)))) = true) →
    (I64 ((50 : Int) + (2 : Int) * numV (ByteArray.extract (ByteArray.extract d (Int.toNat a) (Int.toNat (↑(ByteArray.size d) : Int))) (Int.toNat (33 : Int)) (Int.toNat (41 : Int))))))) ∧
    ((((!numB (ByteArray.extract (ByteArray.extract d (Int.toNat a) (Int.toNat (↑(ByteArray.size d) : Int))) (Int.toNat (33 : Int)) (Int.toNat (41 : Int))) || decide (numV (ByteArray.extract (ByteArray.extract d (Int.toNat a) (Int.toNat (↑(ByteArray.size d) : Int))) (Int.toNat (33 : Int)) (Int.toNat (41 : Int))) > (30000 : Int)) || decide ((↑(ByteArray.size (ByteArray.extract d (Int.toNat a) (Int.toNat (↑(ByteArray.size d) : Int)))) : Int) < (50 : Int) + (2 : Int) * numV (ByteArray.extract (ByteArray.extract d (Int.toNat a) (Int.toNat (↑(ByteArray.size d) : Int))) (Int.toNat (33 : Int)) (Int.toNat (41 : Int))))) = true) →
    (((.tup [(.con (.string ({ data := #[] }))), (.con (.int .i64 ((0 : Int)))), (.con (.int .i64 ((11 : Int))))]) : DV) = (decR d a g))) ∧
    (((!numB (ByteArray.extract (ByteArray.extract d (Int.toNat a) (Int.toNat (↑(ByteArray.size d) : Int))) (Int.toNat (33 : Int)) (Int.toNat (41 : Int))) || decide (numV (ByteArray.extract (ByteArray.extract d (Int.toNat a) (Int.toNat (↑(ByteArray.size d) : Int))) (Int.toNat (33 : Int)) (Int.toNat (41 : Int))) > (30000 : Int)) || decide ((↑(ByteArray.size (ByteArray.extract d (Int.toNat a) (Int.toNat (↑(ByteArray.size d) : Int)))) : Int) < (50 : Int) + (2 : Int) * numV (ByteArray.extract (ByteArray.extract d (Int.toNat a) (Int.toNat (↑(ByteArray.size d) : Int))) (Int.toNat (33 : Int)) (Int.toNat (41 : Int))))) = false) →
    AWP Tryd.prog G [.code (cAt (bodyOf Tryd.f19) [1, 1, 1, 1, 1, 1, 1, 1, 0, 1, 0]), (.blk ((0 : Nat))), .code (cAt (bodyOf Tryd.f19) [1, 1, 1, 1, 1, 1, 1, 1, 1])] ⟨[(.d (.con (.string d))), (.d (.con (.int .i64 a))), (.d (.con (.int .i64 g))), .any, .any, .any, (.d (.con (.string ({ data := #[] })))), (.d (.con (.int .i64 ((0 : Int))))), (.d (.con (.int .i64 ((0 : Int))))), (.d (.con (.string (ByteArray.extract d (Int.toNat a) (Int.toNat (↑(ByteArray.size d) : Int)))))), (.d (.con (.int .i64 (numV (ByteArray.extract (ByteArray.extract d (Int.toNat a) (Int.toNat (↑(ByteArray.size d) : Int))) (Int.toNat (33 : Int)) (Int.toNat (41 : Int))))))), (.d (.con (.bool (numB (ByteArray.extract (ByteArray.extract d (Int.toNat a) (Int.toNat (↑(ByteArray.size d) : Int))) (Int.toNat (33 : Int)) (Int.toNat (41 : Int))))))), (.d (.con (.string ({ data := #[] })))), (.d (.con (.int .i64 ((0 : Int))))), .any, .any, .any, .any, (.d (.con (.int .i64 g))), (.d (.con (.bool (okGen g)))), (.d (.con (.bool (!okGen g)))), (.d (.con (.bool (!okGen g)))), .any, .any, (.d (.con (.bool (!okGen g || decide (a < (0 : Int)))))), (.d (.con (.bool (!okGen g || decide (a < (0 : Int)))))), .any, .any, .any, .any, (.d (.con (.bool (!okGen g || decide (a < (0 : Int)) || decide (a > (↑(ByteArray.size d) : Int)))))), (.d (.con (.int .i64 a))), (.d (.con (.string d))), (.d (.con (.int .i64 ((↑(ByteArray.size d) : Int))))), (.d (.con (.bool (a == (↑(ByteArray.size d) : Int))))), (.d (.con (.string d))), (.d (.con (.int .i64 a))), (.d (.con (.string (ByteArray.extract d (Int.toNat a) (Int.toNat (↑(ByteArray.size d) : Int)))))), (.d (.con (.string (ByteArray.extract d (Int.toNat a) (Int.toNat (↑(ByteArray.size d) : Int)))))), (.d (.con (.int .i64 ((↑(ByteArray.size (ByteArray.extract d (Int.toNat a) (Int.toNat (↑(ByteArray.size d) : Int)))) : Int))))), (.d (.con (.bool (decide ((↑(ByteArray.size (ByteArray.extract d (Int.toNat a) (Int.toNat (↑(ByteArray.size d) : Int)))) : Int) < (41 : Int)))))), (.d (.tup [(.con (.int .i64 (numV (ByteArray.extract (ByteArray.extract d (Int.toNat a) (Int.toNat (↑(ByteArray.size d) : Int))) (Int.toNat (33 : Int)) (Int.toNat (41 : Int)))))), (.con (.bool (numB (ByteArray.extract (ByteArray.extract d (Int.toNat a) (Int.toNat (↑(ByteArray.size d) : Int))) (Int.toNat (33 : Int)) (Int.toNat (41 : Int))))))])), (.d (.con (.string (ByteArray.extract d (Int.toNat a) (Int.toNat (↑(ByteArray.size d) : Int)))))), (.d (.con (.string (ByteArray.extract (ByteArray.extract d (Int.toNat a) (Int.toNat (↑(ByteArray.size d) : Int))) (Int.toNat (33 : Int)) (Int.toNat (41 : Int)))))), (.d (.tup [(.con (.int .i64 (numV (ByteArray.extract (ByteArray.extract d (Int.toNat a) (Int.toNat (↑(ByteArray.size d) : Int))) (Int.toNat (33 : Int)) (Int.toNat (41 : Int)))))), (.con (.bool (numB (ByteArray.extract (ByteArray.extract d (Int.toNat a) (Int.toNat (↑(ByteArray.size d) : Int))) (Int.toNat (33 : Int)) (Int.toNat (41 : Int))))))])), (.d (.con (.int .i64 (numV (ByteArray.extract (ByteArray.extract d (Int.toNat a) (Int.toNat (↑(ByteArray.size d) : Int))) (Int.toNat (33 : Int)) (Int.toNat (41 : Int))))))), (.d (.con (.bool (numB (ByteArray.extract (ByteArray.extract d (Int.toNat a) (Int.toNat (↑(ByteArray.size d) : Int))) (Int.toNat (33 : Int)) (Int.toNat (41 : Int))))))), (.d (.con (.bool (numB (ByteArray.extract (ByteArray.extract d (Int.toNat a) (Int.toNat (↑(ByteArray.size d) : Int))) (Int.toNat (33 : Int)) (Int.toNat (41 : Int))))))), (.d (.con (.bool (!numB (ByteArray.extract (ByteArray.extract d (Int.toNat a) (Int.toNat (↑(ByteArray.size d) : Int))) (Int.toNat (33 : Int)) (Int.toNat (41 : Int))))))), (.d (.con (.bool (!numB (ByteArray.extract (ByteArray.extract d (Int.toNat a) (Int.toNat (↑(ByteArray.size d) : Int))) (Int.toNat (33 : Int)) (Int.toNat (41 : Int))))))), .any, .any, (.d (.con (.bool (!numB (ByteArray.extract (ByteArray.extract d (Int.toNat a) (Int.toNat (↑(ByteArray.size d) : Int))) (Int.toNat (33 : Int)) (Int.toNat (41 : Int))) || decide (numV (ByteArray.extract (ByteArray.extract d (Int.toNat a) (Int.toNat (↑(ByteArray.size d) : Int))) (Int.toNat (33 : Int)) (Int.toNat (41 : Int))) > (30000 : Int)))))), (.d (.con (.bool (!numB (ByteArray.extract (ByteArray.extract d (Int.toNat a) (Int.toNat (↑(ByteArray.size d) : Int))) (Int.toNat (33 : Int)) (Int.toNat (41 : Int))) || decide (numV (ByteArray.extract (ByteArray.extract d (Int.toNat a) (Int.toNat (↑(ByteArray.size d) : Int))) (Int.toNat (33 : Int)) (Int.toNat (41 : Int))) > (30000 : Int)))))), .any, .any, .any, .any, .any, .any, (.d (.con (.bool (!numB (ByteArray.extract (ByteArray.extract d (Int.toNat a) (Int.toNat (↑(ByteArray.size d) : Int))) (Int.toNat (33 : Int)) (Int.toNat (41 : Int))) || decide (numV (ByteArray.extract (ByteArray.extract d (Int.toNat a) (Int.toNat (↑(ByteArray.size d) : Int))) (Int.toNat (33 : Int)) (Int.toNat (41 : Int))) > (30000 : Int)) || decide ((↑(ByteArray.size (ByteArray.extract d (Int.toNat a) (Int.toNat (↑(ByteArray.size d) : Int)))) : Int) < (50 : Int) + (2 : Int) * numV (ByteArray.extract (ByteArray.extract d (Int.toNat a) (Int.toNat (↑(ByteArray.size d) : Int))) (Int.toNat (33 : Int)) (Int.toNat (41 : Int)))))))), .any, .any, .any, .any, .any, .any, .any, .any, .any, .any, .any, .any, .any, .any, .any, .any, .any, .any, .any, .any, .any, .any, .any, .any, .any, .any, .any, .any, .any, .any, .any, .any, .any, .any, .any, .any, .any, .any, .any, .any, .any, .any], []⟩ (Ret Tryd.prog Tryd.f19 (decR d a g))))))))))))))) (by kernel_rfl) ?_
  refine ⟨f37 g, fun h => ?_, fun h => ⟨fun h2 => ?_, fun h2 => ?_⟩⟩
  · have : ¬ (okGen g = true ∧ 0 ≤ a ∧ a ≤ d.size) := by
      simp at h
      rintro ⟨h1, h2, h3⟩
      rw [h1] at h
      simp at h
      omega
    rw [decR, if_neg this]; rfl
  · have h : okGen g = true ∧ 0 ≤ a ∧ a ≤ d.size := by
      simp at h
      exact ⟨h.1.1, by omega, by omega⟩
    rw [decR, if_pos h, if_pos (by simpa using h2)]; rfl
  · have h : okGen g = true ∧ 0 ≤ a ∧ a ≤ d.size := by
      simp at h
      exact ⟨h.1.1, by omega, by omega⟩
    have h2 : ¬ a = d.size := by simpa using h2
    have hR : decR d a g = decRs g.toNat (ByteArray.extract d (Int.toNat a) (Int.toNat (d.size : Int))) := by
      rw [decR, if_pos h, if_neg h2]; rfl
    refine ⟨⟨by omega, by omega, by omega⟩, ?_⟩
    rw [hR]
    have hsd : (ByteArray.extract d (Int.toNat a) (Int.toNat (d.size : Int))).size < 1000000 := by
      rw [ByteArray.size_extract]; omega
    generalize hs : ByteArray.extract d (Int.toNat a) (Int.toNat (d.size : Int)) = s at hsd ⊢
    have hread := decSpec_read g.toNat s
    have e33 : Int.toNat (33 : Int) = 33 := rfl
    have e41 : Int.toNat (41 : Int) = 41 := rfl
    rw [e33, e41]
    have hsl : s.data.toList.length = s.size := Array.length_toList
    have h40 : ∀ i j, FnOK Tryd.prog G 40 [ds (s.extract i j)] (.tup [di (numV (s.extract i j)), db (numB (s.extract i j))]) := fun i j => f40' _ (by rw [ByteArray.size_extract]; omega)
    refine ⟨fun h3 => ?_, fun h3 => ?_⟩
    · have h3 : s.size < 41 := by simp at h3; omega
      rw [decRs_none]
      · rfl
      · cases hx : decSpec g.toNat s.data.toList with
        | none => rfl
        | some p =>
          have := (read_enc (decSpec_eq hx).2).1
          omega
    · have h3 : ¬ s.size < 41 := by simp at h3; omega
      cases hn : numAt s 33 41 with
      | none =>
        rw [hn] at hread
        have hb := numB_none hn
        rw [decRs_none hread]
        refine ⟨⟨⟨by omega, by omega, by omega⟩, h40 33 41⟩, ⟨fun h4 => ?_, fun h4 => ?_⟩, fun h4 => rfl, fun h4 => ?_⟩
        · rw [hb] at h4; simp at h4
        · rw [hb] at h4; simp at h4
        · rw [hb] at h4; simp at h4
      | some n =>
        rw [hn] at hread
        simp only at hread
        obtain ⟨hv, hb⟩ := numV_at hn (by omega)
        refine ⟨⟨⟨by omega, by omega, by omega⟩, h40 33 41⟩, ⟨fun h4 => ?_, fun h4 => ?_⟩, fun h4 => ?_, fun h4 => ?_⟩
        · rw [hv, hb] at h4
          rw [hv]
          simp at h4
          exact ⟨by omega, by omega⟩
        · rw [hv, hb] at h4
          rw [hv]
          simp at h4
          exact ⟨by omega, by omega⟩
        · rw [hv, hb] at h4
          rw [decRs_none]
          · rfl
          · rw [hread, if_neg]
            rintro ⟨k1, k2, _⟩
            simp at h4
            omega
        · rw [hv, hb] at h4 ⊢
          have h4 : n ≤ 30000 ∧ 50 + 2 * n ≤ s.size := by simp at h4; omega
          refine AWP.loop (c := cAt (bodyOf Tryd.f19) [1, 1, 1, 1, 1, 1, 1, 1, 0, 1, 0, 0]) (by kernel_rfl) (S19 g s n) (fun x => x ≤ n ∧ ∀ i, i < x → (numAt s (41 + 2 * i) (43 + 2 * i)).isSome = true) (fun x => n - x) 0 ?_ ⟨Nat.zero_le _, fun i hi => by omega⟩ ?_
          · refine of_eq (b :=
            (((((.d (.con (.int .i64 g))) : AV) = (.d (.con (.int .i64 g)))) ∧
            ((((.d (.con (.string s))) : AV) = (.d (.con (.string s)))) ∧
            ((((.d (.con (.int .i64 ((↑n : Int))))) : AV) = (.d (.con (.int .i64 ((↑n : Int)))))) ∧
            ((((.d (.con (.string ({ data := #[] })))) : AV) = (.d (.con (.string (bs (payB s (0 : Nat))))))) ∧
            ((((.d (.con (.int .i64 ((0 : Int))))) : AV) = (.d (.con (.int .i64 ((0 : Int)))))) ∧
            True))))) ∧
            True)) (by kernel_rfl) ?_
            exact ⟨⟨rfl, rfl, rfl, rfl, rfl, trivial⟩, trivial⟩
          · rintro i ⟨hi, hall⟩
            refine walk (orc := orcDec) (keep := []) (cuts := []) (n := 1000) follows ?_
            refine of_eqH (b :=
              ((((decide ((↑i : Int) < (↑n : Int))) = true) →
              (((I64 ((2 : Int) * (↑i : Int))) ∧
              ((I64 ((41 : Int) + (2 : Int) * (↑i : Int))) ∧
              ((I64 ((2 : Int) * (↑i : Int))) ∧
              ((I64 ((43 : Int) + (2 : Int) * (↑i : Int))) ∧
              ((((0 : Int) ≤ (41 : Int) + (2 : Int) * (↑i : Int)) ∧
              (((41 : Int) + (2 : Int) * (↑i : Int) ≤ (43 : Int) + (2 : Int) * (↑i : Int)) ∧
              ((43 : Int) + (2 : Int) * (↑i : Int) ≤ (↑(ByteArray.size s) : Int)))) ∧
              FnOK Tryd.prog G ((40 : Nat)) [(.con (.string (ByteArray.extract s (Int.toNat ((41 : Int) + (2 : Int) * (↑i : Int))) (Int.toNat ((43 : Int) + (2 : Int) * (↑i : Int))))))] (.tup [(.con (.int .i64 (numV (ByteArray.extract s (Int.toNat ((41 : Int) + (2 : Int) * (↑i : Int))) (Int.toNat ((43 : Int) + (2 : Int) * (↑i : Int))))))), (.con (.bool (numB (ByteArray.extract s (Int.toNat ((41 : Int) + (2 : Int) * (↑i : Int))) (Int.toNat ((43 : Int) + (2 : Int) * (↑i : Int)))))))])))))) ∧
              ((((!numB (ByteArray.extract s (Int.toNat ((41 : Int) + (2 : Int) * (↑i : Int))) (Int.toNat ((43 : Int) + (2 : Int) * (↑i : Int))))) = true) →
              (((.tup [(.con (.string ({ data := #[] }))), (.con (.int .i64 ((0 : Int)))), (.con (.int .i64 ((11 : Int))))]) : DV) = (decRs (Int.toNat g) s))) ∧
              (((!numB (ByteArray.extract s (Int.toNat ((41 : Int) + (2 : Int) * (↑i : Int))) (Int.toNat ((43 : Int) + (2 : Int) * (↑i : Int))))) = false) →
              ((BytesAt ((1 : Nat)) (elemF false ((1 : Nat)) [(.con (.int .u8 (IntKind.wrap IntKind.u8 (numV (ByteArray.extract s (Int.toNat ((41 : Int) + (2 : Int) * (↑i : Int))) (Int.toNat ((43 : Int) + (2 : Int) * (↑i : Int))))))))]) ∧
              (ByteArray.size (bs (payB s i)) + ByteArray.size { data := List.toArray (bytesOf (1 : Nat) (elemF false (1 : Nat) [DV.con (Value.int IntKind.u8 (IntKind.wrap IntKind.u8 (numV (ByteArray.extract s (Int.toNat ((41 : Int) + (2 : Int) * (↑i : Int))) (Int.toNat ((43 : Int) + (2 : Int) * (↑i : Int)))))))])) } ≤ (9223372036854775807 : Nat))) ∧
              ((I64 ((↑i : Int) + (1 : Int))) ∧
              Again (S19 g s n) (fun x => x ≤ n ∧ ∀ (i : Nat), i < x → Option.isSome (numAt s ((41 : Nat) + (2 : Nat) * i) ((43 : Nat) + (2 : Nat) * i)) = true) (fun x => n - x) i ⟨[.any, .any, (.d (.con (.int .i64 g))), .any, .any, .any, .any, .any, .any, (.d (.con (.string s))), (.d (.con (.int .i64 ((↑n : Int))))), .any, (.d (.con (.string (bs (payB s i) ++ { data := List.toArray (bytesOf (1 : Nat) (elemF false (1 : Nat) [DV.con (Value.int IntKind.u8 (IntKind.wrap IntKind.u8 (numV (ByteArray.extract s (Int.toNat ((41 : Int) + (2 : Int) * (↑i : Int))) (Int.toNat ((43 : Int) + (2 : Int) * (↑i : Int)))))))])) })))), (.d (.con (.int .i64 ((↑i : Int) + (1 : Int))))), (.d (.con (.int .i64 (numV (ByteArray.extract s (Int.toNat ((41 : Int) + (2 : Int) * (↑i : Int))) (Int.toNat ((43 : Int) + (2 : Int) * (↑i : Int)))))))), (.d (.con (.bool (numB (ByteArray.extract s (Int.toNat ((41 : Int) + (2 : Int) * (↑i : Int))) (Int.toNat ((43 : Int) + (2 : Int) * (↑i : Int)))))))), .any, .any, .any, .any, .any, .any, .any, .any, .any, .any, .any, .any, .any, .any, .any, .any, .any, .any, .any, .any, .any, .any, .any, .any, .any, .any, .any, .any, .any, .any, .any, .any, .any, .any, .any, .any, .any, .any, .any, .any, .any, .any, .any, .any, .any, (.d (.con (.int .i64 ((↑i : Int))))), (.d (.con (.int .i64 ((↑n : Int))))), (.d (.con (.bool (decide ((↑i : Int) < (↑n : Int)))))), (.d (.con (.int .i64 ((↑i : Int))))), (.d (.con (.int .i64 ((↑i : Int) + (1 : Int))))), (.d (.tup [(.con (.int .i64 (numV (ByteArray.extract s (Int.toNat ((41 : Int) + (2 : Int) * (↑i : Int))) (Int.toNat ((43 : Int) + (2 : Int) * (↑i : Int))))))), (.con (.bool (numB (ByteArray.extract s (Int.toNat ((41 : Int) + (2 : Int) * (↑i : Int))) (Int.toNat ((43 : Int) + (2 : Int) * (↑i : Int)))))))])), (.d (.con (.string s))), (.d (.con (.int .i64 ((↑i : Int))))), (.d (.con (.int .i64 ((2 : Int) * (↑i : Int))))), (.d (.con (.int .i64 ((41 : Int) + (2 : Int) * (↑i : Int))))), (.d (.con (.int .i64 ((↑i : Int))))), (.d (.con (.int .i64 ((2 : Int) * (↑i : Int))))), (.d (.con (.int .i64 ((43 : Int) + (2 : Int) * (↑i : Int))))), (.d (.con (.string (ByteArray.extract s (Int.toNat ((41 : Int) + (2 : Int) * (↑i : Int))) (Int.toNat ((43 : Int) + (2 : Int) * (↑i : Int))))))), (.d (.tup [(.con (.int .i64 (numV (ByteArray.extract s (Int.toNat ((41 : Int) + (2 : Int) * (↑i : Int))) (Int.toNat ((43 : Int) + (2 : Int) * (↑i : Int))))))), (.con (.bool (numB (ByteArray.extract s (Int.toNat ((41 : Int) + (2 : Int) * (↑i : Int))) (Int.toNat ((43 : Int) + (2 : Int) * (↑i : Int)))))))])), (.d (.con (.int .i64 (numV (ByteArray.extract s (Int.toNat ((41 : Int) + (2 : Int) * (↑i : Int))) (Int.toNat ((43 : Int) + (2 : Int) * (↑i : Int)))))))), (.d (.con (.bool (numB (ByteArray.extract s (Int.toNat ((41 : Int) + (2 : Int) * (↑i : Int))) (Int.toNat ((43 : Int) + (2 : Int) * (↑i : Int)))))))), (.d (.con (.bool (numB (ByteArray.extract s (Int.toNat ((41 : Int) + (2 : Int) * (↑i : Int))) (Int.toNat ((43 : Int) + (2 : Int) * (↑i : Int)))))))), (.d (.con (.bool (!numB (ByteArray.extract s (Int.toNat ((41 : Int) + (2 : Int) * (↑i : Int))) (Int.toNat ((43 : Int) + (2 : Int) * (↑i : Int)))))))), (.d (.con (.string (bs (payB s i))))), (.d (.con (.int .i64 (numV (ByteArray.extract s (Int.toNat ((41 : Int) + (2 : Int) * (↑i : Int))) (Int.toNat ((43 : Int) + (2 : Int) * (↑i : Int)))))))), (.d (.con (.int .u8 (IntKind.wrap IntKind.u8 (numV (ByteArray.extract s (Int.toNat ((41 : Int) + (2 : Int) * (↑i : Int))) (Int.toNat ((43 : Int) + (2 : Int) * (↑i : Int))))))))), (.d (.slc ((1 : Nat)) ((1 : Nat)) (elemF false ((1 : Nat)) [(.con (.int .u8 (IntKind.wrap IntKind.u8 (numV (ByteArray.extract s (Int.toNat ((41 : Int) + (2 : Int) * (↑i : Int))) (Int.toNat ((43 : Int) + (2 : Int) * (↑i : Int))))))))]))), (.d (.con (.string ({ data := List.toArray (bytesOf (1 : Nat) (elemF false (1 : Nat) [DV.con (Value.int IntKind.u8 (IntKind.wrap IntKind.u8 (numV (ByteArray.extract s (Int.toNat ((41 : Int) + (2 : Int) * (↑i : Int))) (Int.toNat ((43 : Int) + (2 : Int) * (↑i : Int)))))))])) })))), (.d (.con (.string (bs (payB s i) ++ { data := List.toArray (bytesOf (1 : Nat) (elemF false (1 : Nat) [DV.con (Value.int IntKind.u8 (IntKind.wrap IntKind.u8 (numV (ByteArray.extract s (Int.toNat ((41 : Int) + (2 : Int) * (↑i : Int))) (Int.toNat ((43 : Int) + (2 : Int) * (↑i : Int)))))))])) })))), .any, .any, .any, .any, .any, .any, .any, .any, .any, .any, .any, .any, .any, .any, .any, .any, .any], []⟩)))))) ∧
              (((decide ((↑i : Int) < (↑n : Int))) = false) →
              AWP Tryd.prog G [.code (cAt (bodyOf Tryd.f19) [1, 1, 1, 1, 1, 1, 1, 1, 1])] ⟨[.any, .any, (.d (.con (.int .i64 g))), .any, .any, .any, .any, .any, .any, (.d (.con (.string s))), (.d (.con (.int .i64 ((↑n : Int))))), .any, (.d (.con (.string (bs (payB s i))))), (.d (.con (.int .i64 ((↑i : Int))))), .any, .any, .any, .any, .any, .any, .any, .any, .any, .any, .any, .any, .any, .any, .any, .any, .any, .any, .any, .any, .any, .any, .any, .any, .any, .any, .any, .any, .any, .any, .any, .any, .any, .any, .any, .any, .any, .any, .any, .any, .any, .any, .any, .any, .any, .any, .any, (.d (.con (.int .i64 ((↑i : Int))))), (.d (.con (.int .i64 ((↑n : Int))))), (.d (.con (.bool (decide ((↑i : Int) < (↑n : Int)))))), .any, .any, .any, .any, .any, .any, .any, .any, .any, .any, .any, .any, .any, .any, .any, .any, .any, .any, .any, .any, .any, .any, .any, .any, .any, .any, .any, .any, .any, .any, .any, .any, .any, .any, .any, .any, .any, .any, .any], []⟩ (Ret Tryd.prog Tryd.f19 (decRs (Int.toNat g) s))))) (by kernel_rfl) ?_
            have e1 : Int.toNat ((41 : Int) + (2 : Int) * (i : Int)) = 41 + 2 * i := by omega
            have e2 : Int.toNat ((43 : Int) + (2 : Int) * (i : Int)) = 43 + 2 * i := by omega
            rw [e1, e2]
            refine ⟨fun h5 => ?_, fun h5 => ?_⟩
            · have hi' : i < n := by simpa using h5
              refine ⟨⟨⟨by omega, by omega⟩, ⟨by omega, by omega⟩, ⟨by omega, by omega⟩, ⟨by omega, by omega⟩, ⟨by omega, by omega, by omega⟩, h40 _ _⟩, ?_⟩
              cases hc : numAt s (41 + 2 * i) (43 + 2 * i) with
              | none =>
                have hcb := numB_none hc
                rw [hcb]
                refine ⟨fun _ => ?_, fun h6 => by simp at h6⟩
                rw [decRs_none]
                · rfl
                · rw [hread, if_neg]
                  rintro ⟨_, _, k3, _⟩
                  have := k3 i hi'
                  rw [hc] at this; cases this
              | some c =>
                obtain ⟨hcv, hcb⟩ := numV_at hc (by omega)
                have hc256 : c < 256 := by
                  have hc' := hc
                  unfold numAt at hc'
                  have := numP_bd hc'
                  have h2 : (s.extract (41 + 2 * i) (43 + 2 * i)).size = 2 := by rw [ByteArray.size_extract]; omega
                  rw [h2] at this
                  omega
                rw [hcv, hcb, u8_nat c hc256]
                refine ⟨fun h6 => by simp at h6, fun _ => ?_⟩
                have e5 : ((c : Nat) : Int) = ((UInt8.ofNat c).toNat : Int) := by simp only [UInt8.toNat_ofNat']; omega
                have e4 : (⟨(bytesOf 1 (elemF false 1 [DV.con (Value.int IntKind.u8 (c : Int))])).toArray⟩ : ByteArray) = bs [UInt8.ofNat c] := by rw [bytes_one _ _ e5]; rfl
                rw [e4, bs_append]
                have e6 : payB s i ++ [UInt8.ofNat c] = payB s (i + 1) := by rw [payB_succ, hc]; rfl
                rw [e6]
                refine ⟨⟨bytes_oneAt _ _ e5, by rw [bs_size, bs_size, payB_len, List.length_singleton]; omega⟩, ⟨by omega, by omega⟩, Again.mk (i + 1) ?_ ⟨by omega, fun j hj => ?_⟩ (by omega)⟩
                · refine of_eq (b :=
                  (((((.d (.con (.int .i64 g))) : AV) = (.d (.con (.int .i64 g)))) ∧
                  ((((.d (.con (.string s))) : AV) = (.d (.con (.string s)))) ∧
                  ((((.d (.con (.int .i64 ((↑n : Int))))) : AV) = (.d (.con (.int .i64 ((↑n : Int)))))) ∧
                  ((((.d (.con (.string (bs (payB s (i + (1 : Nat))))))) : AV) = (.d (.con (.string (bs (payB s (i + (1 : Nat)))))))) ∧
                  ((((.d (.con (.int .i64 ((↑i : Int) + (1 : Int))))) : AV) = (.d (.con (.int .i64 ((↑(i + (1 : Nat)) : Int)))))) ∧
                  True))))) ∧
                  True)) (by kernel_rfl) ?_
                  exact ⟨⟨rfl, rfl, rfl, rfl, rfl, trivial⟩, trivial⟩
                · rcases Nat.lt_or_ge j i with hj' | hj'
                  · exact hall j hj'
                  · obtain rfl : j = i := by omega
                    rw [hc]; rfl
            · have : i = n := by simp at h5; omega
              subst this
              refine walk (orc := orcDec) (keep := []) (cuts := []) (n := 1000) follows ?_
              refine of_eqH (b :=
                (FnOK Tryd.prog G ((18 : Nat)) [(.con (.int .i64 g)), (.con (.string (bs (payB s i))))] (.tup [(.con (.string (encS g (bs (payB s i))))), (.con (.int .i64 (encE g (bs (payB s i)))))]) ∧
                (((I64 ((2 : Int) * (↑i : Int))) ∧
                ((I64 ((50 : Int) + (2 : Int) * (↑i : Int))) ∧
                (((0 : Int) ≤ (0 : Int)) ∧
                (((0 : Int) ≤ (50 : Int) + (2 : Int) * (↑i : Int)) ∧
                ((50 : Int) + (2 : Int) * (↑i : Int) ≤ (↑(ByteArray.size s) : Int)))))) ∧
                ((((!ByteArray.toList (ByteArray.extract s (Int.toNat (0 : Int)) (Int.toNat ((50 : Int) + (2 : Int) * (↑i : Int)))) == ByteArray.toList (encS g (bs (payB s i)))) = true) →
                (((.tup [(.con (.string ({ data := #[] }))), (.con (.int .i64 ((0 : Int)))), (.con (.int .i64 ((11 : Int))))]) : DV) = (decRs (Int.toNat g) s))) ∧
                (((!ByteArray.toList (ByteArray.extract s (Int.toNat (0 : Int)) (Int.toNat ((50 : Int) + (2 : Int) * (↑i : Int)))) == ByteArray.toList (encS g (bs (payB s i)))) = false) →
                (((I64 ((2 : Int) * (↑i : Int))) ∧
                (I64 ((50 : Int) + (2 : Int) * (↑i : Int)))) ∧
                (((.tup [(.con (.string (bs (payB s i)))), (.con (.int .i64 ((50 : Int) + (2 : Int) * (↑i : Int)))), (.con (.int .i64 ((0 : Int))))]) : DV) = (decRs (Int.toNat g) s)))))))) (by kernel_rfl) ?_
              have hok : okGen g = true ∧ (bs (payB s i)).size ≤ 30000 := ⟨h.1, by rw [bs_size, payB_len]; exact h4.1⟩
              have hS : encS g (bs (payB s i)) = bs (encL g.toNat (bs (payB s i))) := if_pos hok
              have e1 : Int.toNat ((50 : Int) + (2 : Int) * (i : Int)) = 50 + 2 * i := by omega
              have e0 : Int.toNat (0 : Int) = 0 := rfl
              have eX : s.extract 0 (50 + 2 * i) = bs (s.data.toList.take (50 + 2 * i)) := by rw [extract_bs, List.drop_zero, Nat.sub_zero]
              rw [e1, e0, eX]
              refine ⟨f18' g _, ⟨⟨by omega, by omega⟩, ⟨by omega, by omega⟩, by omega, by omega, by omega⟩, fun h6 => ?_, fun h6 => ⟨⟨⟨by omega, by omega⟩, by omega, by omega⟩, ?_⟩⟩
              · have h6 : ¬ bs (s.data.toList.take (50 + 2 * i)) = encS g (bs (payB s i)) := by simpa [toList_inj] using h6
                rw [decRs_none]
                · rfl
                · rw [hread, if_neg]
                  rintro ⟨_, _, _, k4⟩
                  rw [hS, k4] at h6
                  exact h6 rfl
              · have h6 : bs (s.data.toList.take (50 + 2 * i)) = encS g (bs (payB s i)) := by simpa [toList_inj] using h6
                rw [hS] at h6
                have h6 : s.data.toList.take (50 + 2 * i) = encL g.toNat (bs (payB s i)) := by
                  have := congrArg (fun z => z.data.toList) h6
                  simpa [bs] using this
                rw [if_pos ⟨h4.1, h4.2, hall, h6⟩] at hread
                unfold decRs
                rw [hread]
                simp only [bs_size, payB_len]
                have e9 : ((50 + 2 * i : Nat) : Int) = 50 + 2 * (i : Int) := by push_cast; rfl
                rw [e9]
end Go.Proofs

set_option autoImplicit false
namespace Go.Proofs
open Go Go.Ab Go.RowKit
set_option maxHeartbeats 1000000
set_option maxRecDepth 100000
variable {G : IH}
/-- A row of bytes. -/
def byteL (l : List UInt8) (i : Nat) : DV := .con (.int .u8 (((l[i]?).getD 0).toNat : Int))
def nilP : AV := .d (.con (.pointer none))
def unitV : DV := .tup []
/-- The frame of a callee, its result laid. -/
theorem Gam.result {F : Fr} {w0 : World} {h0 : IH} {st : AS} {β : Nat → Nat} {h : IH} {tm : Array Value} {w : World} (g : Gam G F w0 h0 st β h tm w) {r : AV} {v : Value} (hr : r.rel β h v) : Gam G F w0 h0 ⟨[r], st.boxes⟩ β h #[v] w :=
  ⟨g.glob, g.holds, g.ext, g.old, g.kept, g.fix, rfl, fun t x hx => by
    cases t with
    | zero => simp at hx; subst hx; exact ⟨v, rfl, hr⟩
    | succ t => simp at hx, g.box, g.inj⟩
theorem tup0_rel (h : IH) : unitV.rel h (.tuple #[]) := ⟨[], rfl, rfl⟩
theorem arg1 {F : Fr} {w0 : World} {h0 : IH} {x : AV} {bx : List (Nat × List AV)} {β : Nat → Nat} {h : IH} {us : Array Value} {w : World} (g : Gam G F w0 h0 ⟨[x], bx⟩ β h us w) : ∃ v, us = #[v] ∧ x.rel β h v := by
  have hs : us.size = 1 := g.size
  obtain ⟨v, hv, hr⟩ := g.regs 0 x rfl
  refine ⟨v, ?_, hr⟩
  apply Array.ext
  · simpa using hs
  · intro i h1 h2
    have : i = 0 := by simp at h2; omega
    subst this
    have := (Array.getElem?_eq_some_iff.1 hv).2
    simpa using this
theorem look_head (s : Nat) (l : List AV) (r : List (Nat × List AV)) : Go.Ab.look ((s, l) :: r) s = some l := by simp [Go.Ab.look]
theorem i59' : (Tryd.prog.info? 59).map (·.size) = some 2 := by kernel_rfl
theorem i59 : ∃ j, Tryd.prog.info? 59 = some j ∧ j.size = 2 := Option.map_eq_some_iff.1 i59'
theorem lies59 : liesAt Tryd.prog Tryd.prog.depth 59 (2 / Tryd.prog.cellsOf 59) 0 59 1 = true := by kernel_rfl
theorem copyCheck_used (b : Nat) (w : World) (h0 : w.cell? ⟨b, 0, none⟩ = some (.pointer (some ⟨b, 0, none⟩))) :
    Calls Tryd.prog 52 #[.pointer (some ⟨b, 0, none⟩)] w fun e w' => e = .returned (.tuple #[]) ∧ w' = w := by
  obtain ⟨j, hj, hjs⟩ := i59
  go_enter Tryd.func52, Tryd.ntmps52
  go_wp2
  rw [Lib.run_neq_ptr_same w _ Tryd.underlying57 hj]
  go_wp2
  go_end0
  exact ⟨rfl, rfl⟩
theorem copyCheck_fresh (b : Nat) (w : World) (h0 : w.cell? ⟨b, 0, none⟩ = some (.pointer none)) (hsh : w.shape? b = some (59, 2)) (hfz : w.frozen? ⟨b, 0, none⟩ = false) :
    Calls Tryd.prog 52 #[.pointer (some ⟨b, 0, none⟩)] w fun e w' => e = .returned (.tuple #[]) ∧ w' = w.setCell ⟨b, 0, none⟩ (.pointer (some ⟨b, 0, none⟩)) := by
  obtain ⟨j, hj, hjs⟩ := i59
  go_enter Tryd.func52, Tryd.ntmps52
  go_wp2
  rw [Lib.run_to_unsafe w ⟨b, 0, none⟩ Tryd.underlying57 Tryd.underlying88 hj (by rw [hjs]; decide) hsh (Nat.zero_lt_succ 1)]
  simp only [Result.andThen]
  rw [Oper.upon_value]
  go_wp2
  rw [run_callFunc_extern Tryd.func61 (by kernel_rfl) (by kernel_rfl) (by kernel_rfl) (e := Extern.AbiNoEscape.same) (by kernel_rfl)]
  rw [Lib.run_noEscape]
  simp only [Result.andThen]
  rw [Oper.upon_value]
  go_wp2
  rw [Lib.run_from_unsafe w ⟨b, 0, none⟩ Tryd.underlying88 Tryd.underlying57 hj hsh lies59]
  simp only [Result.andThen]
  rw [Oper.upon_value]
  go_wp2
  go_end0
  exact ⟨rfl, rfl⟩
theorem builder_String (b g cap n : Nat) (T : TypeId) (p : Value) (vs : Array Value) (fz : Nat × Nat) (l : List UInt8) (h0 : l ≠ []) (hn : n = l.length) (w : World) (hbk : w.heap[b]? = some (.cells #[p, .slice (some ⟨g, 0, none⟩) n cap] T (0, 0)))
    (hg : w.heap[g]? = some (.cells vs 5 fz)) (hcap : n ≤ cap) (hsz : n ≤ vs.size) (h63 : n ≤ 9223372036854775807) (hvs : ∀ (j : Nat) (x : UInt8), l[j]? = some x → vs[j]? = some (Value.int .u8 x.toNat)) :
    Calls Tryd.prog 35 #[.pointer (some ⟨b, 0, none⟩)] w fun e w' => e = .returned (.string ⟨l.toArray⟩) ∧ w' = w.drew.freeze ⟨g, 0, none⟩ n := by
  subst hn
  have hl0 : l.length ≠ 0 := by simpa using h0
  have c1 : w.drew.cell? ⟨b, 1, none⟩ = some (.slice (some ⟨g, 0, none⟩) l.length cap) := by
    have : w.drew.heap[b]? = some (.cells #[p, .slice (some ⟨g, 0, none⟩) l.length cap] T (0, 0)) := hbk
    rw [Lib.cell_of_heap this]; rfl
  have hSD : (Builtin.unsafeSliceData_ #[33] 81 #[.slice (some ⟨g, 0, none⟩) l.length cap]).run Tryd.prog w.drew = .ok (.pointer (some ⟨g, 0, none⟩)) w.drew :=
    Lib.run_unsafeSliceData_row _ _ _ _ _ _ (by omega)
  have hUS : (Builtin.unsafeString_ #[81, 3] 9 #[.pointer (some ⟨g, 0, none⟩), .int .i64 l.length]).run Tryd.prog w.drew = .ok (.string ⟨l.toArray⟩) (w.drew.freeze ⟨g, 0, none⟩ l.length) := by
    refine Lib.run_unsafeString_row w.drew 81 3 9 5 Tryd.underlying81 (by kernel_rfl) g vs.size (by have hg' : w.drew.heap[g]? = some (.cells vs 5 fz) := hg; simp [World.shape?, hg']) l h0 hsz h63 ?_
    intro j x hx
    have hg' : w.drew.heap[g]? = some (.cells vs 5 fz) := hg
    have : (⟨g, 0, none⟩ : Addr).add j = ⟨g, j, none⟩ := by rw [add_off]; simp
    rw [this]
    simp only [World.cell?, hg']
    exact hvs j x hx
  have mixed := follows
  go_enter Tryd.func35, Tryd.ntmps35
  go_wp2
  go_region_o
  all_goals (go_wp2; go_ret; exact ⟨rfl, rfl⟩)
theorem builder_String_nil (b : Nat) (T : TypeId) (p : Value) (w : World) (hbk : w.heap[b]? = some (.cells #[p, .slice none 0 0] T (0, 0))) :
    Calls Tryd.prog 35 #[.pointer (some ⟨b, 0, none⟩)] w fun e w' => e = .returned (.string ⟨#[]⟩) ∧ w' = w.drew := by
  have c1 : w.drew.cell? ⟨b, 1, none⟩ = some (.slice none 0 0) := by
    have : w.drew.heap[b]? = some (.cells #[p, .slice none 0 0] T (0, 0)) := hbk
    rw [Lib.cell_of_heap this]; rfl
  have hSD : (Builtin.unsafeSliceData_ #[33] 81 #[.slice none 0 0]).run Tryd.prog w.drew = .ok (.pointer none) w.drew := rfl
  have hUS : (Builtin.unsafeString_ #[81, 3] 9 #[.pointer none, .int .i64 0]).run Tryd.prog w.drew = .ok (.string .empty) w.drew := Lib.run_unsafeString_none w.drew _ _ _ none
  have mixed := follows
  go_enter Tryd.func35, Tryd.ntmps35
  go_wp2
  go_region_o
  all_goals (go_wp2; go_ret; exact ⟨rfl, rfl⟩)
theorem f52_fresh (x : AV) (rest : List (Nat × List AV)) : FnM Tryd.prog G 52 [.tb 1000000 0 59] ((1000000, [nilP, x]) :: rest) (.d unitV) ((1000000, [.box 1000000 0, x]) :: rest) := by
  refine ⟨Tryd.call52, fun F w h β us g => ?_⟩
  obtain ⟨v, rfl, hv, hT⟩ := arg1 g
  subst hv
  have hb : (⟨[.tb 1000000 0 59], (1000000, [nilP, x]) :: rest⟩ : AS).box 1000000 = some [nilP, x] := look_head ..
  have hp : plainB [nilP, x] = true := by
    cases x <;> rfl
  obtain ⟨_, _, _, T, vs, hh, hr⟩ := g.boxP hb hp
  obtain ⟨v0, vs', rfl, h0, v1, vs'', rfl, h1, h2⟩ := hr
  simp only [AV.rels] at h2; subst h2
  simp only [nilP, AV.rel, DV.rel] at h0; subst h0
  have hTT : T.1 = 59 := T.2.trans hT
  rw [hTT] at hh
  have c0 : w.cell? ⟨blk β 1000000, 0, none⟩ = some (.pointer none) := by simp [World.cell?, hh]
  refine (copyCheck_fresh (blk β 1000000) w c0 (by simp [World.shape?, hh]) (by simp [World.frozen?, hh])).mono ?_
  rintro e w' ⟨rfl, rfl⟩
  have g2 := g.store (s := 1000000) (i := 0) (x := .box 1000000 0) (v := .pointer (some ⟨blk β 1000000, 0, none⟩)) ⟨_, hb, hp⟩ rfl
  have hset : setCells 1000000 0 (.box 1000000 0) ((1000000, [nilP, x]) :: rest) = (1000000, [.box 1000000 0, x]) :: rest := by simp [setCells]
  rw [hset] at g2
  exact ⟨_, β, h, rfl, Gam.result g2 (tup0_rel h)⟩
theorem f52_used (y x : AV) (hy : ∀ β h v, y.rel β h v → v = .pointer (some ⟨blk β 1000000, 0, none⟩)) (rest : List (Nat × List AV)) : FnM Tryd.prog G 52 [y] ((1000000, [.box 1000000 0, x]) :: rest) (.d unitV) ((1000000, [.box 1000000 0, x]) :: rest) := by
  refine ⟨Tryd.call52, fun F w h β us g => ?_⟩
  obtain ⟨v, rfl, hv⟩ := arg1 g
  have hv := hy _ _ _ hv
  subst hv
  have hb : (⟨[y], (1000000, [.box 1000000 0, x]) :: rest⟩ : AS).box 1000000 = some [.box 1000000 0, x] := look_head ..
  have hp : plainB [.box 1000000 0, x] = true := by
    cases x <;> rfl
  obtain ⟨_, _, _, T, vs, hh, hr⟩ := g.boxP hb hp
  obtain ⟨v0, vs', rfl, h0, v1, vs'', rfl, h1, h2⟩ := hr
  simp only [AV.rels] at h2; subst h2
  simp only [AV.rel] at h0; subst h0
  have c0 : w.cell? ⟨blk β 1000000, 0, none⟩ = some (.pointer (some ⟨blk β 1000000, 0, none⟩)) := by simp [World.cell?, hh]
  refine (copyCheck_used (blk β 1000000) w c0).mono ?_
  rintro e w' ⟨rfl, rfl⟩
  exact ⟨_, β, h, rfl, Gam.result g (tup0_rel h)⟩
end Go.Proofs

set_option autoImplicit false
namespace Go.Proofs
open Go Go.Ab Go.RowKit
set_option maxHeartbeats 1000000
set_option maxRecDepth 100000
variable {G : IH}
abbrev byteF : RK := ⟨false, 5, true⟩
theorem onlyBlk_freeze {g n : Nat} {w : World} : OnlyBlk g w (w.freeze ⟨g, 0, none⟩ n) := by
  unfold World.freeze
  split
  · exact ⟨rfl, rfl, rfl, rfl, fun _ _ => rfl⟩
  · refine ⟨rfl, rfl, rfl, by simp, fun k hk => ?_⟩
    simp only [Array.getElem?_modify]
    rw [if_neg (Ne.symm hk)]
theorem heap_freeze {g n : Nat} {w : World} {vs : Array Value} {T : TypeId} {fr : Nat × Nat} (h : w.heap[g]? = some (.cells vs T fr)) : ∃ fr', (w.freeze ⟨g, 0, none⟩ n).heap[g]? = some (.cells vs T fr') := by
  unfold World.freeze
  split
  · exact ⟨fr, h⟩
  · simp only [Array.getElem?_modify, if_true, h]
    exact ⟨_, rfl⟩
theorem RowOK.frozen {h : IH} {k : RK} {sz c m : Nat} {f : Nat → DV} {o o' : Option Obj} (hR : RowOK h k sz f c m o) (ho : ∀ (vs : Array Value) (fr : Nat × Nat), o = some (.cells vs k.ty fr) → ∃ fr', o' = some (.cells vs k.ty fr')) : RowOK h ⟨k.agg, k.ty, true⟩ sz f c m o' := by
  obtain ⟨h1, h2⟩ := hR
  refine ⟨h1, h2.imp id ?_⟩
  rintro ⟨fr, vs, e, hf, hl, hone, r⟩
  obtain ⟨fr', e'⟩ := ho _ _ e
  exact ⟨fr', vs, e', fun hh => Bool.noConfusion hh, hl, hone, r⟩
/-- strings.Builder.String, where the builder holds something. -/
theorem f35 (y A : AV) (hy : ∀ β h v, y.rel β h v → v = .pointer (some ⟨blk β 1000000, 0, none⟩)) (fz : Bool) (l : List UInt8) (h0 : l ≠ []) (hl : l.length ≤ 4611686018427387904) :
    FnM Tryd.prog G 35 [y] [(1000000, [A, .vec 1000001 1 0 l.length]), (1000001, [.arr ⟨false, 5, fz⟩ 1 (byteL l)])] (.d (ds (bs l))) [(1000000, [A, .vec 1000001 1 0 l.length]), (1000001, [.arr byteF 1 (byteL l)])] := by
  refine ⟨Tryd.call35, fun F w h β us g => ?_⟩
  obtain ⟨v, rfl, hv⟩ := arg1 g
  have hv := hy _ _ _ hv
  subst hv
  have hb : (⟨[y], [(1000000, [A, .vec 1000001 1 0 l.length]), (1000001, [.arr ⟨false, 5, fz⟩ 1 (byteL l)])]⟩ : AS).box 1000000 = some [A, .vec 1000001 1 0 l.length] := look_head ..
  have hb1 : (⟨[y], [(1000000, [A, .vec 1000001 1 0 l.length]), (1000001, [.arr ⟨false, 5, fz⟩ 1 (byteL l)])]⟩ : AS).box 1000001 = some [.arr ⟨false, 5, fz⟩ 1 (byteL l)] := by
    simp only [AS.box, Go.Ab.look]; rfl
  have hp : plainB [A, .vec 1000001 1 0 l.length] = true := by
    cases A <;> rfl
  obtain ⟨_, _, _, T, vs, hh, hr⟩ := g.boxP hb hp
  obtain ⟨v0, vs', rfl, hA, v1, vs'', rfl, ⟨k1, k2, p, hv1, hpp⟩, h2⟩ := hr
  simp only [AV.rels] at h2; subst h2
  subst hv1
  have hpos : 0 < l.length := List.length_pos_iff.2 h0
  have hR := (g.box _ _ hb1).2
  simp only [Own] at hR
  obtain ⟨r1, r2⟩ := hR
  rcases r2 with r2 | ⟨fr, us, hu, hfr, hul, hone, hel⟩
  · omega
  have hp' : p = some ⟨blk β 1000001, 0, none⟩ := by
    rcases hpp with hpp | hpp
    · simpa using hpp
    · omega
  subst hp'
  have hRow : RowOK h ⟨false, 5, fz⟩ 1 (byteL l) (room β 1000001) (many β 1000001) w.heap[blk β 1000001]? := ⟨r1, .inr ⟨fr, us, hu, hfr, hul, hone, hel⟩⟩
  have hcap : l.length ≤ room β 1000001 := by omega
  refine (builder_String (blk β 1000000) (blk β 1000001) (room β 1000001 - 0) l.length T.1 v0 us.toArray fr l h0 rfl w hh hu (by omega) (by simp [hul]; omega) (by omega) ?_).mono ?_
  · intro j x hx
    have hj : j < l.length := (List.getElem?_eq_some_iff.1 hx).1
    obtain ⟨v, a1, a2, a3, a4⟩ := hel j (by omega)
    simp only [byteL, hx, Option.getD_some, DV.rel] at a1
    subst a1
    have := a4 0 (by omega)
    simp only [Nat.mul_one, Nat.add_zero, Value.cells] at this
    simpa using this
  · rintro e w' ⟨rfl, rfl⟩
    have gd := g.drew (w.drawn + 1)
    have hlive : Live β 1000001 [.arr ⟨false, 5, fz⟩ 1 (byteL l)] := show 0 < room β 1000001 by omega
    have g2 := gd.write (s := 1000001) (l := [.arr ⟨false, 5, fz⟩ 1 (byteL l)]) (l' := [.arr byteF 1 (byteL l)]) (w' := w.drew.freeze ⟨blk β 1000001, 0, none⟩ l.length)
      (bx := [(1000000, [A, .vec 1000001 1 0 l.length]), (1000001, [.arr byteF 1 (byteL l)])]) hb1 hlive onlyBlk_freeze (by
        simp only [Own]
        refine RowOK.frozen (k := ⟨false, 5, fz⟩) hRow fun vs fr' he => ?_
        exact heap_freeze (w := w.drew) he) (by
        intro t m ht
        simp only [Go.Ab.look] at ht
        by_cases h1 : (1000000 : Nat) = t
        · subst h1
          simp at ht
          subst ht
          exact .inr ⟨by decide, rfl⟩
        · rw [beq_ne h1, cond_false] at ht
          by_cases h2 : (1000001 : Nat) = t
          · subst h2
            simp at ht
            subst ht
            exact .inl ⟨rfl, rfl⟩
          · rw [beq_ne h2, cond_false] at ht
            cases ht)
    exact ⟨_, β, h, rfl, Gam.result g2 (r := .d (ds (bs l))) rfl⟩
/-- .. where it holds nothing, and no row. -/
theorem f35n (y A : AV) (hy : ∀ β h v, y.rel β h v → v = .pointer (some ⟨blk β 1000000, 0, none⟩)) :
    FnM Tryd.prog G 35 [y] [(1000000, [A, .d (.con (.slice none 0 0))])] (.d (ds (bs []))) [(1000000, [A, .d (.con (.slice none 0 0))])] := by
  refine ⟨Tryd.call35, fun F w h β us g => ?_⟩
  obtain ⟨v, rfl, hv⟩ := arg1 g
  have hv := hy _ _ _ hv
  subst hv
  have hb : (⟨[y], [(1000000, [A, .d (.con (.slice none 0 0))])]⟩ : AS).box 1000000 = some [A, .d (.con (.slice none 0 0))] := look_head ..
  have hp : plainB [A, .d (.con (.slice none 0 0))] = true := by
    cases A <;> rfl
  obtain ⟨_, _, _, T, vs, hh, hr⟩ := g.boxP hb hp
  obtain ⟨v0, vs', rfl, hA, v1, vs'', rfl, h1, h2⟩ := hr
  simp only [AV.rels] at h2; subst h2
  simp only [AV.rel, DV.rel] at h1; subst h1
  refine (builder_String_nil (blk β 1000000) T.1 v0 w hh).mono ?_
  rintro e w' ⟨rfl, rfl⟩
  exact ⟨_, β, h, rfl, Gam.result (g.drew (w.drawn + 1)) (r := .d (ds (bs []))) rfl⟩
end Go.Proofs

set_option autoImplicit false
namespace Go.Proofs
open Go Go.Ab Go.RowKit
set_option maxHeartbeats 1000000
set_option maxRecDepth 100000
variable {G : IH}
def orcCC : Orc := { d := fun _ _ => none, m := fun f _ pre => match f, pre with
  | 52, (u, [.d (.con (.pointer none)), x]) :: rest => some (.d unitV, (u, [.box u 0, x]) :: rest)
  | 52, (u, [.box v 0, x]) :: rest => some (.d unitV, (u, [.box v 0, x]) :: rest)
  | _, _ => none }
theorem byteD_L (s : ByteArray) : byteD s = byteL s.data.toList := by
  funext i
  simp only [byteD, byteL, byteAt, Array.getElem?_toList]
theorem byteL_app (l m : List UInt8) : (fun i => bif Nat.blt i l.length then byteL l i else byteL m (i - l.length)) = byteL (l ++ m) := by
  funext i
  cases h : Nat.blt i l.length with
  | true =>
    rw [Nat.blt_eq] at h
    simp only [cond_true, byteL, List.getElem?_append_left h]
  | false =>
    have h : ¬ i < l.length := by rw [← Nat.blt_eq, h]; decide
    simp only [cond_false, byteL, List.getElem?_append_right (Nat.le_of_not_lt h)]
theorem size_list (s : ByteArray) : s.data.toList.length = s.size := Array.length_toList
/-- strings.Builder.WriteString, the first time. -/
theorem f31_fresh (s : ByteArray) (hs : s.size ≤ 281474976710) : FnM Tryd.prog G 31 [.tb 1000000 0 59, vs s] [(1000000, [nilP, .d (.con (.slice none 0 0))])] (.d (.tup [di s.size, .con .nilIface]))
    [(1000000, [.box 1000000 0, .vec 14 1 0 s.data.toList.length]), (14, [.arr byteK 1 (byteL s.data.toList)])] := by
  refine FnM.walk (orc := orcCC) (keep := []) [] follows (by kernel_rfl) Tryd.func31 rfl Tryd.call31 ?_
  refine of_eqH (b :=
    (FnM Tryd.prog G ((52 : Nat)) [(.tb ((1000000 : Nat)) ((0 : Nat)) ((59 : Nat)))] [(((1000000 : Nat)), [(.d (.con (.pointer none))), (.d (.con (.slice none ((0 : Nat)) ((0 : Nat)))))])] (.d (.tup [])) [(((1000000 : Nat)), [(.box ((1000000 : Nat)) ((0 : Nat))), (.d (.con (.slice none ((0 : Nat)) ((0 : Nat)))))])] ∧
    (((ByteArray.size s * (1 : Nat) ≤ (1099511627776 : Nat)) ∧
    (ByteArray.size s ≤ (1099511627776 : Nat))) ∧
    ((((.d (.tup [(.con (.int .i64 ((↑(ByteArray.size s) : Int)))), (.con .nilIface)])) : AV) = (.d (.tup [(.con (.int .i64 ((↑(ByteArray.size s) : Int)))), (.con .nilIface)]))) ∧
    ((((some [(.box ((1000000 : Nat)) ((0 : Nat))), (.vec ((14 : Nat)) ((1 : Nat)) ((0 : Nat)) (ByteArray.size s))]) : (Option (List AV))) = (some [(.box ((1000000 : Nat)) ((0 : Nat))), (.vec ((14 : Nat)) ((1 : Nat)) ((0 : Nat)) (List.length (Array.toList (ByteArray.data s))))])) ∧
    ((((some [(.arr ⟨false, ((5 : Nat)), false⟩ ((1 : Nat)) (byteD s))]) : (Option (List AV))) = (some [(.arr ⟨false, ((5 : Nat)), false⟩ ((1 : Nat)) (byteL (Array.toList (ByteArray.data s))))])) ∧
    True)))))) (by kernel_rfl) ?_
  refine ⟨f52_fresh _ _, ⟨by omega, by omega⟩, rfl, ?_, ?_, trivial⟩
  · rw [size_list]
  · rw [byteD_L]
/-- .. and later on. -/
theorem f31_used (s : ByteArray) (l : List UInt8) (hs : l.length + s.size ≤ 281474976710) : FnM Tryd.prog G 31 [.tb 1000000 0 59, vs s] [(1000000, [.box 1000000 0, .vec 1000001 1 0 l.length]), (1000001, [.arr byteK 1 (byteL l)])] (.d (.tup [di s.size, .con .nilIface]))
    [(1000000, [.box 1000000 0, .vec 14 1 0 (l ++ s.data.toList).length]), (14, [.arr byteK 1 (byteL (l ++ s.data.toList))])] := by
  refine FnM.walk (orc := orcCC) (keep := []) [] follows (by kernel_rfl) Tryd.func31 rfl Tryd.call31 ?_
  refine of_eqH (b :=
    (FnM Tryd.prog G ((52 : Nat)) [(.tb ((1000000 : Nat)) ((0 : Nat)) ((59 : Nat)))] [(((1000000 : Nat)), [(.box ((1000000 : Nat)) ((0 : Nat))), (.vec ((1000001 : Nat)) ((1 : Nat)) ((0 : Nat)) (List.length l))]), (((1000001 : Nat)), [(.arr ⟨false, ((5 : Nat)), false⟩ ((1 : Nat)) (byteL l))])] (.d (.tup [])) [(((1000000 : Nat)), [(.box ((1000000 : Nat)) ((0 : Nat))), (.vec ((1000001 : Nat)) ((1 : Nat)) ((0 : Nat)) (List.length l))]), (((1000001 : Nat)), [(.arr ⟨false, ((5 : Nat)), false⟩ ((1 : Nat)) (byteL l))])] ∧
    ((((List.length l + ByteArray.size s) * (1 : Nat) ≤ (1099511627776 : Nat)) ∧
    (List.length l + ByteArray.size s ≤ (1099511627776 : Nat))) ∧
    ((((.d (.tup [(.con (.int .i64 ((↑(ByteArray.size s) : Int)))), (.con .nilIface)])) : AV) = (.d (.tup [(.con (.int .i64 ((↑(ByteArray.size s) : Int)))), (.con .nilIface)]))) ∧
    ((((some [(.box ((1000000 : Nat)) ((0 : Nat))), (.vec ((14 : Nat)) ((1 : Nat)) ((0 : Nat)) (List.length l + ByteArray.size s))]) : (Option (List AV))) = (some [(.box ((1000000 : Nat)) ((0 : Nat))), (.vec ((14 : Nat)) ((1 : Nat)) ((0 : Nat)) (List.length (l ++ Array.toList (ByteArray.data s))))])) ∧
    ((((some [(.arr ⟨false, ((5 : Nat)), false⟩ ((1 : Nat)) (fun i => bif Nat.blt i (List.length l) then byteL l i else byteD s (i - List.length l)))]) : (Option (List AV))) = (some [(.arr ⟨false, ((5 : Nat)), false⟩ ((1 : Nat)) (byteL (l ++ Array.toList (ByteArray.data s))))])) ∧
    True)))))) (by kernel_rfl) ?_
  refine ⟨f52_used (.tb 1000000 0 59) _ (fun β h v hv => hv.1) _, ⟨by omega, by omega⟩, rfl, ?_, ?_, trivial⟩
  · rw [List.length_append, size_list]
  · rw [byteD_L, byteL_app]
end Go.Proofs

set_option autoImplicit false
namespace Go.Proofs
open Go Go.Ab Go.RowKit
set_option maxHeartbeats 1000000
set_option maxRecDepth 100000
variable {G : IH}
/-- What the calls of a strings.Builder do. -/
def orcBm : FuncId → List AV → List (Nat × List AV) → Option (AV × List (Nat × List AV)) := fun f args pre => match f, args, pre with
  | 31, [_, .d (.con (.string s))], [(u, [.d (.con (.pointer none)), .d (.con (.slice none _ _))])] => some (.d (.tup [di s.size, .con .nilIface]), [(u, [.box u 0, .vec 14 1 0 s.data.toList.length]), (14, [.arr byteK 1 (byteL s.data.toList)])])
  | 31, [_, .d (.con (.string s))], [(u, [.box _ 0, .vec v 1 0 n]), (_, [.arr k 1 f])] => some (.d (.tup [di s.size, .con .nilIface]), [(u, [.box u 0, .vec 14 1 0 ((bytesOf n f) ++ s.data.toList).length]), (14, [.arr byteK 1 (byteL ((bytesOf n f) ++ s.data.toList))])])
  | 35, [_], [(u, [A, .vec v 1 0 n]), (w, [.arr k 1 f])] => some (.d (ds (bs (bytesOf n f))), [(u, [A, .vec v 1 0 n]), (w, [.arr byteF 1 f])])
  | 35, [_], [(u, [A, .d (.con (.slice none 0 0))])] => some (.d (ds (bs [])), [(u, [A, .d (.con (.slice none 0 0))])])
  | _, _, _ => none
theorem bytesOf_L (l : List UInt8) : bytesOf l.length (byteL l) = l := by
  unfold bytesOf
  apply List.ext_getElem
  · simp
  · intro i h1 h2
    simp [byteL, byteOfD, List.getElem?_eq_getElem h2]
def orcEncD : Oracle := (fun f args => match f, args with
  | 29, [.con (.int .i64 g)] => some (db (okGen g))
  | 32, [.con (.int .i64 g), .con (.int .i64 n)] => some (ds (hexB g.toNat n.toNat))
  | 33, [.con (.int .u8 g), .con (.int .i64 n)] => some (ds (hexB g.toNat n.toNat))
  | 34, [.con (.int .u64 g), .con (.int .i64 n)] => some (ds (hexB g.toNat n.toNat))
  | 27, [.con (.string s)] => some (du (sumI s s.size))
  | 36, [.con (.int .i64 g)] => some (ds (stampB g.toNat))
  | _, _ => none)
def orcEnc : Orc := ⟨orcEncD, false, fun _ => false, fun T => Nat.beq T 59, orcBm⟩
def S17 (g : Nat) (p : ByteArray) (x : Nat) : AS := ⟨regs 43 [(0, vi g), (1, vs p), (6, .tb 6 0 59), (24, vi p.size), (25, vi x)], [(6, [.box 6 0, .vec 23014 1 0 (bodyP g p x).length]), (23014, [.arr byteK 1 (byteL (bodyP g p x))])]⟩
theorem f17 (g : Int) (p : ByteArray) : FnOK Tryd.prog G 17 [di g, ds p] (encR g p) := by
  refine FnOK.walk (orc := orcEnc) (keep := []) follows Tryd.func17 rfl Tryd.call17 ?_
  refine of_eqH (b :=
    (FnOK Tryd.prog G ((29 : Nat)) [(.con (.int .i64 g))] (.con (.bool (okGen g))) ∧
    ((((!okGen g) = true) →
    (((.tup [(.con (.string ({ data := #[] }))), (.con (.int .i64 ((2 : Int))))]) : DV) = (encR g p))) ∧
    (((!okGen g) = false) →
    ((((decide ((↑(ByteArray.size p) : Int) > (30000 : Int))) = true) →
    (((.tup [(.con (.string ({ data := #[] }))), (.con (.int .i64 ((8 : Int))))]) : DV) = (encR g p))) ∧
    (((decide ((↑(ByteArray.size p) : Int) > (30000 : Int))) = false) →
    ((FnOK Tryd.prog G ((32 : Nat)) [(.con (.int .i64 g)), (.con (.int .i64 ((16 : Int))))] (.con (.string (hexB (Int.toNat g) (Int.toNat (16 : Int))))) ∧
    (FnOK Tryd.prog G ((32 : Nat)) [(.con (.int .i64 ((↑(ByteArray.size p) : Int)))), (.con (.int .i64 ((8 : Int))))] (.con (.string (hexB (Int.toNat (↑(ByteArray.size p) : Int)) (Int.toNat (8 : Int))))) ∧
    ((ByteArray.size (hexB (Int.toNat g) (Int.toNat (16 : Int))) + ByteArray.size (hexB (Int.toNat (↑(ByteArray.size p) : Int)) (Int.toNat (8 : Int))) ≤ (9223372036854775807 : Nat)) ∧
    FnM Tryd.prog G ((31 : Nat)) [(.tb ((1000000 : Nat)) ((0 : Nat)) ((59 : Nat))), (.d (.con (.string (hexB (Int.toNat g) (Int.toNat (16 : Int)) ++ hexB (Int.toNat (↑(ByteArray.size p) : Int)) (Int.toNat (8 : Int))))))] [(((1000000 : Nat)), [(.d (.con (.pointer none))), (.d (.con (.slice none ((0 : Nat)) ((0 : Nat)))))])] (.d (.tup [(.con (.int .i64 ((↑(ByteArray.size (hexB (Int.toNat g) (Int.toNat (16 : Int)) ++ hexB (Int.toNat (↑(ByteArray.size p) : Int)) (Int.toNat (8 : Int)))) : Int)))), (.con .nilIface)])) [(((1000000 : Nat)), [(.box ((1000000 : Nat)) ((0 : Nat))), (.vec ((14 : Nat)) ((1 : Nat)) ((0 : Nat)) ((24 : Nat)))]), (((14 : Nat)), [(.arr ⟨false, ((5 : Nat)), false⟩ ((1 : Nat)) (byteL (List.map (digitC (Int.toNat g) (Int.toNat (16 : Int))) (List.range (Int.toNat (16 : Int))) ++ List.map (digitC (Int.toNat (↑(ByteArray.size p) : Int)) (Int.toNat (8 : Int))) (List.range (Int.toNat (8 : Int))))))])]))) ∧
    AWP Tryd.prog G [.code (cAt (bodyOf Tryd.f17) [1, 1, 1, 1, 0, 1, 0]), (.blk ((1 : Nat))), .code (cAt (bodyOf Tryd.f17) [1, 1, 1, 1, 1])] ⟨[(.d (.con (.int .i64 g))), (.d (.con (.string p))), .any, .any, (.d (.con (.string ({ data := #[] })))), (.d (.con (.int .i64 ((0 : Int))))), (.tb ((6 : Nat)) ((0 : Nat)) ((59 : Nat))), .any, (.d (.con (.bool (!okGen g)))), (.d (.con (.int .i64 g))), (.d (.con (.bool (okGen g)))), (.d (.con (.bool (!okGen g)))), (.d (.con (.bool (decide ((↑(ByteArray.size p) : Int) > (30000 : Int)))))), (.d (.con (.string p))), (.d (.con (.int .i64 ((↑(ByteArray.size p) : Int))))), (.d (.con (.bool (decide ((↑(ByteArray.size p) : Int) > (30000 : Int)))))), (.d (.con (.int .i64 g))), (.d (.con (.string (hexB (Int.toNat g) (Int.toNat (16 : Int)))))), (.d (.con (.string p))), (.d (.con (.int .i64 ((↑(ByteArray.size p) : Int))))), (.d (.con (.string (hexB (Int.toNat (↑(ByteArray.size p) : Int)) (Int.toNat (8 : Int)))))), (.d (.con (.string (hexB (Int.toNat g) (Int.toNat (16 : Int)) ++ hexB (Int.toNat (↑(ByteArray.size p) : Int)) (Int.toNat (8 : Int)))))), (.d (.tup [(.con (.int .i64 ((↑(ByteArray.size (hexB (Int.toNat g) (Int.toNat (16 : Int)) ++ hexB (Int.toNat (↑(ByteArray.size p) : Int)) (Int.toNat (8 : Int)))) : Int)))), (.con .nilIface)])), (.d (.con (.string p))), (.d (.con (.int .i64 ((↑(ByteArray.size p) : Int))))), (.d (.con (.int .i64 ((0 : Int))))), .any, .any, .any, .any, .any, .any, .any, .any, .any, .any, .any, .any, .any, .any, .any, .any, .any], [(((23014 : Nat)), [(.arr ⟨false, ((5 : Nat)), false⟩ ((1 : Nat)) (byteL (List.map (digitC (Int.toNat g) (Int.toNat (16 : Int))) (List.range (Int.toNat (16 : Int))) ++ List.map (digitC (Int.toNat (↑(ByteArray.size p) : Int)) (Int.toNat (8 : Int))) (List.range (Int.toNat (8 : Int))))))]), (((6 : Nat)), [(.box ((6 : Nat)) ((0 : Nat))), (.vec ((23014 : Nat)) ((1 : Nat)) ((0 : Nat)) ((24 : Nat)))])]⟩ (Ret Tryd.prog Tryd.f17 (encR g p))))))))) (by kernel_rfl) ?_
  refine ⟨f29 g, fun h => ?_, fun h => ⟨fun h2 => ?_, fun h2 => ?_⟩⟩
  · have : okGen g = false := by simpa using h
    simp only [encR, this]; rfl
  · have h : okGen g = true := by simpa using h
    have h2 : p.size > 30000 := by simp at h2; omega
    simp only [encR, if_pos h, if_pos h2]; rfl
  · have h : okGen g = true := by simpa using h
    have h2 : ¬ p.size > 30000 := by simp at h2; omega
    have hg : 1 ≤ g ∧ g ≤ 1099511627776 := by simpa [okGen] using h
    obtain ⟨g, rfl⟩ := Int.eq_ofNat_of_zero_le (show 0 ≤ g by omega)
    have hg : 1 ≤ g ∧ g ≤ 1099511627776 := by omega
    have h18 := h
    refine ⟨⟨f32 g 16 (by omega) (by omega), f32 p.size 8 (by omega) (by omega), ?_, f31_fresh (bs (hexL g 16) ++ bs (hexL p.size 8)) (by rw [bs_append, bs_size, List.length_append, hexL_len, hexL_len]; decide)⟩, ?_⟩
    · show (bs (hexL g 16)).size + (bs (hexL p.size 8)).size ≤ _
      rw [bs_size, bs_size, hexL_len, hexL_len]; decide
    refine AWP.loop (c := cAt (bodyOf Tryd.f17) [1, 1, 1, 1, 0, 1, 0, 0]) (by kernel_rfl) (S17 g p) (fun x => x ≤ p.size) (fun x => p.size - x) 0 ?_ (Nat.zero_le _) ?_
    · refine of_eq (b :=
      (((((.d (.con (.int .i64 ((↑g : Int))))) : AV) = (.d (.con (.int .i64 ((↑g : Int)))))) ∧
      ((((.d (.con (.string p))) : AV) = (.d (.con (.string p)))) ∧
      ((((.tb ((6 : Nat)) ((0 : Nat)) ((59 : Nat))) : AV) = (.tb ((6 : Nat)) ((0 : Nat)) ((59 : Nat)))) ∧
      ((((.d (.con (.int .i64 ((↑(ByteArray.size p) : Int))))) : AV) = (.d (.con (.int .i64 ((↑(ByteArray.size p) : Int)))))) ∧
      ((((.d (.con (.int .i64 ((0 : Int))))) : AV) = (.d (.con (.int .i64 ((0 : Int)))))) ∧
      True))))) ∧
      ((((some [(.box ((6 : Nat)) ((0 : Nat))), (.vec ((23014 : Nat)) ((1 : Nat)) ((0 : Nat)) ((24 : Nat)))]) : (Option (List AV))) = (some [(.box ((6 : Nat)) ((0 : Nat))), (.vec ((23014 : Nat)) ((1 : Nat)) ((0 : Nat)) ((24 : Nat)))])) ∧
      ((((some [(.arr ⟨false, ((5 : Nat)), false⟩ ((1 : Nat)) (byteL (List.map (digitC (Int.toNat (↑g : Int)) (Int.toNat (16 : Int))) (List.range (Int.toNat (16 : Int))) ++ List.map (digitC (Int.toNat (↑(ByteArray.size p) : Int)) (Int.toNat (8 : Int))) (List.range (Int.toNat (8 : Int))))))]) : (Option (List AV))) = (some [(.arr ⟨false, ((5 : Nat)), false⟩ ((1 : Nat)) (byteL (bodyP g p (0 : Nat))))])) ∧
      True)))) (by kernel_rfl) ?_
      exact ⟨⟨rfl, rfl, rfl, rfl, rfl, trivial⟩, rfl, rfl, trivial⟩
    · intro i hi
      refine walk (orc := orcEnc) (keep := []) (cuts := []) (n := 1000) follows ?_
      refine of_eqH (b :=
        ((((decide ((↑i : Int) < (↑(ByteArray.size p) : Int))) = true) →
        (((((0 : Int) ≤ (↑i : Int)) ∧
        ((↑i : Int) < (↑(ByteArray.size p) : Int))) ∧
        (FnOK Tryd.prog G ((33 : Nat)) [(.con (.int .u8 (byteAt p (Int.toNat (↑i : Int))))), (.con (.int .i64 ((2 : Int))))] (.con (.string (hexB (Int.toNat (byteAt p (Int.toNat (↑i : Int)))) (Int.toNat (2 : Int))))) ∧
        FnM Tryd.prog G ((31 : Nat)) [(.tb ((1000000 : Nat)) ((0 : Nat)) ((59 : Nat))), (.d (.con (.string (hexB (Int.toNat (byteAt p (Int.toNat (↑i : Int)))) (Int.toNat (2 : Int))))))] [(((1000000 : Nat)), [(.box ((1000000 : Nat)) ((0 : Nat))), (.vec ((1000001 : Nat)) ((1 : Nat)) ((0 : Nat)) (List.length (bodyP g p i)))]), (((1000001 : Nat)), [(.arr ⟨false, ((5 : Nat)), false⟩ ((1 : Nat)) (byteL (bodyP g p i)))])] (.d (.tup [(.con (.int .i64 ((↑(ByteArray.size (hexB (Int.toNat (byteAt p (Int.toNat (↑i : Int)))) (Int.toNat (2 : Int)))) : Int)))), (.con .nilIface)])) [(((1000000 : Nat)), [(.box ((1000000 : Nat)) ((0 : Nat))), (.vec ((14 : Nat)) ((1 : Nat)) ((0 : Nat)) (List.length (bytesOf (List.length (bodyP g p i)) (byteL (bodyP g p i)) ++ List.map (digitC (Int.toNat (byteAt p (Int.toNat (↑i : Int)))) (Int.toNat (2 : Int))) (List.range (Int.toNat (2 : Int))))))]), (((14 : Nat)), [(.arr ⟨false, ((5 : Nat)), false⟩ ((1 : Nat)) (byteL (bytesOf (List.length (bodyP g p i)) (byteL (bodyP g p i)) ++ List.map (digitC (Int.toNat (byteAt p (Int.toNat (↑i : Int)))) (Int.toNat (2 : Int))) (List.range (Int.toNat (2 : Int))))))])])) ∧
        ((I64 ((↑i : Int) + (1 : Int))) ∧
        Again (S17 g p) (fun x => x ≤ ByteArray.size p) (fun x => ByteArray.size p - x) i ⟨[(.d (.con (.int .i64 ((↑g : Int))))), (.d (.con (.string p))), .any, .any, .any, .any, (.tb ((6 : Nat)) ((0 : Nat)) ((59 : Nat))), (.d (.con (.int .i64 ((↑i : Int))))), .any, .any, .any, .any, .any, .any, .any, .any, .any, .any, .any, .any, .any, .any, .any, .any, (.d (.con (.int .i64 ((↑(ByteArray.size p) : Int))))), (.d (.con (.int .i64 ((↑i : Int) + (1 : Int))))), (.d (.con (.bool (decide ((↑i : Int) < (↑(ByteArray.size p) : Int)))))), (.d (.con (.int .i64 ((↑i : Int))))), (.d (.con (.string p))), (.d (.con (.int .i64 ((↑i : Int))))), (.d (.con (.int .u8 (byteAt p (Int.toNat (↑i : Int)))))), (.d (.con (.string (hexB (Int.toNat (byteAt p (Int.toNat (↑i : Int)))) (Int.toNat (2 : Int)))))), (.d (.tup [(.con (.int .i64 ((↑(ByteArray.size (hexB (Int.toNat (byteAt p (Int.toNat (↑i : Int)))) (Int.toNat (2 : Int)))) : Int)))), (.con .nilIface)])), (.d (.con (.int .i64 ((↑i : Int) + (1 : Int))))), .any, .any, .any, .any, .any, .any, .any, .any, .any], [(((33014 : Nat)), [(.arr ⟨false, ((5 : Nat)), false⟩ ((1 : Nat)) (byteL (bytesOf (List.length (bodyP g p i)) (byteL (bodyP g p i)) ++ List.map (digitC (Int.toNat (byteAt p (Int.toNat (↑i : Int)))) (Int.toNat (2 : Int))) (List.range (Int.toNat (2 : Int))))))]), (((6 : Nat)), [(.box ((6 : Nat)) ((0 : Nat))), (.vec ((33014 : Nat)) ((1 : Nat)) ((0 : Nat)) (List.length (bytesOf (List.length (bodyP g p i)) (byteL (bodyP g p i)) ++ List.map (digitC (Int.toNat (byteAt p (Int.toNat (↑i : Int)))) (Int.toNat (2 : Int))) (List.range (Int.toNat (2 : Int))))))]), (((23014 : Nat)), [.dead])]⟩))) ∧
        (((decide ((↑i : Int) < (↑(ByteArray.size p) : Int))) = false) →
        AWP Tryd.prog G [.code (cAt (bodyOf Tryd.f17) [1, 1, 1, 1, 1])] ⟨[(.d (.con (.int .i64 ((↑g : Int))))), (.d (.con (.string p))), .any, .any, .any, .any, (.tb ((6 : Nat)) ((0 : Nat)) ((59 : Nat))), .any, .any, .any, .any, .any, .any, .any, .any, .any, .any, .any, .any, .any, .any, .any, .any, .any, (.d (.con (.int .i64 ((↑(ByteArray.size p) : Int))))), (.d (.con (.int .i64 ((↑i : Int))))), (.d (.con (.bool (decide ((↑i : Int) < (↑(ByteArray.size p) : Int)))))), .any, .any, .any, .any, .any, .any, .any, .any, .any, .any, .any, .any, .any, .any, .any, .any], [(((6 : Nat)), [(.box ((6 : Nat)) ((0 : Nat))), (.vec ((23014 : Nat)) ((1 : Nat)) ((0 : Nat)) (List.length (bodyP g p i)))]), (((23014 : Nat)), [(.arr ⟨false, ((5 : Nat)), false⟩ ((1 : Nat)) (byteL (bodyP g p i)))])]⟩ (Ret Tryd.prog Tryd.f17 (encR (↑g : Int) p))))) (by kernel_rfl) ?_
      simp only [Int.toNat_natCast, bytesOf_L]
      have hl := bodyP_len g p i
      refine ⟨fun h => ?_, fun h => ?_⟩
      · have hi' : i < p.size := by simpa using h
        have hb := byteN_lt p i
        rw [byteAt_N]
        simp only [Int.toNat_natCast]
        refine ⟨⟨⟨by omega, by omega⟩, f33 (byteN p i) 2 hb (by omega), f31_used (bs (hexL (byteN p i) 2)) (bodyP g p i) (by rw [hl, bs_size, hexL_len]; omega)⟩, ⟨by omega, by omega⟩, Again.mkR [(33014, 23014)] rfl (i + 1) ?_ (by omega) (by omega)⟩
        refine of_eq (b :=
          (((((.d (.con (.int .i64 ((↑g : Int))))) : AV) = (.d (.con (.int .i64 ((↑g : Int)))))) ∧
          ((((.d (.con (.string p))) : AV) = (.d (.con (.string p)))) ∧
          ((((.tb ((6 : Nat)) ((0 : Nat)) ((59 : Nat))) : AV) = (.tb ((6 : Nat)) ((0 : Nat)) ((59 : Nat)))) ∧
          ((((.d (.con (.int .i64 ((↑(ByteArray.size p) : Int))))) : AV) = (.d (.con (.int .i64 ((↑(ByteArray.size p) : Int)))))) ∧
          ((((.d (.con (.int .i64 ((↑i : Int) + (1 : Int))))) : AV) = (.d (.con (.int .i64 ((↑(i + (1 : Nat)) : Int)))))) ∧
          True))))) ∧
          ((((some [(.box ((6 : Nat)) ((0 : Nat))), (.vec ((23014 : Nat)) ((1 : Nat)) ((0 : Nat)) (List.length (bodyP g p i ++ List.map (digitC (byteN p i) (Int.toNat (2 : Int))) (List.range (Int.toNat (2 : Int))))))]) : (Option (List AV))) = (some [(.box ((6 : Nat)) ((0 : Nat))), (.vec ((23014 : Nat)) ((1 : Nat)) ((0 : Nat)) (List.length (bodyP g p (i + (1 : Nat)))))])) ∧
          ((((some [(.arr ⟨false, ((5 : Nat)), false⟩ ((1 : Nat)) (byteL (bodyP g p i ++ List.map (digitC (byteN p i) (Int.toNat (2 : Int))) (List.range (Int.toNat (2 : Int))))))]) : (Option (List AV))) = (some [(.arr ⟨false, ((5 : Nat)), false⟩ ((1 : Nat)) (byteL (bodyP g p (i + (1 : Nat)))))])) ∧
          True)))) (by kernel_rfl) ?_
        exact ⟨⟨rfl, rfl, rfl, rfl, rfl, trivial⟩, rfl, rfl, trivial⟩
      · have : i = p.size := by simp at h; omega
        subst this
        refine walk (orc := orcEnc) (keep := []) (cuts := []) (n := 1000) follows ?_
        refine of_eqH (b :=
          ((FnM Tryd.prog G ((35 : Nat)) [(.tb ((1000000 : Nat)) ((0 : Nat)) ((59 : Nat)))] [(((1000000 : Nat)), [(.box ((1000000 : Nat)) ((0 : Nat))), (.vec ((1000001 : Nat)) ((1 : Nat)) ((0 : Nat)) (List.length (bodyP g p (ByteArray.size p))))]), (((1000001 : Nat)), [(.arr ⟨false, ((5 : Nat)), false⟩ ((1 : Nat)) (byteL (bodyP g p (ByteArray.size p))))])] (.d (.con (.string (bs (bytesOf (List.length (bodyP g p (ByteArray.size p))) (byteL (bodyP g p (ByteArray.size p)))))))) [(((1000000 : Nat)), [(.box ((1000000 : Nat)) ((0 : Nat))), (.vec ((1000001 : Nat)) ((1 : Nat)) ((0 : Nat)) (List.length (bodyP g p (ByteArray.size p))))]), (((1000001 : Nat)), [(.arr ⟨false, ((5 : Nat)), true⟩ ((1 : Nat)) (byteL (bodyP g p (ByteArray.size p))))])] ∧
          (FnOK Tryd.prog G ((27 : Nat)) [(.con (.string (bs (bytesOf (List.length (bodyP g p (ByteArray.size p))) (byteL (bodyP g p (ByteArray.size p)))))))] (.con (.int .u64 (sumI (bs (bytesOf (List.length (bodyP g p (ByteArray.size p))) (byteL (bodyP g p (ByteArray.size p))))) (ByteArray.size (bs (bytesOf (List.length (bodyP g p (ByteArray.size p))) (byteL (bodyP g p (ByteArray.size p))))))))) ∧
          (FnOK Tryd.prog G ((34 : Nat)) [(.con (.int .u64 (sumI (bs (bytesOf (List.length (bodyP g p (ByteArray.size p))) (byteL (bodyP g p (ByteArray.size p))))) (ByteArray.size (bs (bytesOf (List.length (bodyP g p (ByteArray.size p))) (byteL (bodyP g p (ByteArray.size p))))))))), (.con (.int .i64 ((16 : Int))))] (.con (.string (hexB (Int.toNat (sumI (bs (bytesOf (List.length (bodyP g p (ByteArray.size p))) (byteL (bodyP g p (ByteArray.size p))))) (ByteArray.size (bs (bytesOf (List.length (bodyP g p (ByteArray.size p))) (byteL (bodyP g p (ByteArray.size p)))))))) (Int.toNat (16 : Int))))) ∧
          ((ByteArray.size { data := #[(82 : UInt8)] } + ByteArray.size (hexB (Int.toNat (sumI (bs (bytesOf (List.length (bodyP g p (ByteArray.size p))) (byteL (bodyP g p (ByteArray.size p))))) (ByteArray.size (bs (bytesOf (List.length (bodyP g p (ByteArray.size p))) (byteL (bodyP g p (ByteArray.size p)))))))) (Int.toNat (16 : Int))) ≤ (9223372036854775807 : Nat)) ∧
          (FnM Tryd.prog G ((35 : Nat)) [(.tb ((1000000 : Nat)) ((0 : Nat)) ((59 : Nat)))] [(((1000000 : Nat)), [(.box ((1000000 : Nat)) ((0 : Nat))), (.vec ((1000001 : Nat)) ((1 : Nat)) ((0 : Nat)) (List.length (bodyP g p (ByteArray.size p))))]), (((1000001 : Nat)), [(.arr ⟨false, ((5 : Nat)), true⟩ ((1 : Nat)) (byteL (bodyP g p (ByteArray.size p))))])] (.d (.con (.string (bs (bytesOf (List.length (bodyP g p (ByteArray.size p))) (byteL (bodyP g p (ByteArray.size p)))))))) [(((1000000 : Nat)), [(.box ((1000000 : Nat)) ((0 : Nat))), (.vec ((1000001 : Nat)) ((1 : Nat)) ((0 : Nat)) (List.length (bodyP g p (ByteArray.size p))))]), (((1000001 : Nat)), [(.arr ⟨false, ((5 : Nat)), true⟩ ((1 : Nat)) (byteL (bodyP g p (ByteArray.size p))))])] ∧
          ((ByteArray.size ({ data := #[(82 : UInt8)] } ++ hexB (Int.toNat (sumI (bs (bytesOf (List.length (bodyP g p (ByteArray.size p))) (byteL (bodyP g p (ByteArray.size p))))) (ByteArray.size (bs (bytesOf (List.length (bodyP g p (ByteArray.size p))) (byteL (bodyP g p (ByteArray.size p)))))))) (Int.toNat (16 : Int))) + ByteArray.size (bs (bytesOf (List.length (bodyP g p (ByteArray.size p))) (byteL (bodyP g p (ByteArray.size p))))) ≤ (9223372036854775807 : Nat)) ∧
          (FnOK Tryd.prog G ((36 : Nat)) [(.con (.int .i64 ((↑g : Int))))] (.con (.string (stampB (Int.toNat (↑g : Int))))) ∧
          (ByteArray.size ({ data := #[(82 : UInt8)] } ++ hexB (Int.toNat (sumI (bs (bytesOf (List.length (bodyP g p (ByteArray.size p))) (byteL (bodyP g p (ByteArray.size p))))) (ByteArray.size (bs (bytesOf (List.length (bodyP g p (ByteArray.size p))) (byteL (bodyP g p (ByteArray.size p)))))))) (Int.toNat (16 : Int)) ++ bs (bytesOf (List.length (bodyP g p (ByteArray.size p))) (byteL (bodyP g p (ByteArray.size p))))) + ByteArray.size (stampB (Int.toNat (↑g : Int))) ≤ (9223372036854775807 : Nat))))))))) ∧
          (((.tup [(.con (.string ({ data := #[(82 : UInt8)] } ++ hexB (Int.toNat (sumI (bs (bytesOf (List.length (bodyP g p (ByteArray.size p))) (byteL (bodyP g p (ByteArray.size p))))) (ByteArray.size (bs (bytesOf (List.length (bodyP g p (ByteArray.size p))) (byteL (bodyP g p (ByteArray.size p)))))))) (Int.toNat (16 : Int)) ++ bs (bytesOf (List.length (bodyP g p (ByteArray.size p))) (byteL (bodyP g p (ByteArray.size p)))) ++ stampB (Int.toNat (↑g : Int))))), (.con (.int .i64 ((0 : Int))))]) : DV) = (encR (↑g : Int) p)))) (by kernel_rfl) ?_
        simp only [Int.toNat_natCast, bytesOf_L]
        have ez : sumI (bs (bodyP g p p.size)) (bs (bodyP g p p.size)).size = ((sumN (bodyL g p) : Nat) : Int) := (Int.toNat_of_nonneg (sumI_bd _ _).1).symm
        have hz : sumN (bodyL g p) < 18446744073709551616 := by
          have := (sumI_bd (bs (bodyP g p p.size)) (bs (bodyP g p p.size)).size).2
          rw [ez] at this; omega
        have hne : bodyP g p p.size ≠ [] := by
          intro e
          rw [e, List.length_nil] at hl
          omega
        have k27 := f27 (G := G) (bs (bodyP g p p.size)) (by rw [bs_size, hl]; omega)
        have hy : ∀ (β : Nat → Nat) (h : IH) (v : Value), (AV.tb 1000000 0 59).rel β h v → v = .pointer (some ⟨blk β 1000000, 0, none⟩) := fun β h v hv => hv.1
        have k35 := fun fz => f35 (G := G) (.tb 1000000 0 59) (.box 1000000 0) hy fz (bodyP g p p.size) hne (by omega)
        simp only [hl] at k35
        rw [ez] at k27 ⊢
        simp only [Int.toNat_natCast]
        have e1 : hexB (sumN (bodyL g p)) (Int.toNat 16) = bs (hexL (sumN (bodyL g p)) 16) := rfl
        have e2 : (⟨#[82]⟩ : ByteArray) = bs [82] := rfl
        have e3 : stampB g = bs (stampL g) := rfl
        have l3 : (stampL g).length = 9 := by simp [stampL]
        rw [e1, e2, e3]
        simp only [bs_append, bs_size, List.length_append, hl, hexL_len, l3, List.length_singleton]
        refine ⟨⟨k35 false, k27, f34 _ 16 hz (by omega), by omega, k35 true, by omega, f36 g (by omega), by omega⟩, ?_⟩
        simp only [encR, if_pos h18, if_neg h2, Int.toNat_natCast]
        rfl
end Go.Proofs
