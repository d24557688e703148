import Derived.Test.YtlpnfbfdekbbmaaDoorAcC
import Derived.Test.YtlpnfbfdekbbmaaDoorGG
import Derived.Test.YtlpnfbfdekbbmaaDoorShelfQ
import Derived.WalkKit
import Derived.Lib.AtoiAllCases
import Derived.Lib.AtoiTie
set_option autoImplicit false
namespace Go.Proofs
open Go Go.Ab Go.RowKit
set_option maxHeartbeats 1000000
set_option maxRecDepth 100000
variable {G : IH}
abbrev colon : ByteArray := { data := #[58] }
def cutI (s : ByteArray) : Int := Lib.indexByte s.data.toList 58
def cutD (s : ByteArray) : ByteArray := if 0 ≤ cutI s then s.extract 0 (cutI s).toNat else s
def cutR (s : ByteArray) : ByteArray := if 0 ≤ cutI s then s.extract (cutI s + 1).toNat s.size else { data := #[] }
def cutB (s : ByteArray) : Bool := decide (0 ≤ cutI s)
theorem f65 (s : ByteArray) : FnOK Tryd.prog G 65 [ds s, ds colon] (di (cutI s)) := by
  refine FnOK.of_calls (args := [.string s, .string colon]) (v := .int .i64 _) Tryd.call65 fun w _ => ?_
  refine Calls.mono (Tryq.stringslite_Index_one s 58 w) ?_
  rintro e w' ⟨he, rfl⟩
  exact ⟨he, Below.refl _ _⟩
theorem cutI_lt (s : ByteArray) : cutI s < s.size := by
  rcases Int.lt_or_le (cutI s) 0 with h | h
  · omega
  · obtain ⟨n, hn⟩ := Int.eq_ofNat_of_zero_le h
    obtain ⟨h1, _⟩ := Lib.indexByte_some hn
    have := (List.getElem?_eq_some_iff.1 h1).1
    rw [size_list] at this
    rw [hn]; omega
def orcCut : Oracle := fun f args => match f, args with
  | 65, [.con (.string s), .con (.string _)] => some (di (cutI s))
  | 59, [.con (.string s), .con (.string _)] => some (.tup [ds (cutD s), ds (cutR s), db (cutB s)])
  | _, _ => none
theorem f59 (s : ByteArray) (hs : s.size ≤ 1000000) : FnOK Tryd.prog G 59 [ds s, ds colon] (.tup [ds (cutD s), ds (cutR s), db (cutB s)]) := by
  refine FnOK.walk (orc := orcCut) (keep := []) follows Tryd.func59 rfl Tryd.call59 ?_
  refine of_eqH (b :=
    (FnOK Tryd.prog G ((65 : Nat)) [(.con (.string s)), (.con (.string colon))] (.con (.int .i64 (cutI s))) ∧
    ((((decide (cutI s ≥ (0 : Int))) = true) →
    (((((0 : Int) ≤ (0 : Int)) ∧
    (((0 : Int) ≤ cutI s) ∧
    (cutI s ≤ (↑(ByteArray.size s) : Int)))) ∧
    ((I64 (cutI s + (↑(ByteArray.size colon) : Int))) ∧
    (((0 : Int) ≤ cutI s + (↑(ByteArray.size colon) : Int)) ∧
    ((cutI s + (↑(ByteArray.size colon) : Int) ≤ (↑(ByteArray.size s) : Int)) ∧
    ((↑(ByteArray.size s) : Int) ≤ (↑(ByteArray.size s) : Int)))))) ∧
    (((.tup [(.con (.string (ByteArray.extract s (Int.toNat (0 : Int)) (Int.toNat (cutI s))))), (.con (.string (ByteArray.extract s (Int.toNat (cutI s + (↑(ByteArray.size colon) : Int))) (Int.toNat (↑(ByteArray.size s) : Int))))), (.con (.bool true))]) : DV) = (.tup [(ds (cutD s)), (ds (cutR s)), (db (cutB s))])))) ∧
    (((decide (cutI s ≥ (0 : Int))) = false) →
    (((.tup [(.con (.string s)), (.con (.string ({ data := #[] }))), (.con (.bool false))]) : DV) = (.tup [(ds (cutD s)), (ds (cutR s)), (db (cutB s))])))))) (by kernel_rfl) ?_
  have hlt := cutI_lt s
  have e1 : (colon.size : Int) = 1 := rfl
  have e0 : Int.toNat (0 : Int) = 0 := rfl
  rw [e1]
  refine ⟨f65 s, fun h => ?_, fun h => ?_⟩
  · have h : 0 ≤ cutI s := by simpa using h
    refine ⟨⟨⟨by omega, by omega, by omega⟩, ⟨by omega, by omega⟩, by omega, by omega, by omega⟩, ?_⟩
    unfold cutD cutR cutB
    rw [if_pos h, if_pos h, decide_eq_true h, e0, Int.toNat_natCast]
  · have h : ¬ 0 ≤ cutI s := by simpa using h
    unfold cutD cutR cutB
    rw [if_neg h, if_neg h, decide_eq_false h]
theorem f48 (s : ByteArray) (hs : s.size ≤ 1000000) : FnOK Tryd.prog G 48 [ds s, ds colon] (.tup [ds (cutD s), ds (cutR s), db (cutB s)]) := by
  refine FnOK.walk (orc := orcCut) (keep := []) follows Tryd.func48 rfl Tryd.call48 ?_
  refine of_eqH (b :=
    (FnOK Tryd.prog G ((59 : Nat)) [(.con (.string s)), (.con (.string colon))] (.tup [(.con (.string (cutD s))), (.con (.string (cutR s))), (.con (.bool (cutB s)))]) ∧
    (((.tup [(.con (.string (cutD s))), (.con (.string (cutR s))), (.con (.bool (cutB s)))]) : DV) = (.tup [(ds (cutD s)), (ds (cutR s)), (db (cutB s))])))) (by kernel_rfl) ?_
  exact ⟨f59 s hs, rfl⟩
theorem size_bad (s : ByteArray) (n : Int) (w : World) (h : Calls Tryd.prog 60 #[.string s] w fun e w' => ∃ p, e = .returned (.tuple #[.int .i64 n, .iface 106 p]) ∧ Below w.heap.size w w') :
    Calls Tryd.prog 49 #[.string s] w fun e w' => e = .returned (.tuple #[.int .i64 n, .bool false]) ∧ Below w.heap.size w w' := by
  go_enter Tryd.func49, Tryd.ntmps49
  go_wp2_with (go_at_call 60; refine h.mono ?_; rintro e w' ⟨p, rfl, hb⟩)
  go_ret2
  exact ⟨rfl, hb⟩
theorem atoi_i64 {l : List UInt8} {v : Int} (h : Lib.atoiAll l = .ok v) : I64 v := Lib.atoiAll_bounds h
theorem toList_beq (a b : ByteArray) : (ByteArray.toList a == ByteArray.toList b) = decide (a = b) := by
  rw [Bool.eq_iff_iff, beq_iff_eq, toList_inj, decide_eq_true_iff]
/-- What strconv.ErrSyntax and ErrRange hold. -/
def Errs (G : IH) : Prop := ∀ w, G.holds w → (∃ te pe, w.cell? ⟨2, 0, none⟩ = some (.iface te pe)) ∧ ∃ te pe, w.cell? ⟨3, 0, none⟩ = some (.iface te pe)
def sizeN (s : ByteArray) : Int := match Lib.atoiAll s.data.toList with
  | .ok v => v
  | .range => Lib.atoiSat s.data.toList
  | _ => 0
def sizeB (s : ByteArray) : Bool := match Lib.atoiAll s.data.toList with
  | .ok v => decide (0 ≤ v) && decide (bs (Lib.itoa v) = s)
  | _ => false
def orcSz (v : Int) : Oracle := fun f args => match f, args with
  | 60, [.con (.string _)] => some (.tup [di v, .con .nilIface])
  | 46, [.con (.int .i64 n)] => some (ds (bs (Lib.itoa n)))
  | _, _ => none
theorem tup_of_con {P : Program} {f : FuncId} {xs : List DV} {n : Int} {b : Bool} (h : FnOK P G f xs (.con (.tuple #[.int .i64 n, .bool b]))) : FnOK P G f xs (.tup [di n, db b]) := by
  refine FnOK.res h fun k v hv => ?_
  have hv : v = .tuple #[.int .i64 n, .bool b] := hv
  subst hv
  exact ⟨[.int .i64 n, .bool b], rfl, _, _, rfl, rfl, _, _, rfl, rfl, rfl⟩
theorem f49_bad (s : ByteArray) (n : Int) (h : ∀ w, G.holds w → Calls Tryd.prog 60 #[.string s] w fun e w' => ∃ p, e = .returned (.tuple #[.int .i64 n, .iface 106 p]) ∧ Below w.heap.size w w') : FnOK Tryd.prog G 49 [ds s] (.tup [di n, db false]) := by
  refine tup_of_con (FnOK.of_calls (args := [.string s]) (v := .tuple #[.int .i64 n, .bool false]) Tryd.call49 fun w hw => ?_)
  exact size_bad s n w (h w hw)
theorem f60_ok (s : ByteArray) (hs : s.size ≤ 1000000) (v : Int) (h : Lib.atoiAll s.data.toList = .ok v) : FnOK Tryd.prog G 60 [ds s] (.tup [di v, .con .nilIface]) := by
  have : FnOK Tryd.prog G 60 [ds s] (.con (.tuple #[.int .i64 v, .nilIface])) := by
    refine FnOK.of_calls (args := [.string s]) (v := .tuple #[.int .i64 v, .nilIface]) Tryd.call60 fun w _ => ?_
    refine Calls.mono (Tryq.strconv_Atoi_ok s (by omega) v h w) ?_
    rintro e w' ⟨he, hb⟩
    refine ⟨he, ?_⟩
    rcases hb with rfl | ⟨t, rfl⟩
    · exact Below.refl _ _
    · exact Lib.bytesWorld_below _ _ _
  refine FnOK.res this fun k u hu => ?_
  have hu : u = .tuple #[.int .i64 v, .nilIface] := hu
  subst hu
  exact ⟨[.int .i64 v, .nilIface], rfl, _, _, rfl, rfl, _, _, rfl, rfl, rfl⟩
theorem f49 (hT : Tab G) (hE : Errs G) (s : ByteArray) (hs : s.size ≤ 1000000) : FnOK Tryd.prog G 49 [ds s] (.tup [di (sizeN s), db (sizeB s)]) := by
  unfold sizeN sizeB
  rcases h : Lib.atoiAll s.data.toList with v | _ | _
  rotate_left
  · -- no numeral
    refine f49_bad s 0 fun w hw => ?_
    obtain ⟨⟨te, pe, h2⟩, _⟩ := hE w hw
    refine (Tryq.strconv_Atoi_syntax s (by omega) h (.iface te pe) w h2 (.inr ⟨te, pe, rfl⟩)).mono ?_
    rintro e w' ⟨N, rfl, _, _, hb⟩
    exact ⟨_, rfl, hb⟩
  · -- none that is held
    refine f49_bad s _ fun w hw => ?_
    obtain ⟨_, te, pe, h2⟩ := hE w hw
    refine (Tryq.strconv_Atoi_range s (by omega) h (.iface te pe) w h2 (.inr ⟨te, pe, rfl⟩)).mono ?_
    rintro e w' ⟨N, rfl, _, _, hb⟩
    exact ⟨_, rfl, hb⟩
  · -- a number
    refine FnOK.walk (orc := orcSz v) (keep := []) follows Tryd.func49 rfl Tryd.call49 ?_
    refine of_eqH (b :=
      (FnOK Tryd.prog G ((60 : Nat)) [(.con (.string s))] (.tup [(.con (.int .i64 v)), (.con .nilIface)]) ∧
      ((((true && decide (v ≥ (0 : Int))) = true) →
      FnOK Tryd.prog G ((46 : Nat)) [(.con (.int .i64 v))] (.con (.string (bs (Lib.itoa v))))) ∧
      (((.tup [(.con (.int .i64 v)), (.con (.bool (true && decide (v ≥ (0 : Int)) && ByteArray.toList (bs (Lib.itoa v)) == ByteArray.toList s)))]) : DV) = (.tup [(di   (match Lib.NumEnd.ok v with   | Lib.NumEnd.ok v => v   | Lib.NumEnd.range => Lib.atoiSat (Array.toList (ByteArray.data s))   | x => (0 : Int))), (db   (match Lib.NumEnd.ok v with   | Lib.NumEnd.ok v => decide ((0 : Int) ≤ v) && decide (bs (Lib.itoa v) = s)   | x => false))]))))) (by kernel_rfl) ?_
    have hv := atoi_i64 h
    refine ⟨f60_ok s hs v h, fun _ => f46 hT v hv, ?_⟩
    rw [toList_beq]
    simp only [Bool.true_and, ge_iff_le]
end Go.Proofs

set_option autoImplicit false
namespace Go.Proofs
open Go Go.Ab
/-! Decimal digits. -/
def isD (c : UInt8) : Prop := 48 ≤ c.toNat ∧ c.toNat ≤ 57
def valD (l : List UInt8) : Nat := l.foldl (fun a c => 10 * a + (c.toNat - 48)) 0
theorem valD_app (l : List UInt8) (c : UInt8) : valD (l ++ [c]) = 10 * valD l + (c.toNat - 48) := by
  simp [valD, List.foldl_append]
theorem dig_nat {k : Nat} (h : k < 10) : (UInt8.ofNat (48 + k)).toNat = 48 + k := by
  rw [UInt8.toNat_ofNat']; omega
theorem decDigits_all : ∀ n : Nat, (∀ c ∈ Lib.decDigits n, isD c) ∧ valD (Lib.decDigits n) = n ∧ Lib.decDigits n ≠ [] ∧ (1 < (Lib.decDigits n).length → ∀ c, (Lib.decDigits n).head? = some c → c.toNat ≠ 48) ∧ (1 ≤ n → ∀ c, (Lib.decDigits n).head? = some c → c.toNat ≠ 48) := by
  intro n
  induction n using Nat.strongRecOn with
  | _ n ih =>
    rw [Lib.decDigits]
    by_cases h : n < 10
    · rw [dif_pos h]
      have hd := dig_nat h
      refine ⟨fun c hc => ?_, ?_, by simp, fun h2 => by simp at h2, fun h2 c hc => ?_⟩
      · rw [List.mem_singleton] at hc; subst hc; exact ⟨by omega, by omega⟩
      · show 10 * 0 + ((UInt8.ofNat (48 + n)).toNat - 48) = n
        rw [hd]; omega
      · simp only [List.head?_cons, Option.some.injEq] at hc; subst hc; omega
    · rw [dif_neg h]
      obtain ⟨h1, h2, h3, h4, h5⟩ := ih (n / 10) (by omega)
      have hd := dig_nat (show n % 10 < 10 by omega)
      have hhead : ∀ c, (Lib.decDigits (n / 10) ++ [UInt8.ofNat (48 + n % 10)]).head? = some c → c.toNat ≠ 48 := by
        intro c hc
        refine h5 (by omega) c ?_
        cases hq : Lib.decDigits (n / 10) with
        | nil => exact absurd hq h3
        | cons a l => rw [hq] at hc; simpa using hc
      refine ⟨fun c hc => ?_, ?_, by simp, fun _ => hhead, fun _ => hhead⟩
      · rcases List.mem_append.1 hc with hc | hc
        · exact h1 c hc
        · rw [List.mem_singleton] at hc; subst hc; exact ⟨by omega, by omega⟩
      · rw [valD_app, h2, hd]; omega
theorem decDigits_len : ∀ k n : Nat, n < 10 ^ (k + 1) → (Lib.decDigits n).length ≤ k + 1
  | 0, n, h => by
    rw [Lib.decDigits, dif_pos (by omega)]; simp
  | k + 1, n, h => by
    rw [Lib.decDigits]
    by_cases h2 : n < 10
    · rw [dif_pos h2]; simp
    · rw [dif_neg h2, List.length_append]
      have := decDigits_len k (n / 10) (by rw [Nat.pow_succ] at h; omega)
      simp; omega
/-- Digits without a zero in front are those of their number. -/
theorem decDigits_valN : ∀ (n : Nat) (l : List UInt8), l.length = n → l ≠ [] → (∀ c ∈ l, isD c) → (1 < l.length → ∀ c, l.head? = some c → c.toNat ≠ 48) → Lib.decDigits (valD l) = l := by
  intro n
  induction n with
  | zero => intro l hn h0; exact absurd (List.eq_nil_of_length_eq_zero hn) h0
  | succ n ih =>
    intro l' hn h0 hd hz
    obtain ⟨l, c, rfl⟩ : ∃ l c, l' = l ++ [c] := ⟨l'.dropLast, l'.getLast h0, (List.dropLast_concat_getLast h0).symm⟩
    have hc := hd c (by simp)
    have hc' : UInt8.ofNat (48 + (c.toNat - 48)) = c := by
      rw [Nat.add_sub_cancel' hc.1]; exact UInt8.ofNat_toNat
    have hll : l.length = n := by rw [List.length_append, List.length_singleton] at hn; omega
    rw [valD_app]
    by_cases hl : l = []
    · subst hl
      have e : 10 * valD [] + (c.toNat - 48) = c.toNat - 48 := by
        show 10 * 0 + (c.toNat - 48) = _
        omega
      rw [e, Lib.decDigits, dif_pos (by have := hc.2; omega), hc', List.nil_append]
    · have hh : ∀ a, l.head? = some a → a.toNat ≠ 48 := by
        intro a ha
        refine hz (by rw [List.length_append]; have := List.length_pos_iff.2 hl; simp; omega) a ?_
        cases l with
        | nil => exact absurd rfl hl
        | cons x l => simpa using ha
      have ihl := ih l hll hl (fun a ha => hd a (by simp [ha])) (fun _ => hh)
      have hv : 1 ≤ valD l := by
        rcases Nat.eq_zero_or_pos (valD l) with h | h
        · rw [h, Lib.decDigits, dif_pos (by decide)] at ihl
          rw [← ihl] at hh
          exact absurd rfl (hh _ rfl)
        · exact h
      rw [Lib.decDigits, dif_neg (by omega), show (10 * valD l + (c.toNat - 48)) / 10 = valD l by have := hc.2; omega, show (10 * valD l + (c.toNat - 48)) % 10 = c.toNat - 48 by have := hc.2; omega, ihl, hc']
theorem decDigits_val {l : List UInt8} (h0 : l ≠ []) (hd : ∀ c ∈ l, isD c) (hz : 1 < l.length → ∀ c, l.head? = some c → c.toNat ≠ 48) : Lib.decDigits (valD l) = l := decDigits_valN _ l rfl h0 hd hz
theorem decFrom_digits {l : List UInt8} : ∀ (a : Nat), (∀ c ∈ l, isD c) → Lib.decFrom a l = some (l.foldl (fun a c => 10 * a + (c.toNat - 48)) a) := by
  induction l with
  | nil => intro a _; rfl
  | cons c l ih =>
    intro a hd
    have hc := hd c (by simp)
    have e : Lib.digitVal c = some (c.toNat - 48) := by
      unfold Lib.digitVal
      rw [if_pos ⟨hc.1, hc.2⟩]
    rw [Lib.decFrom, e]
    simp only
    rw [ih _ fun d hd2 => hd d (by simp [hd2]), List.foldl_cons, Nat.mul_comm]
theorem atoi_digits {l : List UInt8} (h0 : l ≠ []) (hd : ∀ c ∈ l, isD c) (hl : l.length ≤ 18) : Lib.atoiAll l = .ok (valD l : Int) := by
  rw [Lib.atoiAll_short l hl]
  cases l with
  | nil => exact absurd rfl h0
  | cons c l =>
    have hc := hd c (by simp)
    have h45 : (c == 45) = false := by
      rw [beq_eq_false_iff_ne]; intro e; subst e; have := hc.1; simp at this
    have h43 : (c == 43) = false := by
      rw [beq_eq_false_iff_ne]; intro e; subst e; have := hc.1; simp at this
    rw [Lib.atoi, h45, h43]
    simp only [Bool.false_eq_true, if_false]
    rw [Lib.decNat, if_neg (by simp), decFrom_digits 0 hd]
    rfl
theorem itoa_nat (n : Nat) : Lib.itoa (n : Int) = Lib.decDigits n := by
  unfold Lib.itoa
  rw [if_neg (show ¬ (n : Int) < 0 by omega), Int.toNat_natCast]
end Go.Proofs

set_option autoImplicit false
namespace Go.Proofs
open Go Go.Ab
theorem bs_toList (s : ByteArray) : bs s.data.toList = s := by simp [bs]
theorem bs_inj {l m : List UInt8} (h : bs l = bs m) : l = m := by
  have := congrArg (fun s : ByteArray => s.data.toList) h
  simpa [bs] using this
theorem toList_bs (l : List UInt8) : (bs l).data.toList = l := by simp [bs]
theorem index_at {l : List UInt8} {c : UInt8} {o : Nat} (h : l[o]? = some c) (h2 : ∀ k, k < o → l[k]? ≠ some c) : Lib.indexByte l c = o := by
  rcases Int.lt_or_le (Lib.indexByte l c) 0 with h3 | h3
  · have := Lib.indexByte_ge l c
    exact absurd h (Lib.indexByte_none (show Lib.indexByte l c = -1 by omega) o)
  · obtain ⟨n, hn⟩ := Int.eq_ofNat_of_zero_le h3
    obtain ⟨h4, h5⟩ := Lib.indexByte_some hn
    rcases Nat.lt_trichotomy n o with h6 | h6 | h6
    · exact absurd h4 (h2 n h6)
    · rw [hn, h6]
    · exact absurd h (h5 o h6)
def okU (s : ByteArray) : Bool := cutB s && sizeB (cutD s) && decide (sizeN (cutD s) ≤ (cutR s).size)
def fieldU (s : ByteArray) : ByteArray := (cutR s).extract 0 (sizeN (cutD s)).toNat
def restU (s : ByteArray) : ByteArray := (cutR s).extract (sizeN (cutD s)).toNat (cutR s).size
theorem extract_list (s : ByteArray) (i j : Nat) : (s.extract i j).data.toList = (s.data.toList.drop i).take (j - i) := by
  rw [extract_bs, toList_bs]
theorem okU_field {s : ByteArray} (h : okU s = true) : s.data.toList = fieldL (fieldU s) ++ (restU s).data.toList := by
  unfold okU at h
  rw [Bool.and_eq_true, Bool.and_eq_true] at h
  obtain ⟨⟨h1, h2⟩, h3⟩ := h
  have h1 : 0 ≤ cutI s := by simpa [cutB] using h1
  have h3 : sizeN (cutD s) ≤ (cutR s).size := by simpa using h3
  obtain ⟨k, hk⟩ := Int.eq_ofNat_of_zero_le h1
  obtain ⟨h4, _⟩ := Lib.indexByte_some (show Lib.indexByte s.data.toList 58 = (k : Int) from hk)
  obtain ⟨h5, h6⟩ := List.getElem?_eq_some_iff.1 h4
  have hD : (cutD s).data.toList = s.data.toList.take k := by
    unfold cutD
    rw [if_pos h1, hk, Int.toNat_natCast, extract_list, List.drop_zero, Nat.sub_zero]
  have hR : (cutR s).data.toList = s.data.toList.drop (k + 1) := by
    unfold cutR
    rw [if_pos h1, hk, show Int.toNat ((k : Int) + 1) = k + 1 by omega, extract_list, List.take_of_length_le (by rw [List.length_drop, size_list]; omega)]
  have hs : s.data.toList = s.data.toList.take k ++ ([58] ++ s.data.toList.drop (k + 1)) := by
    have e : s.data.toList.drop k = 58 :: s.data.toList.drop (k + 1) := by
      rw [List.drop_eq_getElem_cons h5, h6]
    rw [List.singleton_append, ← e, List.take_append_drop]
  unfold sizeB at h2
  rcases ha : Lib.atoiAll (cutD s).data.toList with v | _ | _
  rotate_left
  · rw [ha] at h2; cases h2
  · rw [ha] at h2; cases h2
  · skip
    rw [ha] at h2
    simp only [Bool.and_eq_true, decide_eq_true_eq] at h2
    obtain ⟨h7, h8⟩ := h2
    have hn : sizeN (cutD s) = v := by unfold sizeN; rw [ha]
    rw [hn] at h3
    obtain ⟨n, rfl⟩ := Int.eq_ofNat_of_zero_le h7
    have hF : (fieldU s).data.toList = (s.data.toList.drop (k + 1)).take n := by
      unfold fieldU
      rw [hn, Int.toNat_natCast, extract_list, hR, List.drop_zero, Nat.sub_zero]
    have hRl : (s.data.toList.drop (k + 1)).length = (cutR s).size := by rw [← hR, size_list]
    have hFs : (fieldU s).size = n := by
      rw [← size_list, hF, List.length_take, hRl]; omega
    have hT : (restU s).data.toList = (s.data.toList.drop (k + 1)).drop n := by
      unfold restU
      rw [hn, Int.toNat_natCast, extract_list, hR, List.take_of_length_le (by rw [List.length_drop, hRl]; omega)]
    have hI : Lib.itoa (n : Int) = s.data.toList.take k := by
      rw [← hD, ← h8, toList_bs]
    unfold fieldL
    rw [hFs, hI, hF, hT, List.append_assoc, List.append_assoc, List.take_append_drop]
    exact hs
theorem field_okU {f : ByteArray} {R : List UInt8} (hf : f.size ≤ 900000) : okU (bs (fieldL f ++ R)) = true ∧ fieldU (bs (fieldL f ++ R)) = f ∧ restU (bs (fieldL f ++ R)) = bs R := by
  obtain ⟨d1, d2, d3, d4, _⟩ := decDigits_all f.size
  have dl := decDigits_len 5 f.size (by omega)
  have hX : fieldL f ++ R = Lib.decDigits f.size ++ ([58] ++ (f.data.toList ++ R)) := by
    unfold fieldL; rw [itoa_nat]; simp only [List.append_assoc]
  have hI : cutI (bs (fieldL f ++ R)) = ((Lib.decDigits f.size).length : Int) := by
    unfold cutI
    rw [toList_bs, hX]
    refine index_at ?_ fun k hk h => ?_
    · rw [List.getElem?_append_right (Nat.le_refl _), Nat.sub_self]; rfl
    · rw [List.getElem?_append_left hk] at h
      have := d1 58 (List.mem_of_getElem? h)
      exact absurd this.2 (by decide)
  have hD : cutD (bs (fieldL f ++ R)) = bs (Lib.decDigits f.size) := by
    unfold cutD
    rw [if_pos (by omega), hI, Int.toNat_natCast, extract_bs, toList_bs, hX, List.drop_zero, Nat.sub_zero, List.take_left' rfl]
  have hR : cutR (bs (fieldL f ++ R)) = bs (f.data.toList ++ R) := by
    unfold cutR
    rw [if_pos (by omega), hI, show Int.toNat (((Lib.decDigits f.size).length : Int) + 1) = (Lib.decDigits f.size).length + 1 by omega, extract_bs, toList_bs, bs_size, List.take_of_length_le (by rw [List.length_drop]; omega), hX, ← List.drop_drop, List.drop_left' rfl]
    rfl
  have hA := atoi_digits d3 d1 (by omega)
  rw [d2] at hA
  have hN : sizeN (bs (Lib.decDigits f.size)) = (f.size : Int) := by
    unfold sizeN; rw [toList_bs, hA]
  have hB : sizeB (bs (Lib.decDigits f.size)) = true := by
    unfold sizeB; rw [toList_bs, hA]
    simp only [itoa_nat]
    simp
  have hfl : f.data.toList.length = f.size := size_list f
  refine ⟨?_, ?_, ?_⟩
  · unfold okU cutB
    rw [hD, hB, hN, hR, hI, bs_size, List.length_append, hfl]
    simp; omega
  · unfold fieldU
    rw [hD, hN, hR, Int.toNat_natCast, extract_bs, toList_bs, List.drop_zero, Nat.sub_zero, List.take_left' hfl, bs_toList]
  · unfold restU
    rw [hD, hN, hR, Int.toNat_natCast, extract_bs, toList_bs, bs_size, List.take_of_length_le (by rw [List.length_drop]; omega), List.drop_left' hfl]
theorem fieldL_ne (f : ByteArray) (R : List UInt8) : fieldL f ++ R ≠ [] := by
  unfold fieldL; simp
theorem field_unique {f g : ByteArray} {R T : List UInt8} (h : fieldL f ++ R = fieldL g ++ T) (hf : f.size ≤ 900000) (hg : g.size ≤ 900000) : f = g ∧ R = T := by
  obtain ⟨_, h1, h2⟩ := field_okU (R := R) hf
  obtain ⟨_, h3, h4⟩ := field_okU (R := T) hg
  rw [h] at h1 h2
  exact ⟨h1.symm.trans h3, bs_inj (h2.symm.trans h4)⟩
theorem packL_small : ∀ (l : List ByteArray), ∀ f ∈ l, f.size ≤ (packL l).length
  | [], f, h => by simp at h
  | g :: l, f, h => by
    rw [packL, List.length_append, fieldL_len]
    rcases List.mem_cons.1 h with rfl | h
    · omega
    · have := packL_small l f h; omega
/-- What is behind some fields that are known. -/
theorem packL_cancel {X : List UInt8} : ∀ (l0 l : List ByteArray), packL l = packL l0 ++ X → (packL l).length ≤ 900000 → ∃ m, l = l0 ++ m ∧ packL m = X
  | [], l, h, _ => ⟨l, rfl, h⟩
  | f :: l0, l, h, hl => by
    cases l with
    | nil =>
      exfalso
      rw [packL, packL, List.append_assoc] at h
      exact fieldL_ne _ _ h.symm
    | cons g l =>
      have hg := packL_small (g :: l) g (by simp)
      have hf : f.size ≤ (packL (g :: l)).length := by
        rw [h, packL, List.length_append, List.length_append, fieldL_len]; omega
      rw [packL, packL, List.append_assoc] at h
      obtain ⟨rfl, h2⟩ := field_unique h (by omega) (by omega)
      rw [packL, List.length_append] at hl
      obtain ⟨m, rfl, hm⟩ := packL_cancel l0 l h2 (by omega)
      exact ⟨m, rfl, hm⟩
/-- The fields with some bytes. -/
noncomputable def unp (X : List UInt8) : Option (List ByteArray) := open Classical in if h : ∃ l, packL l = X then some h.choose else none
theorem unp_some {l : List ByteArray} (h : (packL l).length ≤ 900000) : unp (packL l) = some l := by
  have hex : ∃ m, packL m = packL l := ⟨l, rfl⟩
  unfold unp
  rw [dif_pos hex]
  have hc := hex.choose_spec
  obtain ⟨m, h1, h2⟩ := packL_cancel (X := []) l hex.choose (by rw [hc, List.append_nil]) (by rw [hc]; exact h)
  have : m = [] := by
    cases m with
    | nil => rfl
    | cons a m => rw [packL] at h2; exact absurd h2 (fieldL_ne _ _)
  rw [h1, this, List.append_nil]
theorem unp_none {X : List UInt8} (h : ∀ l, packL l ≠ X) : unp X = none := by
  unfold unp
  rw [dif_neg (by rintro ⟨l, hl⟩; exact h l hl)]
theorem unp_pack {X : List UInt8} {l : List ByteArray} (h : unp X = some l) : packL l = X := by
  unfold unp at h
  split at h
  · rename_i hex
    injection h with h
    rw [← h]; exact hex.choose_spec
  · cases h
/-- Where the rest does not begin with a field, there are none. -/
theorem unp_stop {l0 : List ByteArray} {X : List UInt8} (hl : (packL l0 ++ X).length ≤ 900000) (h0 : X ≠ []) (h : ∀ f R, X ≠ fieldL f ++ R) : unp (packL l0 ++ X) = none := by
  refine unp_none fun l hc => ?_
  obtain ⟨m, rfl, hm⟩ := packL_cancel l0 l hc (by rw [hc]; exact hl)
  cases m with
  | nil => exact h0 hm.symm
  | cons f m => exact h f _ hm.symm
theorem packL_count : ∀ l : List ByteArray, 2 * l.length ≤ (packL l).length
  | [] => Nat.zero_le _
  | f :: l => by
    have := packL_count l
    have h1 : 1 ≤ (Lib.itoa (f.size : Int)).length := by
      rw [itoa_nat]
      exact List.length_pos_iff.2 (decDigits_all f.size).2.2.1
    rw [packL, List.length_append, fieldL_len, List.length_cons]; omega
end Go.Proofs

set_option autoImplicit false
namespace Go.Proofs
open Go Go.Ab Go.RowKit
set_option maxHeartbeats 1000000
set_option maxRecDepth 100000
variable {G : IH}
def orcUn : Oracle := fun f args => match f, args with
  | 48, [.con (.string s), .con (.string _)] => some (.tup [ds (cutD s), ds (cutR s), db (cutB s)])
  | 49, [.con (.string s)] => some (.tup [di (sizeN s), db (sizeB s)])
  | 47, [.con (.int .i64 n)] => some (ds (bs (Lib.itoa n)))
  | _, _ => none
/-- What Unpack returns. -/
noncomputable def unR (X : List UInt8) : DV := match unp X with
  | none => .tup [.con (.slice none 0 0), di 11]
  | some l => .tup [strL l, di 0]
theorem okU_n {s : ByteArray} (h : okU s = true) : 0 ≤ sizeN (cutD s) ∧ sizeN (cutD s) ≤ (cutR s).size := by
  unfold okU at h
  rw [Bool.and_eq_true, Bool.and_eq_true] at h
  obtain ⟨⟨_, h2⟩, h3⟩ := h
  refine ⟨?_, by simpa using h3⟩
  unfold sizeB at h2
  unfold sizeN
  rcases ha : Lib.atoiAll (cutD s).data.toList with v | _ | _
  rotate_left
  · rw [ha] at h2; cases h2
  · rw [ha] at h2; cases h2
  · skip
    rw [ha] at h2
    simp only [Bool.and_eq_true, decide_eq_true_eq] at h2
    exact h2.1
theorem okU_rest {s : ByteArray} (h : okU s = true) : (restU s).size < s.size := by
  have := congrArg List.length (okU_field h)
  rw [size_list, List.length_append, fieldL_len, size_list] at this
  omega
/-- Where some bytes do not begin with a field, there is no front of them that is one. -/
theorem okU_not {s : ByteArray} (hs : s.size ≤ 900000) (h : okU s = false) : ∀ f R, s.data.toList ≠ fieldL f ++ R := by
  intro f R he
  have hl := congrArg List.length he
  rw [size_list, List.length_append, fieldL_len] at hl
  have := (field_okU (f := f) (R := R) (by omega)).1
  rw [← he, bs_toList, h] at this
  cases this
noncomputable def S25 (x : List ByteArray × ByteArray) : AS := ⟨regs Tryd.f25.ntmps [(0, vs x.2), (4, .vec 600 1 0 x.1.length)], [(600, [.arr strK 1 (rowS x.1)])]⟩
theorem f25r (hT : Tab G) (hE : Errs G) (d : ByteArray) (hd : d.size ≤ 8000) : FnOK Tryd.prog G 25 [ds d] (unR d.data.toList) := by
  refine FnOK.walk (orc := orcUn) (keep := []) follows Tryd.func25 rfl Tryd.call25 ?_
  refine of_eqH (b :=
    ((((decide ((↑(ByteArray.size d) : Int) > (30000 : Int))) = true) →
    (((.tup [(.con (.slice none ((0 : Nat)) ((0 : Nat)))), (.con (.int .i64 ((8 : Int))))]) : DV) = (unR (Array.toList (ByteArray.data d))))) ∧
    (((decide ((↑(ByteArray.size d) : Int) > (30000 : Int))) = false) →
    AWP Tryd.prog G [.code (cAt (bodyOf Tryd.f25) [1, 1, 1, 0, 0]), (.blk ((0 : Nat))), .code (cAt (bodyOf Tryd.f25) [1, 1, 1, 1])] ⟨[(.d (.con (.string d))), .any, (.d (.con (.slice none ((0 : Nat)) ((0 : Nat))))), (.d (.con (.int .i64 ((0 : Int))))), (.d (.con (.slice none ((0 : Nat)) ((0 : Nat))))), .any, .any, .any, .any, .any, (.d (.con (.string d))), (.d (.con (.int .i64 ((↑(ByteArray.size d) : Int))))), (.d (.con (.bool (decide ((↑(ByteArray.size d) : Int) > (30000 : Int)))))), .any, .any, .any, .any, .any, .any, .any, .any, .any, .any, .any, .any, .any, .any, .any, .any, .any, .any, .any, .any, .any, .any, .any, .any, .any, .any, .any, .any, .any, .any, .any, .any, .any, .any, .any, .any, .any, .any, .any, .any], []⟩ (Ret Tryd.prog Tryd.f25 (unR (Array.toList (ByteArray.data d))))))) (by kernel_rfl) ?_
  refine ⟨fun h => ?_, fun _ => ?_⟩
  · simp at h; omega
  refine AWP.pre (.nilRow _ 4 600 1 strK (rowS []) rfl rfl) ?_
  refine AWP.loop (c := cAt (bodyOf Tryd.f25) [1, 1, 1, 0, 0, 0]) (by kernel_rfl) S25 (fun x => d.data.toList = packL x.1 ++ x.2.data.toList) (fun x => x.2.size) ([], d) ?_ rfl ?_
  · refine of_eq (b :=
    (((((.d (.con (.string d))) : AV) = (.d (.con (.string d)))) ∧
    ((((.vec ((600 : Nat)) ((1 : Nat)) ((0 : Nat)) ((0 : Nat))) : AV) = (.vec ((600 : Nat)) ((1 : Nat)) ((0 : Nat)) ((0 : Nat)))) ∧
    True)) ∧
    ((((some [(.arr ⟨false, ((9 : Nat)), false⟩ ((1 : Nat)) (rowS []))]) : (Option (List AV))) = (some [(.arr ⟨false, ((9 : Nat)), false⟩ ((1 : Nat)) (rowS []))])) ∧
    True))) (by kernel_rfl) ?_
    exact ⟨⟨rfl, rfl, trivial⟩, rfl, trivial⟩
  · rintro ⟨l0, s⟩ hI
    refine walk (orc := orcUn) (keep := []) (cuts := []) (n := 1000) follows ?_
    refine of_eqH (b :=
      ((((!ByteArray.toList s == ByteArray.toList { data := #[] }) = true) →
      (FnOK Tryd.prog G ((48 : Nat)) [(.con (.string s)), (.con (.string ({ data := #[(58 : UInt8)] })))] (.tup [(.con (.string (cutD s))), (.con (.string (cutR s))), (.con (.bool (cutB s)))]) ∧
      (FnOK Tryd.prog G ((49 : Nat)) [(.con (.string (cutD s)))] (.tup [(.con (.int .i64 (sizeN (cutD s)))), (.con (.bool (sizeB (cutD s))))]) ∧
      ((((!cutB s || !sizeB (cutD s) || decide (sizeN (cutD s) > (↑(ByteArray.size (cutR s)) : Int)) || (↑(List.length l0) : Int) == (4096 : Int)) = true) →
      (((.tup [(.con (.slice none ((0 : Nat)) ((0 : Nat)))), (.con (.int .i64 ((11 : Int))))]) : DV) = (unR (Array.toList (ByteArray.data d))))) ∧
      (((!cutB s || !sizeB (cutD s) || decide (sizeN (cutD s) > (↑(ByteArray.size (cutR s)) : Int)) || (↑(List.length l0) : Int) == (4096 : Int)) = false) →
      (((((0 : Int) ≤ (0 : Int)) ∧
      (((0 : Int) ≤ sizeN (cutD s)) ∧
      (sizeN (cutD s) ≤ (↑(ByteArray.size (cutR s)) : Int)))) ∧
      ((((List.length l0 + (1 : Nat)) * (16 : Nat) ≤ (1099511627776 : Nat)) ∧
      (List.length l0 + (1 : Nat) ≤ (1099511627776 : Nat))) ∧
      (∀ (i : Nat), i < (1 : Nat) → elemOK false (1 : Nat) (elemF false (1 : Nat) [DV.con (Value.string (ByteArray.extract (cutR s) (Int.toNat (0 : Int)) (Int.toNat (sizeN (cutD s)))))] i) = true))) ∧
      ((((0 : Int) ≤ sizeN (cutD s)) ∧
      ((sizeN (cutD s) ≤ (↑(ByteArray.size (cutR s)) : Int)) ∧
      ((↑(ByteArray.size (cutR s)) : Int) ≤ (↑(ByteArray.size (cutR s)) : Int)))) ∧
      Again S25 (fun x => Array.toList (ByteArray.data d) = packL (Prod.fst x) ++ Array.toList (ByteArray.data (Prod.snd x))) (fun x => ByteArray.size (Prod.snd x)) ((l0, s)) ⟨[(.d (.con (.string (ByteArray.extract (cutR s) (Int.toNat (sizeN (cutD s))) (Int.toNat (↑(ByteArray.size (cutR s)) : Int)))))), .any, .any, .any, (.vec ((48 : Nat)) ((1 : Nat)) ((0 : Nat)) (List.length l0 + (1 : Nat))), (.d (.con (.string (cutD s)))), (.d (.con (.string (cutR s)))), (.d (.con (.bool (cutB s)))), (.d (.con (.int .i64 (sizeN (cutD s))))), (.d (.con (.bool (sizeB (cutD s))))), .any, .any, .any, (.d (.con (.string s))), (.d (.con (.bool (!ByteArray.toList s == ByteArray.toList { data := #[] })))), (.d (.tup [(.con (.string (cutD s))), (.con (.string (cutR s))), (.con (.bool (cutB s)))])), (.d (.con (.string s))), (.d (.tup [(.con (.string (cutD s))), (.con (.string (cutR s))), (.con (.bool (cutB s)))])), (.d (.con (.string (cutD s)))), (.d (.con (.string (cutR s)))), (.d (.con (.bool (cutB s)))), (.d (.tup [(.con (.int .i64 (sizeN (cutD s)))), (.con (.bool (sizeB (cutD s))))])), (.d (.con (.string (cutD s)))), (.d (.tup [(.con (.int .i64 (sizeN (cutD s)))), (.con (.bool (sizeB (cutD s))))])), (.d (.con (.int .i64 (sizeN (cutD s))))), (.d (.con (.bool (sizeB (cutD s))))), (.d (.con (.bool (cutB s)))), (.d (.con (.bool (!cutB s)))), (.d (.con (.bool (!cutB s)))), .any, .any, (.d (.con (.bool (!cutB s || !sizeB (cutD s))))), (.d (.con (.bool (!cutB s || !sizeB (cutD s))))), .any, .any, .any, .any, (.d (.con (.bool (!cutB s || !sizeB (cutD s) || decide (sizeN (cutD s) > (↑(ByteArray.size (cutR s)) : Int)))))), (.d (.con (.bool (!cutB s || !sizeB (cutD s) || decide (sizeN (cutD s) > (↑(ByteArray.size (cutR s)) : Int)))))), .any, .any, .any, (.d (.con (.bool (!cutB s || !sizeB (cutD s) || decide (sizeN (cutD s) > (↑(ByteArray.size (cutR s)) : Int)) || (↑(List.length l0) : Int) == (4096 : Int))))), (.vec ((600 : Nat)) ((1 : Nat)) ((0 : Nat)) (List.length l0)), (.d (.con (.string (cutR s)))), (.d (.con (.int .i64 (sizeN (cutD s))))), (.d (.con (.string (ByteArray.extract (cutR s) (Int.toNat (0 : Int)) (Int.toNat (sizeN (cutD s))))))), (.d (.slc ((1 : Nat)) ((1 : Nat)) (elemF false ((1 : Nat)) [(.con (.string (ByteArray.extract (cutR s) (Int.toNat (0 : Int)) (Int.toNat (sizeN (cutD s))))))]))), (.vec ((48 : Nat)) ((1 : Nat)) ((0 : Nat)) (List.length l0 + (1 : Nat))), (.d (.con (.string (cutR s)))), (.d (.con (.int .i64 (sizeN (cutD s))))), (.d (.con (.string (ByteArray.extract (cutR s) (Int.toNat (sizeN (cutD s))) (Int.toNat (↑(ByteArray.size (cutR s)) : Int)))))), .any], [(((48 : Nat)), [(.arr ⟨false, ((9 : Nat)), false⟩ ((1 : Nat)) (fun i => bif Nat.blt i (List.length l0) then rowS l0 i else elemF false (1 : Nat) [DV.con (Value.string (ByteArray.extract (cutR s) (Int.toNat (0 : Int)) (Int.toNat (sizeN (cutD s)))))] (i - List.length l0)))]), (((600 : Nat)), [.dead])]⟩))))))) ∧
      (((!ByteArray.toList s == ByteArray.toList { data := #[] }) = false) →
      AWP Tryd.prog G [.code (cAt (bodyOf Tryd.f25) [1, 1, 1, 1])] ⟨[(.d (.con (.string s))), .any, .any, .any, (.vec ((600 : Nat)) ((1 : Nat)) ((0 : Nat)) (List.length l0)), .any, .any, .any, .any, .any, .any, .any, .any, (.d (.con (.string s))), (.d (.con (.bool (!ByteArray.toList s == ByteArray.toList { data := #[] })))), .any, .any, .any, .any, .any, .any, .any, .any, .any, .any, .any, .any, .any, .any, .any, .any, .any, .any, .any, .any, .any, .any, .any, .any, .any, .any, .any, .any, .any, .any, .any, .any, .any, .any, .any, .any, .any, .any], [(((600 : Nat)), [(.arr ⟨false, ((9 : Nat)), false⟩ ((1 : Nat)) (rowS l0))])]⟩ (Ret Tryd.prog Tryd.f25 (unR (Array.toList (ByteArray.data d))))))) (by kernel_rfl) ?_
    have hI : d.data.toList = packL l0 ++ s.data.toList := hI
    have hlen := congrArg List.length hI
    rw [size_list, List.length_append, size_list] at hlen
    have hcnt := packL_count l0
    have hcut : cutD s = cutD s := rfl
    have hnn : ((l0.length : Int) == 4096) = false := by rw [beq_eq_false_iff_ne]; omega
    have hcond : (!cutB s || !sizeB (cutD s) || decide (sizeN (cutD s) > (((cutR s).size : Nat) : Int)) || (l0.length : Int) == 4096) = !okU s := by
      rw [hnn, Bool.or_false]
      unfold okU
      rw [Bool.not_and, Bool.not_and]
      congr 1
      rw [Bool.eq_iff_iff]
      simp
    refine ⟨fun h => ?_, fun h => ?_⟩
    · have h0 : s.data.toList ≠ [] := by
        intro e
        have : s = { data := #[] } := by rw [← bs_toList s, e]; rfl
        rw [this] at h
        simp at h
      have hcs : (cutD s).size ≤ 1000000 := by
        unfold cutD
        split
        · rw [ByteArray.size_extract]; omega
        · omega
      refine ⟨f48 s (by omega), f49 hT hE _ hcs, fun h2 => ?_, fun h2 => ?_⟩
      · rw [hcond] at h2
        have h2 : okU s = false := by simpa using h2
        have hu : unp d.data.toList = none := by
          rw [hI]
          exact unp_stop (by rw [List.length_append, size_list]; omega) h0 (okU_not (by omega) h2)
        unfold unR
        rw [hu]
      · rw [hcond] at h2
        have h2 : okU s = true := by simpa using h2
        obtain ⟨hn1, hn2⟩ := okU_n h2
        have hf := okU_field h2
        have hr := okU_rest h2
        refine ⟨⟨⟨by omega, by omega, by omega⟩, ⟨by omega, by omega⟩, one_ok _ rfl⟩, ⟨by omega, by omega, by omega⟩, Again.mkR [(48, 600)] rfl (l0 ++ [fieldU s], restU s) ?_ ?_ hr⟩
        · refine of_eq (b :=
          (((((.d (.con (.string (ByteArray.extract (cutR s) (Int.toNat (sizeN (cutD s))) (Int.toNat (↑(ByteArray.size (cutR s)) : Int)))))) : AV) = (.d (.con (.string (restU s))))) ∧
          ((((.vec ((600 : Nat)) ((1 : Nat)) ((0 : Nat)) (List.length l0 + (1 : Nat))) : AV) = (.vec ((600 : Nat)) ((1 : Nat)) ((0 : Nat)) (List.length (l0 ++ [fieldU s])))) ∧
          True)) ∧
          ((((some [(.arr ⟨false, ((9 : Nat)), false⟩ ((1 : Nat)) (fun i => bif Nat.blt i (List.length l0) then rowS l0 i else elemF false (1 : Nat) [DV.con (Value.string (ByteArray.extract (cutR s) (Int.toNat (0 : Int)) (Int.toNat (sizeN (cutD s)))))] (i - List.length l0)))]) : (Option (List AV))) = (some [(.arr ⟨false, ((9 : Nat)), false⟩ ((1 : Nat)) (rowS (l0 ++ [fieldU s])))])) ∧
          True))) (by kernel_rfl) ?_
          refine ⟨⟨?_, ?_, trivial⟩, ?_, trivial⟩
          · unfold restU; rw [Int.toNat_natCast]
          · rw [List.length_append]; rfl
          · rw [rowS_app]
            unfold fieldU; rfl
        · show d.data.toList = packL (l0 ++ [fieldU s]) ++ (restU s).data.toList
          rw [hI, packL_app, packL, packL, List.append_nil, List.append_assoc, ← hf]
    · have hs0 : s.data.toList = [] := by
        have : s = { data := #[] } := by
          rw [Bool.not_eq_false', beq_iff_eq, toList_inj] at h
          exact h
        rw [this]
      rw [hs0, List.append_nil] at hI
      have hu : unp d.data.toList = some l0 := by
        rw [hI]
        exact unp_some (by rw [← hI, size_list]; omega)
      refine walk (orc := orcUn) (keep := []) (cuts := []) (n := 1000) follows ?_
      refine of_eqH (b :=
        (((.tup [(.slc ((1 : Nat)) (List.length l0) (fun i => rowS l0 ((0 : Nat) + i))), (.con (.int .i64 ((0 : Int))))]) : DV) = (unR (Array.toList (ByteArray.data d))))) (by kernel_rfl) ?_
      unfold unR
      rw [hu]
      simp only [rowS_zero]
      rfl
noncomputable def unL (X : List UInt8) : List ByteArray := (unp X).getD []
noncomputable def unE (X : List UInt8) : Int := if (unp X).isSome then 0 else 11
theorem unR_tup {X : List UInt8} {f : FuncId} {xs : List DV} (h : FnOK Tryd.prog G f xs (unR X)) : FnOK Tryd.prog G f xs (.tup [strL (unL X), di (unE X)]) := by
  refine FnOK.res h fun k v hv => ?_
  unfold unR at hv
  unfold unL unE
  cases hu : unp X with
  | some l => rw [hu] at hv; exact hv
  | none =>
    rw [hu] at hv
    obtain ⟨vs, e, x0, u0, e0, h0, rest⟩ := hv
    refine ⟨vs, e, x0, u0, e0, ?_, rest⟩
    have h0 : x0 = .slice none 0 0 := h0
    subst h0
    exact ⟨none, 0, rfl, Nat.le_refl _, .inl rfl⟩
theorem f25 (hT : Tab G) (hE : Errs G) (d : ByteArray) (hd : d.size ≤ 8000) : FnOK Tryd.prog G 25 [ds d] (.tup [strL (unL d.data.toList), di (unE d.data.toList)]) := unR_tup (f25r hT hE d hd)
noncomputable def S24 (l : List ByteArray) (i : Nat) : AS := ⟨regs Tryd.f24.ntmps [(0, .d (strs l.length (sAt l))), (4, vs (bs (packL (l.take i)))), (5, vi i)], []⟩
theorem f24 (l : List ByteArray) (hl : Small l) : FnOK Tryd.prog G 24 [strs l.length (sAt l)] (.tup [ds (packS l), di (packE l)]) := by
  refine FnOK.walk (orc := orcUn) (keep := []) follows Tryd.func24 rfl Tryd.call24 ?_
  refine of_eqH (b :=
    ((((decide ((↑(List.length l) : Int) > (4096 : Int))) = true) →
    (((.tup [(.con (.string ({ data := #[] }))), (.con (.int .i64 ((8 : Int))))]) : DV) = (.tup [(ds (packS l)), (di (packE l))]))) ∧
    (((decide ((↑(List.length l) : Int) > (4096 : Int))) = false) →
    AWP Tryd.prog G [.code (cAt (bodyOf Tryd.f24) [1, 1, 1, 0, 1, 0]), (.blk ((0 : Nat))), .code (cAt (bodyOf Tryd.f24) [1, 1, 1, 1])] ⟨[(.d (.slc ((1 : Nat)) (List.length l) (fun i => DV.con (Value.string (sAt l i))))), .any, (.d (.con (.string ({ data := #[] })))), (.d (.con (.int .i64 ((0 : Int))))), (.d (.con (.string ({ data := #[] })))), (.d (.con (.int .i64 ((0 : Int))))), (.d (.slc ((1 : Nat)) (List.length l) (fun i => DV.con (Value.string (sAt l i))))), (.d (.con (.int .i64 ((↑(List.length l) : Int))))), (.d (.con (.bool (decide ((↑(List.length l) : Int) > (4096 : Int)))))), .any, .any, .any, .any, .any, .any, .any, .any, .any, .any, .any, .any, .any, .any, .any, .any, .any, .any, .any, .any, .any, .any, .any, .any, .any, .any, .any, .any, .any, .any, .any, .any, .any], []⟩ (Ret Tryd.prog Tryd.f24 (DV.tup [ds (packS l), di (packE l)]))))) (by kernel_rfl) ?_
  have hll := hl.1
  refine ⟨fun h => ?_, fun h => ?_⟩
  · have hb : packBad l = true := by
      unfold packBad
      simp at h ⊢
      omega
    unfold packS packE
    rw [hb]; rfl
  have h4 : l.length ≤ 4096 := by simp at h; omega
  refine AWP.loop (c := cAt (bodyOf Tryd.f24) [1, 1, 1, 0, 1, 0, 0]) (by kernel_rfl) (S24 l) (fun i => i ≤ l.length ∧ (packL (l.take i)).length ≤ 200022) (fun i => l.length - i) 0 ?_ ⟨Nat.zero_le _, by simp [packL]⟩ ?_
  · refine of_eq (b :=
    (((((.d (.slc ((1 : Nat)) (List.length l) (fun i => DV.con (Value.string (sAt l i))))) : AV) = (.d (.slc ((1 : Nat)) (List.length l) (fun i => DV.con (Value.string (sAt l i)))))) ∧
    ((((.d (.con (.string ({ data := #[] })))) : AV) = (.d (.con (.string (bs (packL (List.take (0 : Nat) l))))))) ∧
    ((((.d (.con (.int .i64 ((0 : Int))))) : AV) = (.d (.con (.int .i64 ((0 : Int)))))) ∧
    True))) ∧
    True)) (by kernel_rfl) ?_
    exact ⟨⟨rfl, rfl, rfl, trivial⟩, trivial⟩
  · rintro i ⟨hi, hpi⟩
    refine walk (orc := orcUn) (keep := []) (cuts := []) (n := 1000) follows ?_
    refine of_eqH (b :=
      ((((decide ((↑i : Int) < (↑(List.length l) : Int))) = true) →
      (((((0 : Int) ≤ (↑i : Int)) ∧
      ((↑i : Int) < (↑(List.length l) : Int))) ∧
      (I64 ((↑(ByteArray.size (bs (packL (List.take i l)))) : Int) + (↑(ByteArray.size (sAt l (Int.toNat (↑i : Int)))) : Int)))) ∧
      ((((decide ((↑(ByteArray.size (bs (packL (List.take i l)))) : Int) + (↑(ByteArray.size (sAt l (Int.toNat (↑i : Int)))) : Int) > (30000 : Int))) = true) →
      (((.tup [(.con (.string ({ data := #[] }))), (.con (.int .i64 ((8 : Int))))]) : DV) = (.tup [(ds (packS l)), (di (packE l))]))) ∧
      (((decide ((↑(ByteArray.size (bs (packL (List.take i l)))) : Int) + (↑(ByteArray.size (sAt l (Int.toNat (↑i : Int)))) : Int) > (30000 : Int))) = false) →
      (((((0 : Int) ≤ (↑i : Int)) ∧
      ((↑i : Int) < (↑(List.length l) : Int))) ∧
      (FnOK Tryd.prog G ((47 : Nat)) [(.con (.int .i64 ((↑(ByteArray.size (sAt l (Int.toNat (↑i : Int)))) : Int))))] (.con (.string (bs (Lib.itoa (↑(ByteArray.size (sAt l (Int.toNat (↑i : Int)))) : Int))))) ∧
      ((ByteArray.size (bs (packL (List.take i l))) + ByteArray.size (bs (Lib.itoa (↑(ByteArray.size (sAt l (Int.toNat (↑i : Int)))) : Int))) ≤ (9223372036854775807 : Nat)) ∧
      ((ByteArray.size (bs (packL (List.take i l)) ++ bs (Lib.itoa (↑(ByteArray.size (sAt l (Int.toNat (↑i : Int)))) : Int))) + ByteArray.size { data := #[(58 : UInt8)] } ≤ (9223372036854775807 : Nat)) ∧
      ((((0 : Int) ≤ (↑i : Int)) ∧
      ((↑i : Int) < (↑(List.length l) : Int))) ∧
      (ByteArray.size (bs (packL (List.take i l)) ++ bs (Lib.itoa (↑(ByteArray.size (sAt l (Int.toNat (↑i : Int)))) : Int)) ++ { data := #[(58 : UInt8)] }) + ByteArray.size (sAt l (Int.toNat (↑i : Int))) ≤ (9223372036854775807 : Nat))))))) ∧
      ((I64 ((↑i : Int) + (1 : Int))) ∧
      Again (S24 l) (fun i => i ≤ List.length l ∧ List.length (packL (List.take i l)) ≤ (200022 : Nat)) (fun i => List.length l - i) i ⟨[(.d (.slc ((1 : Nat)) (List.length l) (fun i => DV.con (Value.string (sAt l i))))), .any, .any, .any, (.d (.con (.string (bs (packL (List.take i l)) ++ bs (Lib.itoa (↑(ByteArray.size (sAt l (Int.toNat (↑i : Int)))) : Int)) ++ { data := #[(58 : UInt8)] } ++ sAt l (Int.toNat (↑i : Int)))))), (.d (.con (.int .i64 ((↑i : Int) + (1 : Int))))), .any, .any, .any, (.d (.con (.int .i64 ((↑i : Int))))), (.d (.slc ((1 : Nat)) (List.length l) (fun i => DV.con (Value.string (sAt l i))))), (.d (.con (.int .i64 ((↑(List.length l) : Int))))), (.d (.con (.bool (decide ((↑i : Int) < (↑(List.length l) : Int)))))), (.d (.con (.int .i64 ((↑i : Int))))), (.d (.con (.int .i64 ((↑i : Int) + (1 : Int))))), (.d (.con (.string (bs (packL (List.take i l)))))), (.d (.con (.int .i64 ((↑(ByteArray.size (bs (packL (List.take i l)))) : Int))))), (.d (.slc ((1 : Nat)) (List.length l) (fun i => DV.con (Value.string (sAt l i))))), (.d (.con (.int .i64 ((↑i : Int))))), (.d (.ptr [(.con (.string (sAt l (Int.toNat (↑i : Int)))))])), (.d (.con (.string (sAt l (Int.toNat (↑i : Int)))))), (.d (.con (.int .i64 ((↑(ByteArray.size (sAt l (Int.toNat (↑i : Int)))) : Int))))), (.d (.con (.int .i64 ((↑(ByteArray.size (bs (packL (List.take i l)))) : Int) + (↑(ByteArray.size (sAt l (Int.toNat (↑i : Int)))) : Int))))), (.d (.con (.bool (decide ((↑(ByteArray.size (bs (packL (List.take i l)))) : Int) + (↑(ByteArray.size (sAt l (Int.toNat (↑i : Int)))) : Int) > (30000 : Int)))))), (.d (.con (.string (bs (packL (List.take i l)))))), (.d (.slc ((1 : Nat)) (List.length l) (fun i => DV.con (Value.string (sAt l i))))), (.d (.con (.int .i64 ((↑i : Int))))), (.d (.ptr [(.con (.string (sAt l (Int.toNat (↑i : Int)))))])), (.d (.con (.string (sAt l (Int.toNat (↑i : Int)))))), (.d (.con (.int .i64 ((↑(ByteArray.size (sAt l (Int.toNat (↑i : Int)))) : Int))))), (.d (.con (.string (bs (Lib.itoa (↑(ByteArray.size (sAt l (Int.toNat (↑i : Int)))) : Int)))))), (.d (.con (.string (bs (packL (List.take i l)) ++ bs (Lib.itoa (↑(ByteArray.size (sAt l (Int.toNat (↑i : Int)))) : Int)))))), (.d (.con (.string (bs (packL (List.take i l)) ++ bs (Lib.itoa (↑(ByteArray.size (sAt l (Int.toNat (↑i : Int)))) : Int)) ++ { data := #[(58 : UInt8)] })))), (.d (.slc ((1 : Nat)) (List.length l) (fun i => DV.con (Value.string (sAt l i))))), (.d (.con (.int .i64 ((↑i : Int))))), (.d (.ptr [(.con (.string (sAt l (Int.toNat (↑i : Int)))))])), (.d (.con (.string (sAt l (Int.toNat (↑i : Int)))))), (.d (.con (.string (bs (packL (List.take i l)) ++ bs (Lib.itoa (↑(ByteArray.size (sAt l (Int.toNat (↑i : Int)))) : Int)) ++ { data := #[(58 : UInt8)] } ++ sAt l (Int.toNat (↑i : Int)))))), .any, .any, .any, .any], []⟩)))))) ∧
      (((decide ((↑i : Int) < (↑(List.length l) : Int))) = false) →
      AWP Tryd.prog G [.code (cAt (bodyOf Tryd.f24) [1, 1, 1, 1])] ⟨[(.d (.slc ((1 : Nat)) (List.length l) (fun i => DV.con (Value.string (sAt l i))))), .any, .any, .any, (.d (.con (.string (bs (packL (List.take i l)))))), (.d (.con (.int .i64 ((↑i : Int))))), .any, .any, .any, (.d (.con (.int .i64 ((↑i : Int))))), (.d (.slc ((1 : Nat)) (List.length l) (fun i => DV.con (Value.string (sAt l i))))), (.d (.con (.int .i64 ((↑(List.length l) : Int))))), (.d (.con (.bool (decide ((↑i : Int) < (↑(List.length l) : Int)))))), .any, .any, .any, .any, .any, .any, .any, .any, .any, .any, .any, .any, .any, .any, .any, .any, .any, .any, .any, .any, .any, .any, .any, .any, .any, .any, .any, .any, .any], []⟩ (Ret Tryd.prog Tryd.f24 (DV.tup [ds (packS l), di (packE l)]))))) (by kernel_rfl) ?_
    simp only [Int.toNat_natCast]
    refine ⟨fun h => ?_, fun h => ?_⟩
    · have hi' : i < l.length := by simpa using h
      have h1 := hl.at hi'
      have h2 := itoa_len ((sAt l i).size : Int) ⟨by omega, by omega⟩
      have hspl : (packL l).length = (packL (l.take i)).length + (fieldL (sAt l i)).length + (packL (l.drop (i + 1))).length := by
        have e : packL l = packL (l.take (i + 1)) ++ packL (l.drop (i + 1)) := by rw [← packL_app, List.take_append_drop]
        rw [e, packL_take hi', List.length_append, List.length_append]
      rw [fieldL_len] at hspl
      rw [bs_size]
      refine ⟨⟨⟨by omega, by omega⟩, by omega, by omega⟩, fun h => ?_, fun h => ?_⟩
      · have hb : packBad l = true := by
          unfold packBad
          simp at h ⊢
          omega
        unfold packS packE
        rw [hb]; rfl
      · have h : (packL (l.take i)).length + (sAt l i).size ≤ 30000 := by simp at h; omega
        have k47 := f47 (G := G) (sAt l i).size (by omega)
        rw [decP_itoa] at k47
        have e58 : ({ data := #[58] } : ByteArray).size = 1 := rfl
        rw [bs_size]
        refine ⟨⟨⟨by omega, by omega⟩, k47, by omega, ?_, ⟨by omega, by omega⟩, ?_⟩, ⟨by omega, by omega⟩, Again.mk (i + 1) ?_ ⟨by omega, ?_⟩ (by omega)⟩
        · rw [ByteArray.size_append, bs_size, bs_size, e58]; omega
        · rw [ByteArray.size_append, ByteArray.size_append, bs_size, bs_size, e58]; omega
        · refine of_eq (b :=
          (((((.d (.slc ((1 : Nat)) (List.length l) (fun i => DV.con (Value.string (sAt l i))))) : AV) = (.d (.slc ((1 : Nat)) (List.length l) (fun i => DV.con (Value.string (sAt l i)))))) ∧
          ((((.d (.con (.string (bs (packL (List.take i l)) ++ bs (Lib.itoa (↑(ByteArray.size (sAt l i)) : Int)) ++ { data := #[(58 : UInt8)] } ++ sAt l i)))) : AV) = (.d (.con (.string (bs (packL (List.take (i + (1 : Nat)) l))))))) ∧
          ((((.d (.con (.int .i64 ((↑i : Int) + (1 : Int))))) : AV) = (.d (.con (.int .i64 ((↑(i + (1 : Nat)) : Int)))))) ∧
          True))) ∧
          True)) (by kernel_rfl) ?_
          refine ⟨⟨rfl, ?_, rfl, trivial⟩, trivial⟩
          have e1 : bs (packL (l.take (i + 1))) = bs (packL (l.take i)) ++ bs (Lib.itoa ((sAt l i).size : Int)) ++ { data := #[58] } ++ sAt l i := by
            have e2 : ({ data := #[58] } : ByteArray) = bs [58] := rfl
            rw [packL_take hi', e2, bs_append, bs_append]
            conv => rhs; rw [← bs_toList (sAt l i)]
            rw [bs_append]
            unfold fieldL
            simp only [List.append_assoc, bs_toList]
          rw [e1]
        · rw [packL_take hi', List.length_append, fieldL_len]; omega
    · have : i = l.length := by simp at h; omega
      subst this
      rw [List.take_length] at hpi ⊢
      refine walk (orc := orcUn) (keep := []) (cuts := []) (n := 1000) follows ?_
      refine of_eqH (b :=
        ((((decide ((↑(ByteArray.size (bs (packL l))) : Int) > (30000 : Int))) = true) →
        (((.tup [(.con (.string ({ data := #[] }))), (.con (.int .i64 ((8 : Int))))]) : DV) = (.tup [(ds (packS l)), (di (packE l))]))) ∧
        (((decide ((↑(ByteArray.size (bs (packL l))) : Int) > (30000 : Int))) = false) →
        (((.tup [(.con (.string (bs (packL l)))), (.con (.int .i64 ((0 : Int))))]) : DV) = (.tup [(ds (packS l)), (di (packE l))]))))) (by kernel_rfl) ?_
      rw [bs_size]
      refine ⟨fun h => ?_, fun h => ?_⟩
      · have hb : packBad l = true := by
          unfold packBad
          simp at h ⊢
          omega
        unfold packS packE
        rw [hb]; rfl
      · have hb : packBad l = false := by
          unfold packBad
          simp at h ⊢
          omega
        unfold packS packE
        rw [hb]; rfl
end Go.Proofs

set_option autoImplicit false
namespace Go.Proofs
open Go Go.Ab
theorem head_take {X : List UInt8} {k : Nat} (hk : 0 < k) : (X.take k).head? = X[0]? := by
  cases X with
  | nil => simp
  | cons a X => cases k with
    | zero => omega
    | succ k => rfl
/-- Digits, a colon and bytes enough: a field. -/
theorem ref_field {X : List UInt8} {k : Nat} (hk0 : 0 < k) (hk : k < X.length) (h : X[k] = 58) (hd : ∀ c ∈ X.take k, isD c) (hz : 1 < k → ∀ c, X[0]? = some c → c.toNat ≠ 48) (hv : valD (X.take k) + k + 1 ≤ X.length) :
    X = fieldL (bs ((X.drop (k + 1)).take (valD (X.take k)))) ++ X.drop (k + 1 + valD (X.take k)) := by
  have hl : (X.take k).length = k := by rw [List.length_take]; omega
  have hi : Lib.decDigits (valD (X.take k)) = X.take k := by
    refine decDigits_val (fun e => ?_) hd fun h1 => ?_
    · rw [e] at hl; simp at hl; omega
    · rw [head_take hk0]; exact hz (by omega)
  unfold fieldL
  rw [bs_size, List.length_take, List.length_drop, show min (valD (X.take k)) (X.length - (k + 1)) = valD (X.take k) by omega, itoa_nat, hi, toList_bs, ← List.drop_drop (i := valD (X.take k)) (j := k + 1), List.append_assoc, List.append_assoc, List.take_append_drop, List.singleton_append]
  have e : X.drop k = 58 :: X.drop (k + 1) := by rw [List.drop_eq_getElem_cons hk, h]
  rw [← e, List.take_append_drop]
/-- Where a field stands in front, its digits are read whole. -/
theorem field_ref {f : ByteArray} {R : List UInt8} {k : Nat} (hf : f.size ≤ 90000) (hk : k ≤ (fieldL f ++ R).length) (hd : ∀ c ∈ (fieldL f ++ R).take k, isD c) (hstop : k = (fieldL f ++ R).length ∨ k = 6 ∨ ∃ h : k < (fieldL f ++ R).length, ¬ isD (fieldL f ++ R)[k]) :
    0 < k ∧ k < (fieldL f ++ R).length ∧ (fieldL f ++ R)[k]? = some 58 ∧ (1 < k → ∀ c, (fieldL f ++ R)[0]? = some c → c.toNat ≠ 48) ∧ valD ((fieldL f ++ R).take k) + k + 1 ≤ (fieldL f ++ R).length := by
  obtain ⟨d1, d2, d3, d4, _⟩ := decDigits_all f.size
  have dl := decDigits_len 4 f.size (by omega)
  have dp := List.length_pos_iff.2 d3
  have hX : fieldL f ++ R = Lib.decDigits f.size ++ (58 :: (f.data.toList ++ R)) := by
    unfold fieldL; rw [itoa_nat]; simp only [List.append_assoc, List.cons_append, List.nil_append]
  have hl : (fieldL f ++ R).length = (Lib.decDigits f.size).length + 1 + f.size + R.length := by
    rw [List.length_append, fieldL_len, itoa_nat]
  have hc : (fieldL f ++ R)[(Lib.decDigits f.size).length]? = some 58 := by
    rw [hX, List.getElem?_append_right (Nat.le_refl _), Nat.sub_self]; rfl
  have hk2 : k = (Lib.decDigits f.size).length := by
    rcases Nat.lt_trichotomy k (Lib.decDigits f.size).length with h | h | h
    · exfalso
      rcases hstop with h2 | h2 | ⟨h2, h3⟩
      · omega
      · omega
      · apply h3
        have e : (fieldL f ++ R)[k]? = some ((Lib.decDigits f.size)[k]) := by
          rw [hX, List.getElem?_append_left h, List.getElem?_eq_getElem h]
        rw [List.getElem?_eq_getElem h2] at e
        injection e with e
        rw [e]
        exact d1 _ (List.getElem_mem h)
    · exact h
    · exfalso
      have h58 : isD 58 := by
        refine hd 58 ?_
        refine List.mem_of_getElem? (i := (Lib.decDigits f.size).length) ?_
        rw [List.getElem?_take, if_pos h, hc]
      exact absurd h58.2 (by decide)
  subst hk2
  have ht : (fieldL f ++ R).take (Lib.decDigits f.size).length = Lib.decDigits f.size := by rw [hX, List.take_left' rfl]
  refine ⟨dp, by omega, hc, fun h c hc0 => ?_, by rw [ht, d2]; omega⟩
  refine d4 h c ?_
  rw [← ht, head_take dp]; exact hc0
end Go.Proofs

set_option autoImplicit false
namespace Go.Proofs
open Go Go.Ab Go.RowKit
set_option maxHeartbeats 1000000
set_option maxRecDepth 100000
variable {G : IH}
theorem valD_ltN : ∀ (n : Nat) (l : List UInt8), l.length = n → (∀ c ∈ l, isD c) → valD l < 10 ^ n := by
  intro n
  induction n with
  | zero => intro l hn _; rw [List.eq_nil_of_length_eq_zero hn]; decide
  | succ n ih =>
    intro l' hn hd
    have h0 : l' ≠ [] := by intro e; rw [e] at hn; simp at hn
    obtain ⟨l, c, rfl⟩ : ∃ l c, l' = l ++ [c] := ⟨l'.dropLast, l'.getLast h0, (List.dropLast_concat_getLast h0).symm⟩
    have hc := hd c (by simp)
    have := ih l (by rw [List.length_append, List.length_singleton] at hn; omega) fun a ha => hd a (by simp [ha])
    rw [valD_app, Nat.pow_succ]
    have h2 := hc.2
    omega
theorem valD_take {l : List UInt8} {k : Nat} (hk : k < l.length) : valD (l.take (k + 1)) = 10 * valD (l.take k) + ((l[k]).toNat - 48) := by
  rw [List.take_succ_eq_append_getElem hk, valD_app]
theorem byteAt_get {s : ByteArray} {k : Nat} (hk : k < s.data.toList.length) : byteAt s k = ((s.data.toList[k]).toNat : Int) := by
  have := byteAt_bs s.data.toList k
  rw [bs_toList, List.getElem?_eq_getElem hk] at this
  exact this
noncomputable def S26 (x : List ByteArray × ByteArray) : AS := ⟨regs Tryd.f26.ntmps [(0, vs x.2), (4, .vec 10 1 0 x.1.length)], [(10, [.arr strK 1 (rowS x.1)])]⟩
noncomputable def S26b (l0 : List ByteArray) (s : ByteArray) (k : Nat) : AS := ⟨regs Tryd.f26.ntmps [(0, vs s), (4, .vec 10 1 0 l0.length), (5, vi k), (6, vi (valD (s.data.toList.take k)))], [(10, [.arr strK 1 (rowS l0)])]⟩
def orc26 : Orc := ⟨fun _ _ => none, false, fun d => Nat.beq d 10, fun _ => false, fun _ _ _ => none⟩
theorem f26r (d : ByteArray) (hd : d.size ≤ 8000) : FnOK Tryd.prog G 26 [ds d] (unR d.data.toList) := by
  refine FnOK.walk (orc := orc26) (keep := []) follows Tryd.func26 rfl Tryd.call26 ?_
  refine of_eqH (b :=
    ((((decide ((↑(ByteArray.size d) : Int) > (30000 : Int))) = true) →
    (((.tup [(.con (.slice none ((0 : Nat)) ((0 : Nat)))), (.con (.int .i64 ((8 : Int))))]) : DV) = (unR (Array.toList (ByteArray.data d))))) ∧
    (((decide ((↑(ByteArray.size d) : Int) > (30000 : Int))) = false) →
    AWP Tryd.prog G [.code (cAt (bodyOf Tryd.f26) [1, 1, 1, 0, 0]), (.blk ((0 : Nat))), .code (cAt (bodyOf Tryd.f26) [1, 1, 1, 1])] ⟨[(.d (.con (.string d))), .any, (.d (.con (.slice none ((0 : Nat)) ((0 : Nat))))), (.d (.con (.int .i64 ((0 : Int))))), (.vec ((10 : Nat)) ((1 : Nat)) ((0 : Nat)) ((0 : Nat))), .any, .any, (.d (.con (.string d))), (.d (.con (.int .i64 ((↑(ByteArray.size d) : Int))))), (.d (.con (.bool (decide ((↑(ByteArray.size d) : Int) > (30000 : Int)))))), (.vec ((10 : Nat)) ((1 : Nat)) ((0 : Nat)) ((0 : Nat))), .any, .any, .any, .any, .any, .any, .any, .any, .any, .any, .any, .any, .any, .any, .any, .any, .any, .any, .any, .any, .any, .any, .any, .any, .any, .any, .any, .any, .any, .any, .any, .any, .any, .any, .any, .any, .any, .any, .any, .any, .any, .any, .any, .any, .any, .any, .any, .any, .any, .any, .any, .any, .any, .any, .any, .any, .any, .any, .any, .any, .any, .any, .any, .any, .any, .any, .any, .any, .any, .any, .any, .any, .any, .any, .any, .any, .any, .any, .any, .any, .any, .any, .any, .any, .any, .any, .any], [(((10 : Nat)), [(.arr ⟨false, ((9 : Nat)), false⟩ ((1 : Nat)) (fun x => DV.con undef))])]⟩ (Ret Tryd.prog Tryd.f26 (unR (Array.toList (ByteArray.data d))))))) (by kernel_rfl) ?_
  refine ⟨fun h => ?_, fun _ => ?_⟩
  · simp at h; omega
  refine AWP.loop (c := cAt (bodyOf Tryd.f26) [1, 1, 1, 0, 0, 0]) (by kernel_rfl) S26 (fun x => d.data.toList = packL x.1 ++ x.2.data.toList) (fun x => x.2.size) ([], d) ?_ rfl ?_
  · refine of_eq (b :=
    (((((.d (.con (.string d))) : AV) = (.d (.con (.string d)))) ∧
    ((((.vec ((10 : Nat)) ((1 : Nat)) ((0 : Nat)) ((0 : Nat))) : AV) = (.vec ((10 : Nat)) ((1 : Nat)) ((0 : Nat)) ((0 : Nat)))) ∧
    True)) ∧
    ((((some [(.arr ⟨false, ((9 : Nat)), false⟩ ((1 : Nat)) (fun x => DV.con undef))]) : (Option (List AV))) = (some [(.arr ⟨false, ((9 : Nat)), false⟩ ((1 : Nat)) (rowS []))])) ∧
    True))) (by kernel_rfl) ?_
    exact ⟨⟨rfl, rfl, trivial⟩, rfl, trivial⟩
  · rintro ⟨l0, s⟩ hI
    refine walk (orc := orc26) (keep := []) (cuts := []) (n := 1000) follows ?_
    refine of_eqH (b :=
      ((((!ByteArray.toList s == ByteArray.toList { data := #[] }) = true) →
      AWP Tryd.prog G [.code (cAt (bodyOf Tryd.f26) [1, 1, 1, 0, 0, 0, 1, 0, 1, 0, 0]), (.blk ((2 : Nat))), .code (cAt (bodyOf Tryd.f26) [1, 1, 1, 0, 0, 0, 1, 0, 1, 1]), (.blk ((1 : Nat)))] ⟨[(.d (.con (.string s))), .any, .any, .any, (.vec ((10 : Nat)) ((1 : Nat)) ((0 : Nat)) (List.length l0)), (.d (.con (.int .i64 ((0 : Int))))), (.d (.con (.int .i64 ((0 : Int))))), .any, .any, .any, .any, (.d (.con (.string s))), (.d (.con (.bool (!ByteArray.toList s == ByteArray.toList { data := #[] })))), .any, .any, .any, .any, .any, .any, .any, .any, .any, .any, .any, .any, .any, .any, .any, .any, .any, .any, .any, .any, .any, .any, .any, .any, .any, .any, .any, .any, .any, .any, .any, .any, .any, .any, .any, .any, .any, .any, .any, .any, .any, .any, .any, .any, .any, .any, .any, .any, .any, .any, .any, .any, .any, .any, .any, .any, .any, .any, .any, .any, .any, .any, .any, .any, .any, .any, .any, .any, .any, .any, .any, .any, .any, .any, .any, .any, .any, .any, .any, .any, .any, .any, .any, .any, .any], [(((10 : Nat)), [(.arr ⟨false, ((9 : Nat)), false⟩ ((1 : Nat)) (rowS l0))])]⟩ (RoundQ Tryd.prog G [It.blk (0 : Nat), It.code (Code.seq (Code.region (11 : Nat) #[{ dst := some (97 : Nat), op := Op.move (Operand.tmp (4 : Nat)), type := (23 : Nat), pos := "ref.go:50", after := #[], guard := none }, { dst := some (2 : Nat), op := Op.assign (Operand.tmp (97 : Nat)), type := (23 : Nat), pos := "ref.go:50", after := #[{ on := (0 : Nat), ground := Ground.data }, { on := (0 : Nat), ground := Ground.phase }], guard := none }, { dst := some (3 : Nat), op := Op.assign (Operand.const (Value.int IntKind.i64 (0 : Int))), type := (35 : Nat), pos := "ref.go:50", after := #[{ on := (1 : Nat), ground := Ground.chain }, { on := (0 : Nat), ground := Ground.phase }, { on := (1 : Nat), ground := Ground.phase }], guard := none }] false) Code.ret)] (Ret Tryd.prog Tryd.f26 (unR (Array.toList (ByteArray.data d)))) S26 (fun x => Array.toList (ByteArray.data d) = packL (Prod.fst x) ++ Array.toList (ByteArray.data (Prod.snd x))) (fun x => ByteArray.size (Prod.snd x)) (l0, s))) ∧
      (((!ByteArray.toList s == ByteArray.toList { data := #[] }) = false) →
      AWP Tryd.prog G [.code (cAt (bodyOf Tryd.f26) [1, 1, 1, 1])] ⟨[(.d (.con (.string s))), .any, .any, .any, (.vec ((10 : Nat)) ((1 : Nat)) ((0 : Nat)) (List.length l0)), .any, .any, .any, .any, .any, .any, (.d (.con (.string s))), (.d (.con (.bool (!ByteArray.toList s == ByteArray.toList { data := #[] })))), .any, .any, .any, .any, .any, .any, .any, .any, .any, .any, .any, .any, .any, .any, .any, .any, .any, .any, .any, .any, .any, .any, .any, .any, .any, .any, .any, .any, .any, .any, .any, .any, .any, .any, .any, .any, .any, .any, .any, .any, .any, .any, .any, .any, .any, .any, .any, .any, .any, .any, .any, .any, .any, .any, .any, .any, .any, .any, .any, .any, .any, .any, .any, .any, .any, .any, .any, .any, .any, .any, .any, .any, .any, .any, .any, .any, .any, .any, .any, .any, .any, .any, .any, .any, .any], [(((10 : Nat)), [(.arr ⟨false, ((9 : Nat)), false⟩ ((1 : Nat)) (rowS l0))])]⟩ (Ret Tryd.prog Tryd.f26 (unR (Array.toList (ByteArray.data d))))))) (by kernel_rfl) ?_
    have hI : d.data.toList = packL l0 ++ s.data.toList := hI
    have hlen := congrArg List.length hI
    rw [size_list, List.length_append, size_list] at hlen
    have hcnt := packL_count l0
    refine ⟨fun hs0 => ?_, fun hs0 => ?_⟩
    · refine AWP.loop (c := cAt (bodyOf Tryd.f26) [1, 1, 1, 0, 0, 0, 1, 0, 1, 0, 0, 0]) (by kernel_rfl) (S26b l0 s) (fun k => k ≤ s.size ∧ k ≤ 6 ∧ ∀ c ∈ s.data.toList.take k, isD c) (fun k => s.size - k) 0 ?_ ⟨Nat.zero_le _, Nat.zero_le _, fun c hc => by simp at hc⟩ ?_
      · refine of_eq (b :=
        (((((.d (.con (.string s))) : AV) = (.d (.con (.string s)))) ∧
        ((((.vec ((10 : Nat)) ((1 : Nat)) ((0 : Nat)) (List.length l0)) : AV) = (.vec ((10 : Nat)) ((1 : Nat)) ((0 : Nat)) (List.length l0))) ∧
        ((((.d (.con (.int .i64 ((0 : Int))))) : AV) = (.d (.con (.int .i64 ((0 : Int)))))) ∧
        ((((.d (.con (.int .i64 ((0 : Int))))) : AV) = (.d (.con (.int .i64 ((↑(valD (List.take (0 : Nat) (Array.toList (ByteArray.data s)))) : Int)))))) ∧
        True)))) ∧
        ((((some [(.arr ⟨false, ((9 : Nat)), false⟩ ((1 : Nat)) (rowS l0))]) : (Option (List AV))) = (some [(.arr ⟨false, ((9 : Nat)), false⟩ ((1 : Nat)) (rowS l0))])) ∧
        True))) (by kernel_rfl) ?_
        exact ⟨⟨rfl, rfl, rfl, rfl, trivial⟩, rfl, trivial⟩
      · rintro k ⟨hk, hk6, hkd⟩
        refine walk (orc := orc26) (keep := []) (cuts := []) (n := 1000) follows ?_
        refine of_eqH (b :=
          (((((decide ((↑k : Int) < (↑(ByteArray.size s) : Int)) && decide ((↑k : Int) < (6 : Int))) = true) →
          (((0 : Int) ≤ (↑k : Int)) ∧
          ((↑k : Int) < (↑(ByteArray.size s) : Int)))) ∧
          (((decide ((↑k : Int) < (↑(ByteArray.size s) : Int)) && decide ((↑k : Int) < (6 : Int)) && decide (byteAt s (Int.toNat (↑k : Int)) ≥ (48 : Int))) = true) →
          (((0 : Int) ≤ (↑k : Int)) ∧
          ((↑k : Int) < (↑(ByteArray.size s) : Int))))) ∧
          ((((decide ((↑k : Int) < (↑(ByteArray.size s) : Int)) && decide ((↑k : Int) < (6 : Int)) && decide (byteAt s (Int.toNat (↑k : Int)) ≥ (48 : Int)) && decide (byteAt s (Int.toNat (↑k : Int)) ≤ (57 : Int))) = true) →
          (((I64 ((10 : Int) * (↑(valD (List.take k (Array.toList (ByteArray.data s)))) : Int))) ∧
          ((((0 : Int) ≤ (↑k : Int)) ∧
          ((↑k : Int) < (↑(ByteArray.size s) : Int))) ∧
          ((I64 ((10 : Int) * (↑(valD (List.take k (Array.toList (ByteArray.data s)))) : Int) + IntKind.wrap IntKind.i64 (IntKind.wrap IntKind.u8 (byteAt s (Int.toNat (↑k : Int)) - (48 : Int))))) ∧
          (I64 ((↑k : Int) + (1 : Int)))))) ∧
          Again (S26b l0 s) (fun k => k ≤ ByteArray.size s ∧ k ≤ (6 : Nat) ∧ ∀ (c : UInt8), c ∈ List.take k (Array.toList (ByteArray.data s)) → isD c) (fun k => ByteArray.size s - k) k ⟨[(.d (.con (.string s))), .any, .any, .any, (.vec ((10 : Nat)) ((1 : Nat)) ((0 : Nat)) (List.length l0)), (.d (.con (.int .i64 ((↑k : Int) + (1 : Int))))), (.d (.con (.int .i64 ((10 : Int) * (↑(valD (List.take k (Array.toList (ByteArray.data s)))) : Int) + IntKind.wrap IntKind.i64 (IntKind.wrap IntKind.u8 (byteAt s (Int.toNat (↑k : Int)) - (48 : Int))))))), .any, .any, .any, .any, .any, .any, (.d (.con (.int .i64 ((↑k : Int))))), (.d (.con (.string s))), (.d (.con (.int .i64 ((↑(ByteArray.size s) : Int))))), (.d (.con (.bool (decide ((↑k : Int) < (↑(ByteArray.size s) : Int)))))), (.d (.con (.bool (decide ((↑k : Int) < (↑(ByteArray.size s) : Int)))))), .any, .any, (.d (.con (.bool (decide ((↑k : Int) < (↑(ByteArray.size s) : Int)) && decide ((↑k : Int) < (6 : Int)))))), (.d (.con (.bool (decide ((↑k : Int) < (↑(ByteArray.size s) : Int)) && decide ((↑k : Int) < (6 : Int)))))), .any, .any, .any, .any, (.d (.con (.bool (decide ((↑k : Int) < (↑(ByteArray.size s) : Int)) && decide ((↑k : Int) < (6 : Int)) && decide (byteAt s (Int.toNat (↑k : Int)) ≥ (48 : Int)))))), (.d (.con (.bool (decide ((↑k : Int) < (↑(ByteArray.size s) : Int)) && decide ((↑k : Int) < (6 : Int)) && decide (byteAt s (Int.toNat (↑k : Int)) ≥ (48 : Int)))))), .any, .any, .any, .any, (.d (.con (.bool (decide ((↑k : Int) < (↑(ByteArray.size s) : Int)) && decide ((↑k : Int) < (6 : Int)) && decide (byteAt s (Int.toNat (↑k : Int)) ≥ (48 : Int)) && decide (byteAt s (Int.toNat (↑k : Int)) ≤ (57 : Int)))))), (.d (.con (.int .i64 ((↑(valD (List.take k (Array.toList (ByteArray.data s)))) : Int))))), (.d (.con (.int .i64 ((10 : Int) * (↑(valD (List.take k (Array.toList (ByteArray.data s)))) : Int))))), (.d (.con (.string s))), (.d (.con (.int .i64 ((↑k : Int))))), (.d (.con (.int .u8 (byteAt s (Int.toNat (↑k : Int)))))), (.d (.con (.int .u8 (IntKind.wrap IntKind.u8 (byteAt s (Int.toNat (↑k : Int)) - (48 : Int)))))), (.d (.con (.int .i64 (IntKind.wrap IntKind.i64 (IntKind.wrap IntKind.u8 (byteAt s (Int.toNat (↑k : Int)) - (48 : Int))))))), (.d (.con (.int .i64 ((10 : Int) * (↑(valD (List.take k (Array.toList (ByteArray.data s)))) : Int) + IntKind.wrap IntKind.i64 (IntKind.wrap IntKind.u8 (byteAt s (Int.toNat (↑k : Int)) - (48 : Int))))))), (.d (.con (.int .i64 ((↑k : Int))))), (.d (.con (.int .i64 ((↑k : Int) + (1 : Int))))), .any, .any, .any, .any, .any, .any, .any, .any, .any, .any, .any, .any, .any, .any, .any, .any, .any, .any, .any, .any, .any, .any, .any, .any, .any, .any, .any, .any, .any, .any, .any, .any, .any, .any, .any, .any, .any, .any, .any, .any, .any, .any, .any, .any, .any, .any, .any, .any, .any, .any, .any, .any, .any, .any, .any], [(((10 : Nat)), [(.arr ⟨false, ((9 : Nat)), false⟩ ((1 : Nat)) (rowS l0))])]⟩)) ∧
          (((decide ((↑k : Int) < (↑(ByteArray.size s) : Int)) && decide ((↑k : Int) < (6 : Int)) && decide (byteAt s (Int.toNat (↑k : Int)) ≥ (48 : Int)) && decide (byteAt s (Int.toNat (↑k : Int)) ≤ (57 : Int))) = false) →
          AWP Tryd.prog G [.code (cAt (bodyOf Tryd.f26) [1, 1, 1, 0, 0, 0, 1, 0, 1, 1]), (.blk ((1 : Nat)))] ⟨[(.d (.con (.string s))), .any, .any, .any, (.vec ((10 : Nat)) ((1 : Nat)) ((0 : Nat)) (List.length l0)), (.d (.con (.int .i64 ((↑k : Int))))), (.d (.con (.int .i64 ((↑(valD (List.take k (Array.toList (ByteArray.data s)))) : Int))))), .any, .any, .any, .any, .any, .any, (.d (.con (.int .i64 ((↑k : Int))))), (.d (.con (.string s))), (.d (.con (.int .i64 ((↑(ByteArray.size s) : Int))))), (.d (.con (.bool (decide ((↑k : Int) < (↑(ByteArray.size s) : Int)))))), (.d (.con (.bool (decide ((↑k : Int) < (↑(ByteArray.size s) : Int)))))), (.gate ((17 : Nat)) true (decide ((↑k : Int) < (↑(ByteArray.size s) : Int))) (.d (.con (.int .i64 ((↑k : Int)))))), (.gate ((17 : Nat)) true (decide ((↑k : Int) < (↑(ByteArray.size s) : Int))) (.d (.con (.bool (decide ((↑k : Int) < (6 : Int))))))), (.d (.con (.bool (decide ((↑k : Int) < (↑(ByteArray.size s) : Int)) && decide ((↑k : Int) < (6 : Int)))))), (.d (.con (.bool (decide ((↑k : Int) < (↑(ByteArray.size s) : Int)) && decide ((↑k : Int) < (6 : Int)))))), (.gate ((21 : Nat)) true (decide ((↑k : Int) < (↑(ByteArray.size s) : Int)) && decide ((↑k : Int) < (6 : Int))) (.d (.con (.string s)))), (.gate ((21 : Nat)) true (decide ((↑k : Int) < (↑(ByteArray.size s) : Int)) && decide ((↑k : Int) < (6 : Int))) (.d (.con (.int .i64 ((↑k : Int)))))), (.gate ((21 : Nat)) true (decide ((↑k : Int) < (↑(ByteArray.size s) : Int)) && decide ((↑k : Int) < (6 : Int))) (.d (.con (.int .u8 (byteAt s (Int.toNat (↑k : Int))))))), (.gate ((21 : Nat)) true (decide ((↑k : Int) < (↑(ByteArray.size s) : Int)) && decide ((↑k : Int) < (6 : Int))) (.d (.con (.bool (decide (byteAt s (Int.toNat (↑k : Int)) ≥ (48 : Int))))))), (.d (.con (.bool (decide ((↑k : Int) < (↑(ByteArray.size s) : Int)) && decide ((↑k : Int) < (6 : Int)) && decide (byteAt s (Int.toNat (↑k : Int)) ≥ (48 : Int)))))), (.d (.con (.bool (decide ((↑k : Int) < (↑(ByteArray.size s) : Int)) && decide ((↑k : Int) < (6 : Int)) && decide (byteAt s (Int.toNat (↑k : Int)) ≥ (48 : Int)))))), (.gate ((27 : Nat)) true (decide ((↑k : Int) < (↑(ByteArray.size s) : Int)) && decide ((↑k : Int) < (6 : Int)) && decide (byteAt s (Int.toNat (↑k : Int)) ≥ (48 : Int))) (.d (.con (.string s)))), (.gate ((27 : Nat)) true (decide ((↑k : Int) < (↑(ByteArray.size s) : Int)) && decide ((↑k : Int) < (6 : Int)) && decide (byteAt s (Int.toNat (↑k : Int)) ≥ (48 : Int))) (.d (.con (.int .i64 ((↑k : Int)))))), (.gate ((27 : Nat)) true (decide ((↑k : Int) < (↑(ByteArray.size s) : Int)) && decide ((↑k : Int) < (6 : Int)) && decide (byteAt s (Int.toNat (↑k : Int)) ≥ (48 : Int))) (.d (.con (.int .u8 (byteAt s (Int.toNat (↑k : Int))))))), (.gate ((27 : Nat)) true (decide ((↑k : Int) < (↑(ByteArray.size s) : Int)) && decide ((↑k : Int) < (6 : Int)) && decide (byteAt s (Int.toNat (↑k : Int)) ≥ (48 : Int))) (.d (.con (.bool (decide (byteAt s (Int.toNat (↑k : Int)) ≤ (57 : Int))))))), (.d (.con (.bool (decide ((↑k : Int) < (↑(ByteArray.size s) : Int)) && decide ((↑k : Int) < (6 : Int)) && decide (byteAt s (Int.toNat (↑k : Int)) ≥ (48 : Int)) && decide (byteAt s (Int.toNat (↑k : Int)) ≤ (57 : Int)))))), .any, .any, .any, .any, .any, .any, .any, .any, .any, .any, .any, .any, .any, .any, .any, .any, .any, .any, .any, .any, .any, .any, .any, .any, .any, .any, .any, .any, .any, .any, .any, .any, .any, .any, .any, .any, .any, .any, .any, .any, .any, .any, .any, .any, .any, .any, .any, .any, .any, .any, .any, .any, .any, .any, .any, .any, .any, .any, .any, .any, .any, .any, .any, .any, .any], [(((10 : Nat)), [(.arr ⟨false, ((9 : Nat)), false⟩ ((1 : Nat)) (rowS l0))])]⟩ (RoundQ Tryd.prog G [It.blk (0 : Nat), It.code (Code.seq (Code.region (11 : Nat) #[{ dst := some (97 : Nat), op := Op.move (Operand.tmp (4 : Nat)), type := (23 : Nat), pos := "ref.go:50", after := #[], guard := none }, { dst := some (2 : Nat), op := Op.assign (Operand.tmp (97 : Nat)), type := (23 : Nat), pos := "ref.go:50", after := #[{ on := (0 : Nat), ground := Ground.data }, { on := (0 : Nat), ground := Ground.phase }], guard := none }, { dst := some (3 : Nat), op := Op.assign (Operand.const (Value.int IntKind.i64 (0 : Int))), type := (35 : Nat), pos := "ref.go:50", after := #[{ on := (1 : Nat), ground := Ground.chain }, { on := (0 : Nat), ground := Ground.phase }, { on := (1 : Nat), ground := Ground.phase }], guard := none }] false) Code.ret)] (Ret Tryd.prog Tryd.f26 (unR (Array.toList (ByteArray.data d)))) S26 (fun x => Array.toList (ByteArray.data d) = packL (Prod.fst x) ++ Array.toList (ByteArray.data (Prod.snd x))) (fun x => ByteArray.size (Prod.snd x)) (l0, s)))))) (by kernel_rfl) ?_
        have hsl : s.data.toList.length = s.size := size_list s
        have hvl : valD (s.data.toList.take k) < 1000000 := by
          have h1 := valD_ltN _ _ rfl hkd
          have h2 : (10 : Nat) ^ (s.data.toList.take k).length ≤ 10 ^ 6 := Nat.pow_le_pow_right (by decide) (by rw [List.length_take]; omega)
          omega
        simp only [Int.toNat_natCast]
        refine ⟨⟨fun h => ?_, fun h => ?_⟩, fun h => ?_, fun h => ?_⟩
        · simp at h; omega
        · simp at h; omega
        · simp only [Bool.and_eq_true, decide_eq_true_eq] at h
          obtain ⟨⟨⟨h1, h2⟩, h3⟩, h4⟩ := h
          have hks : k < s.data.toList.length := by omega
          have hb := byteAt_get hks
          rw [hb] at h3 h4
          have e1 : IntKind.wrap .u8 (((s.data.toList[k]).toNat : Int) - 48) = (((s.data.toList[k]).toNat - 48 : Nat) : Int) := by
            rw [show (((s.data.toList[k]).toNat : Int) - 48) = (((s.data.toList[k]).toNat - 48 : Nat) : Int) by omega]
            exact u8_nat _ (by omega)
          have e2 : IntKind.wrap .i64 (((s.data.toList[k]).toNat - 48 : Nat) : Int) = (((s.data.toList[k]).toNat - 48 : Nat) : Int) := IntWalk.i64_in _ ⟨by omega, by omega⟩
          simp only [hb, e1, e2]
          refine ⟨⟨⟨by omega, by omega⟩, ⟨by omega, by omega⟩, ⟨by omega, by omega⟩, by omega, by omega⟩, Again.mk (k + 1) ?_ ⟨by omega, by omega, fun c hc => ?_⟩ (by omega)⟩
          · refine of_eq (b :=
            (((((.d (.con (.string s))) : AV) = (.d (.con (.string s)))) ∧
            ((((.vec ((10 : Nat)) ((1 : Nat)) ((0 : Nat)) (List.length l0)) : AV) = (.vec ((10 : Nat)) ((1 : Nat)) ((0 : Nat)) (List.length l0))) ∧
            ((((.d (.con (.int .i64 ((↑k : Int) + (1 : Int))))) : AV) = (.d (.con (.int .i64 ((↑(k + (1 : Nat)) : Int)))))) ∧
            ((((.d (.con (.int .i64 ((10 : Int) * (↑(valD (List.take k (Array.toList (ByteArray.data s)))) : Int) + (↑(UInt8.toNat (Array.toList (ByteArray.data s))[k] - (48 : Nat)) : Int))))) : AV) = (.d (.con (.int .i64 ((↑(valD (List.take (k + (1 : Nat)) (Array.toList (ByteArray.data s)))) : Int)))))) ∧
            True)))) ∧
            ((((some [(.arr ⟨false, ((9 : Nat)), false⟩ ((1 : Nat)) (rowS l0))]) : (Option (List AV))) = (some [(.arr ⟨false, ((9 : Nat)), false⟩ ((1 : Nat)) (rowS l0))])) ∧
            True))) (by kernel_rfl) ?_
            refine ⟨⟨rfl, rfl, rfl, ?_, trivial⟩, rfl, trivial⟩
            rw [valD_take hks]; push_cast; rfl
          · rw [List.take_succ_eq_append_getElem hks] at hc
            rcases List.mem_append.1 hc with hc | hc
            · exact hkd c hc
            · rw [List.mem_singleton] at hc; subst hc
              exact ⟨by omega, by omega⟩
        · refine walk (orc := orc26) (keep := []) (cuts := []) (n := 1000) follows ?_
          refine of_eqH (b :=
            (((((!((↑k : Int) == (0 : Int) || (↑k : Int) == (↑(ByteArray.size s) : Int))) = true) →
            (((0 : Int) ≤ (↑k : Int)) ∧
            ((↑k : Int) < (↑(ByteArray.size s) : Int)))) ∧
            ((((!((↑k : Int) == (0 : Int) || (↑k : Int) == (↑(ByteArray.size s) : Int) || byteAt s (Int.toNat (↑k : Int)) != (58 : Int)) && decide ((↑k : Int) > (1 : Int))) = true) →
            (((0 : Int) ≤ (0 : Int)) ∧
            ((0 : Int) < (↑(ByteArray.size s) : Int)))) ∧
            ((((!((↑k : Int) == (0 : Int) || (↑k : Int) == (↑(ByteArray.size s) : Int) || byteAt s (Int.toNat (↑k : Int)) != (58 : Int) || decide ((↑k : Int) > (1 : Int)) && byteAt s (Int.toNat (0 : Int)) == (48 : Int))) = true) →
            (I64 ((↑(ByteArray.size s) : Int) - (↑k : Int)))) ∧
            (((!((↑k : Int) == (0 : Int) || (↑k : Int) == (↑(ByteArray.size s) : Int) || byteAt s (Int.toNat (↑k : Int)) != (58 : Int) || decide ((↑k : Int) > (1 : Int)) && byteAt s (Int.toNat (0 : Int)) == (48 : Int))) = true) →
            (I64 ((↑(ByteArray.size s) : Int) - (↑k : Int) - (1 : Int))))))) ∧
            (((((↑k : Int) == (0 : Int) || (↑k : Int) == (↑(ByteArray.size s) : Int) || byteAt s (Int.toNat (↑k : Int)) != (58 : Int) || decide ((↑k : Int) > (1 : Int)) && byteAt s (Int.toNat (0 : Int)) == (48 : Int) || decide ((↑(valD (List.take k (Array.toList (ByteArray.data s)))) : Int) > (↑(ByteArray.size s) : Int) - (↑k : Int) - (1 : Int)) || (↑(List.length l0) : Int) == (4096 : Int)) = true) →
            (((.tup [(.con (.slice none ((0 : Nat)) ((0 : Nat)))), (.con (.int .i64 ((11 : Int))))]) : DV) = (unR (Array.toList (ByteArray.data d))))) ∧
            ((((↑k : Int) == (0 : Int) || (↑k : Int) == (↑(ByteArray.size s) : Int) || byteAt s (Int.toNat (↑k : Int)) != (58 : Int) || decide ((↑k : Int) > (1 : Int)) && byteAt s (Int.toNat (0 : Int)) == (48 : Int) || decide ((↑(valD (List.take k (Array.toList (ByteArray.data s)))) : Int) > (↑(ByteArray.size s) : Int) - (↑k : Int) - (1 : Int)) || (↑(List.length l0) : Int) == (4096 : Int)) = false) →
            (((I64 ((↑k : Int) + (1 : Int))) ∧
            ((I64 ((↑k : Int) + (1 : Int))) ∧
            ((I64 ((↑k : Int) + (1 : Int) + (↑(valD (List.take k (Array.toList (ByteArray.data s)))) : Int))) ∧
            ((((0 : Int) ≤ (↑k : Int) + (1 : Int)) ∧
            (((↑k : Int) + (1 : Int) ≤ (↑k : Int) + (1 : Int) + (↑(valD (List.take k (Array.toList (ByteArray.data s)))) : Int)) ∧
            ((↑k : Int) + (1 : Int) + (↑(valD (List.take k (Array.toList (ByteArray.data s)))) : Int) ≤ (↑(ByteArray.size s) : Int)))) ∧
            ((((List.length l0 + (1 : Nat)) * (16 : Nat) ≤ (1099511627776 : Nat)) ∧
            (List.length l0 + (1 : Nat) ≤ (1099511627776 : Nat))) ∧
            ((∀ (i : Nat), i < (1 : Nat) → elemOK false (1 : Nat) (elemF false (1 : Nat) [DV.con (Value.string (ByteArray.extract s (Int.toNat ((↑k : Int) + (1 : Int))) (Int.toNat ((↑k : Int) + (1 : Int) + (↑(valD (List.take k (Array.toList (ByteArray.data s)))) : Int)))))] i) = true) ∧
            ((I64 ((↑k : Int) + (1 : Int))) ∧
            ((I64 ((↑k : Int) + (1 : Int) + (↑(valD (List.take k (Array.toList (ByteArray.data s)))) : Int))) ∧
            (((0 : Int) ≤ (↑k : Int) + (1 : Int) + (↑(valD (List.take k (Array.toList (ByteArray.data s)))) : Int)) ∧
            (((↑k : Int) + (1 : Int) + (↑(valD (List.take k (Array.toList (ByteArray.data s)))) : Int) ≤ (↑(ByteArray.size s) : Int)) ∧
            ((↑(ByteArray.size s) : Int) ≤ (↑(ByteArray.size s) : Int)))))))))))) ∧
            Again S26 (fun x => Array.toList (ByteArray.data d) = packL (Prod.fst x) ++ Array.toList (ByteArray.data (Prod.snd x))) (fun x => ByteArray.size (Prod.snd x)) ((l0, s)) ⟨[(.d (.con (.string (ByteArray.extract s (Int.toNat ((↑k : Int) + (1 : Int) + (↑(valD (List.take k (Array.toList (ByteArray.data s)))) : Int))) (Int.toNat (↑(ByteArray.size s) : Int)))))), .any, .any, .any, (.vec ((90 : Nat)) ((1 : Nat)) ((0 : Nat)) (List.length l0 + (1 : Nat))), (.d (.con (.int .i64 ((↑k : Int))))), (.d (.con (.int .i64 ((↑(valD (List.take k (Array.toList (ByteArray.data s)))) : Int))))), .any, .any, .any, .any, .any, .any, (.d (.con (.int .i64 ((↑k : Int))))), (.d (.con (.string s))), (.d (.con (.int .i64 ((↑(ByteArray.size s) : Int))))), (.d (.con (.bool (decide ((↑k : Int) < (↑(ByteArray.size s) : Int)))))), (.d (.con (.bool (decide ((↑k : Int) < (↑(ByteArray.size s) : Int)))))), .any, .any, (.d (.con (.bool (decide ((↑k : Int) < (↑(ByteArray.size s) : Int)) && decide ((↑k : Int) < (6 : Int)))))), (.d (.con (.bool (decide ((↑k : Int) < (↑(ByteArray.size s) : Int)) && decide ((↑k : Int) < (6 : Int)))))), .any, .any, .any, .any, (.d (.con (.bool (decide ((↑k : Int) < (↑(ByteArray.size s) : Int)) && decide ((↑k : Int) < (6 : Int)) && decide (byteAt s k ≥ (48 : Int)))))), (.d (.con (.bool (decide ((↑k : Int) < (↑(ByteArray.size s) : Int)) && decide ((↑k : Int) < (6 : Int)) && decide (byteAt s k ≥ (48 : Int)))))), .any, .any, .any, .any, (.d (.con (.bool (decide ((↑k : Int) < (↑(ByteArray.size s) : Int)) && decide ((↑k : Int) < (6 : Int)) && decide (byteAt s k ≥ (48 : Int)) && decide (byteAt s k ≤ (57 : Int)))))), .any, .any, .any, .any, .any, .any, .any, .any, .any, .any, (.d (.con (.int .i64 ((↑k : Int))))), (.d (.con (.bool ((↑k : Int) == (0 : Int))))), (.d (.con (.bool ((↑k : Int) == (0 : Int))))), .any, .any, .any, .any, (.d (.con (.bool ((↑k : Int) == (0 : Int) || (↑k : Int) == (↑(ByteArray.size s) : Int))))), (.d (.con (.bool ((↑k : Int) == (0 : Int) || (↑k : Int) == (↑(ByteArray.size s) : Int))))), .any, .any, .any, .any, (.d (.con (.bool ((↑k : Int) == (0 : Int) || (↑k : Int) == (↑(ByteArray.size s) : Int) || byteAt s (Int.toNat (↑k : Int)) != (58 : Int))))), (.d (.con (.bool ((↑k : Int) == (0 : Int) || (↑k : Int) == (↑(ByteArray.size s) : Int) || byteAt s (Int.toNat (↑k : Int)) != (58 : Int))))), .any, .any, .any, .any, .any, .any, .any, (.d (.con (.bool ((↑k : Int) == (0 : Int) || (↑k : Int) == (↑(ByteArray.size s) : Int) || byteAt s (Int.toNat (↑k : Int)) != (58 : Int) || decide ((↑k : Int) > (1 : Int)) && byteAt s (Int.toNat (0 : Int)) == (48 : Int))))), (.d (.con (.bool ((↑k : Int) == (0 : Int) || (↑k : Int) == (↑(ByteArray.size s) : Int) || byteAt s (Int.toNat (↑k : Int)) != (58 : Int) || decide ((↑k : Int) > (1 : Int)) && byteAt s (Int.toNat (0 : Int)) == (48 : Int))))), .any, .any, .any, .any, .any, .any, .any, (.d (.con (.bool ((↑k : Int) == (0 : Int) || (↑k : Int) == (↑(ByteArray.size s) : Int) || byteAt s (Int.toNat (↑k : Int)) != (58 : Int) || decide ((↑k : Int) > (1 : Int)) && byteAt s (Int.toNat (0 : Int)) == (48 : Int) || decide ((↑(valD (List.take k (Array.toList (ByteArray.data s)))) : Int) > (↑(ByteArray.size s) : Int) - (↑k : Int) - (1 : Int)))))), (.d (.con (.bool ((↑k : Int) == (0 : Int) || (↑k : Int) == (↑(ByteArray.size s) : Int) || byteAt s (Int.toNat (↑k : Int)) != (58 : Int) || decide ((↑k : Int) > (1 : Int)) && byteAt s (Int.toNat (0 : Int)) == (48 : Int) || decide ((↑(valD (List.take k (Array.toList (ByteArray.data s)))) : Int) > (↑(ByteArray.size s) : Int) - (↑k : Int) - (1 : Int)))))), .any, .any, .any, (.d (.con (.bool ((↑k : Int) == (0 : Int) || (↑k : Int) == (↑(ByteArray.size s) : Int) || byteAt s (Int.toNat (↑k : Int)) != (58 : Int) || decide ((↑k : Int) > (1 : Int)) && byteAt s (Int.toNat (0 : Int)) == (48 : Int) || decide ((↑(valD (List.take k (Array.toList (ByteArray.data s)))) : Int) > (↑(ByteArray.size s) : Int) - (↑k : Int) - (1 : Int)) || (↑(List.length l0) : Int) == (4096 : Int))))), (.vec ((10 : Nat)) ((1 : Nat)) ((0 : Nat)) (List.length l0)), (.d (.con (.string s))), (.d (.con (.int .i64 ((↑k : Int))))), (.d (.con (.int .i64 ((↑k : Int) + (1 : Int))))), (.d (.con (.int .i64 ((↑k : Int))))), (.d (.con (.int .i64 ((↑k : Int) + (1 : Int))))), (.d (.con (.int .i64 ((↑(valD (List.take k (Array.toList (ByteArray.data s)))) : Int))))), (.d (.con (.int .i64 ((↑k : Int) + (1 : Int) + (↑(valD (List.take k (Array.toList (ByteArray.data s)))) : Int))))), (.d (.con (.string (ByteArray.extract s (Int.toNat ((↑k : Int) + (1 : Int))) (Int.toNat ((↑k : Int) + (1 : Int) + (↑(valD (List.take k (Array.toList (ByteArray.data s)))) : Int))))))), (.d (.slc ((1 : Nat)) ((1 : Nat)) (elemF false ((1 : Nat)) [(.con (.string (ByteArray.extract s (Int.toNat ((↑k : Int) + (1 : Int))) (Int.toNat ((↑k : Int) + (1 : Int) + (↑(valD (List.take k (Array.toList (ByteArray.data s)))) : Int))))))]))), (.vec ((90 : Nat)) ((1 : Nat)) ((0 : Nat)) (List.length l0 + (1 : Nat))), (.d (.con (.string s))), (.d (.con (.int .i64 ((↑k : Int))))), (.d (.con (.int .i64 ((↑k : Int) + (1 : Int))))), (.d (.con (.int .i64 ((↑(valD (List.take k (Array.toList (ByteArray.data s)))) : Int))))), (.d (.con (.int .i64 ((↑k : Int) + (1 : Int) + (↑(valD (List.take k (Array.toList (ByteArray.data s)))) : Int))))), (.d (.con (.string (ByteArray.extract s (Int.toNat ((↑k : Int) + (1 : Int) + (↑(valD (List.take k (Array.toList (ByteArray.data s)))) : Int))) (Int.toNat (↑(ByteArray.size s) : Int)))))), .any], [(((90 : Nat)), [(.arr ⟨false, ((9 : Nat)), false⟩ ((1 : Nat)) (fun i => bif Nat.blt i (List.length l0) then rowS l0 i else elemF false (1 : Nat) [DV.con (Value.string (ByteArray.extract s (Int.toNat ((↑k : Int) + (1 : Int))) (Int.toNat ((↑k : Int) + (1 : Int) + (↑(valD (List.take k (Array.toList (ByteArray.data s)))) : Int)))))] (i - List.length l0)))]), (((10 : Nat)), [.dead])]⟩))))) (by kernel_rfl) ?_
          have hnn : ((l0.length : Int) == 4096) = false := by rw [beq_eq_false_iff_ne]; omega
          have hstop : k = s.data.toList.length ∨ k = 6 ∨ ∃ h : k < s.data.toList.length, ¬ isD (s.data.toList[k]) := by
            rcases Nat.lt_or_ge k s.data.toList.length with h1 | h1
            · rcases Nat.lt_or_ge k 6 with h2 | h2
              · refine .inr (.inr ⟨h1, fun hD => ?_⟩)
                have hb := byteAt_get h1
                have h3 := hD.1
                have h4 := hD.2
                simp only [Bool.and_eq_false_imp, decide_eq_true_eq, decide_eq_false_iff_not, Bool.and_eq_true] at h
                have := h ⟨⟨by omega, by omega⟩, by omega⟩
                omega
              · exact .inr (.inl (by omega))
            · exact .inl (by omega)
          have hv := valD_take (l := s.data.toList) (k := k)
          have e0 : Int.toNat (0 : Int) = 0 := rfl
          simp only [hnn, Int.toNat_natCast, e0, Bool.or_false]
          -- what the condition says
          have hcond : ((k : Int) == 0 || (k : Int) == (s.size : Int) || byteAt s k != 58 || decide ((k : Int) > 1) && byteAt s 0 == 48 || decide ((valD (s.data.toList.take k) : Int) > (s.size : Int) - (k : Int) - 1)) = false →
              ∃ hk : k < s.data.toList.length, 0 < k ∧ s.data.toList[k] = 58 ∧ (1 < k → ∀ c, s.data.toList[0]? = some c → c.toNat ≠ 48) ∧ valD (s.data.toList.take k) + k + 1 ≤ s.data.toList.length := by
            intro hc
            simp only [Bool.or_eq_false_iff, beq_eq_false_iff_ne, bne_eq_false_iff_eq, Bool.and_eq_false_imp, decide_eq_true_eq, decide_eq_false_iff_not] at hc
            obtain ⟨⟨⟨⟨c1, c2⟩, c3⟩, c4⟩, c5⟩ := hc
            have hks : k < s.data.toList.length := by omega
            refine ⟨hks, by omega, ?_, fun h1 c hc => ?_, by omega⟩
            · rw [byteAt_get hks] at c3
              have : (s.data.toList[k]).toNat = 58 := by omega
              exact UInt8.toNat_inj.1 this
            · have h0 : 0 < s.data.toList.length := by omega
              have := c4 (by omega)
              rw [byteAt_get h0] at this
              rw [List.getElem?_eq_getElem h0] at hc
              injection hc with hc
              rw [← hc]; omega
          refine ⟨⟨fun h1 => ?_, fun h1 => ?_, fun _ => ⟨by omega, by omega⟩, fun _ => ⟨by omega, by omega⟩⟩, fun h1 => ?_, fun h1 => ?_⟩
          · simp at h1; omega
          · simp at h1; omega
          · have hu : unp d.data.toList = none := by
              rw [hI]
              have h0 : s.data.toList ≠ [] := by
                intro e
                have : s = { data := #[] } := by rw [← bs_toList s, e]; rfl
                rw [this] at hs0
                simp at hs0
              refine unp_stop (by rw [List.length_append, size_list]; omega) h0 fun f R he => ?_
              have hfs := congrArg List.length he
              rw [List.length_append, fieldL_len, hsl] at hfs
              obtain ⟨r1, r2, r3, r4, r5⟩ := field_ref (f := f) (R := R) (k := k) (by omega) (by rw [← he]; omega) (by rw [← he]; exact hkd) (by
                rw [← he]; exact hstop)
              rw [← he] at r2 r3 r4 r5
              have hb := byteAt_get r2
              rw [List.getElem?_eq_getElem r2] at r3
              injection r3 with r3
              rw [r3] at hb
              have hb : byteAt s k = 58 := hb
              simp only [Bool.or_eq_true, beq_iff_eq, bne_iff_ne, Bool.and_eq_true, decide_eq_true_eq] at h1
              rcases h1 with (((h1 | h1) | h1) | ⟨h1, h2⟩) | h1
              · omega
              · omega
              · exact h1 hb
              · have h00 : 0 < s.data.toList.length := by omega
                have := r4 (by omega) _ (List.getElem?_eq_getElem h00)
                rw [byteAt_get h00] at h2
                omega
              · omega
            unfold unR
            rw [hu]
          · obtain ⟨hks, c1, c2, c3, c4⟩ := hcond h1
            have hF := ref_field c1 hks c2 hkd c3 c4
            have e1 : Int.toNat ((k : Int) + 1) = k + 1 := by omega
            have e2 : Int.toNat ((k : Int) + 1 + (valD (s.data.toList.take k) : Int)) = k + 1 + valD (s.data.toList.take k) := by omega
            simp only [e1, e2]
            refine ⟨⟨⟨by omega, by omega⟩, ⟨by omega, by omega⟩, ⟨by omega, by omega⟩, ⟨by omega, by omega, by omega⟩, ⟨by omega, by omega⟩, one_ok _ rfl, ⟨by omega, by omega⟩, ⟨by omega, by omega⟩, by omega, by omega, by omega⟩, Again.mkR [(90, 10)] rfl (l0 ++ [bs ((s.data.toList.drop (k + 1)).take (valD (s.data.toList.take k)))], bs (s.data.toList.drop (k + 1 + valD (s.data.toList.take k)))) ?_ ?_ ?_⟩
            · refine of_eq (b :=
              (((((.d (.con (.string (ByteArray.extract s (k + (1 : Nat) + valD (List.take k (Array.toList (ByteArray.data s)))) (ByteArray.size s))))) : AV) = (.d (.con (.string (bs (List.drop (k + (1 : Nat) + valD (List.take k (Array.toList (ByteArray.data s)))) (Array.toList (ByteArray.data s)))))))) ∧
              ((((.vec ((10 : Nat)) ((1 : Nat)) ((0 : Nat)) (List.length l0 + (1 : Nat))) : AV) = (.vec ((10 : Nat)) ((1 : Nat)) ((0 : Nat)) (List.length (l0 ++ [bs (List.take (valD (List.take k (Array.toList (ByteArray.data s)))) (List.drop (k + (1 : Nat)) (Array.toList (ByteArray.data s))))])))) ∧
              True)) ∧
              ((((some [(.arr ⟨false, ((9 : Nat)), false⟩ ((1 : Nat)) (fun i => bif Nat.blt i (List.length l0) then rowS l0 i else elemF false (1 : Nat) [DV.con (Value.string (ByteArray.extract s (k + (1 : Nat)) (k + (1 : Nat) + valD (List.take k (Array.toList (ByteArray.data s))))))] (i - List.length l0)))]) : (Option (List AV))) = (some [(.arr ⟨false, ((9 : Nat)), false⟩ ((1 : Nat)) (rowS (l0 ++ [bs (List.take (valD (List.take k (Array.toList (ByteArray.data s)))) (List.drop (k + (1 : Nat)) (Array.toList (ByteArray.data s))))])))])) ∧
              True))) (by kernel_rfl) ?_
              refine ⟨⟨?_, ?_, trivial⟩, ?_, trivial⟩
              · rw [extract_bs, List.take_of_length_le (by rw [List.length_drop]; omega)]
              · rw [List.length_append]; rfl
              · rw [rowS_app, extract_bs, show k + 1 + valD (s.data.toList.take k) - (k + 1) = valD (s.data.toList.take k) by omega]
            · show d.data.toList = packL (l0 ++ [_]) ++ (bs _).data.toList
              rw [hI, packL_app, packL, packL, List.append_nil, List.append_assoc, toList_bs, ← hF]
            · show (bs _).size < s.size
              rw [bs_size, List.length_drop]; omega
    · have hs1 : s.data.toList = [] := by
        have : s = { data := #[] } := by
          rw [Bool.not_eq_false', beq_iff_eq, toList_inj] at hs0
          exact hs0
        rw [this]
      rw [hs1, List.append_nil] at hI
      have hu : unp d.data.toList = some l0 := by
        rw [hI]
        exact unp_some (by rw [← hI, size_list]; omega)
      refine walk (orc := orc26) (keep := []) (cuts := []) (n := 1000) follows ?_
      refine of_eqH (b :=
        (((.tup [(.slc ((1 : Nat)) (List.length l0) (fun i => rowS l0 ((0 : Nat) + i))), (.con (.int .i64 ((0 : Int))))]) : DV) = (unR (Array.toList (ByteArray.data d))))) (by kernel_rfl) ?_
      unfold unR
      rw [hu]
      simp only [rowS_zero]
      rfl
theorem f26 (d : ByteArray) (hd : d.size ≤ 8000) : FnOK Tryd.prog G 26 [ds d] (.tup [strL (unL d.data.toList), di (unE d.data.toList)]) := unR_tup (f26r d hd)
end Go.Proofs

set_option autoImplicit false
namespace Go.Proofs
open Go Go.Ab Go.RowKit
set_option maxHeartbeats 1000000
set_option maxRecDepth 100000
variable {G : IH}
noncomputable def orc9 : Oracle := fun f args => match f, args with
  | 10, [] => some (db true)
  | 13, [.slc _ n f, .slc _ m f'] => some (db (sEq n f m f'))
  | 14, [.slc _ n f, .con (.int .i64 c), .con (.int .i64 b)] => some (db (fewB n f c b))
  | 23, [.slc _ n f] => some (.tup [ds (packS (lst n f)), di (packE (lst n f))])
  | 24, [.slc _ n f] => some (.tup [ds (packS (lst n f)), di (packE (lst n f))])
  | 25, [.con (.string d)] => some (.tup [strL (unL d.data.toList), di (unE d.data.toList)])
  | 26, [.con (.string d)] => some (.tup [strL (unL d.data.toList), di (unE d.data.toList)])
  | 27, [.con (.string d)] => some (du (sumI d d.size))
  | 28, [.con (.string d)] => some (du (sumI d d.size))
  | _, _ => none
theorem lst_rowS (l : List ByteArray) : lst l.length (rowS l) = l := by
  unfold lst
  apply List.ext_getElem
  · simp
  · intro i h1 h2
    simp [rowS, h2]
theorem f9 (hT : Tab G) (hE : Errs G) (l : List ByteArray) (d : ByteArray) (hn : l.length ≤ 9223372036854775807) : FnOK Tryd.prog G 9 [strs l.length (sAt l), ds d] (db true) := by
  refine FnOK.walk (orc := orc9) (keep := []) follows Tryd.func9 rfl Tryd.call9 ?_
  refine of_eqH (b :=
    (FnOK Tryd.prog G ((10 : Nat)) [] (.con (.bool true)) ∧
    (((false = true) →
    (((.con (.bool false)) : DV) = (db true))) ∧
    ((false = false) →
    (FnOK Tryd.prog G ((14 : Nat)) [(.slc ((1 : Nat)) (List.length l) (fun i => DV.con (Value.string (sAt l i)))), (.con (.int .i64 ((20 : Int)))), (.con (.int .i64 ((100 : Int))))] (.con (.bool (fewB (List.length l) (fun i => DV.con (Value.string (sAt l i))) (20 : Int) (100 : Int)))) ∧
    ((((!fewB (List.length l) (fun i => DV.con (Value.string (sAt l i))) (20 : Int) (100 : Int) || decide ((↑(ByteArray.size d) : Int) > (300 : Int))) = true) →
    (((.con (.bool true)) : DV) = (db true))) ∧
    (((!fewB (List.length l) (fun i => DV.con (Value.string (sAt l i))) (20 : Int) (100 : Int) || decide ((↑(ByteArray.size d) : Int) > (300 : Int))) = false) →
    (FnOK Tryd.prog G ((23 : Nat)) [(.slc ((1 : Nat)) (List.length l) (fun i => DV.con (Value.string (sAt l i))))] (.tup [(.con (.string (packS (lst (List.length l) fun i => DV.con (Value.string (sAt l i)))))), (.con (.int .i64 (packE (lst (List.length l) fun i => DV.con (Value.string (sAt l i))))))]) ∧
    (FnOK Tryd.prog G ((24 : Nat)) [(.slc ((1 : Nat)) (List.length l) (fun i => DV.con (Value.string (sAt l i))))] (.tup [(.con (.string (packS (lst (List.length l) fun i => DV.con (Value.string (sAt l i)))))), (.con (.int .i64 (packE (lst (List.length l) fun i => DV.con (Value.string (sAt l i))))))]) ∧
    (FnOK Tryd.prog G ((25 : Nat)) [(.con (.string d))] (.tup [(.slc ((1 : Nat)) (List.length (unL (Array.toList (ByteArray.data d)))) (rowS (unL (Array.toList (ByteArray.data d))))), (.con (.int .i64 (unE (Array.toList (ByteArray.data d)))))]) ∧
    (FnOK Tryd.prog G ((26 : Nat)) [(.con (.string d))] (.tup [(.slc ((1 : Nat)) (List.length (unL (Array.toList (ByteArray.data d)))) (rowS (unL (Array.toList (ByteArray.data d))))), (.con (.int .i64 (unE (Array.toList (ByteArray.data d)))))]) ∧
    (((((!(!ByteArray.toList (packS (lst (List.length l) fun i => DV.con (Value.string (sAt l i)))) == ByteArray.toList (packS (lst (List.length l) fun i => DV.con (Value.string (sAt l i)))) || packE (lst (List.length l) fun i => DV.con (Value.string (sAt l i))) != packE (lst (List.length l) fun i => DV.con (Value.string (sAt l i))))) = true) →
    FnOK Tryd.prog G ((13 : Nat)) [(.slc ((1 : Nat)) (List.length (unL (Array.toList (ByteArray.data d)))) (rowS (unL (Array.toList (ByteArray.data d))))), (.slc ((1 : Nat)) (List.length (unL (Array.toList (ByteArray.data d)))) (rowS (unL (Array.toList (ByteArray.data d)))))] (.con (.bool (sEq (List.length (unL (Array.toList (ByteArray.data d)))) (rowS (unL (Array.toList (ByteArray.data d)))) (List.length (unL (Array.toList (ByteArray.data d)))) (rowS (unL (Array.toList (ByteArray.data d)))))))) ∧
    ((((!(!ByteArray.toList (packS (lst (List.length l) fun i => DV.con (Value.string (sAt l i)))) == ByteArray.toList (packS (lst (List.length l) fun i => DV.con (Value.string (sAt l i)))) || packE (lst (List.length l) fun i => DV.con (Value.string (sAt l i))) != packE (lst (List.length l) fun i => DV.con (Value.string (sAt l i))) || !sEq (List.length (unL (Array.toList (ByteArray.data d)))) (rowS (unL (Array.toList (ByteArray.data d)))) (List.length (unL (Array.toList (ByteArray.data d)))) (rowS (unL (Array.toList (ByteArray.data d)))) || unE (Array.toList (ByteArray.data d)) != unE (Array.toList (ByteArray.data d)))) = true) →
    FnOK Tryd.prog G ((27 : Nat)) [(.con (.string d))] (.con (.int .u64 (sumI d (ByteArray.size d))))) ∧
    (((!(!ByteArray.toList (packS (lst (List.length l) fun i => DV.con (Value.string (sAt l i)))) == ByteArray.toList (packS (lst (List.length l) fun i => DV.con (Value.string (sAt l i)))) || packE (lst (List.length l) fun i => DV.con (Value.string (sAt l i))) != packE (lst (List.length l) fun i => DV.con (Value.string (sAt l i))) || !sEq (List.length (unL (Array.toList (ByteArray.data d)))) (rowS (unL (Array.toList (ByteArray.data d)))) (List.length (unL (Array.toList (ByteArray.data d)))) (rowS (unL (Array.toList (ByteArray.data d)))) || unE (Array.toList (ByteArray.data d)) != unE (Array.toList (ByteArray.data d)))) = true) →
    FnOK Tryd.prog G ((28 : Nat)) [(.con (.string d))] (.con (.int .u64 (sumI d (ByteArray.size d))))))) ∧
    ((((!ByteArray.toList (packS (lst (List.length l) fun i => DV.con (Value.string (sAt l i)))) == ByteArray.toList (packS (lst (List.length l) fun i => DV.con (Value.string (sAt l i)))) || packE (lst (List.length l) fun i => DV.con (Value.string (sAt l i))) != packE (lst (List.length l) fun i => DV.con (Value.string (sAt l i))) || !sEq (List.length (unL (Array.toList (ByteArray.data d)))) (rowS (unL (Array.toList (ByteArray.data d)))) (List.length (unL (Array.toList (ByteArray.data d)))) (rowS (unL (Array.toList (ByteArray.data d)))) || unE (Array.toList (ByteArray.data d)) != unE (Array.toList (ByteArray.data d)) || sumI d (ByteArray.size d) != sumI d (ByteArray.size d)) = true) →
    (((.con (.bool false)) : DV) = (db true))) ∧
    (((!ByteArray.toList (packS (lst (List.length l) fun i => DV.con (Value.string (sAt l i)))) == ByteArray.toList (packS (lst (List.length l) fun i => DV.con (Value.string (sAt l i)))) || packE (lst (List.length l) fun i => DV.con (Value.string (sAt l i))) != packE (lst (List.length l) fun i => DV.con (Value.string (sAt l i))) || !sEq (List.length (unL (Array.toList (ByteArray.data d)))) (rowS (unL (Array.toList (ByteArray.data d)))) (List.length (unL (Array.toList (ByteArray.data d)))) (rowS (unL (Array.toList (ByteArray.data d)))) || unE (Array.toList (ByteArray.data d)) != unE (Array.toList (ByteArray.data d)) || sumI d (ByteArray.size d) != sumI d (ByteArray.size d)) = false) →
    (FnOK Tryd.prog G ((25 : Nat)) [(.con (.string (packS (lst (List.length l) fun i => DV.con (Value.string (sAt l i))))))] (.tup [(.slc ((1 : Nat)) (List.length (unL (Array.toList (ByteArray.data (packS (lst (List.length l) fun i => DV.con (Value.string (sAt l i)))))))) (rowS (unL (Array.toList (ByteArray.data (packS (lst (List.length l) fun i => DV.con (Value.string (sAt l i))))))))), (.con (.int .i64 (unE (Array.toList (ByteArray.data (packS (lst (List.length l) fun i => DV.con (Value.string (sAt l i)))))))))]) ∧
    ((((!unE (Array.toList (ByteArray.data (packS (lst (List.length l) fun i => DV.con (Value.string (sAt l i)))))) != (0 : Int)) = true) →
    FnOK Tryd.prog G ((13 : Nat)) [(.slc ((1 : Nat)) (List.length (unL (Array.toList (ByteArray.data (packS (lst (List.length l) fun i => DV.con (Value.string (sAt l i)))))))) (rowS (unL (Array.toList (ByteArray.data (packS (lst (List.length l) fun i => DV.con (Value.string (sAt l i))))))))), (.slc ((1 : Nat)) (List.length l) (fun i => DV.con (Value.string (sAt l i))))] (.con (.bool (sEq (List.length (unL (Array.toList (ByteArray.data (packS (lst (List.length l) fun i => DV.con (Value.string (sAt l i)))))))) (rowS (unL (Array.toList (ByteArray.data (packS (lst (List.length l) fun i => DV.con (Value.string (sAt l i)))))))) (List.length l) fun i => DV.con (Value.string (sAt l i)))))) ∧
    ((((unE (Array.toList (ByteArray.data (packS (lst (List.length l) fun i => DV.con (Value.string (sAt l i)))))) != (0 : Int) || !sEq (List.length (unL (Array.toList (ByteArray.data (packS (lst (List.length l) fun i => DV.con (Value.string (sAt l i)))))))) (rowS (unL (Array.toList (ByteArray.data (packS (lst (List.length l) fun i => DV.con (Value.string (sAt l i)))))))) (List.length l) fun i => DV.con (Value.string (sAt l i))) = true) →
    (((.con (.bool false)) : DV) = (db true))) ∧
    (((unE (Array.toList (ByteArray.data (packS (lst (List.length l) fun i => DV.con (Value.string (sAt l i)))))) != (0 : Int) || !sEq (List.length (unL (Array.toList (ByteArray.data (packS (lst (List.length l) fun i => DV.con (Value.string (sAt l i)))))))) (rowS (unL (Array.toList (ByteArray.data (packS (lst (List.length l) fun i => DV.con (Value.string (sAt l i)))))))) (List.length l) fun i => DV.con (Value.string (sAt l i))) = false) →
    ((((unE (Array.toList (ByteArray.data d)) != (0 : Int)) = true) →
    (((.con (.bool ((↑(List.length (unL (Array.toList (ByteArray.data d)))) : Int) == (0 : Int)))) : DV) = (db true))) ∧
    (((unE (Array.toList (ByteArray.data d)) != (0 : Int)) = false) →
    (FnOK Tryd.prog G ((23 : Nat)) [(.slc ((1 : Nat)) (List.length (unL (Array.toList (ByteArray.data d)))) (rowS (unL (Array.toList (ByteArray.data d)))))] (.tup [(.con (.string (packS (lst (List.length (unL (Array.toList (ByteArray.data d)))) (rowS (unL (Array.toList (ByteArray.data d)))))))), (.con (.int .i64 (packE (lst (List.length (unL (Array.toList (ByteArray.data d)))) (rowS (unL (Array.toList (ByteArray.data d))))))))]) ∧
    (((.con (.bool (packE (lst (List.length (unL (Array.toList (ByteArray.data d)))) (rowS (unL (Array.toList (ByteArray.data d))))) == (0 : Int) && ByteArray.toList (packS (lst (List.length (unL (Array.toList (ByteArray.data d)))) (rowS (unL (Array.toList (ByteArray.data d)))))) == ByteArray.toList d))) : DV) = (db true))))))))))))))))))))))) (by kernel_rfl) ?_
  simp only [lst_sAt]
  refine ⟨f10 hT, fun h => by simp at h, fun _ => ⟨f14' l 20 100 hn, fun _ => trivial, fun h4 => ?_⟩⟩
  have h4 : fewB l.length (fun i => ds (sAt l i)) 20 100 = true ∧ d.size ≤ 300 := by
    simp at h4
    exact ⟨h4.1, by omega⟩
  obtain ⟨hf, hd⟩ := h4
  obtain ⟨hl1, hl2⟩ := fewB_mem hf
  have hsm : Small l := ⟨by omega, fun f hf => by have := hl2 f hf; omega⟩
  have hpl : (packL l).length ≤ 20 * 122 := by
    have key : ∀ (m : List ByteArray), (∀ f ∈ m, (f.size : Int) ≤ 100) → (packL m).length ≤ m.length * 122 := by
      intro m
      induction m with
      | nil => intro _; simp [packL]
      | cons f m ih =>
        intro h
        have h1 := ih fun g hg => h g (by simp [hg])
        have h2 := h f (by simp)
        have h3 := itoa_len (f.size : Int) ⟨by omega, by omega⟩
        rw [packL, List.length_append, fieldL_len, List.length_cons]
        omega
    have := key l hl2
    omega
  have hpb : packBad l = false := by
    unfold packBad
    simp
    omega
  have hS : packS l = bs (packL l) := by unfold packS; rw [hpb]; rfl
  have hPE : packE l = 0 := by unfold packE; rw [hpb]; rfl
  have hunp := unp_some (l := l) (by omega)
  have hUL : unL (packL l) = l := by unfold unL; rw [hunp]; rfl
  have hUE : unE (packL l) = 0 := by unfold unE; rw [hunp]; rfl
  have k25 := f25 (G := G) hT hE d (by omega)
  have k26 := f26 (G := G) d (by omega)
  have k25' := f25 (G := G) hT hE (bs (packL l)) (by rw [bs_size]; omega)
  have hcnt : (unL d.data.toList).length ≤ 150 := by
    cases hu : unp d.data.toList with
    | none => unfold unL; rw [hu]; exact Nat.zero_le _
    | some m =>
      have h1 := unp_pack hu
      have h2 := packL_count m
      rw [h1, size_list] at h2
      unfold unL; rw [hu]
      show m.length ≤ 150
      omega
  have k13 := f13L (G := G) (unL d.data.toList) (unL d.data.toList) (by omega)
  have hself := (sEq_L (unL d.data.toList) (unL d.data.toList)).2 rfl
  have k13' := f13S (G := G) l l (fun i => ds (sAt l i)) (fun _ _ => rfl) (by omega)
  have hself' := (sEq_S l l (fun i => ds (sAt l i)) (fun _ _ => rfl)).2 rfl
  rw [toList_bs, hUL, hUE] at k25'
  have k23 := f23s hT l hsm
  have k24 := f24 (G := G) l hsm
  rw [hS, hPE] at k23 k24
  simp only [hS, hPE, toList_bs, hUL, hUE, hself, hself']
  rw [hself] at k13
  rw [hself'] at k13'
  refine ⟨k23, k24, k25, k26, ⟨fun _ => k13, fun _ => f27 d (by omega), fun _ => f28 d (by omega)⟩, fun h => by simp at h, fun _ => ⟨k25', fun _ => k13', fun h => by simp at h, fun _ => ⟨fun h => ?_, fun h => ?_⟩⟩⟩
  · cases hu : unp d.data.toList with
    | none =>
      have : unL d.data.toList = [] := by unfold unL; rw [hu]; rfl
      rw [this]; rfl
    | some m =>
      have : unE d.data.toList = 0 := by unfold unE; rw [hu]; rfl
      rw [this] at h; simp at h
  · cases hu : unp d.data.toList with
    | none =>
      have : unE d.data.toList = 11 := by unfold unE; rw [hu]; rfl
      rw [this] at h; simp at h
    | some m =>
      have hm : unL d.data.toList = m := by unfold unL; rw [hu]; rfl
      have hp := unp_pack hu
      have hpm : (packL m).length ≤ 300 := by rw [hp, size_list]; exact hd
      rw [hm] at hcnt ⊢
      have hsm2 : Small m := ⟨by omega, fun f hf => by have := packL_small m f hf; omega⟩
      have hpb2 : packBad m = false := by
        unfold packBad
        simp
        omega
      have hS2 : packS m = d := by unfold packS; rw [hpb2, hp]; exact bs_toList d
      have hPE2 : packE m = 0 := by unfold packE; rw [hpb2]; rfl
      have k := f23 (G := G) hT m hsm2
      rw [hS2, hPE2] at k
      rw [lst_rowS, hS2, hPE2]
      exact ⟨k, by simp⟩
end Go.Proofs
