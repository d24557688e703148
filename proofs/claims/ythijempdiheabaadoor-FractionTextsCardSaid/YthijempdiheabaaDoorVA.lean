import Derived.Test.YthijempdiheabaaDoorAcC
import Derived.Test.YthijempdiheabaaDoorFA
import Derived.Test.YthijempdiheabaaDoorB0
import Derived.Test.YthijempdiheabaaDoorFB
set_option autoImplicit false
namespace Go.Proofs
open Go Go.Ab Go.RowKit
set_option maxHeartbeats 1000000
set_option maxRecDepth 100000
variable {G : IH}
def cI (p s : ByteArray) : Int := Lib.indexByte s.data.toList (p.data.toList.headD 0)
def cD (p s : ByteArray) : ByteArray := if 0 ≤ cI p s then s.extract 0 (cI p s).toNat else s
def cR (p s : ByteArray) : ByteArray := if 0 ≤ cI p s then s.extract (cI p s + 1).toNat s.size else { data := #[] }
def cB (p s : ByteArray) : Bool := decide (0 ≤ cI p s)
def digS : ByteArray := { data := #[48, 49, 50, 51, 52, 53, 54, 55, 56, 57] }
def preS (p s : ByteArray) : ByteArray := bs (Lib.trimPrefix s.data.toList p.data.toList)
def preB (p s : ByteArray) : Bool := Lib.hasPrefix s.data.toList p.data.toList
def trimD (s : ByteArray) : ByteArray := bs (Lib.trimS s.data.toList digSet)
def dgN (s : ByteArray) (m : Int) : Int := ((dgO s.data.toList m.toNat).getD 0 : Nat)
def dgB (s : ByteArray) (m : Int) : Bool := (dgO s.data.toList m.toNat).isSome
theorem f79 (s : ByteArray) (c : UInt8) : FnOK Tryd.prog G 79 [ds s, ds ⟨#[c]⟩] (di (cI ⟨#[c]⟩ s)) := by
  refine FnOK.of_calls (args := [.string s, .string ⟨#[c]⟩]) (v := .int .i64 _) Tryd.call79 fun w _ => ?_
  refine Calls.mono (Tryd.stringslite_Index_one s c w) ?_
  rintro e w' ⟨he, rfl⟩
  exact ⟨he, Below.refl _ _⟩
theorem cI_lt (p s : ByteArray) : cI p s < s.size := by
  rcases Int.lt_or_le (cI p s) 0 with h | h
  · omega
  · obtain ⟨n, hn⟩ := Int.eq_ofNat_of_zero_le h
    obtain ⟨h1, _⟩ := Lib.indexByte_some hn
    have := (List.getElem?_eq_some_iff.1 h1).1
    rw [size_list] at this
    rw [hn]; omega
def orcV : Oracle := fun f args => match f, args with
  | 79, [.con (.string s), .con (.string p)] => some (di (cI p s))
  | 72, [.con (.string s), .con (.string p)] => some (.tup [ds (cD p s), ds (cR p s), db (cB p s)])
  | 68, [.con (.string s), .con (.string p)] => some (.tup [ds (cD p s), ds (cR p s), db (cB p s)])
  | 61, [.con (.string s), .con (.string p)] => some (.tup [ds (preS p s), db (preB p s)])
  | 73, [.con (.string s), .con (.string _)] => some (ds (trimD s))
  | 74, [.con (.string s)] => some (.tup [di (valD s.data.toList : Nat), .con .nilIface])
  | 69, [.con (.string s), .con (.int .i64 m)] => some (.tup [di (dgN s m), db (dgB s m)])
  | _, _ => none
theorem f72 (s : ByteArray) (c : UInt8) (hs : s.size ≤ 1000000) : FnOK Tryd.prog G 72 [ds s, ds ⟨#[c]⟩] (.tup [ds (cD ⟨#[c]⟩ s), ds (cR ⟨#[c]⟩ s), db (cB ⟨#[c]⟩ s)]) := by
  have hlt := cI_lt ⟨#[c]⟩ s
  have h79 := f79 (G := G) s c
  have e1 : (((⟨#[c]⟩ : ByteArray).size : Nat) : Int) = 1 := rfl
  generalize hp : (⟨#[c]⟩ : ByteArray) = p at *
  refine FnOK.walk (orc := orcV) (keep := []) follows Tryd.func72 rfl Tryd.call72 ?_
  refine of_eqH (b :=
    (FnOK Tryd.prog G ((79 : Nat)) [(.con (.string s)), (.con (.string p))] (.con (.int .i64 (cI p s))) ∧
    ((((decide (cI p s ≥ (0 : Int))) = true) →
    (((((0 : Int) ≤ (0 : Int)) ∧
    (((0 : Int) ≤ cI p s) ∧
    (cI p s ≤ (↑(ByteArray.size s) : Int)))) ∧
    ((I64 (cI p s + (↑(ByteArray.size p) : Int))) ∧
    (((0 : Int) ≤ cI p s + (↑(ByteArray.size p) : Int)) ∧
    ((cI p s + (↑(ByteArray.size p) : Int) ≤ (↑(ByteArray.size s) : Int)) ∧
    ((↑(ByteArray.size s) : Int) ≤ (↑(ByteArray.size s) : Int)))))) ∧
    (((.tup [(.con (.string (ByteArray.extract s (Int.toNat (0 : Int)) (Int.toNat (cI p s))))), (.con (.string (ByteArray.extract s (Int.toNat (cI p s + (↑(ByteArray.size p) : Int))) (Int.toNat (↑(ByteArray.size s) : Int))))), (.con (.bool true))]) : DV) = (.tup [(ds (cD p s)), (ds (cR p s)), (db (cB p s))])))) ∧
    (((decide (cI p s ≥ (0 : Int))) = false) →
    (((.tup [(.con (.string s)), (.con (.string ({ data := #[] }))), (.con (.bool false))]) : DV) = (.tup [(ds (cD p s)), (ds (cR p s)), (db (cB p s))])))))) (by kernel_rfl) ?_
  have e0 : Int.toNat (0 : Int) = 0 := rfl
  rw [e1]
  refine ⟨h79, fun h => ?_, fun h => ?_⟩
  · have h : 0 ≤ cI p s := by simpa using h
    refine ⟨⟨⟨by omega, by omega, by omega⟩, ⟨by omega, by omega⟩, by omega, by omega, by omega⟩, ?_⟩
    unfold cD cR cB
    rw [if_pos h, if_pos h, decide_eq_true h, e0, Int.toNat_natCast]
  · have h : ¬ 0 ≤ cI p s := by simpa using h
    unfold cD cR cB
    rw [if_neg h, if_neg h, decide_eq_false h]
theorem f68 (s : ByteArray) (c : UInt8) (hs : s.size ≤ 1000000) : FnOK Tryd.prog G 68 [ds s, ds ⟨#[c]⟩] (.tup [ds (cD ⟨#[c]⟩ s), ds (cR ⟨#[c]⟩ s), db (cB ⟨#[c]⟩ s)]) := by
  have h72 := f72 (G := G) s c hs
  generalize hp : (⟨#[c]⟩ : ByteArray) = p at *
  refine FnOK.walk (orc := orcV) (keep := []) follows Tryd.func68 rfl Tryd.call68 ?_
  refine of_eqH (b :=
    (FnOK Tryd.prog G ((72 : Nat)) [(.con (.string s)), (.con (.string p))] (.tup [(.con (.string (cD p s))), (.con (.string (cR p s))), (.con (.bool (cB p s)))]) ∧
    (((.tup [(.con (.string (cD p s))), (.con (.string (cR p s))), (.con (.bool (cB p s)))]) : DV) = (.tup [(ds (cD p s)), (ds (cR p s)), (db (cB p s))])))) (by kernel_rfl) ?_
  exact ⟨h72, rfl⟩
theorem tup2_of_con {P : Program} {f : FuncId} {xs : List DV} {a b : Value} (h : FnOK P G f xs (.con (.tuple #[a, b]))) : FnOK P G f xs (.tup [.con a, .con b]) := by
  refine ⟨h.1, fun w k us hG hw hu => (h.2 w k us hG hw hu).mono ?_⟩
  rintro e w' ⟨v, h', he, hv, rest⟩
  have hv : v = .tuple #[a, b] := hv
  subst hv
  exact ⟨_, h', he, ⟨[a, b], rfl, _, _, rfl, rfl, _, _, rfl, rfl, rfl⟩, rest⟩
theorem f61 (s p : ByteArray) : FnOK Tryd.prog G 61 [ds s, ds p] (.tup [ds (preS p s), db (preB p s)]) := by
  refine tup2_of_con (FnOK.of_calls (args := [.string s, .string p]) (v := .tuple #[_, _]) Tryd.call61 fun w _ => ?_)
  refine Calls.mono (Tryd.strings_CutPrefix s p w) ?_
  rintro e w' ⟨he, rfl⟩
  exact ⟨he, Below.refl _ _⟩
theorem f73 (s : ByteArray) (hs : s.size ≤ 1000000) : FnOK Tryd.prog G 73 [ds s, ds digS] (ds (trimD s)) := by
  refine FnOK.of_calls (args := [.string s, .string digS]) (v := .string _) Tryd.call73 fun w _ => ?_
  refine Calls.mono (Any.strings_Trim_laid Tryd.lays160 (by kernel_rfl) s digS w (by omega) (by decide) (ascii_of_all (by decide))) ?_
  rintro e w' ⟨he, hb⟩
  exact ⟨he, hb⟩
theorem f74 (s : ByteArray) (hs : s.size ≤ 18) (h0 : s.data.toList ≠ []) (hd : ∀ c ∈ s.data.toList, isD c) : FnOK Tryd.prog G 74 [ds s] (.tup [di (valD s.data.toList : Nat), .con .nilIface]) := by
  refine tup2_of_con (FnOK.of_calls (args := [.string s]) (v := .tuple #[.int .i64 _, .nilIface]) Tryd.call74 fun w _ => ?_)
  refine Calls.mono (Tryd.strconv_Atoi_ok s (by omega) _ (atoi_digits h0 hd (by rw [size_list]; exact hs)) w) ?_
  rintro e w' ⟨he, hb⟩
  refine ⟨he, ?_⟩
  rcases hb with rfl | ⟨t, rfl⟩
  · exact Below.refl _ _
  · exact Lib.bytesWorld_below _ _ _
theorem f69 (s : ByteArray) (m : Nat) (hm : m ≤ 18) (hs : s.size ≤ 1000000) : FnOK Tryd.prog G 69 [ds s, di m] (.tup [di (dgN s m), db (dgB s m)]) := by
  refine FnOK.walk (orc := orcV) (keep := []) follows Tryd.func69 rfl Tryd.call69 ?_
  refine of_eqH (b :=
    ((((!(ByteArray.toList s == ByteArray.toList { data := #[] } || decide ((↑(ByteArray.size s) : Int) > (↑m : Int)))) = true) →
    FnOK Tryd.prog G ((73 : Nat)) [(.con (.string s)), (.con (.string ({ data := #[(48 : UInt8), (49 : UInt8), (50 : UInt8), (51 : UInt8), (52 : UInt8), (53 : UInt8), (54 : UInt8), (55 : UInt8), (56 : UInt8), (57 : UInt8)] })))] (.con (.string (trimD s)))) ∧
    ((((ByteArray.toList s == ByteArray.toList { data := #[] } || decide ((↑(ByteArray.size s) : Int) > (↑m : Int)) || !ByteArray.toList (trimD s) == ByteArray.toList { data := #[] }) = true) →
    (((.tup [(.con (.int .i64 ((0 : Int)))), (.con (.bool false))]) : DV) = (.tup [(di (dgN s (↑m : Int))), (db (dgB s (↑m : Int)))]))) ∧
    (((ByteArray.toList s == ByteArray.toList { data := #[] } || decide ((↑(ByteArray.size s) : Int) > (↑m : Int)) || !ByteArray.toList (trimD s) == ByteArray.toList { data := #[] }) = false) →
    (FnOK Tryd.prog G ((74 : Nat)) [(.con (.string s))] (.tup [(.con (.int .i64 ((↑(valD (Array.toList (ByteArray.data s))) : Int)))), (.con .nilIface)]) ∧
    (((.tup [(.con (.int .i64 ((↑(valD (Array.toList (ByteArray.data s))) : Int)))), (.con (.bool true))]) : DV) = (.tup [(di (dgN s (↑m : Int))), (db (dgB s (↑m : Int)))]))))))) (by kernel_rfl) ?_
  have hsl := size_list s
  have hempty : (ByteArray.toList s == ByteArray.toList { data := #[] }) = decide (s.size = 0) := by
    rw [toList_beq]
    refine decide_eq_decide.2 ⟨fun h => by rw [h]; rfl, fun h => ?_⟩
    have hn : s.data.toList = [] := List.eq_nil_of_length_eq_zero (by rw [hsl]; exact h)
    rw [← bs_toList s, hn]; rfl
  have htrim : (ByteArray.toList (trimD s) == ByteArray.toList { data := #[] }) = s.data.toList.all isDb := by
    rw [toList_beq, Bool.eq_iff_iff, decide_eq_true_iff, ← trim_digits]
    unfold trimD
    refine ⟨fun h => bs_inj (m := []) h, fun h => by rw [h]; rfl⟩
  have hO : dgO s.data.toList m = if s.size = 0 ∨ m < s.size ∨ s.data.toList.all isDb = false then none else some (valD s.data.toList) := by
    unfold dgO
    rw [hsl]
    by_cases h : 1 ≤ s.size ∧ s.size ≤ m ∧ s.data.toList.all isDb = true
    · rw [if_pos h, if_neg]
      rintro (h1 | h1 | h1)
      · omega
      · omega
      · rw [h.2.2] at h1; cases h1
    · rw [if_neg h, if_pos]
      rcases Nat.eq_zero_or_pos s.size with h1 | h1
      · exact .inl h1
      · rcases Nat.lt_or_ge m s.size with h2 | h2
        · exact .inr (.inl h2)
        · refine .inr (.inr ?_)
          rw [Bool.eq_false_iff]
          exact fun h3 => h ⟨h1, h2, h3⟩
  rw [hempty, htrim]
  unfold dgN dgB
  rw [Int.toNat_natCast, hO]
  refine ⟨fun _ => f73 s hs, fun h => ?_, fun h => ?_⟩
  · have h : s.size = 0 ∨ m < s.size ∨ s.data.toList.all isDb = false := by
      simp only [Bool.or_eq_true, decide_eq_true_eq, Bool.not_eq_true'] at h
      rcases h with (h | h) | h
      · exact .inl h
      · exact .inr (.inl (by omega))
      · exact .inr (.inr h)
    rw [if_pos h]; rfl
  · have h : ¬ (s.size = 0 ∨ m < s.size ∨ s.data.toList.all isDb = false) := by
      simp only [Bool.or_eq_false_iff, decide_eq_false_iff_not, Bool.not_eq_false'] at h
      rintro (h1 | h1 | h1)
      · exact h.1.1 h1
      · exact h.1.2 (by omega)
      · rw [h.2] at h1; cases h1
    rw [if_neg h]
    have h3 : s.data.toList.all isDb = true := by
      cases hq : s.data.toList.all isDb with
      | true => rfl
      | false => exact absurd (.inr (.inr hq)) h
    refine ⟨f74 s (by omega) (fun e => h (.inl ?_)) (fun c hc => (isDb_iff c).1 (List.all_eq_true.1 h3 c hc)), rfl⟩
    rw [← hsl, e]; rfl
/-- The powers of ten up to the first that is too great. -/
def slash : ByteArray := { data := #[47] }
def dot : ByteArray := { data := #[46] }
/-- What parts returns. -/
def pR (s : ByteArray) : Int × Int × Bool :=
  if cB slash s then (dgN (cD slash s) 10, dgN (cR slash s) 7, dgB (cD slash s) 10 && dgB (cR slash s) 7)
  else if cB dot s then (dgN (cD dot s) 10 * 10 ^ (min (cR dot s).size 7) + dgN (cR dot s) 6, 10 ^ (min (cR dot s).size 7), dgB (cD dot s) 10 && dgB (cR dot s) 6)
  else (dgN (cD dot s) 10, 1, dgB (cD dot s) 10)
theorem dgN_bd (s : ByteArray) (m : Nat) : 0 ≤ dgN s m ∧ dgN s m < ((10 ^ m : Nat) : Int) := by
  unfold dgN dgO
  rw [Int.toNat_natCast]
  have hp : 0 < 10 ^ m := Nat.pow_pos (by decide)
  split
  · rename_i h
    have h1 := valD_ltN _ _ rfl fun c hc => (isDb_iff c).1 (List.all_eq_true.1 h.2.2 c hc)
    have h2 : (10 : Nat) ^ s.data.toList.length ≤ 10 ^ m := Nat.pow_le_pow_right (by decide) h.2.1
    rw [Option.getD_some]
    omega
  · rw [Option.getD_none]; omega
noncomputable def S62 (s : ByteArray) (i : Nat) : AS := ⟨regs Tryd.f62.ntmps [(15, vi (dgN (cD dot s) 10)), (16, vb (dgB (cD dot s) 10)), (17, vi (dgN (cR dot s) 6)), (18, vb (dgB (cR dot s) 6)), (19, vi ((10 ^ i : Nat) : Int)), (64, vi (cR dot s).size), (65, vi i)], []⟩
theorem pow_le7 {i : Nat} (h : i ≤ 7) : 10 ^ i ≤ 10000000 := Nat.pow_le_pow_right (by decide) h
theorem f62 (s : ByteArray) (hs : s.size ≤ 1000000) : FnOK Tryd.prog G 62 [ds s] (.tup [di (pR s).1, di (pR s).2.1, db (pR s).2.2]) := by
  refine FnOK.walk (orc := orcV) (keep := []) follows Tryd.func62 rfl Tryd.call62 ?_
  refine of_eqH (b :=
    (FnOK Tryd.prog G ((68 : Nat)) [(.con (.string s)), (.con (.string ({ data := #[(47 : UInt8)] })))] (.tup [(.con (.string (cD { data := #[(47 : UInt8)] } s))), (.con (.string (cR { data := #[(47 : UInt8)] } s))), (.con (.bool (cB { data := #[(47 : UInt8)] } s)))]) ∧
    ((((cB { data := #[(47 : UInt8)] } s) = true) →
    (FnOK Tryd.prog G ((69 : Nat)) [(.con (.string (cD { data := #[(47 : UInt8)] } s))), (.con (.int .i64 ((10 : Int))))] (.tup [(.con (.int .i64 (dgN (cD { data := #[(47 : UInt8)] } s) (10 : Int)))), (.con (.bool (dgB (cD { data := #[(47 : UInt8)] } s) (10 : Int))))]) ∧
    (FnOK Tryd.prog G ((69 : Nat)) [(.con (.string (cR { data := #[(47 : UInt8)] } s))), (.con (.int .i64 ((7 : Int))))] (.tup [(.con (.int .i64 (dgN (cR { data := #[(47 : UInt8)] } s) (7 : Int)))), (.con (.bool (dgB (cR { data := #[(47 : UInt8)] } s) (7 : Int))))]) ∧
    (((.tup [(.con (.int .i64 (dgN (cD { data := #[(47 : UInt8)] } s) (10 : Int)))), (.con (.int .i64 (dgN (cR { data := #[(47 : UInt8)] } s) (7 : Int)))), (.con (.bool (dgB (cD { data := #[(47 : UInt8)] } s) (10 : Int) && dgB (cR { data := #[(47 : UInt8)] } s) (7 : Int))))]) : DV) = (.tup [(di (Prod.fst (pR s))), (di (Prod.fst (Prod.snd (pR s)))), (db (Prod.snd (Prod.snd (pR s))))]))))) ∧
    (((cB { data := #[(47 : UInt8)] } s) = false) →
    (FnOK Tryd.prog G ((68 : Nat)) [(.con (.string s)), (.con (.string ({ data := #[(46 : UInt8)] })))] (.tup [(.con (.string (cD { data := #[(46 : UInt8)] } s))), (.con (.string (cR { data := #[(46 : UInt8)] } s))), (.con (.bool (cB { data := #[(46 : UInt8)] } s)))]) ∧
    (FnOK Tryd.prog G ((69 : Nat)) [(.con (.string (cD { data := #[(46 : UInt8)] } s))), (.con (.int .i64 ((10 : Int))))] (.tup [(.con (.int .i64 (dgN (cD { data := #[(46 : UInt8)] } s) (10 : Int)))), (.con (.bool (dgB (cD { data := #[(46 : UInt8)] } s) (10 : Int))))]) ∧
    ((((!cB { data := #[(46 : UInt8)] } s) = true) →
    (((.tup [(.con (.int .i64 (dgN (cD { data := #[(46 : UInt8)] } s) (10 : Int)))), (.con (.int .i64 ((1 : Int)))), (.con (.bool (dgB (cD { data := #[(46 : UInt8)] } s) (10 : Int))))]) : DV) = (.tup [(di (Prod.fst (pR s))), (di (Prod.fst (Prod.snd (pR s)))), (db (Prod.snd (Prod.snd (pR s))))]))) ∧
    (((!cB { data := #[(46 : UInt8)] } s) = false) →
    (FnOK Tryd.prog G ((69 : Nat)) [(.con (.string (cR { data := #[(46 : UInt8)] } s))), (.con (.int .i64 ((6 : Int))))] (.tup [(.con (.int .i64 (dgN (cR { data := #[(46 : UInt8)] } s) (6 : Int)))), (.con (.bool (dgB (cR { data := #[(46 : UInt8)] } s) (6 : Int))))]) ∧
    AWP Tryd.prog G [.code (cAt (bodyOf Tryd.f62) [1, 1, 1, 1, 1, 1, 1, 0, 1, 0]), (.blk ((0 : Nat))), .code (cAt (bodyOf Tryd.f62) [1, 1, 1, 1, 1, 1, 1, 1])] ⟨[(.d (.con (.string s))), .any, (.d (.con (.int .i64 ((0 : Int))))), (.d (.con (.int .i64 ((0 : Int))))), (.d (.con (.bool false))), (.d (.con (.string (cD { data := #[(47 : UInt8)] } s)))), (.d (.con (.string (cR { data := #[(47 : UInt8)] } s)))), (.d (.con (.bool (cB { data := #[(47 : UInt8)] } s)))), .any, .any, .any, .any, (.d (.con (.string (cD { data := #[(46 : UInt8)] } s)))), (.d (.con (.string (cR { data := #[(46 : UInt8)] } s)))), (.d (.con (.bool (cB { data := #[(46 : UInt8)] } s)))), (.d (.con (.int .i64 (dgN (cD { data := #[(46 : UInt8)] } s) (10 : Int))))), (.d (.con (.bool (dgB (cD { data := #[(46 : UInt8)] } s) (10 : Int))))), (.d (.con (.int .i64 (dgN (cR { data := #[(46 : UInt8)] } s) (6 : Int))))), (.d (.con (.bool (dgB (cR { data := #[(46 : UInt8)] } s) (6 : Int))))), (.d (.con (.int .i64 ((1 : Int))))), (.d (.tup [(.con (.string (cD { data := #[(47 : UInt8)] } s))), (.con (.string (cR { data := #[(47 : UInt8)] } s))), (.con (.bool (cB { data := #[(47 : UInt8)] } s)))])), (.d (.con (.string s))), (.d (.tup [(.con (.string (cD { data := #[(47 : UInt8)] } s))), (.con (.string (cR { data := #[(47 : UInt8)] } s))), (.con (.bool (cB { data := #[(47 : UInt8)] } s)))])), (.d (.con (.string (cD { data := #[(47 : UInt8)] } s)))), (.d (.con (.string (cR { data := #[(47 : UInt8)] } s)))), (.d (.con (.bool (cB { data := #[(47 : UInt8)] } s)))), (.d (.con (.bool (cB { data := #[(47 : UInt8)] } s)))), .any, .any, .any, .any, .any, .any, .any, .any, .any, .any, .any, .any, .any, .any, .any, .any, (.d (.tup [(.con (.string (cD { data := #[(46 : UInt8)] } s))), (.con (.string (cR { data := #[(46 : UInt8)] } s))), (.con (.bool (cB { data := #[(46 : UInt8)] } s)))])), (.d (.con (.string s))), (.d (.tup [(.con (.string (cD { data := #[(46 : UInt8)] } s))), (.con (.string (cR { data := #[(46 : UInt8)] } s))), (.con (.bool (cB { data := #[(46 : UInt8)] } s)))])), (.d (.con (.string (cD { data := #[(46 : UInt8)] } s)))), (.d (.con (.string (cR { data := #[(46 : UInt8)] } s)))), (.d (.con (.bool (cB { data := #[(46 : UInt8)] } s)))), (.d (.tup [(.con (.int .i64 (dgN (cD { data := #[(46 : UInt8)] } s) (10 : Int)))), (.con (.bool (dgB (cD { data := #[(46 : UInt8)] } s) (10 : Int))))])), (.d (.con (.string (cD { data := #[(46 : UInt8)] } s)))), (.d (.tup [(.con (.int .i64 (dgN (cD { data := #[(46 : UInt8)] } s) (10 : Int)))), (.con (.bool (dgB (cD { data := #[(46 : UInt8)] } s) (10 : Int))))])), (.d (.con (.int .i64 (dgN (cD { data := #[(46 : UInt8)] } s) (10 : Int))))), (.d (.con (.bool (dgB (cD { data := #[(46 : UInt8)] } s) (10 : Int))))), (.d (.con (.bool (cB { data := #[(46 : UInt8)] } s)))), (.d (.con (.bool (!cB { data := #[(46 : UInt8)] } s)))), .any, .any, (.d (.tup [(.con (.int .i64 (dgN (cR { data := #[(46 : UInt8)] } s) (6 : Int)))), (.con (.bool (dgB (cR { data := #[(46 : UInt8)] } s) (6 : Int))))])), (.d (.con (.string (cR { data := #[(46 : UInt8)] } s)))), (.d (.tup [(.con (.int .i64 (dgN (cR { data := #[(46 : UInt8)] } s) (6 : Int)))), (.con (.bool (dgB (cR { data := #[(46 : UInt8)] } s) (6 : Int))))])), (.d (.con (.int .i64 (dgN (cR { data := #[(46 : UInt8)] } s) (6 : Int))))), (.d (.con (.bool (dgB (cR { data := #[(46 : UInt8)] } s) (6 : Int))))), (.d (.con (.string (cR { data := #[(46 : UInt8)] } s)))), (.d (.con (.int .i64 ((↑(ByteArray.size (cR { data := #[(46 : UInt8)] } s)) : Int))))), (.d (.con (.int .i64 ((0 : Int))))), .any, .any, .any, .any, .any, .any, .any, .any, .any, .any, .any, .any, .any, .any, .any, .any], []⟩ (Ret Tryd.prog Tryd.f62 (DV.tup [di (Prod.fst (pR s)), di (Prod.fst (Prod.snd (pR s))), db (Prod.snd (Prod.snd (pR s)))]))))))))))) (by kernel_rfl) ?_
  have hRs : ∀ p, (cR p s).size ≤ s.size := fun p => by
    unfold cR; split
    · rw [ByteArray.size_extract]; omega
    · exact Nat.zero_le _
  have hDs : ∀ p, (cD p s).size ≤ s.size := fun p => by
    unfold cD; split
    · rw [ByteArray.size_extract]; omega
    · exact Nat.le_refl _
  have r1 := hRs slash
  have r2 := hRs dot
  have r3 := hDs slash
  have r4 := hDs dot
  refine ⟨f68 s 47 hs, fun h => ⟨f69 _ 10 (by omega) (by show (cD slash s).size ≤ _; omega), f69 _ 7 (by omega) (by show (cR slash s).size ≤ _; omega), ?_⟩, fun h => ⟨f68 s 46 hs, f69 _ 10 (by omega) (by show (cD dot s).size ≤ _; omega), fun h2 => ?_, fun h2 => ⟨f69 _ 6 (by omega) (by show (cR dot s).size ≤ _; omega), ?_⟩⟩⟩
  · have h : cB slash s = true := h
    unfold pR
    rw [if_pos h]; rfl
  · have h : cB slash s = false := h
    have h2' : (!cB dot s) = true := h2
    have h2 : cB dot s = false := by simpa using h2'
    unfold pR
    rw [h, h2]; rfl
  · have h : cB slash s = false := h
    have h2' : (!cB dot s) = false := h2
    have h2 : cB dot s = true := by simpa using h2'
    have hpr : pR s = (dgN (cD dot s) 10 * 10 ^ (min (cR dot s).size 7) + dgN (cR dot s) 6, 10 ^ (min (cR dot s).size 7), dgB (cD dot s) 10 && dgB (cR dot s) 6) := by
      unfold pR
      rw [h, h2]; rfl
    obtain ⟨a0, a1⟩ := dgN_bd (cD dot s) 10
    obtain ⟨b0, b1⟩ := dgN_bd (cR dot s) 6
    refine AWP.loop (c := cAt (bodyOf Tryd.f62) [1, 1, 1, 1, 1, 1, 1, 0, 1, 0, 0]) (by kernel_rfl) (S62 s) (fun i => i ≤ (cR dot s).size ∧ i ≤ 6) (fun i => (cR dot s).size - i) 0 ?_ ⟨Nat.zero_le _, Nat.zero_le _⟩ ?_
    · refine of_eq (b :=
      (((((.d (.con (.int .i64 (dgN (cD { data := #[(46 : UInt8)] } s) (10 : Int))))) : AV) = (.d (.con (.int .i64 (dgN (cD dot s) (10 : Int)))))) ∧
      ((((.d (.con (.bool (dgB (cD { data := #[(46 : UInt8)] } s) (10 : Int))))) : AV) = (.d (.con (.bool (dgB (cD dot s) (10 : Int)))))) ∧
      ((((.d (.con (.int .i64 (dgN (cR { data := #[(46 : UInt8)] } s) (6 : Int))))) : AV) = (.d (.con (.int .i64 (dgN (cR dot s) (6 : Int)))))) ∧
      ((((.d (.con (.bool (dgB (cR { data := #[(46 : UInt8)] } s) (6 : Int))))) : AV) = (.d (.con (.bool (dgB (cR dot s) (6 : Int)))))) ∧
      ((((.d (.con (.int .i64 ((1 : Int))))) : AV) = (.d (.con (.int .i64 ((1 : Int)))))) ∧
      ((((.d (.con (.int .i64 ((↑(ByteArray.size (cR { data := #[(46 : UInt8)] } s)) : Int))))) : AV) = (.d (.con (.int .i64 ((↑(ByteArray.size (cR dot s)) : Int)))))) ∧
      ((((.d (.con (.int .i64 ((0 : Int))))) : AV) = (.d (.con (.int .i64 ((0 : Int)))))) ∧
      True))))))) ∧
      True)) (by kernel_rfl) ?_
      exact ⟨⟨rfl, rfl, rfl, rfl, rfl, rfl, rfl, trivial⟩, trivial⟩
    · rintro i ⟨hi, hi6⟩
      refine walk (orc := orcV) (keep := []) (cuts := []) (n := 1000) follows ?_
      refine of_eqH (b :=
        ((((decide ((↑i : Int) < (↑(ByteArray.size (cR dot s)) : Int))) = true) →
        ((I64 ((↑((10 : Nat) ^ i) : Int) * (10 : Int))) ∧
        ((((decide ((↑((10 : Nat) ^ i) : Int) * (10 : Int) > (1000000 : Int))) = true) →
        AWP Tryd.prog G [.code (cAt (bodyOf Tryd.f62) [1, 1, 1, 1, 1, 1, 1, 1])] ⟨[.any, .any, .any, .any, .any, .any, .any, .any, .any, .any, .any, .any, .any, .any, .any, (.d (.con (.int .i64 (dgN (cD dot s) (10 : Int))))), (.d (.con (.bool (dgB (cD dot s) (10 : Int))))), (.d (.con (.int .i64 (dgN (cR dot s) (6 : Int))))), (.d (.con (.bool (dgB (cR dot s) (6 : Int))))), (.d (.con (.int .i64 ((↑((10 : Nat) ^ i) : Int) * (10 : Int))))), .any, .any, .any, .any, .any, .any, .any, .any, .any, .any, .any, .any, .any, .any, .any, .any, .any, .any, .any, .any, .any, .any, .any, .any, .any, .any, .any, .any, .any, .any, .any, .any, .any, .any, .any, .any, .any, .any, .any, .any, .any, .any, .any, .any, (.d (.con (.int .i64 ((↑(ByteArray.size (cR dot s)) : Int))))), (.d (.con (.int .i64 ((↑i : Int))))), (.d (.con (.bool (decide ((↑i : Int) < (↑(ByteArray.size (cR dot s)) : Int)))))), (.d (.con (.int .i64 ((↑((10 : Nat) ^ i) : Int))))), (.d (.con (.int .i64 ((↑((10 : Nat) ^ i) : Int) * (10 : Int))))), (.d (.con (.int .i64 ((↑((10 : Nat) ^ i) : Int) * (10 : Int))))), (.d (.con (.bool (decide ((↑((10 : Nat) ^ i) : Int) * (10 : Int) > (1000000 : Int)))))), .any, .any, .any, .any, .any, .any, .any, .any, .any, .any, .any], []⟩ (Ret Tryd.prog Tryd.f62 (DV.tup [di (Prod.fst (pR s)), di (Prod.fst (Prod.snd (pR s))), db (Prod.snd (Prod.snd (pR s)))]))) ∧
        (((decide ((↑((10 : Nat) ^ i) : Int) * (10 : Int) > (1000000 : Int))) = false) →
        ((I64 ((↑i : Int) + (1 : Int))) ∧
        Again (S62 s) (fun i => i ≤ ByteArray.size (cR dot s) ∧ i ≤ (6 : Nat)) (fun i => ByteArray.size (cR dot s) - i) i ⟨[.any, .any, .any, .any, .any, .any, .any, .any, .any, .any, .any, .any, .any, .any, .any, (.d (.con (.int .i64 (dgN (cD dot s) (10 : Int))))), (.d (.con (.bool (dgB (cD dot s) (10 : Int))))), (.d (.con (.int .i64 (dgN (cR dot s) (6 : Int))))), (.d (.con (.bool (dgB (cR dot s) (6 : Int))))), (.d (.con (.int .i64 ((↑((10 : Nat) ^ i) : Int) * (10 : Int))))), .any, .any, .any, .any, .any, .any, .any, .any, .any, .any, .any, .any, .any, .any, .any, .any, .any, .any, .any, .any, .any, .any, .any, .any, .any, .any, .any, .any, .any, .any, .any, .any, .any, .any, .any, .any, .any, .any, .any, .any, .any, .any, .any, .any, (.d (.con (.int .i64 ((↑(ByteArray.size (cR dot s)) : Int))))), (.d (.con (.int .i64 ((↑i : Int) + (1 : Int))))), (.d (.con (.bool (decide ((↑i : Int) < (↑(ByteArray.size (cR dot s)) : Int)))))), (.d (.con (.int .i64 ((↑((10 : Nat) ^ i) : Int))))), (.d (.con (.int .i64 ((↑((10 : Nat) ^ i) : Int) * (10 : Int))))), (.d (.con (.int .i64 ((↑((10 : Nat) ^ i) : Int) * (10 : Int))))), (.d (.con (.bool (decide ((↑((10 : Nat) ^ i) : Int) * (10 : Int) > (1000000 : Int)))))), (.d (.con (.int .i64 ((↑i : Int) + (1 : Int))))), .any, .any, .any, .any, .any, .any, .any, .any, .any, .any], []⟩))))) ∧
        (((decide ((↑i : Int) < (↑(ByteArray.size (cR dot s)) : Int))) = false) →
        AWP Tryd.prog G [.code (cAt (bodyOf Tryd.f62) [1, 1, 1, 1, 1, 1, 1, 1])] ⟨[.any, .any, .any, .any, .any, .any, .any, .any, .any, .any, .any, .any, .any, .any, .any, (.d (.con (.int .i64 (dgN (cD dot s) (10 : Int))))), (.d (.con (.bool (dgB (cD dot s) (10 : Int))))), (.d (.con (.int .i64 (dgN (cR dot s) (6 : Int))))), (.d (.con (.bool (dgB (cR dot s) (6 : Int))))), (.d (.con (.int .i64 ((↑((10 : Nat) ^ i) : Int))))), .any, .any, .any, .any, .any, .any, .any, .any, .any, .any, .any, .any, .any, .any, .any, .any, .any, .any, .any, .any, .any, .any, .any, .any, .any, .any, .any, .any, .any, .any, .any, .any, .any, .any, .any, .any, .any, .any, .any, .any, .any, .any, .any, .any, (.d (.con (.int .i64 ((↑(ByteArray.size (cR dot s)) : Int))))), (.d (.con (.int .i64 ((↑i : Int))))), (.d (.con (.bool (decide ((↑i : Int) < (↑(ByteArray.size (cR dot s)) : Int)))))), .any, .any, .any, .any, .any, .any, .any, .any, .any, .any, .any, .any, .any, .any, .any], []⟩ (Ret Tryd.prog Tryd.f62 (DV.tup [di (Prod.fst (pR s)), di (Prod.fst (Prod.snd (pR s))), db (Prod.snd (Prod.snd (pR s)))]))))) (by kernel_rfl) ?_
      have hp1 : 0 < 10 ^ i := Nat.pow_pos (by decide)
      have hp2 := pow_le7 (i := i) (by omega)
      have hps : 10 ^ (i + 1) = 10 ^ i * 10 := Nat.pow_succ ..
      have e10 : ((10 ^ 10 : Nat) : Int) = 10000000000 := by decide
      have e6 : ((10 ^ 6 : Nat) : Int) = 1000000 := by decide
      have e10' : (10 : Nat) ^ 10 = 10000000000 := by decide
      have e6' : (10 : Nat) ^ 6 = 1000000 := by decide
      rw [e10'] at a1
      rw [e6'] at b1
      have a0 : 0 ≤ dgN (cD dot s) 10 := a0
      have b0 : 0 ≤ dgN (cR dot s) 6 := b0
      have a1 : dgN (cD dot s) 10 < 10000000000 := a1
      have b1 : dgN (cR dot s) 6 < 1000000 := b1
      have fin : ∀ D : Nat, D ≤ 100000000 → D = 10 ^ (min (cR dot s).size 7) → (I64 (dgN (cD dot s) 10 * (D : Int)) ∧ I64 (dgN (cD dot s) 10 * (D : Int) + dgN (cR dot s) 6)) ∧ (DV.tup [di (dgN (cD dot s) 10 * (D : Int) + dgN (cR dot s) 6), di (D : Int), db (dgB (cD dot s) 10 && dgB (cR dot s) 6)]) = .tup [di (pR s).1, di (pR s).2.1, db (pR s).2.2] := by
        intro D hD hDe
        have hm : 0 ≤ dgN (cD dot s) 10 * (D : Int) := Int.mul_nonneg a0 (by omega)
        have hm2 : dgN (cD dot s) 10 * (D : Int) ≤ 10000000000 * 100000000 := Int.mul_le_mul (by omega) (by omega) (by omega) (by omega)
        refine ⟨⟨⟨by omega, by omega⟩, by omega, by omega⟩, ?_⟩
        rw [hpr, hDe]
        simp only [Int.natCast_pow]
        rfl
      refine ⟨fun h3 => ⟨⟨by omega, by omega⟩, fun h4 => ?_, fun h4 => ?_⟩, fun h3 => ?_⟩
      · have h3 : i < (cR dot s).size := by simp at h3; omega
        have h4 : 1000000 < 10 ^ i * 10 := by simp only [decide_eq_true_eq] at h4; omega
        have hi6' : i = 6 := by
          rcases Nat.lt_or_ge i 6 with h5 | h5
          · have : 10 ^ i ≤ 10 ^ 5 := Nat.pow_le_pow_right (by decide) (by omega)
            have e5 : (10 : Nat) ^ 5 = 100000 := by decide
            omega
          · omega
        subst hi6'
        refine walk (orc := orcV) (keep := []) (cuts := []) (n := 1000) follows ?_
        refine of_eqH (b :=
          (((I64 (dgN (cD dot s) (10 : Int) * (10000000 : Int))) ∧
          (I64 (dgN (cD dot s) (10 : Int) * (10000000 : Int) + dgN (cR dot s) (6 : Int)))) ∧
          (((.tup [(.con (.int .i64 (dgN (cD dot s) (10 : Int) * (10000000 : Int) + dgN (cR dot s) (6 : Int)))), (.con (.int .i64 ((10000000 : Int)))), (.con (.bool (dgB (cD dot s) (10 : Int) && dgB (cR dot s) (6 : Int))))]) : DV) = (.tup [(di (Prod.fst (pR s))), (di (Prod.fst (Prod.snd (pR s)))), (db (Prod.snd (Prod.snd (pR s))))])))) (by kernel_rfl) ?_
        have := fin 10000000 (by decide) (by rw [Nat.min_eq_right (by omega)])
        exact this
      · have h3 : i < (cR dot s).size := by simp at h3; omega
        have h4 : 10 ^ i * 10 ≤ 1000000 := by simp only [decide_eq_false_iff_not] at h4; omega
        refine ⟨⟨by omega, by omega⟩, Again.mk (i + 1) ?_ ⟨by omega, ?_⟩ (by omega)⟩
        · refine of_eq (b :=
          (((((.d (.con (.int .i64 (dgN (cD dot s) (10 : Int))))) : AV) = (.d (.con (.int .i64 (dgN (cD dot s) (10 : Int)))))) ∧
          ((((.d (.con (.bool (dgB (cD dot s) (10 : Int))))) : AV) = (.d (.con (.bool (dgB (cD dot s) (10 : Int)))))) ∧
          ((((.d (.con (.int .i64 (dgN (cR dot s) (6 : Int))))) : AV) = (.d (.con (.int .i64 (dgN (cR dot s) (6 : Int)))))) ∧
          ((((.d (.con (.bool (dgB (cR dot s) (6 : Int))))) : AV) = (.d (.con (.bool (dgB (cR dot s) (6 : Int)))))) ∧
          ((((.d (.con (.int .i64 ((↑((10 : Nat) ^ i) : Int) * (10 : Int))))) : AV) = (.d (.con (.int .i64 ((↑((10 : Nat) ^ (i + (1 : Nat))) : Int)))))) ∧
          ((((.d (.con (.int .i64 ((↑(ByteArray.size (cR dot s)) : Int))))) : AV) = (.d (.con (.int .i64 ((↑(ByteArray.size (cR dot s)) : Int)))))) ∧
          ((((.d (.con (.int .i64 ((↑i : Int) + (1 : Int))))) : AV) = (.d (.con (.int .i64 ((↑(i + (1 : Nat)) : Int)))))) ∧
          True))))))) ∧
          True)) (by kernel_rfl) ?_
          refine ⟨⟨rfl, rfl, rfl, rfl, ?_, rfl, rfl, trivial⟩, trivial⟩
          rw [hps]; rfl
        · rcases Nat.lt_or_ge i 6 with h5 | h5
          · omega
          · have : i = 6 := by omega
            subst this
            exact absurd h4 (by decide)
      · have h3 : i = (cR dot s).size := by simp at h3; omega
        refine walk (orc := orcV) (keep := []) (cuts := []) (n := 1000) follows ?_
        refine of_eqH (b :=
          (((I64 (dgN (cD dot s) (10 : Int) * (↑((10 : Nat) ^ i) : Int))) ∧
          (I64 (dgN (cD dot s) (10 : Int) * (↑((10 : Nat) ^ i) : Int) + dgN (cR dot s) (6 : Int)))) ∧
          (((.tup [(.con (.int .i64 (dgN (cD dot s) (10 : Int) * (↑((10 : Nat) ^ i) : Int) + dgN (cR dot s) (6 : Int)))), (.con (.int .i64 ((↑((10 : Nat) ^ i) : Int)))), (.con (.bool (dgB (cD dot s) (10 : Int) && dgB (cR dot s) (6 : Int))))]) : DV) = (.tup [(di (Prod.fst (pR s))), (di (Prod.fst (Prod.snd (pR s)))), (db (Prod.snd (Prod.snd (pR s))))])))) (by kernel_rfl) ?_
        have := fin (10 ^ i) (by omega) (by rw [← h3, Nat.min_eq_left (by omega)])
        exact this
end Go.Proofs

set_option autoImplicit false
namespace Go.Proofs
open Go Go.Ab
theorem cut_list {s : ByteArray} {c : UInt8} (h : cB ⟨#[c]⟩ s = true) : s.data.toList = (cD ⟨#[c]⟩ s).data.toList ++ c :: (cR ⟨#[c]⟩ s).data.toList := by
  have h1 : 0 ≤ cI ⟨#[c]⟩ s := by simpa [cB] using h
  obtain ⟨k, hk⟩ := Int.eq_ofNat_of_zero_le h1
  obtain ⟨h4, _⟩ := Lib.indexByte_some (show Lib.indexByte s.data.toList c = (k : Int) from hk)
  obtain ⟨h5, h6⟩ := List.getElem?_eq_some_iff.1 h4
  have hD : (cD ⟨#[c]⟩ s).data.toList = s.data.toList.take k := by
    unfold cD
    rw [if_pos h1, hk, Int.toNat_natCast, extract_list, List.drop_zero, Nat.sub_zero]
  have hR : (cR ⟨#[c]⟩ s).data.toList = s.data.toList.drop (k + 1) := by
    unfold cR
    rw [if_pos h1, hk, show Int.toNat ((k : Int) + 1) = k + 1 by omega, extract_list, List.take_of_length_le (by rw [List.length_drop, size_list]; omega)]
  have e : s.data.toList.drop k = c :: s.data.toList.drop (k + 1) := by
    rw [List.drop_eq_getElem_cons h5, h6]
  rw [hD, hR, ← e, List.take_append_drop]
theorem cut_none {s : ByteArray} {c : UInt8} (h : cB ⟨#[c]⟩ s = false) : c ∉ s.data.toList ∧ cD ⟨#[c]⟩ s = s := by
  have h1 : ¬ 0 ≤ cI ⟨#[c]⟩ s := by simpa [cB] using h
  refine ⟨fun hm => ?_, by unfold cD; rw [if_neg h1]⟩
  have hge : -1 ≤ cI ⟨#[c]⟩ s := Lib.indexByte_ge s.data.toList c
  have hn : Lib.indexByte s.data.toList c = -1 := by
    have : cI ⟨#[c]⟩ s = -1 := by omega
    exact this
  obtain ⟨k, hk, rfl⟩ := List.getElem_of_mem hm
  exact Lib.indexByte_none hn k (List.getElem?_eq_getElem hk)
theorem dgO_len {l : List UInt8} {m a : Nat} (h : dgO l m = some a) : l.length ≤ m := by
  unfold dgO at h
  split at h
  · rename_i h2; exact h2.2.1
  · cases h
theorem dg_some {s : ByteArray} {m : Nat} {a : Nat} (h : dgO s.data.toList m = some a) : dgN s m = a ∧ dgB s m = true := by
  unfold dgN dgB
  rw [Int.toNat_natCast, h]; exact ⟨rfl, rfl⟩
theorem dg_none {s : ByteArray} {m : Nat} (h : dgO s.data.toList m = none) : dgB s m = false := by
  unfold dgB
  rw [Int.toNat_natCast, h]; rfl
theorem pR_law (s : ByteArray) : (pR s).2.2 = (partsO s.data.toList).isSome ∧ ∀ a b, partsO s.data.toList = some (a, b) → (pR s).1 = a ∧ (pR s).2.1 = b := by
  unfold pR
  cases h1 : cB slash s with
  | true =>
    rw [if_pos rfl, cut_list (c := 47) h1, parts_slash]
    cases hw : dgO (cD ⟨#[47]⟩ s).data.toList 10 with
    | none =>
      have := dg_none hw
      refine ⟨?_, fun a b h => by cases h⟩
      show (dgB (cD slash s) (10 : Nat) && _) = _
      rw [show cD slash s = cD ⟨#[47]⟩ s from rfl, this]; rfl
    | some a =>
      obtain ⟨w1, w2⟩ := dg_some hw
      cases hr : dgO (cR ⟨#[47]⟩ s).data.toList 7 with
      | none =>
        have := dg_none hr
        refine ⟨?_, fun a b h => by cases h⟩
        show (_ && dgB (cR slash s) (7 : Nat)) = _
        rw [show cR slash s = cR ⟨#[47]⟩ s from rfl, this, Bool.and_false]; rfl
      | some b =>
        obtain ⟨r1, r2⟩ := dg_some hr
        refine ⟨?_, fun a' b' h => ?_⟩
        · show (dgB (cD ⟨#[47]⟩ s) (10 : Nat) && dgB (cR ⟨#[47]⟩ s) (7 : Nat)) = true
          rw [w2, r2]; rfl
        · simp at h
          rw [← h.1, ← h.2]
          exact ⟨w1, r1⟩
  | false =>
    rw [if_neg (by simp)]
    obtain ⟨n1, _⟩ := cut_none (c := 47) h1
    cases h2 : cB dot s with
    | true =>
      rw [if_pos rfl, cut_list (c := 46) h2, parts_dot]
      cases hw : dgO (cD ⟨#[46]⟩ s).data.toList 10 with
      | none =>
        have := dg_none hw
        refine ⟨?_, fun a b h => by cases h⟩
        show (dgB (cD dot s) (10 : Nat) && _) = _
        rw [show cD dot s = cD ⟨#[46]⟩ s from rfl, this]; rfl
      | some a =>
        obtain ⟨w1, w2⟩ := dg_some hw
        cases hr : dgO (cR ⟨#[46]⟩ s).data.toList 6 with
        | none =>
          have := dg_none hr
          refine ⟨?_, fun a b h => by cases h⟩
          show (_ && dgB (cR dot s) (6 : Nat)) = _
          rw [show cR dot s = cR ⟨#[46]⟩ s from rfl, this, Bool.and_false]; rfl
        | some b =>
          obtain ⟨r1, r2⟩ := dg_some hr
          have hl := dgO_len hr
          have hm : min (cR dot s).size 7 = (cR ⟨#[46]⟩ s).data.toList.length := by
            rw [size_list] at hl ⊢
            exact Nat.min_eq_left (by show (cR ⟨#[46]⟩ s).size ≤ 7; omega)
          refine ⟨?_, fun a' b' h => ?_⟩
          · show (dgB (cD ⟨#[46]⟩ s) (10 : Nat) && dgB (cR ⟨#[46]⟩ s) (6 : Nat)) = true
            rw [w2, r2]; rfl
          · simp only [Option.bind_some, Option.map_some, Option.some.injEq, Prod.mk.injEq] at h
            rw [← h.1, ← h.2]
            refine ⟨?_, ?_⟩
            · show dgN (cD ⟨#[46]⟩ s) (10 : Nat) * 10 ^ (min (cR dot s).size 7) + dgN (cR ⟨#[46]⟩ s) (6 : Nat) = _
              rw [w1, r1, hm]; push_cast; rfl
            · show (10 : Int) ^ (min (cR dot s).size 7) = _
              rw [hm]; push_cast; rfl
    | false =>
      rw [if_neg (by simp)]
      obtain ⟨n2, e2⟩ := cut_none (c := 46) h2
      have e2 : cD dot s = s := e2
      rw [parts_whole n1 n2, e2]
      cases hw : dgO s.data.toList 10 with
      | none => exact ⟨dg_none hw, fun a b h => by cases h⟩
      | some a =>
        obtain ⟨w1, w2⟩ := dg_some hw
        refine ⟨w2, fun a' b' h => ?_⟩
        simp at h
        rw [← h.1, ← h.2]
        exact ⟨w1, rfl⟩
end Go.Proofs

set_option autoImplicit false
namespace Go.Proofs
open Go Go.Ab Go.RowKit
set_option maxHeartbeats 1000000
set_option maxRecDepth 100000
variable {G : IH}
def minus : ByteArray := { data := #[45] }
def orcP : Oracle := fun f args => match f, args with
  | 61, [.con (.string s), .con (.string p)] => some (.tup [ds (preS p s), db (preB p s)])
  | 62, [.con (.string s)] => some (.tup [di (pR s).1, di (pR s).2.1, db (pR s).2.2])
  | 42, [.con (.int .i64 a), .con (.int .i64 b)] => some (fe (red a b))
  | 43, [.con (.int .i64 a), .con (.int .i64 b)] => some (fe (red a b))
  | _, _ => none
theorem restO_bd {D R : List UInt8} {a b : Nat} (hD : valD D < 10000000000) (h : restO D R = some (a, b)) : a < 100000000000000000 ∧ b < 100000000 := by
  have hdg : ∀ (l : List UInt8) (m x : Nat), m ≤ 7 → dgO l m = some x → x < 10000000 ∧ l.length ≤ m := by
    intro l m x hm h
    have hl := dgO_len h
    unfold dgO at h
    split at h
    · rename_i h2
      injection h with h
      have h1 := valD_ltN _ _ rfl fun c hc => (isDb_iff c).1 (List.all_eq_true.1 h2.2.2 c hc)
      have h3 := pow_le7 (i := l.length) (by omega)
      omega
    · cases h
  cases R with
  | nil => simp [restO] at h; omega
  | cons c T =>
    have e : restO D (c :: T) = if c = 47 then (dgO T 7).map fun b => (valD D, b) else if c = 46 then (dgO T 6).map fun b => (valD D * 10 ^ T.length + b, 10 ^ T.length) else none := rfl
    rw [e] at h
    split at h
    · cases hq : dgO T 7 with
      | none => rw [hq] at h; cases h
      | some x =>
        rw [hq] at h
        simp at h
        have := hdg T 7 x (by omega) hq
        omega
    · split at h
      · cases hq : dgO T 6 with
        | none => rw [hq] at h; cases h
        | some x =>
          rw [hq] at h
          simp only [Option.map_some, Option.some.injEq, Prod.mk.injEq] at h
          have h1 := hdg T 6 x (by omega) hq
          have h3 : 10 ^ T.length ≤ 10 ^ 6 := Nat.pow_le_pow_right (by decide) h1.2
          have e6 : (10 : Nat) ^ 6 = 1000000 := by decide
          have h4 : valD D * 10 ^ T.length ≤ 10000000000 * 1000000 := Nat.mul_le_mul (by omega) (by omega)
          omega
      · cases h
theorem partsO_bd {S : List UInt8} {a b : Nat} (h : partsO S = some (a, b)) : a < 100000000000000000 ∧ b < 100000000 := by
  unfold partsO at h
  split at h
  · rename_i h2
    refine restO_bd ?_ h
    have h1 := valD_ltN _ _ rfl fun c hc => (isDb_iff c).1 (spl_digits S c hc)
    have h3 : 10 ^ (spl S).1.length ≤ 10 ^ 10 := Nat.pow_le_pow_right (by decide) h2.2
    have e10 : (10 : Nat) ^ 10 = 10000000000 := by decide
    omega
  · cases h
/-- What a text says. -/
def prs (s : ByteArray) : FE := match partsO (preS minus s).data.toList with
  | none => (0, 0, 3)
  | some (a, b) => if b = 0 then (0, 0, 2) else red (if preB minus s then -(a : Int) else a) b
theorem f39 (s : ByteArray) (hs : s.size ≤ 900000) : FnOK Tryd.prog G 39 [ds s] (fe (prs s)) := by
  have hps : (preS minus s).size ≤ 1000000 := by
    unfold preS
    rw [bs_size]
    have : (Lib.trimPrefix s.data.toList minus.data.toList).length ≤ s.data.toList.length := by
      unfold Lib.trimPrefix
      split
      · rw [List.length_drop]; omega
      · exact Nat.le_refl _
    rw [size_list] at this
    omega
  have k61 := f61 (G := G) s minus
  have k62 := f62 (G := G) (preS minus s) hps
  obtain ⟨l1, l2⟩ := pR_law (preS minus s)
  have hprs : prs s = match partsO (preS minus s).data.toList with
    | none => (0, 0, 3)
    | some (a, b) => if b = 0 then (0, 0, 2) else red (if preB minus s then -(a : Int) else a) b := rfl
  refine FnOK.walk (orc := orcP) (keep := []) follows Tryd.func39 rfl Tryd.call39 ?_
  refine of_eqH (b :=
    (FnOK Tryd.prog G ((61 : Nat)) [(.con (.string s)), (.con (.string ({ data := #[(45 : UInt8)] })))] (.tup [(.con (.string (preS { data := #[(45 : UInt8)] } s))), (.con (.bool (preB { data := #[(45 : UInt8)] } s)))]) ∧
    (FnOK Tryd.prog G ((62 : Nat)) [(.con (.string (preS { data := #[(45 : UInt8)] } s)))] (.tup [(.con (.int .i64 (Prod.fst (pR (preS { data := #[(45 : UInt8)] } s))))), (.con (.int .i64 (Prod.fst (Prod.snd (pR (preS { data := #[(45 : UInt8)] } s)))))), (.con (.bool (Prod.snd (Prod.snd (pR (preS { data := #[(45 : UInt8)] } s))))))]) ∧
    ((((!Prod.snd (Prod.snd (pR (preS { data := #[(45 : UInt8)] } s)))) = true) →
    (((.tup [(.agg [(.con (.int .i64 ((0 : Int)))), (.con (.int .i64 ((0 : Int))))]), (.con (.int .i64 ((3 : Int))))]) : DV) = (fe (prs s)))) ∧
    (((!Prod.snd (Prod.snd (pR (preS { data := #[(45 : UInt8)] } s)))) = false) →
    ((((Prod.fst (Prod.snd (pR (preS { data := #[(45 : UInt8)] } s))) == (0 : Int)) = true) →
    (((.tup [(.agg [(.con (.int .i64 ((0 : Int)))), (.con (.int .i64 ((0 : Int))))]), (.con (.int .i64 ((2 : Int))))]) : DV) = (fe (prs s)))) ∧
    (((Prod.fst (Prod.snd (pR (preS { data := #[(45 : UInt8)] } s))) == (0 : Int)) = false) →
    ((((preB { data := #[(45 : UInt8)] } s) = true) →
    ((R64 (Prod.fst (pR (preS { data := #[(45 : UInt8)] } s)))) ∧
    (FnOK Tryd.prog G ((42 : Nat)) [(.con (.int .i64 (-Prod.fst (pR (preS { data := #[(45 : UInt8)] } s))))), (.con (.int .i64 (Prod.fst (Prod.snd (pR (preS { data := #[(45 : UInt8)] } s))))))] (.tup [(.agg [(.con (.int .i64 (Prod.fst (red (-Prod.fst (pR (preS { data := #[(45 : UInt8)] } s))) (Prod.fst (Prod.snd (pR (preS { data := #[(45 : UInt8)] } s)))))))), (.con (.int .i64 (Prod.fst (Prod.snd (red (-Prod.fst (pR (preS { data := #[(45 : UInt8)] } s))) (Prod.fst (Prod.snd (pR (preS { data := #[(45 : UInt8)] } s)))))))))]), (.con (.int .i64 (Prod.snd (Prod.snd (red (-Prod.fst (pR (preS { data := #[(45 : UInt8)] } s))) (Prod.fst (Prod.snd (pR (preS { data := #[(45 : UInt8)] } s)))))))))]) ∧
    (((.tup [(.agg [(.con (.int .i64 (Prod.fst (red (-Prod.fst (pR (preS { data := #[(45 : UInt8)] } s))) (Prod.fst (Prod.snd (pR (preS { data := #[(45 : UInt8)] } s)))))))), (.con (.int .i64 (Prod.fst (Prod.snd (red (-Prod.fst (pR (preS { data := #[(45 : UInt8)] } s))) (Prod.fst (Prod.snd (pR (preS { data := #[(45 : UInt8)] } s)))))))))]), (.con (.int .i64 (Prod.snd (Prod.snd (red (-Prod.fst (pR (preS { data := #[(45 : UInt8)] } s))) (Prod.fst (Prod.snd (pR (preS { data := #[(45 : UInt8)] } s)))))))))]) : DV) = (fe (prs s)))))) ∧
    (((preB { data := #[(45 : UInt8)] } s) = false) →
    (FnOK Tryd.prog G ((42 : Nat)) [(.con (.int .i64 (Prod.fst (pR (preS { data := #[(45 : UInt8)] } s))))), (.con (.int .i64 (Prod.fst (Prod.snd (pR (preS { data := #[(45 : UInt8)] } s))))))] (.tup [(.agg [(.con (.int .i64 (Prod.fst (red (Prod.fst (pR (preS { data := #[(45 : UInt8)] } s))) (Prod.fst (Prod.snd (pR (preS { data := #[(45 : UInt8)] } s)))))))), (.con (.int .i64 (Prod.fst (Prod.snd (red (Prod.fst (pR (preS { data := #[(45 : UInt8)] } s))) (Prod.fst (Prod.snd (pR (preS { data := #[(45 : UInt8)] } s)))))))))]), (.con (.int .i64 (Prod.snd (Prod.snd (red (Prod.fst (pR (preS { data := #[(45 : UInt8)] } s))) (Prod.fst (Prod.snd (pR (preS { data := #[(45 : UInt8)] } s)))))))))]) ∧
    (((.tup [(.agg [(.con (.int .i64 (Prod.fst (red (Prod.fst (pR (preS { data := #[(45 : UInt8)] } s))) (Prod.fst (Prod.snd (pR (preS { data := #[(45 : UInt8)] } s)))))))), (.con (.int .i64 (Prod.fst (Prod.snd (red (Prod.fst (pR (preS { data := #[(45 : UInt8)] } s))) (Prod.fst (Prod.snd (pR (preS { data := #[(45 : UInt8)] } s)))))))))]), (.con (.int .i64 (Prod.snd (Prod.snd (red (Prod.fst (pR (preS { data := #[(45 : UInt8)] } s))) (Prod.fst (Prod.snd (pR (preS { data := #[(45 : UInt8)] } s)))))))))]) : DV) = (fe (prs s))))))))))))) (by kernel_rfl) ?_
  refine ⟨k61, k62, fun h => ?_, fun h => ⟨fun h2 => ?_, fun h2 => ⟨fun h3 => ?_, fun h3 => ?_⟩⟩⟩
  · have h' : (!(pR (preS minus s)).2.2) = true := h
    rw [l1] at h'
    cases hp : partsO (preS minus s).data.toList with
    | none => rw [hprs, hp]; rfl
    | some x => rw [hp] at h'; simp at h'
  · have h' : (!(pR (preS minus s)).2.2) = false := h
    rw [l1] at h'
    cases hp : partsO (preS minus s).data.toList with
    | none => rw [hp] at h'; simp at h'
    | some x =>
      obtain ⟨a, b⟩ := x
      obtain ⟨q1, q2⟩ := l2 a b hp
      have h2' : ((pR (preS minus s)).2.1 == 0) = true := h2
      rw [q2] at h2'
      have hb : b = 0 := by simp at h2'; omega
      rw [hprs, hp]
      simp only [hb, if_true]
      rfl
  · have h' : (!(pR (preS minus s)).2.2) = false := h
    rw [l1] at h'
    cases hp : partsO (preS minus s).data.toList with
    | none => rw [hp] at h'; simp at h'
    | some x =>
      obtain ⟨a, b⟩ := x
      obtain ⟨q1, q2⟩ := l2 a b hp
      obtain ⟨b1, b2⟩ := partsO_bd hp
      have h2' : ((pR (preS minus s)).2.1 == 0) = false := h2
      rw [q2] at h2'
      have hb : b ≠ 0 := by simp at h2'; omega
      have h3' : preB minus s = true := h3
      have k42 := f42 (G := G) (-(a : Int)) (b : Int) (by omega) ⟨by omega, by omega⟩ ⟨by omega, by omega⟩
      rw [hprs, hp]
      simp only [h3', if_true, if_neg hb]
      show R64 (pR (preS minus s)).1 ∧ FnOK Tryd.prog G 42 [di (-(pR (preS minus s)).1), di (pR (preS minus s)).2.1] (fe (red (-(pR (preS minus s)).1) (pR (preS minus s)).2.1)) ∧ fe (red (-(pR (preS minus s)).1) (pR (preS minus s)).2.1) = _
      rw [q1, q2]
      exact ⟨⟨by omega, by omega⟩, k42, rfl⟩
  · have h' : (!(pR (preS minus s)).2.2) = false := h
    rw [l1] at h'
    cases hp : partsO (preS minus s).data.toList with
    | none => rw [hp] at h'; simp at h'
    | some x =>
      obtain ⟨a, b⟩ := x
      obtain ⟨q1, q2⟩ := l2 a b hp
      obtain ⟨b1, b2⟩ := partsO_bd hp
      have h2' : ((pR (preS minus s)).2.1 == 0) = false := h2
      rw [q2] at h2'
      have hb : b ≠ 0 := by simp at h2'; omega
      have h3' : preB minus s = false := h3
      have k42 := f42 (G := G) (a : Int) (b : Int) (by omega) ⟨by omega, by omega⟩ ⟨by omega, by omega⟩
      rw [hprs, hp]
      simp only [h3', Bool.false_eq_true, if_false, if_neg hb]
      show FnOK Tryd.prog G 42 [di (pR (preS minus s)).1, di (pR (preS minus s)).2.1] (fe (red (pR (preS minus s)).1 (pR (preS minus s)).2.1)) ∧ fe (red (pR (preS minus s)).1 (pR (preS minus s)).2.1) = _
      rw [q1, q2]
      exact ⟨k42, rfl⟩
end Go.Proofs

set_option autoImplicit false
namespace Go.Proofs
open Go Go.Ab Go.RowKit
set_option maxHeartbeats 1000000
set_option maxRecDepth 100000
variable {G : IH}
/-- The digits in front of a text: how many, and the number of the first twelve. -/
def dgK (s : ByteArray) : Int := ((spl s.data.toList).1.length : Nat)
def dgV (s : ByteArray) : Int := (valD ((spl s.data.toList).1.take 12) : Nat)
noncomputable def S63 (s : ByteArray) (k : Nat) : AS := ⟨regs Tryd.f63.ntmps [(0, vs s), (4, vi k), (5, vi (valD ((s.data.toList.take k).take 12) : Nat))], []⟩
def orc63 : Oracle := fun _ _ => none
theorem spl_take {S : List UInt8} {k : Nat} (hk : k ≤ S.length) (hd : ∀ c ∈ S.take k, isDb c = true) (hs : ∀ h : k < S.length, isDb S[k] = false) : (spl S).1 = S.take k := by
  have := spl_unique (D := S.take k) (R := S.drop k) hd (fun c T h => by
    have hl : k < S.length := by
      rcases Nat.lt_or_ge k S.length with h2 | h2
      · exact h2
      · rw [List.drop_eq_nil_of_le h2] at h; cases h
    rw [List.drop_eq_getElem_cons hl] at h
    injection h with h1 h2
    rw [← h1]; exact hs hl)
  rw [List.take_append_drop] at this
  rw [this]
theorem f63 (s : ByteArray) (hs : s.size ≤ 900000) : FnOK Tryd.prog G 63 [ds s] (.tup [di (dgK s), di (dgV s)]) := by
  refine FnOK.walk (orc := orc63) (keep := []) follows Tryd.func63 rfl Tryd.call63 ?_
  refine of_eqH (b :=
    AWP Tryd.prog G [.code (cAt (bodyOf Tryd.f63) [1, 1, 0, 0]), (.blk ((0 : Nat))), .code (cAt (bodyOf Tryd.f63) [1, 1, 1])] ⟨[(.d (.con (.string s))), .any, (.d (.con (.int .i64 ((0 : Int))))), (.d (.con (.int .i64 ((0 : Int))))), (.d (.con (.int .i64 ((0 : Int))))), (.d (.con (.int .i64 ((0 : Int))))), .any, .any, .any, .any, .any, .any, .any, .any, .any, .any, .any, .any, .any, .any, .any, .any, .any, .any, .any, .any, .any, .any, .any, .any, .any, .any, .any, .any, .any, .any], []⟩ (Ret Tryd.prog Tryd.f63 (DV.tup [di (dgK s), di (dgV s)]))) (by kernel_rfl) ?_
  refine AWP.loop (c := cAt (bodyOf Tryd.f63) [1, 1, 0, 0, 0]) (by kernel_rfl) (S63 s) (fun k => k ≤ s.size ∧ ∀ c ∈ s.data.toList.take k, isDb c = true) (fun k => s.size - k) 0 ?_ ⟨Nat.zero_le _, fun c hc => by simp at hc⟩ ?_
  · refine of_eq (b :=
    (((((.d (.con (.string s))) : AV) = (.d (.con (.string s)))) ∧
    ((((.d (.con (.int .i64 ((0 : Int))))) : AV) = (.d (.con (.int .i64 ((0 : Int)))))) ∧
    ((((.d (.con (.int .i64 ((0 : Int))))) : AV) = (.d (.con (.int .i64 ((↑(valD (List.take (12 : Nat) (List.take (0 : Nat) (Array.toList (ByteArray.data s))))) : Int)))))) ∧
    True))) ∧
    True)) (by kernel_rfl) ?_
    exact ⟨⟨rfl, rfl, rfl, trivial⟩, trivial⟩
  · rintro k ⟨hk, hkd⟩
    refine walk (orc := orc63) (keep := []) (cuts := []) (n := 1000) follows ?_
    refine of_eqH (b :=
      (((((decide ((↑k : Int) < (↑(ByteArray.size s) : Int))) = true) →
      (((0 : Int) ≤ (↑k : Int)) ∧
      ((↑k : Int) < (↑(ByteArray.size s) : Int)))) ∧
      (((decide ((↑k : Int) < (↑(ByteArray.size s) : Int)) && decide (byteAt s (Int.toNat (↑k : Int)) ≥ (48 : Int))) = true) →
      (((0 : Int) ≤ (↑k : Int)) ∧
      ((↑k : Int) < (↑(ByteArray.size s) : Int))))) ∧
      ((((decide ((↑k : Int) < (↑(ByteArray.size s) : Int)) && decide (byteAt s (Int.toNat (↑k : Int)) ≥ (48 : Int)) && decide (byteAt s (Int.toNat (↑k : Int)) ≤ (57 : Int))) = true) →
      ((((decide ((↑k : Int) < (12 : Int))) = true) →
      (((I64 ((10 : Int) * (↑(valD (List.take (12 : Nat) (List.take k (Array.toList (ByteArray.data s))))) : Int))) ∧
      ((((0 : Int) ≤ (↑k : Int)) ∧
      ((↑k : Int) < (↑(ByteArray.size s) : Int))) ∧
      (I64 ((10 : Int) * (↑(valD (List.take (12 : Nat) (List.take k (Array.toList (ByteArray.data s))))) : Int) + IntKind.wrap IntKind.i64 (IntKind.wrap IntKind.u8 (byteAt s (Int.toNat (↑k : Int)) - (48 : Int))))))) ∧
      ((I64 ((↑k : Int) + (1 : Int))) ∧
      Again (S63 s) (fun k => k ≤ ByteArray.size s ∧ ∀ (c : UInt8), c ∈ List.take k (Array.toList (ByteArray.data s)) → isDb c = true) (fun k => ByteArray.size s - k) k ⟨[(.d (.con (.string s))), .any, .any, .any, (.d (.con (.int .i64 ((↑k : Int) + (1 : Int))))), (.d (.con (.int .i64 ((10 : Int) * (↑(valD (List.take (12 : Nat) (List.take k (Array.toList (ByteArray.data s))))) : Int) + IntKind.wrap IntKind.i64 (IntKind.wrap IntKind.u8 (byteAt s (Int.toNat (↑k : Int)) - (48 : Int))))))), (.d (.con (.int .i64 ((↑k : Int))))), (.d (.con (.string s))), (.d (.con (.int .i64 ((↑(ByteArray.size s) : Int))))), (.d (.con (.bool (decide ((↑k : Int) < (↑(ByteArray.size s) : Int)))))), (.d (.con (.bool (decide ((↑k : Int) < (↑(ByteArray.size s) : Int)))))), .any, .any, .any, .any, (.d (.con (.bool (decide ((↑k : Int) < (↑(ByteArray.size s) : Int)) && decide (byteAt s (Int.toNat (↑k : Int)) ≥ (48 : Int)))))), (.d (.con (.bool (decide ((↑k : Int) < (↑(ByteArray.size s) : Int)) && decide (byteAt s (Int.toNat (↑k : Int)) ≥ (48 : Int)))))), .any, .any, .any, .any, (.d (.con (.bool (decide ((↑k : Int) < (↑(ByteArray.size s) : Int)) && decide (byteAt s (Int.toNat (↑k : Int)) ≥ (48 : Int)) && decide (byteAt s (Int.toNat (↑k : Int)) ≤ (57 : Int)))))), (.d (.con (.int .i64 ((↑k : Int))))), (.d (.con (.bool (decide ((↑k : Int) < (12 : Int)))))), (.d (.con (.int .i64 ((↑(valD (List.take (12 : Nat) (List.take k (Array.toList (ByteArray.data s))))) : Int))))), (.d (.con (.int .i64 ((10 : Int) * (↑(valD (List.take (12 : Nat) (List.take k (Array.toList (ByteArray.data s))))) : Int))))), (.d (.con (.string s))), (.d (.con (.int .i64 ((↑k : Int))))), (.d (.con (.int .u8 (byteAt s (Int.toNat (↑k : Int)))))), (.d (.con (.int .u8 (IntKind.wrap IntKind.u8 (byteAt s (Int.toNat (↑k : Int)) - (48 : Int)))))), (.d (.con (.int .i64 (IntKind.wrap IntKind.i64 (IntKind.wrap IntKind.u8 (byteAt s (Int.toNat (↑k : Int)) - (48 : Int))))))), (.d (.con (.int .i64 ((10 : Int) * (↑(valD (List.take (12 : Nat) (List.take k (Array.toList (ByteArray.data s))))) : Int) + IntKind.wrap IntKind.i64 (IntKind.wrap IntKind.u8 (byteAt s (Int.toNat (↑k : Int)) - (48 : Int))))))), (.d (.con (.int .i64 ((↑k : Int))))), (.d (.con (.int .i64 ((↑k : Int) + (1 : Int))))), .any, .any], []⟩))) ∧
      (((decide ((↑k : Int) < (12 : Int))) = false) →
      ((I64 ((↑k : Int) + (1 : Int))) ∧
      Again (S63 s) (fun k => k ≤ ByteArray.size s ∧ ∀ (c : UInt8), c ∈ List.take k (Array.toList (ByteArray.data s)) → isDb c = true) (fun k => ByteArray.size s - k) k ⟨[(.d (.con (.string s))), .any, .any, .any, (.d (.con (.int .i64 ((↑k : Int) + (1 : Int))))), (.d (.con (.int .i64 ((↑(valD (List.take (12 : Nat) (List.take k (Array.toList (ByteArray.data s))))) : Int))))), (.d (.con (.int .i64 ((↑k : Int))))), (.d (.con (.string s))), (.d (.con (.int .i64 ((↑(ByteArray.size s) : Int))))), (.d (.con (.bool (decide ((↑k : Int) < (↑(ByteArray.size s) : Int)))))), (.d (.con (.bool (decide ((↑k : Int) < (↑(ByteArray.size s) : Int)))))), .any, .any, .any, .any, (.d (.con (.bool (decide ((↑k : Int) < (↑(ByteArray.size s) : Int)) && decide (byteAt s (Int.toNat (↑k : Int)) ≥ (48 : Int)))))), (.d (.con (.bool (decide ((↑k : Int) < (↑(ByteArray.size s) : Int)) && decide (byteAt s (Int.toNat (↑k : Int)) ≥ (48 : Int)))))), .any, .any, .any, .any, (.d (.con (.bool (decide ((↑k : Int) < (↑(ByteArray.size s) : Int)) && decide (byteAt s (Int.toNat (↑k : Int)) ≥ (48 : Int)) && decide (byteAt s (Int.toNat (↑k : Int)) ≤ (57 : Int)))))), (.d (.con (.int .i64 ((↑k : Int))))), (.d (.con (.bool (decide ((↑k : Int) < (12 : Int)))))), .any, .any, .any, .any, .any, .any, .any, .any, (.d (.con (.int .i64 ((↑k : Int))))), (.d (.con (.int .i64 ((↑k : Int) + (1 : Int))))), .any, .any], []⟩)))) ∧
      (((decide ((↑k : Int) < (↑(ByteArray.size s) : Int)) && decide (byteAt s (Int.toNat (↑k : Int)) ≥ (48 : Int)) && decide (byteAt s (Int.toNat (↑k : Int)) ≤ (57 : Int))) = false) →
      AWP Tryd.prog G [.code (cAt (bodyOf Tryd.f63) [1, 1, 1])] ⟨[(.d (.con (.string s))), .any, .any, .any, (.d (.con (.int .i64 ((↑k : Int))))), (.d (.con (.int .i64 ((↑(valD (List.take (12 : Nat) (List.take k (Array.toList (ByteArray.data s))))) : Int))))), (.d (.con (.int .i64 ((↑k : Int))))), (.d (.con (.string s))), (.d (.con (.int .i64 ((↑(ByteArray.size s) : Int))))), (.d (.con (.bool (decide ((↑k : Int) < (↑(ByteArray.size s) : Int)))))), (.d (.con (.bool (decide ((↑k : Int) < (↑(ByteArray.size s) : Int)))))), (.gate ((10 : Nat)) true (decide ((↑k : Int) < (↑(ByteArray.size s) : Int))) (.d (.con (.string s)))), (.gate ((10 : Nat)) true (decide ((↑k : Int) < (↑(ByteArray.size s) : Int))) (.d (.con (.int .i64 ((↑k : Int)))))), (.gate ((10 : Nat)) true (decide ((↑k : Int) < (↑(ByteArray.size s) : Int))) (.d (.con (.int .u8 (byteAt s (Int.toNat (↑k : Int))))))), (.gate ((10 : Nat)) true (decide ((↑k : Int) < (↑(ByteArray.size s) : Int))) (.d (.con (.bool (decide (byteAt s (Int.toNat (↑k : Int)) ≥ (48 : Int))))))), (.d (.con (.bool (decide ((↑k : Int) < (↑(ByteArray.size s) : Int)) && decide (byteAt s (Int.toNat (↑k : Int)) ≥ (48 : Int)))))), (.d (.con (.bool (decide ((↑k : Int) < (↑(ByteArray.size s) : Int)) && decide (byteAt s (Int.toNat (↑k : Int)) ≥ (48 : Int)))))), (.gate ((16 : Nat)) true (decide ((↑k : Int) < (↑(ByteArray.size s) : Int)) && decide (byteAt s (Int.toNat (↑k : Int)) ≥ (48 : Int))) (.d (.con (.string s)))), (.gate ((16 : Nat)) true (decide ((↑k : Int) < (↑(ByteArray.size s) : Int)) && decide (byteAt s (Int.toNat (↑k : Int)) ≥ (48 : Int))) (.d (.con (.int .i64 ((↑k : Int)))))), (.gate ((16 : Nat)) true (decide ((↑k : Int) < (↑(ByteArray.size s) : Int)) && decide (byteAt s (Int.toNat (↑k : Int)) ≥ (48 : Int))) (.d (.con (.int .u8 (byteAt s (Int.toNat (↑k : Int))))))), (.gate ((16 : Nat)) true (decide ((↑k : Int) < (↑(ByteArray.size s) : Int)) && decide (byteAt s (Int.toNat (↑k : Int)) ≥ (48 : Int))) (.d (.con (.bool (decide (byteAt s (Int.toNat (↑k : Int)) ≤ (57 : Int))))))), (.d (.con (.bool (decide ((↑k : Int) < (↑(ByteArray.size s) : Int)) && decide (byteAt s (Int.toNat (↑k : Int)) ≥ (48 : Int)) && decide (byteAt s (Int.toNat (↑k : Int)) ≤ (57 : Int)))))), .any, .any, .any, .any, .any, .any, .any, .any, .any, .any, .any, .any, .any, .any], []⟩ (Ret Tryd.prog Tryd.f63 (DV.tup [di (dgK s), di (dgV s)])))))) (by kernel_rfl) ?_
    have hsl : s.data.toList.length = s.size := size_list s
    have hkD : ∀ c ∈ (s.data.toList.take k).take 12, isD c := fun c hc => (isDb_iff c).1 (hkd c (List.mem_of_mem_take hc))
    have hvl : valD ((s.data.toList.take k).take 12) < 1000000000000 := by
      have h1 := valD_ltN _ _ rfl hkD
      have h2 : (10 : Nat) ^ ((s.data.toList.take k).take 12).length ≤ 10 ^ 12 := Nat.pow_le_pow_right (by decide) (by rw [List.length_take]; omega)
      have e12 : (10 : Nat) ^ 12 = 1000000000000 := by decide
      omega
    simp only [Int.toNat_natCast]
    refine ⟨⟨fun h => ?_, fun h => ?_⟩, fun h => ?_, fun h => ?_⟩
    · simp only [decide_eq_true_eq] at h; omega
    · simp only [Bool.and_eq_true, decide_eq_true_eq] at h; omega
    · simp only [Bool.and_eq_true, decide_eq_true_eq] at h
      obtain ⟨⟨h1, h3⟩, h4⟩ := h
      have hks : k < s.data.toList.length := by omega
      have hb := byteAt_get hks
      rw [hb] at h3 h4
      have e1 : IntKind.wrap .u8 (((s.data.toList[k]).toNat : Int) - 48) = (((s.data.toList[k]).toNat - 48 : Nat) : Int) := by
        rw [show (((s.data.toList[k]).toNat : Int) - 48) = (((s.data.toList[k]).toNat - 48 : Nat) : Int) by omega]
        exact IntWalk.u8_in _ ⟨by omega, by omega⟩
      have e2 : IntKind.wrap .i64 (((s.data.toList[k]).toNat - 48 : Nat) : Int) = (((s.data.toList[k]).toNat - 48 : Nat) : Int) := IntWalk.i64_in _ ⟨by omega, by omega⟩
      have hnext : ∀ c ∈ s.data.toList.take (k + 1), isDb c = true := fun c hc => by
        rw [List.take_succ_eq_append_getElem hks] at hc
        rcases List.mem_append.1 hc with hc | hc
        · exact hkd c hc
        · rw [List.mem_singleton] at hc; subst hc
          exact (isDb_iff _).2 ⟨by omega, by omega⟩
      simp only [hb, e1, e2]
      refine ⟨fun h5 => ⟨⟨⟨by omega, by omega⟩, ⟨by omega, by omega⟩, by omega, by omega⟩, ⟨by omega, by omega⟩, Again.mk (k + 1) ?_ ⟨by omega, hnext⟩ (by omega)⟩, fun h5 => ⟨⟨by omega, by omega⟩, Again.mk (k + 1) ?_ ⟨by omega, hnext⟩ (by omega)⟩⟩
      · have h5 : k < 12 := by simp only [decide_eq_true_eq] at h5; omega
        refine of_eq (b :=
          (((((.d (.con (.string s))) : AV) = (.d (.con (.string s)))) ∧
          ((((.d (.con (.int .i64 ((↑k : Int) + (1 : Int))))) : AV) = (.d (.con (.int .i64 ((↑(k + (1 : Nat)) : Int)))))) ∧
          ((((.d (.con (.int .i64 ((10 : Int) * (↑(valD (List.take (12 : Nat) (List.take k (Array.toList (ByteArray.data s))))) : Int) + (↑(UInt8.toNat (Array.toList (ByteArray.data s))[k] - (48 : Nat)) : Int))))) : AV) = (.d (.con (.int .i64 ((↑(valD (List.take (12 : Nat) (List.take (k + (1 : Nat)) (Array.toList (ByteArray.data s))))) : Int)))))) ∧
          True))) ∧
          True)) (by kernel_rfl) ?_
        refine ⟨⟨rfl, rfl, ?_, trivial⟩, trivial⟩
        rw [List.take_of_length_le (l := s.data.toList.take (k + 1)) (by rw [List.length_take]; omega), List.take_of_length_le (l := s.data.toList.take k) (by rw [List.length_take]; omega), valD_take hks]
        push_cast; rfl
      · have h5 : 12 ≤ k := by simp only [decide_eq_false_iff_not] at h5; omega
        refine of_eq (b :=
          (((((.d (.con (.string s))) : AV) = (.d (.con (.string s)))) ∧
          ((((.d (.con (.int .i64 ((↑k : Int) + (1 : Int))))) : AV) = (.d (.con (.int .i64 ((↑(k + (1 : Nat)) : Int)))))) ∧
          ((((.d (.con (.int .i64 ((↑(valD (List.take (12 : Nat) (List.take k (Array.toList (ByteArray.data s))))) : Int))))) : AV) = (.d (.con (.int .i64 ((↑(valD (List.take (12 : Nat) (List.take (k + (1 : Nat)) (Array.toList (ByteArray.data s))))) : Int)))))) ∧
          True))) ∧
          True)) (by kernel_rfl) ?_
        refine ⟨⟨rfl, rfl, ?_, trivial⟩, trivial⟩
        rw [List.take_take, List.take_take, Nat.min_eq_left (by omega), Nat.min_eq_left (by omega)]
    · have hst : ∀ h : k < s.data.toList.length, isDb s.data.toList[k] = false := by
        intro h1
        have hb := byteAt_get h1
        rw [Bool.eq_false_iff]
        intro hD
        have hD := (isDb_iff _).1 hD
        have h3 := hD.1
        have h4 := hD.2
        simp only [Bool.and_eq_false_imp, decide_eq_true_eq, decide_eq_false_iff_not, Bool.and_eq_true] at h
        have := h ⟨by omega, by omega⟩
        omega
      have hsp := spl_take (by omega) hkd hst
      refine walk (orc := orc63) (keep := []) (cuts := []) (n := 1000) follows ?_
      refine of_eqH (b :=
        (((.tup [(.con (.int .i64 ((↑k : Int)))), (.con (.int .i64 ((↑(valD (List.take (12 : Nat) (List.take k (Array.toList (ByteArray.data s))))) : Int))))]) : DV) = (.tup [(di (dgK s)), (di (dgV s))]))) (by kernel_rfl) ?_
      unfold dgK dgV
      rw [hsp, List.length_take, Nat.min_eq_left (by omega)]
end Go.Proofs
