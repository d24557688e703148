import Derived.Test.YtlpnfbfdekbbmaaDoorAcC
import Derived.Test.YtlpnfbfdekbbmaaDoorGC
import Derived.Test.YtlpnfbfdekbbmaaDoorAcD
set_option autoImplicit false
namespace Go.Proofs
open Go Go.Ab Go.RowKit
set_option maxHeartbeats 1000000
set_option maxRecDepth 100000
variable {G : IH}
/-- The contents of the records at the front of some bytes. -/
noncomputable def walkF (g : Nat) : Nat → List UInt8 → List ByteArray
  | 0, _ => []
  | f + 1, S => match decSpec g S with | some p => p :: walkF g f (S.drop (50 + 2 * p.size)) | none => []
/-- The size of records. -/
def recLen : List ByteArray → Nat
  | [] => 0
  | p :: l => 50 + 2 * p.size + recLen l
noncomputable def walkL (g : Int) (s : ByteArray) : List ByteArray := if okGen g = true then walkF g.toNat (s.size + 1) s.data.toList else []
abbrev strK : RK := ⟨false, 9, false⟩
/-- A row of strings. -/
def rowS (l : List ByteArray) (i : Nat) : DV := (l.map fun s => ds s).getD i (.con undef)
def strL (l : List ByteArray) : DV := .slc 1 l.length (rowS l)
theorem rowS_app (l : List ByteArray) (p : ByteArray) : (fun i => bif Nat.blt i l.length then rowS l i else elemF false 1 [ds p] (i - l.length)) = rowS (l ++ [p]) := by
  funext i
  cases h : Nat.blt i l.length with
  | true =>
    rw [Nat.blt_eq] at h
    simp only [cond_true, rowS, List.map_append, List.getD_eq_getElem?_getD, List.getElem?_append_left (show i < (l.map fun s => ds s).length by simpa using h)]
  | false =>
    have h : ¬ i < l.length := by rw [← Nat.blt_eq, h]; decide
    simp only [cond_false, rowS, List.map_append, List.getD_eq_getElem?_getD, List.getElem?_append_right (show (l.map fun s => ds s).length ≤ i by simpa using h), List.length_map]
    rfl
theorem decSpec_nil (g : Nat) : decSpec g [] = none := by
  cases h : decSpec g [] with
  | none => rfl
  | some p =>
    have := (read_enc (decSpec_eq h).2).1
    simp at this
theorem walkF_step {g f : Nat} {S : List UInt8} {p : ByteArray} (h : decSpec g S = some p) : walkF g (f + 1) S = p :: walkF g f (S.drop (50 + 2 * p.size)) := by
  simp only [walkF, h]
theorem walkF_stop {g f : Nat} {S : List UInt8} (h : decSpec g S = none) : walkF g f S = [] := by
  cases f with
  | zero => rfl
  | succ f => simp only [walkF, h]
theorem recLen_app (l m : List ByteArray) : recLen (l ++ m) = recLen l + recLen m := by
  induction l with
  | nil => simp [recLen]
  | cons p l ih => simp only [List.cons_append, recLen, ih]; omega
noncomputable def orcWk : Oracle := fun f args => match f, args with
  | 16, [.con (.string d), .con (.int .i64 a), .con (.int .i64 g)] => some (.tup [ds (deS d a g), di (deN d a g), di (deE d a g)])
  | 19, [.con (.string d), .con (.int .i64 a), .con (.int .i64 g)] => some (.tup [ds (deS d a g), di (deN d a g), di (deE d a g)])
  | _, _ => none
/-- Where a walk stands: behind the records ps. -/
def AtW (d : ByteArray) (g : Int) (ps : List ByteArray) : Prop := recLen ps ≤ d.size ∧ 50 * ps.length ≤ recLen ps ∧ ∃ f, d.size < f + recLen ps ∧ walkL g d = ps ++ (if okGen g = true then walkF g.toNat f (d.data.toList.drop (recLen ps)) else [])
theorem AtW.zero (d : ByteArray) (g : Int) : AtW d g [] := ⟨Nat.zero_le _, Nat.le_refl _, d.size + 1, by simp [recLen], by simp [walkL, recLen]⟩
theorem AtW.next {d : ByteArray} {g : Int} {ps : List ByteArray} (h : AtW d g ps) {p : ByteArray} (hp : deO d (recLen ps : Nat) g = some p) : AtW d g (ps ++ [p]) := by
  obtain ⟨h1, h2, f, h3, h4⟩ := h
  unfold deO at hp
  split at hp
  · rename_i hc
    obtain ⟨hg, _, hlt⟩ := hc
    simp only [Int.toNat_natCast] at hp
    rw [if_pos hg] at h4
    have hr := (read_enc (decSpec_eq hp).2).1
    have hsl : d.data.toList.length = d.size := Array.length_toList
    rw [List.length_drop, hsl] at hr
    have hf : f = (f - 1) + 1 := by omega
    rw [hf, walkF_step hp, List.drop_drop] at h4
    refine ⟨by rw [recLen_app]; simp only [recLen]; omega, by rw [recLen_app]; simp only [recLen, List.length_append, List.length_singleton]; omega, f - 1, by rw [recLen_app]; simp only [recLen]; omega, ?_⟩
    rw [h4, if_pos hg, recLen_app]
    simp only [recLen, Nat.add_zero, List.append_assoc, List.cons_append, List.nil_append]
  · cases hp
theorem AtW.stop {d : ByteArray} {g : Int} {ps : List ByteArray} (h : AtW d g ps) (hp : deO d (recLen ps : Nat) g = none) : walkL g d = ps := by
  obtain ⟨h1, h2, f, h3, h4⟩ := h
  rw [h4]
  by_cases hg : okGen g = true
  · rw [if_pos hg]
    unfold deO at hp
    have hw : walkF g.toNat f (d.data.toList.drop (recLen ps)) = [] := by
      by_cases hlt : recLen ps < d.size
      · rw [if_pos ⟨hg, by omega, by omega⟩] at hp
        simp only [Int.toNat_natCast] at hp
        exact walkF_stop hp
      · have : d.data.toList.drop (recLen ps) = [] := List.drop_eq_nil_of_le (by have : d.data.toList.length = d.size := Array.length_toList; omega)
        rw [this]
        exact walkF_stop (decSpec_nil _)
    rw [hw, List.append_nil]
  · rw [if_neg hg, List.append_nil]
theorem deE_none {d : ByteArray} {a g : Int} (h : deO d a g = none) : (deE d a g != 0) = true := by
  unfold deE; rw [h]
  simp only
  split
  · split <;> rfl
  · rfl
theorem deE_some {d : ByteArray} {a g : Int} {p : ByteArray} (h : deO d a g = some p) : deE d a g = 0 ∧ deS d a g = p ∧ deN d a g = ((50 + 2 * p.size : Nat) : Int) := by
  unfold deE deS deN; rw [h]; exact ⟨rfl, rfl, rfl⟩
theorem rowS_zero (ps : List ByteArray) : (fun i => rowS ps (0 + i)) = rowS ps := by
  funext i; rw [Nat.zero_add]
theorem one_ok (x : DV) (h : elemOK false 1 x = true) : ∀ i : Nat, i < 1 → elemOK false 1 (elemF false 1 [x] i) = true := by
  intro i hi
  obtain rfl : i = 0 := by omega
  exact h
noncomputable def S11 (d : ByteArray) (g : Int) (ps : List ByteArray) : AS := ⟨regs Tryd.f11.ntmps [(0, vs d), (1, vi g), (6, .vec 600 1 0 ps.length), (7, vi (recLen ps : Nat))], [(600, [.arr strK 1 (rowS ps)])]⟩
theorem f11 (d : ByteArray) (g : Int) (hd : d.size < 1000000) : FnOK Tryd.prog G 11 [ds d, di g] (.tup [strL (walkL g d), di (recLen (walkL g d))]) := by
  refine FnOK.walk (orc := orcWk) (keep := []) follows Tryd.func11 rfl Tryd.call11 ?_
  refine of_eqH (b :=
    AWP Tryd.prog G [.code (cAt (bodyOf Tryd.f11) [1, 1, 1, 0]), (.blk ((0 : Nat)))] ⟨[(.d (.con (.string d))), (.d (.con (.int .i64 g))), .any, .any, (.d (.con (.slice none ((0 : Nat)) ((0 : Nat))))), (.d (.con (.int .i64 ((0 : Int))))), (.d (.con (.slice none ((0 : Nat)) ((0 : Nat))))), (.d (.con (.int .i64 ((0 : Int))))), .any, .any, .any, .any, .any, .any, .any, .any, .any, .any, .any, .any, .any, .any, .any, .any, .any, .any, .any, .any, .any, .any], []⟩ (Ret Tryd.prog Tryd.f11 (DV.tup [strL (walkL g d), di (↑(recLen (walkL g d)) : Int)]))) (by kernel_rfl) ?_
  refine AWP.pre (.nilRow _ 6 600 1 strK (rowS []) rfl rfl) ?_
  refine AWP.loop (c := cAt (bodyOf Tryd.f11) [1, 1, 1, 0, 0]) (by kernel_rfl) (S11 d g) (AtW d g) (fun ps => d.size - recLen ps) [] ?_ (AtW.zero d g) ?_
  · refine of_eq (b :=
    (((((.d (.con (.string d))) : AV) = (.d (.con (.string d)))) ∧
    ((((.d (.con (.int .i64 g))) : AV) = (.d (.con (.int .i64 g)))) ∧
    ((((.vec ((600 : Nat)) ((1 : Nat)) ((0 : Nat)) ((0 : Nat))) : AV) = (.vec ((600 : Nat)) ((1 : Nat)) ((0 : Nat)) ((0 : Nat)))) ∧
    ((((.d (.con (.int .i64 ((0 : Int))))) : AV) = (.d (.con (.int .i64 ((0 : Int)))))) ∧
    True)))) ∧
    ((((some [(.arr ⟨false, ((9 : Nat)), false⟩ ((1 : Nat)) (rowS []))]) : (Option (List AV))) = (some [(.arr ⟨false, ((9 : Nat)), false⟩ ((1 : Nat)) (rowS []))])) ∧
    True))) (by kernel_rfl) ?_
    exact ⟨⟨rfl, rfl, rfl, rfl, trivial⟩, rfl, trivial⟩
  · intro ps hps
    refine walk (orc := orcWk) (keep := []) (cuts := []) (n := 1000) follows ?_
    refine of_eqH (b :=
      (FnOK Tryd.prog G ((16 : Nat)) [(.con (.string d)), (.con (.int .i64 ((↑(recLen ps) : Int)))), (.con (.int .i64 g))] (.tup [(.con (.string (deS d (↑(recLen ps) : Int) g))), (.con (.int .i64 (deN d (↑(recLen ps) : Int) g))), (.con (.int .i64 (deE d (↑(recLen ps) : Int) g)))]) ∧
      ((((deE d (↑(recLen ps) : Int) g != (0 : Int)) = true) →
      (((.tup [(.slc ((1 : Nat)) (List.length ps) (fun i => rowS ps ((0 : Nat) + i))), (.con (.int .i64 ((↑(recLen ps) : Int))))]) : DV) = (.tup [(strL (walkL g d)), (di (↑(recLen (walkL g d)) : Int))]))) ∧
      (((deE d (↑(recLen ps) : Int) g != (0 : Int)) = false) →
      (((((List.length ps + (1 : Nat)) * (16 : Nat) ≤ (1099511627776 : Nat)) ∧
      (List.length ps + (1 : Nat) ≤ (1099511627776 : Nat))) ∧
      (∀ (i : Nat), i < (1 : Nat) → elemOK false (1 : Nat) (elemF false (1 : Nat) [DV.con (Value.string (deS d (↑(recLen ps) : Int) g))] i) = true)) ∧
      ((I64 ((↑(recLen ps) : Int) + deN d (↑(recLen ps) : Int) g)) ∧
      Again (S11 d g) (AtW d g) (fun ps => ByteArray.size d - recLen ps) ps ⟨[(.d (.con (.string d))), (.d (.con (.int .i64 g))), .any, .any, .any, .any, (.vec ((26 : Nat)) ((1 : Nat)) ((0 : Nat)) (List.length ps + (1 : Nat))), (.d (.con (.int .i64 ((↑(recLen ps) : Int) + deN d (↑(recLen ps) : Int) g)))), (.d (.con (.string (deS d (↑(recLen ps) : Int) g)))), (.d (.con (.int .i64 (deN d (↑(recLen ps) : Int) g)))), (.d (.con (.int .i64 (deE d (↑(recLen ps) : Int) g)))), (.d (.tup [(.con (.string (deS d (↑(recLen ps) : Int) g))), (.con (.int .i64 (deN d (↑(recLen ps) : Int) g))), (.con (.int .i64 (deE d (↑(recLen ps) : Int) g)))])), (.d (.con (.string d))), (.d (.con (.int .i64 ((↑(recLen ps) : Int))))), (.d (.con (.int .i64 g))), (.d (.tup [(.con (.string (deS d (↑(recLen ps) : Int) g))), (.con (.int .i64 (deN d (↑(recLen ps) : Int) g))), (.con (.int .i64 (deE d (↑(recLen ps) : Int) g)))])), (.d (.con (.string (deS d (↑(recLen ps) : Int) g)))), (.d (.con (.int .i64 (deN d (↑(recLen ps) : Int) g)))), (.d (.con (.int .i64 (deE d (↑(recLen ps) : Int) g)))), (.d (.con (.int .i64 (deE d (↑(recLen ps) : Int) g)))), (.d (.con (.bool (deE d (↑(recLen ps) : Int) g != (0 : Int))))), .any, .any, (.vec ((600 : Nat)) ((1 : Nat)) ((0 : Nat)) (List.length ps)), (.d (.con (.string (deS d (↑(recLen ps) : Int) g)))), (.d (.slc ((1 : Nat)) ((1 : Nat)) (elemF false ((1 : Nat)) [(.con (.string (deS d (↑(recLen ps) : Int) g)))]))), (.vec ((26 : Nat)) ((1 : Nat)) ((0 : Nat)) (List.length ps + (1 : Nat))), (.d (.con (.int .i64 ((↑(recLen ps) : Int))))), (.d (.con (.int .i64 (deN d (↑(recLen ps) : Int) g)))), (.d (.con (.int .i64 ((↑(recLen ps) : Int) + deN d (↑(recLen ps) : Int) g))))], [(((26 : Nat)), [(.arr ⟨false, ((9 : Nat)), false⟩ ((1 : Nat)) (fun i => bif Nat.blt i (List.length ps) then rowS ps i else elemF false (1 : Nat) [DV.con (Value.string (deS d (↑(recLen ps) : Int) g))] (i - List.length ps)))]), (((600 : Nat)), [.dead])]⟩)))))) (by kernel_rfl) ?_
    refine ⟨f16' d _ g hd, ?_⟩
    cases hO : deO d (recLen ps : Nat) g with
    | none =>
      have h := deE_none hO
      refine ⟨fun _ => ?_, fun h2 => ?_⟩
      · rw [hps.stop hO]
        simp only [rowS_zero]
        rfl
      · rw [h] at h2; cases h2
    | some p =>
      obtain ⟨h1, h2, h3⟩ := deE_some hO
      have hn := hps.next hO
      have hl := hn.1
      have hl2 := hn.2.1
      rw [recLen_app] at hl
      simp only [recLen, List.length_append, List.length_singleton] at hl hl2
      rw [recLen_app] at hl2
      simp only [recLen] at hl2
      rw [h1, h2, h3]
      refine ⟨fun h4 => by simp at h4, fun _ => ⟨⟨⟨by omega, by omega⟩, one_ok _ rfl⟩, ⟨by omega, by omega⟩, Again.mkR [(26, 600)] rfl (ps ++ [p]) ?_ hn (by rw [recLen_app]; simp only [recLen]; omega)⟩⟩
      refine of_eq (b :=
        (((((.d (.con (.string d))) : AV) = (.d (.con (.string d)))) ∧
        ((((.d (.con (.int .i64 g))) : AV) = (.d (.con (.int .i64 g)))) ∧
        ((((.vec ((600 : Nat)) ((1 : Nat)) ((0 : Nat)) (List.length ps + (1 : Nat))) : AV) = (.vec ((600 : Nat)) ((1 : Nat)) ((0 : Nat)) (List.length (ps ++ [p])))) ∧
        ((((.d (.con (.int .i64 ((↑(recLen ps) : Int) + (↑((50 : Nat) + (2 : Nat) * ByteArray.size p) : Int))))) : AV) = (.d (.con (.int .i64 ((↑(recLen (ps ++ [p])) : Int)))))) ∧
        True)))) ∧
        ((((some [(.arr ⟨false, ((9 : Nat)), false⟩ ((1 : Nat)) (fun i => bif Nat.blt i (List.length ps) then rowS ps i else elemF false (1 : Nat) [DV.con (Value.string p)] (i - List.length ps)))]) : (Option (List AV))) = (some [(.arr ⟨false, ((9 : Nat)), false⟩ ((1 : Nat)) (rowS (ps ++ [p])))])) ∧
        True))) (by kernel_rfl) ?_
      refine ⟨⟨rfl, rfl, ?_, ?_, trivial⟩, ?_, trivial⟩
      · rw [List.length_append]; rfl
      · rw [recLen_app]; simp only [recLen, Nat.add_zero]; push_cast; rfl
      · rw [rowS_app]
noncomputable def S12 (d : ByteArray) (g : Int) (ps : List ByteArray) : AS := ⟨regs Tryd.f12.ntmps [(0, vs d), (1, vi g), (6, .vec 11 1 0 ps.length), (7, vi (recLen ps : Nat))], [(11, [.arr strK 1 (rowS ps)])]⟩
theorem f12 (d : ByteArray) (g : Int) (hd : d.size < 1000000) : FnOK Tryd.prog G 12 [ds d, di g] (.tup [strL (walkL g d), di (recLen (walkL g d))]) := by
  refine FnOK.walk (orc := orcWk) (keep := []) follows Tryd.func12 rfl Tryd.call12 ?_
  refine of_eqH (b :=
    AWP Tryd.prog G [.code (cAt (bodyOf Tryd.f12) [1, 1, 1, 0]), (.blk ((0 : Nat)))] ⟨[(.d (.con (.string d))), (.d (.con (.int .i64 g))), .any, .any, (.d (.con (.slice none ((0 : Nat)) ((0 : Nat))))), (.d (.con (.int .i64 ((0 : Int))))), (.vec ((11 : Nat)) ((1 : Nat)) ((0 : Nat)) ((0 : Nat))), (.d (.con (.int .i64 ((0 : Int))))), .any, .any, .any, (.vec ((11 : Nat)) ((1 : Nat)) ((0 : Nat)) ((0 : Nat))), .any, .any, .any, .any, .any, .any, .any, .any, .any, .any, .any, .any, .any, .any, .any, .any, .any, .any, .any], [(((11 : Nat)), [(.arr ⟨false, ((9 : Nat)), false⟩ ((1 : Nat)) (fun x => DV.con undef))])]⟩ (Ret Tryd.prog Tryd.f12 (DV.tup [strL (walkL g d), di (↑(recLen (walkL g d)) : Int)]))) (by kernel_rfl) ?_
  refine AWP.loop (c := cAt (bodyOf Tryd.f12) [1, 1, 1, 0, 0]) (by kernel_rfl) (S12 d g) (AtW d g) (fun ps => d.size - recLen ps) [] ?_ (AtW.zero d g) ?_
  · refine of_eq (b :=
    (((((.d (.con (.string d))) : AV) = (.d (.con (.string d)))) ∧
    ((((.d (.con (.int .i64 g))) : AV) = (.d (.con (.int .i64 g)))) ∧
    ((((.vec ((11 : Nat)) ((1 : Nat)) ((0 : Nat)) ((0 : Nat))) : AV) = (.vec ((11 : Nat)) ((1 : Nat)) ((0 : Nat)) ((0 : Nat)))) ∧
    ((((.d (.con (.int .i64 ((0 : Int))))) : AV) = (.d (.con (.int .i64 ((0 : Int)))))) ∧
    True)))) ∧
    ((((some [(.arr ⟨false, ((9 : Nat)), false⟩ ((1 : Nat)) (fun x => DV.con undef))]) : (Option (List AV))) = (some [(.arr ⟨false, ((9 : Nat)), false⟩ ((1 : Nat)) (rowS []))])) ∧
    True))) (by kernel_rfl) ?_
    exact ⟨⟨rfl, rfl, rfl, rfl, trivial⟩, rfl, trivial⟩
  · intro ps hps
    refine walk (orc := orcWk) (keep := []) (cuts := []) (n := 1000) follows ?_
    refine of_eqH (b :=
      (FnOK Tryd.prog G ((19 : Nat)) [(.con (.string d)), (.con (.int .i64 ((↑(recLen ps) : Int)))), (.con (.int .i64 g))] (.tup [(.con (.string (deS d (↑(recLen ps) : Int) g))), (.con (.int .i64 (deN d (↑(recLen ps) : Int) g))), (.con (.int .i64 (deE d (↑(recLen ps) : Int) g)))]) ∧
      ((((deE d (↑(recLen ps) : Int) g != (0 : Int)) = true) →
      (((.tup [(.slc ((1 : Nat)) (List.length ps) (fun i => rowS ps ((0 : Nat) + i))), (.con (.int .i64 ((↑(recLen ps) : Int))))]) : DV) = (.tup [(strL (walkL g d)), (di (↑(recLen (walkL g d)) : Int))]))) ∧
      (((deE d (↑(recLen ps) : Int) g != (0 : Int)) = false) →
      (((((List.length ps + (1 : Nat)) * (16 : Nat) ≤ (1099511627776 : Nat)) ∧
      (List.length ps + (1 : Nat) ≤ (1099511627776 : Nat))) ∧
      ((∀ (i : Nat), i < (1 : Nat) → elemOK false (1 : Nat) (elemF false (1 : Nat) [DV.con (Value.string (deS d (↑(recLen ps) : Int) g))] i) = true) ∧
      (I64 ((↑(recLen ps) : Int) + deN d (↑(recLen ps) : Int) g)))) ∧
      Again (S12 d g) (AtW d g) (fun ps => ByteArray.size d - recLen ps) ps ⟨[(.d (.con (.string d))), (.d (.con (.int .i64 g))), .any, .any, .any, .any, (.vec ((27 : Nat)) ((1 : Nat)) ((0 : Nat)) (List.length ps + (1 : Nat))), (.d (.con (.int .i64 ((↑(recLen ps) : Int) + deN d (↑(recLen ps) : Int) g)))), (.d (.con (.string (deS d (↑(recLen ps) : Int) g)))), (.d (.con (.int .i64 (deN d (↑(recLen ps) : Int) g)))), (.d (.con (.int .i64 (deE d (↑(recLen ps) : Int) g)))), .any, (.d (.tup [(.con (.string (deS d (↑(recLen ps) : Int) g))), (.con (.int .i64 (deN d (↑(recLen ps) : Int) g))), (.con (.int .i64 (deE d (↑(recLen ps) : Int) g)))])), (.d (.con (.string d))), (.d (.con (.int .i64 ((↑(recLen ps) : Int))))), (.d (.con (.int .i64 g))), (.d (.tup [(.con (.string (deS d (↑(recLen ps) : Int) g))), (.con (.int .i64 (deN d (↑(recLen ps) : Int) g))), (.con (.int .i64 (deE d (↑(recLen ps) : Int) g)))])), (.d (.con (.string (deS d (↑(recLen ps) : Int) g)))), (.d (.con (.int .i64 (deN d (↑(recLen ps) : Int) g)))), (.d (.con (.int .i64 (deE d (↑(recLen ps) : Int) g)))), (.d (.con (.int .i64 (deE d (↑(recLen ps) : Int) g)))), (.d (.con (.bool (deE d (↑(recLen ps) : Int) g != (0 : Int))))), .any, .any, (.vec ((11 : Nat)) ((1 : Nat)) ((0 : Nat)) (List.length ps)), (.d (.con (.string (deS d (↑(recLen ps) : Int) g)))), (.d (.slc ((1 : Nat)) ((1 : Nat)) (elemF false ((1 : Nat)) [(.con (.string (deS d (↑(recLen ps) : Int) g)))]))), (.vec ((27 : Nat)) ((1 : Nat)) ((0 : Nat)) (List.length ps + (1 : Nat))), (.d (.con (.int .i64 ((↑(recLen ps) : Int))))), (.d (.con (.int .i64 (deN d (↑(recLen ps) : Int) g)))), (.d (.con (.int .i64 ((↑(recLen ps) : Int) + deN d (↑(recLen ps) : Int) g))))], [(((27 : Nat)), [(.arr ⟨false, ((9 : Nat)), false⟩ ((1 : Nat)) (fun i => bif Nat.blt i (List.length ps) then rowS ps i else elemF false (1 : Nat) [DV.con (Value.string (deS d (↑(recLen ps) : Int) g))] (i - List.length ps)))]), (((11 : Nat)), [.dead])]⟩))))) (by kernel_rfl) ?_
    refine ⟨f19' d _ g hd, ?_⟩
    cases hO : deO d (recLen ps : Nat) g with
    | none =>
      have h := deE_none hO
      refine ⟨fun _ => ?_, fun h2 => ?_⟩
      · rw [hps.stop hO]
        simp only [rowS_zero]
        rfl
      · rw [h] at h2; cases h2
    | some p =>
      obtain ⟨h1, h2, h3⟩ := deE_some hO
      have hn := hps.next hO
      have hl := hn.1
      have hl2 := hn.2.1
      rw [recLen_app] at hl
      simp only [recLen, List.length_append, List.length_singleton] at hl hl2
      rw [recLen_app] at hl2
      simp only [recLen] at hl2
      rw [h1, h2, h3]
      refine ⟨fun h4 => by simp at h4, fun _ => ⟨⟨⟨by omega, by omega⟩, one_ok _ rfl, by omega, by omega⟩, Again.mkR [(27, 11)] rfl (ps ++ [p]) ?_ hn (by rw [recLen_app]; simp only [recLen]; omega)⟩⟩
      refine of_eq (b :=
        (((((.d (.con (.string d))) : AV) = (.d (.con (.string d)))) ∧
        ((((.d (.con (.int .i64 g))) : AV) = (.d (.con (.int .i64 g)))) ∧
        ((((.vec ((11 : Nat)) ((1 : Nat)) ((0 : Nat)) (List.length ps + (1 : Nat))) : AV) = (.vec ((11 : Nat)) ((1 : Nat)) ((0 : Nat)) (List.length (ps ++ [p])))) ∧
        ((((.d (.con (.int .i64 ((↑(recLen ps) : Int) + (↑((50 : Nat) + (2 : Nat) * ByteArray.size p) : Int))))) : AV) = (.d (.con (.int .i64 ((↑(recLen (ps ++ [p])) : Int)))))) ∧
        True)))) ∧
        ((((some [(.arr ⟨false, ((9 : Nat)), false⟩ ((1 : Nat)) (fun i => bif Nat.blt i (List.length ps) then rowS ps i else elemF false (1 : Nat) [DV.con (Value.string p)] (i - List.length ps)))]) : (Option (List AV))) = (some [(.arr ⟨false, ((9 : Nat)), false⟩ ((1 : Nat)) (rowS (ps ++ [p])))])) ∧
        True))) (by kernel_rfl) ?_
      refine ⟨⟨rfl, rfl, ?_, ?_, trivial⟩, ?_, trivial⟩
      · rw [List.length_append]; rfl
      · rw [recLen_app]; simp only [recLen, Nat.add_zero]; push_cast; rfl
      · rw [rowS_app]
end Go.Proofs

set_option autoImplicit false
namespace Go.Proofs
open Go Go.Ab Go.RowKit
set_option maxHeartbeats 1000000
set_option maxRecDepth 100000
variable {G : IH}
/-- The generation of the record at the front. -/
noncomputable def genO (d : ByteArray) : Option Nat := match numAt d 17 33 with
  | some n => if okGen n = true ∧ (decSpec n d.data.toList).isSome = true then some n else none
  | none => none
noncomputable def genR (d : ByteArray) : DV := match genO d with | some n => .tup [di n, db true] | none => .tup [di 0, db false]
theorem genO_short {d : ByteArray} (h : d.size < 50) : genO d = none := by
  have : ∀ g, decSpec g d.data.toList = none := fun g => by
    cases hx : decSpec g d.data.toList with
    | none => rfl
    | some p =>
      have := (read_enc (decSpec_eq hx).2).1
      have hl : d.data.toList.length = d.size := Array.length_toList
      omega
  unfold genO
  split
  · rw [if_neg]; rintro ⟨_, h⟩; rw [this] at h; cases h
  · rfl
theorem genR_none {d : ByteArray} (h : genO d = none) : genR d = .tup [di 0, db false] := by unfold genR; rw [h]
theorem genR_some {d : ByteArray} {n : Nat} (h : genO d = some n) : genR d = .tup [di n, db true] := by unfold genR; rw [h]
noncomputable def orcGen : Oracle := fun f args => match f, args with
  | 19, [.con (.string d), .con (.int .i64 a), .con (.int .i64 g)] => some (.tup [ds (deS d a g), di (deN d a g), di (deE d a g)])
  | 40, [.con (.string s)] => some (.tup [di (numV s), db (numB s)])
  | 41, [.con (.string s)] => some (.tup [du (numU s), db (numB s)])
  | 29, [.con (.int .i64 g)] => some (db (okGen g))
  | 30, [.con (.string s), .con (.int .i64 g)] => some (.tup [ds (dcP g s), di (dcN g s), db (dcB g s)])
  | _, _ => none
theorem ok_wrap (n : Nat) (hn : n < 18446744073709551616) : okGen (IntKind.wrap .i64 (n : Int)) = okGen (n : Int) ∧ (okGen (n : Int) = true → IntKind.wrap .i64 (n : Int) = n) := by
  by_cases h : n < 9223372036854775808
  · rw [i64_nat n h]; exact ⟨rfl, fun _ => rfl⟩
  · have e1 : okGen (n : Int) = false := by
      unfold okGen
      have : ¬ ((n : Int) ≤ 1099511627776) := by omega
      simp [this]
    have e2 : IntKind.wrap .i64 (n : Int) < 1 := by
      simp only [IntKind.wrap_i64]; omega
    have e3 : okGen (IntKind.wrap .i64 (n : Int)) = false := by
      unfold okGen
      have : ¬ (1 ≤ IntKind.wrap .i64 (n : Int)) := by omega
      simp [this]
    rw [e1, e3]
    exact ⟨rfl, fun h => by cases h⟩
theorem numAt_bd {d : ByteArray} {n : Nat} (h : numAt d 17 33 = some n) : n < 18446744073709551616 := by
  unfold numAt at h
  have hb := numP_bd h
  have hs : (d.extract 17 33).size ≤ 16 := by
    rw [ByteArray.size_extract]; omega
  have : 16 ^ (d.extract 17 33).size ≤ 16 ^ 16 := Nat.pow_le_pow_right (by decide) hs
  omega
theorem f20 (d : ByteArray) (hd : d.size < 1000000) : FnOK Tryd.prog G 20 [ds d] (genR d) := by
  refine FnOK.walk (orc := orcGen) (keep := []) follows Tryd.func20 rfl Tryd.call20 ?_
  refine of_eqH (b :=
    ((((decide ((↑(ByteArray.size d) : Int) < (41 : Int))) = true) →
    (((.tup [(.con (.int .i64 ((0 : Int)))), (.con (.bool false))]) : DV) = (genR d))) ∧
    (((decide ((↑(ByteArray.size d) : Int) < (41 : Int))) = false) →
    (((((0 : Int) ≤ (17 : Int)) ∧
    (((17 : Int) ≤ (33 : Int)) ∧
    ((33 : Int) ≤ (↑(ByteArray.size d) : Int)))) ∧
    FnOK Tryd.prog G ((41 : Nat)) [(.con (.string (ByteArray.extract d (Int.toNat (17 : Int)) (Int.toNat (33 : Int)))))] (.tup [(.con (.int .u64 (numU (ByteArray.extract d (Int.toNat (17 : Int)) (Int.toNat (33 : Int)))))), (.con (.bool (numB (ByteArray.extract d (Int.toNat (17 : Int)) (Int.toNat (33 : Int))))))])) ∧
    ((((!(!numB (ByteArray.extract d (Int.toNat (17 : Int)) (Int.toNat (33 : Int))) || decide (numU (ByteArray.extract d (Int.toNat (17 : Int)) (Int.toNat (33 : Int))) > (1099511627776 : Int)))) = true) →
    FnOK Tryd.prog G ((29 : Nat)) [(.con (.int .i64 (IntKind.wrap IntKind.i64 (numU (ByteArray.extract d (Int.toNat (17 : Int)) (Int.toNat (33 : Int)))))))] (.con (.bool (okGen (IntKind.wrap IntKind.i64 (numU (ByteArray.extract d (Int.toNat (17 : Int)) (Int.toNat (33 : Int))))))))) ∧
    ((((!numB (ByteArray.extract d (Int.toNat (17 : Int)) (Int.toNat (33 : Int))) || decide (numU (ByteArray.extract d (Int.toNat (17 : Int)) (Int.toNat (33 : Int))) > (1099511627776 : Int)) || !okGen (IntKind.wrap IntKind.i64 (numU (ByteArray.extract d (Int.toNat (17 : Int)) (Int.toNat (33 : Int)))))) = true) →
    (((.tup [(.con (.int .i64 ((0 : Int)))), (.con (.bool false))]) : DV) = (genR d))) ∧
    (((!numB (ByteArray.extract d (Int.toNat (17 : Int)) (Int.toNat (33 : Int))) || decide (numU (ByteArray.extract d (Int.toNat (17 : Int)) (Int.toNat (33 : Int))) > (1099511627776 : Int)) || !okGen (IntKind.wrap IntKind.i64 (numU (ByteArray.extract d (Int.toNat (17 : Int)) (Int.toNat (33 : Int)))))) = false) →
    (FnOK Tryd.prog G ((30 : Nat)) [(.con (.string d)), (.con (.int .i64 (IntKind.wrap IntKind.i64 (numU (ByteArray.extract d (Int.toNat (17 : Int)) (Int.toNat (33 : Int)))))))] (.tup [(.con (.string (dcP (IntKind.wrap IntKind.i64 (numU (ByteArray.extract d (Int.toNat (17 : Int)) (Int.toNat (33 : Int))))) d))), (.con (.int .i64 (dcN (IntKind.wrap IntKind.i64 (numU (ByteArray.extract d (Int.toNat (17 : Int)) (Int.toNat (33 : Int))))) d))), (.con (.bool (dcB (IntKind.wrap IntKind.i64 (numU (ByteArray.extract d (Int.toNat (17 : Int)) (Int.toNat (33 : Int))))) d)))]) ∧
    ((((!dcB (IntKind.wrap IntKind.i64 (numU (ByteArray.extract d (Int.toNat (17 : Int)) (Int.toNat (33 : Int))))) d) = true) →
    (((.tup [(.con (.int .i64 ((0 : Int)))), (.con (.bool false))]) : DV) = (genR d))) ∧
    (((!dcB (IntKind.wrap IntKind.i64 (numU (ByteArray.extract d (Int.toNat (17 : Int)) (Int.toNat (33 : Int))))) d) = false) →
    (((.tup [(.con (.int .i64 (IntKind.wrap IntKind.i64 (numU (ByteArray.extract d (Int.toNat (17 : Int)) (Int.toNat (33 : Int))))))), (.con (.bool true))]) : DV) = (genR d)))))))))))) (by kernel_rfl) ?_
  have e17 : Int.toNat (17 : Int) = 17 := rfl
  have e33 : Int.toNat (33 : Int) = 33 := rfl
  rw [e17, e33]
  have h41 : FnOK Tryd.prog G 41 [ds (d.extract 17 33)] (.tup [du (numU (d.extract 17 33)), db (numB (d.extract 17 33))]) := f41 _ (by rw [ByteArray.size_extract]; omega)
  refine ⟨fun h => ?_, fun h => ⟨⟨⟨by omega, by omega, by simp at h; omega⟩, h41⟩, ?_⟩⟩
  · have h : d.size < 41 := by simp at h; omega
    rw [genR_none (genO_short (by omega))]
  cases hn : numAt d 17 33 with
  | none =>
    have hg : genO d = none := by unfold genO; rw [hn]
    rw [numB_none hn, genR_none hg]
    exact ⟨fun h => by simp at h, fun _ => rfl, fun h => by simp at h⟩
  | some n =>
    obtain ⟨hv, hb⟩ := numU_at hn
    obtain ⟨w1, w2⟩ := ok_wrap n (numAt_bd hn)
    rw [hv, hb, w1]
    cases hok : okGen (n : Int) with
    | false =>
      have hg : genO d = none := by unfold genO; rw [hn]; simp [hok]
      rw [genR_none hg]
      refine ⟨fun _ => ?_, fun _ => rfl, fun h => by simp at h⟩
      have := f29 (G := G) (IntKind.wrap .i64 (n : Int))
      rw [w1, hok] at this
      exact this
    | true =>
      rw [w2 hok]
      have hle : ¬ ((n : Int) > 1099511627776) := by
        unfold okGen at hok
        simp at hok; omega
      have h29 := f29 (G := G) (n : Int)
      rw [hok] at h29
      refine ⟨fun _ => h29, fun h => ?_, fun _ => ⟨f30' d n hok hd, fun h => ?_, fun h => ?_⟩⟩
      · simp [hle] at h
      · have h : dcB (n : Int) d = false := by simpa using h
        have hg : genO d = none := by
          unfold genO; rw [hn]
          unfold dcB at h
          simp only [Int.toNat_natCast] at h
          simp [h]
        rw [genR_none hg]
      · have h : dcB (n : Int) d = true := by simpa using h
        have hg : genO d = some n := by
          unfold genO; rw [hn]
          unfold dcB at h
          simp only [Int.toNat_natCast] at h
          simp [h, hok]
        rw [genR_some hg]
theorem f21 (d : ByteArray) (hd : d.size < 1000000) : FnOK Tryd.prog G 21 [ds d] (genR d) := by
  refine FnOK.walk (orc := orcGen) (keep := []) follows Tryd.func21 rfl Tryd.call21 ?_
  refine of_eqH (b :=
    ((((decide ((↑(ByteArray.size d) : Int) < (33 : Int))) = true) →
    (((.tup [(.con (.int .i64 ((0 : Int)))), (.con (.bool false))]) : DV) = (genR d))) ∧
    (((decide ((↑(ByteArray.size d) : Int) < (33 : Int))) = false) →
    (((((0 : Int) ≤ (17 : Int)) ∧
    (((17 : Int) ≤ (33 : Int)) ∧
    ((33 : Int) ≤ (↑(ByteArray.size d) : Int)))) ∧
    FnOK Tryd.prog G ((40 : Nat)) [(.con (.string (ByteArray.extract d (Int.toNat (17 : Int)) (Int.toNat (33 : Int)))))] (.tup [(.con (.int .i64 (numV (ByteArray.extract d (Int.toNat (17 : Int)) (Int.toNat (33 : Int)))))), (.con (.bool (numB (ByteArray.extract d (Int.toNat (17 : Int)) (Int.toNat (33 : Int))))))])) ∧
    ((((!numB (ByteArray.extract d (Int.toNat (17 : Int)) (Int.toNat (33 : Int)))) = true) →
    (((.tup [(.con (.int .i64 ((0 : Int)))), (.con (.bool false))]) : DV) = (genR d))) ∧
    (((!numB (ByteArray.extract d (Int.toNat (17 : Int)) (Int.toNat (33 : Int)))) = false) →
    (FnOK Tryd.prog G ((19 : Nat)) [(.con (.string d)), (.con (.int .i64 ((0 : Int)))), (.con (.int .i64 (numV (ByteArray.extract d (Int.toNat (17 : Int)) (Int.toNat (33 : Int))))))] (.tup [(.con (.string (deS d (0 : Int) (numV (ByteArray.extract d (Int.toNat (17 : Int)) (Int.toNat (33 : Int))))))), (.con (.int .i64 (deN d (0 : Int) (numV (ByteArray.extract d (Int.toNat (17 : Int)) (Int.toNat (33 : Int))))))), (.con (.int .i64 (deE d (0 : Int) (numV (ByteArray.extract d (Int.toNat (17 : Int)) (Int.toNat (33 : Int)))))))]) ∧
    ((((deE d (0 : Int) (numV (ByteArray.extract d (Int.toNat (17 : Int)) (Int.toNat (33 : Int)))) != (0 : Int)) = true) →
    (((.tup [(.con (.int .i64 ((0 : Int)))), (.con (.bool false))]) : DV) = (genR d))) ∧
    (((deE d (0 : Int) (numV (ByteArray.extract d (Int.toNat (17 : Int)) (Int.toNat (33 : Int)))) != (0 : Int)) = false) →
    (((.tup [(.con (.int .i64 (numV (ByteArray.extract d (Int.toNat (17 : Int)) (Int.toNat (33 : Int)))))), (.con (.bool true))]) : DV) = (genR d))))))))))) (by kernel_rfl) ?_
  have e17 : Int.toNat (17 : Int) = 17 := rfl
  have e33 : Int.toNat (33 : Int) = 33 := rfl
  rw [e17, e33]
  have h40 : FnOK Tryd.prog G 40 [ds (d.extract 17 33)] (.tup [di (numV (d.extract 17 33)), db (numB (d.extract 17 33))]) := f40' _ (by rw [ByteArray.size_extract]; omega)
  refine ⟨fun h => ?_, fun h => ⟨⟨⟨by omega, by omega, by simp at h; omega⟩, h40⟩, ?_⟩⟩
  · have h : d.size < 33 := by simp at h; omega
    rw [genR_none (genO_short (by omega))]
  have hlen : 33 ≤ d.size := by simp at h; omega
  cases hn : numAt d 17 33 with
  | none =>
    have hg : genO d = none := by unfold genO; rw [hn]
    rw [numB_none hn, genR_none hg]
    exact ⟨fun _ => rfl, fun h => by simp at h⟩
  | some n =>
    have hb : numB (d.extract 17 33) = true := (numU_at hn).2
    have hv : numV (d.extract 17 33) = IntKind.wrap .i64 (n : Int) := by
      have hn' := hn
      unfold numAt at hn'
      unfold numV
      rw [hn', Option.getD_some]
    obtain ⟨w1, w2⟩ := ok_wrap n (numAt_bd hn)
    rw [hv, hb]
    refine ⟨fun h => by simp at h, fun _ => ⟨f19' d 0 _ hd, ?_⟩⟩
    cases hok : okGen (n : Int) with
    | false =>
      have hg : genO d = none := by unfold genO; rw [hn]; simp [hok]
      rw [genR_none hg]
      have hO : deO d 0 (IntKind.wrap .i64 (n : Int)) = none := by
        unfold deO
        rw [w1, hok, if_neg (by simp)]
      refine ⟨fun _ => rfl, fun h => ?_⟩
      rw [deE_none hO] at h; cases h
    | true =>
      rw [w2 hok]
      have hO : deO d 0 (n : Int) = decSpec n d.data.toList := by
        unfold deO
        rw [if_pos ⟨hok, by omega, by omega⟩]; rfl
      cases hd2 : decSpec n d.data.toList with
      | none =>
        have hg : genO d = none := by unfold genO; rw [hn]; simp [hd2]
        rw [genR_none hg]
        refine ⟨fun _ => rfl, fun h => ?_⟩
        rw [deE_none (hO.trans hd2)] at h; cases h
      | some p =>
        have hg : genO d = some n := by unfold genO; rw [hn]; simp [hd2, hok]
        rw [genR_some hg, (deE_some (hO.trans hd2)).1]
        exact ⟨fun h => by simp at h, fun _ => rfl⟩
/-! as tuples -/
noncomputable def gnV (d : ByteArray) : Int := ((genO d).getD 0 : Nat)
noncomputable def gnB (d : ByteArray) : Bool := (genO d).isSome
theorem genR_eq (d : ByteArray) : genR d = .tup [di (gnV d), db (gnB d)] := by
  unfold genR gnV gnB
  cases genO d <;> rfl
theorem f20' (d : ByteArray) (hd : d.size < 1000000) : FnOK Tryd.prog G 20 [ds d] (.tup [di (gnV d), db (gnB d)]) := genR_eq d ▸ f20 d hd
theorem f21' (d : ByteArray) (hd : d.size < 1000000) : FnOK Tryd.prog G 21 [ds d] (.tup [di (gnV d), db (gnB d)]) := genR_eq d ▸ f21 d hd
end Go.Proofs

set_option autoImplicit false
namespace Go.Proofs
open Go Go.Ab Go.RowKit
set_option maxHeartbeats 1000000
set_option maxRecDepth 100000
variable {G : IH}
theorem decP_itoa (n : Nat) : decP n = Lib.itoa (n : Int) := by
  have key : ∀ n : Nat, n ≠ 0 → decT n = Lib.decDigits n := by
    intro n
    induction n using Nat.strongRecOn with
    | _ n ih =>
      intro hn
      rw [decT_pos hn, Lib.decDigits]
      by_cases h : n < 10
      · rw [dif_pos h]
        have e : n / 10 = 0 := by omega
        rw [e, decT_zero, Nat.mod_eq_of_lt h]; rfl
      · rw [dif_neg h, ih (n / 10) (by omega) (by omega)]
  have e : Lib.itoa (n : Int) = Lib.decDigits n := by
    unfold Lib.itoa
    rw [if_neg (show ¬ (n : Int) < 0 by omega), Int.toNat_natCast]
  rw [e]
  unfold decP
  by_cases h : n = 0
  · subst h; rw [if_pos rfl, Lib.decDigits_one (by decide)]; rfl
  · rw [if_neg h, key n h]
/-- One field, as it is packed. -/
def fieldL (f : ByteArray) : List UInt8 := Lib.itoa (f.size : Int) ++ [58] ++ f.data.toList
def packL : List ByteArray → List UInt8
  | [] => []
  | f :: l => fieldL f ++ packL l
theorem packL_app (l m : List ByteArray) : packL (l ++ m) = packL l ++ packL m := by
  induction l with
  | nil => rfl
  | cons f l ih => simp only [List.cons_append, packL, ih, List.append_assoc]
def packBad (l : List ByteArray) : Bool := decide (l.length > 4096) || decide ((packL l).length > 30000)
def packS (l : List ByteArray) : ByteArray := bif packBad l then ByteArray.empty else bs (packL l)
def packE (l : List ByteArray) : Int := bif packBad l then 8 else 0
/-- .. and none so great that sums of sizes are. -/
def Small (l : List ByteArray) : Prop := l.length ≤ 100000 ∧ ∀ f ∈ l, f.size ≤ 100000
theorem f46' (hT : Tab G) (n : Nat) (h : n ≤ 1000000) : FnOK Tryd.prog G 46 [di n] (ds (bs (Lib.itoa n))) := f46 hT n ⟨by omega, by omega⟩
def orcPk : Orc := ⟨(fun f args => match f, args with
  | 46, [.con (.int .i64 n)] => some (ds (bs (Lib.itoa n)))
  | _, _ => none), false, fun _ => false, fun T => Nat.beq T 59, orcBm⟩
/-- The i-th of some strings. -/
def sAt (l : List ByteArray) (i : Nat) : ByteArray := l.getD i ByteArray.empty
theorem sAt_get {l : List ByteArray} {i : Nat} (h : i < l.length) : sAt l i = l[i] := by
  simp [sAt, h]
theorem strL_strs (l : List ByteArray) {h : IH} {v : Value} (hr : (strL l).rel h v) : (strs l.length (sAt l)).rel h v := by
  refine DV.rel_slc_congr (fun i hi => ?_) hr
  rw [sAt_get hi]
  simp [rowS, hi]
theorem packL_take {l : List ByteArray} {i : Nat} (h : i < l.length) : packL (l.take (i + 1)) = packL (l.take i) ++ fieldL (sAt l i) := by
  rw [List.take_succ_eq_append_getElem h, packL_app, sAt_get h]
  simp [packL]
theorem fieldL_len (f : ByteArray) : (fieldL f).length = (Lib.itoa (f.size : Int)).length + 1 + f.size := by
  unfold fieldL
  rw [List.length_append, List.length_append, size_list]; rfl
theorem itoa_len (n : Int) (h : I64 n) : (Lib.itoa n).length ≤ 21 := Lib.itoa_length_le n h.1 h.2
theorem Small.at {l : List ByteArray} (hl : Small l) {i : Nat} (h : i < l.length) : (sAt l i).size ≤ 100000 := by
  rw [sAt_get h]; exact hl.2 _ (List.getElem_mem h)
theorem Small.len {l : List ByteArray} (hl : Small l) : ∀ i, i ≤ l.length → (packL (l.take i)).length ≤ i * 100022
  | 0, _ => by simp [packL]
  | i + 1, h => by
    have := Small.len hl i (by omega)
    have h1 := hl.at (i := i) (by omega)
    have h2 := itoa_len ((sAt l i).size : Int) ⟨by omega, by omega⟩
    rw [packL_take (by omega), List.length_append, fieldL_len]
    omega
noncomputable def S23 (l : List ByteArray) (i : Nat) : AS := ⟨regs Tryd.f23.ntmps [(0, .d (strs l.length (sAt l))), (4, vi (packL (l.take i)).length), (10, .d (strs l.length (sAt l))), (11, vi l.length), (12, vi i)], []⟩
def box23 (t : List UInt8) : Nat → List (Nat × List AV)
  | 0 => [(7, [nilP, .d (.con (.slice none 0 0))])]
  | _ + 1 => [(7, [.box 7 0, .vec 500 1 0 t.length]), (500, [.arr byteK 1 (byteL t)])]
noncomputable def S23b (l : List ByteArray) (i : Nat) : AS := ⟨regs Tryd.f23.ntmps [(7, .tb 7 0 59), (34, .d (strs l.length (sAt l))), (35, vi l.length), (36, vi i)], box23 (packL (l.take i)) i⟩
theorem itoa_ne (n : Nat) : Lib.itoa (n : Int) ≠ [] := by
  rw [← decP_itoa]
  unfold decP
  split
  · simp
  · rename_i h
    rw [decT_pos h]; simp
theorem f23s (hT : Tab G) (l : List ByteArray) (hl : Small l) : FnOK Tryd.prog G 23 [strs l.length (sAt l)] (.tup [ds (packS l), di (packE l)]) := by
  refine FnOK.walk (orc := orcPk) (keep := []) follows Tryd.func23 rfl Tryd.call23 ?_
  refine of_eqH (b :=
    AWP Tryd.prog G [.code (cAt (bodyOf Tryd.f23) [1, 1, 0, 1, 0]), (.blk ((0 : Nat))), .code (cAt (bodyOf Tryd.f23) [1, 1, 1])] ⟨[(.d (.slc ((1 : Nat)) (List.length l) (fun i => DV.con (Value.string (sAt l i))))), .any, (.d (.con (.string ({ data := #[] })))), (.d (.con (.int .i64 ((0 : Int))))), (.d (.con (.int .i64 ((0 : Int))))), .any, .any, .any, .any, .any, (.d (.slc ((1 : Nat)) (List.length l) (fun i => DV.con (Value.string (sAt l i))))), (.d (.con (.int .i64 ((↑(List.length l) : Int))))), (.d (.con (.int .i64 ((0 : Int))))), .any, .any, .any, .any, .any, .any, .any, .any, .any, .any, .any, .any, .any, .any, .any, .any, .any, .any, .any, .any, .any, .any, .any, .any, .any, .any, .any, .any, .any, .any, .any, .any, .any, .any, .any, .any], []⟩ (Ret Tryd.prog Tryd.f23 (DV.tup [ds (packS l), di (packE l)]))) (by kernel_rfl) ?_
  have hll := hl.1
  refine AWP.loop (c := cAt (bodyOf Tryd.f23) [1, 1, 0, 1, 0, 0]) (by kernel_rfl) (S23 l) (fun i => i ≤ l.length) (fun i => l.length - i) 0 ?_ (Nat.zero_le _) ?_
  · refine of_eq (b :=
    (((((.d (.slc ((1 : Nat)) (List.length l) (fun i => DV.con (Value.string (sAt l i))))) : AV) = (.d (.slc ((1 : Nat)) (List.length l) (fun i => DV.con (Value.string (sAt l i)))))) ∧
    ((((.d (.con (.int .i64 ((0 : Int))))) : AV) = (.d (.con (.int .i64 ((↑(List.length (packL (List.take (0 : Nat) l))) : Int)))))) ∧
    ((((.d (.slc ((1 : Nat)) (List.length l) (fun i => DV.con (Value.string (sAt l i))))) : AV) = (.d (.slc ((1 : Nat)) (List.length l) (fun i => DV.con (Value.string (sAt l i)))))) ∧
    ((((.d (.con (.int .i64 ((↑(List.length l) : Int))))) : AV) = (.d (.con (.int .i64 ((↑(List.length l) : Int)))))) ∧
    ((((.d (.con (.int .i64 ((0 : Int))))) : AV) = (.d (.con (.int .i64 ((0 : Int)))))) ∧
    True))))) ∧
    True)) (by kernel_rfl) ?_
    exact ⟨⟨rfl, rfl, rfl, rfl, rfl, trivial⟩, trivial⟩
  · intro i hi
    have hlen := hl.len i hi
    refine walk (orc := orcPk) (keep := []) (cuts := []) (n := 1000) follows ?_
    refine of_eqH (b :=
      ((((decide ((↑i : Int) < (↑(List.length l) : Int))) = true) →
      ((((0 : Int) ≤ (↑i : Int)) ∧
      ((↑i : Int) < (↑(List.length l) : Int))) ∧
      ((FnOK Tryd.prog G ((46 : Nat)) [(.con (.int .i64 ((↑(ByteArray.size (sAt l (Int.toNat (↑i : Int)))) : Int))))] (.con (.string (bs (Lib.itoa (↑(ByteArray.size (sAt l (Int.toNat (↑i : Int)))) : Int))))) ∧
      ((I64 ((↑(ByteArray.size (bs (Lib.itoa (↑(ByteArray.size (sAt l (Int.toNat (↑i : Int)))) : Int)))) : Int) + (1 : Int))) ∧
      ((I64 ((↑(ByteArray.size (bs (Lib.itoa (↑(ByteArray.size (sAt l (Int.toNat (↑i : Int)))) : Int)))) : Int) + (1 : Int) + (↑(ByteArray.size (sAt l (Int.toNat (↑i : Int)))) : Int))) ∧
      (I64 ((↑(List.length (packL (List.take i l))) : Int) + ((↑(ByteArray.size (bs (Lib.itoa (↑(ByteArray.size (sAt l (Int.toNat (↑i : Int)))) : Int)))) : Int) + (1 : Int) + (↑(ByteArray.size (sAt l (Int.toNat (↑i : Int)))) : Int))))))) ∧
      ((I64 ((↑i : Int) + (1 : Int))) ∧
      Again (S23 l) (fun i => i ≤ List.length l) (fun i => List.length l - i) i ⟨[(.d (.slc ((1 : Nat)) (List.length l) (fun i => DV.con (Value.string (sAt l i))))), .any, .any, .any, (.d (.con (.int .i64 ((↑(List.length (packL (List.take i l))) : Int) + ((↑(ByteArray.size (bs (Lib.itoa (↑(ByteArray.size (sAt l (Int.toNat (↑i : Int)))) : Int)))) : Int) + (1 : Int) + (↑(ByteArray.size (sAt l (Int.toNat (↑i : Int)))) : Int)))))), .any, (.d (.con (.string (sAt l (Int.toNat (↑i : Int)))))), .any, .any, .any, (.d (.slc ((1 : Nat)) (List.length l) (fun i => DV.con (Value.string (sAt l i))))), (.d (.con (.int .i64 ((↑(List.length l) : Int))))), (.d (.con (.int .i64 ((↑i : Int) + (1 : Int))))), (.d (.con (.bool (decide ((↑i : Int) < (↑(List.length l) : Int)))))), (.d (.ptr [(.con (.string (sAt l (Int.toNat (↑i : Int)))))])), (.d (.con (.string (sAt l (Int.toNat (↑i : Int)))))), (.d (.con (.int .i64 ((↑(List.length (packL (List.take i l))) : Int))))), (.d (.con (.string (sAt l (Int.toNat (↑i : Int)))))), (.d (.con (.int .i64 ((↑(ByteArray.size (sAt l (Int.toNat (↑i : Int)))) : Int))))), (.d (.con (.string (bs (Lib.itoa (↑(ByteArray.size (sAt l (Int.toNat (↑i : Int)))) : Int)))))), (.d (.con (.int .i64 ((↑(ByteArray.size (bs (Lib.itoa (↑(ByteArray.size (sAt l (Int.toNat (↑i : Int)))) : Int)))) : Int))))), (.d (.con (.int .i64 ((↑(ByteArray.size (bs (Lib.itoa (↑(ByteArray.size (sAt l (Int.toNat (↑i : Int)))) : Int)))) : Int) + (1 : Int))))), (.d (.con (.string (sAt l (Int.toNat (↑i : Int)))))), (.d (.con (.int .i64 ((↑(ByteArray.size (sAt l (Int.toNat (↑i : Int)))) : Int))))), (.d (.con (.int .i64 ((↑(ByteArray.size (bs (Lib.itoa (↑(ByteArray.size (sAt l (Int.toNat (↑i : Int)))) : Int)))) : Int) + (1 : Int) + (↑(ByteArray.size (sAt l (Int.toNat (↑i : Int)))) : Int))))), (.d (.con (.int .i64 ((↑(List.length (packL (List.take i l))) : Int) + ((↑(ByteArray.size (bs (Lib.itoa (↑(ByteArray.size (sAt l (Int.toNat (↑i : Int)))) : Int)))) : Int) + (1 : Int) + (↑(ByteArray.size (sAt l (Int.toNat (↑i : Int)))) : Int)))))), (.d (.con (.int .i64 ((↑i : Int) + (1 : Int))))), .any, .any, .any, .any, .any, .any, .any, .any, .any, .any, .any, .any, .any, .any, .any, .any, .any, .any, .any, .any, .any, .any], []⟩)))) ∧
      (((decide ((↑i : Int) < (↑(List.length l) : Int))) = false) →
      AWP Tryd.prog G [.code (cAt (bodyOf Tryd.f23) [1, 1, 1])] ⟨[(.d (.slc ((1 : Nat)) (List.length l) (fun i => DV.con (Value.string (sAt l i))))), .any, .any, .any, (.d (.con (.int .i64 ((↑(List.length (packL (List.take i l))) : Int))))), .any, .any, .any, .any, .any, (.d (.slc ((1 : Nat)) (List.length l) (fun i => DV.con (Value.string (sAt l i))))), (.d (.con (.int .i64 ((↑(List.length l) : Int))))), (.d (.con (.int .i64 ((↑i : Int))))), (.d (.con (.bool (decide ((↑i : Int) < (↑(List.length l) : Int)))))), .any, .any, .any, .any, .any, .any, .any, .any, .any, .any, .any, .any, .any, .any, .any, .any, .any, .any, .any, .any, .any, .any, .any, .any, .any, .any, .any, .any, .any, .any, .any, .any, .any, .any, .any], []⟩ (Ret Tryd.prog Tryd.f23 (DV.tup [ds (packS l), di (packE l)]))))) (by kernel_rfl) ?_
    simp only [Int.toNat_natCast]
    refine ⟨fun h => ?_, fun h => ?_⟩
    · have hi' : i < l.length := by simpa using h
      have h1 := hl.at hi'
      have h2 := itoa_len ((sAt l i).size : Int) ⟨by omega, by omega⟩
      rw [bs_size]
      refine ⟨⟨by omega, by omega⟩, ⟨f46' hT _ (by omega), ⟨by omega, by omega⟩, ⟨by omega, by omega⟩, by omega, by omega⟩, ⟨by omega, by omega⟩, Again.mk (i + 1) ?_ (by omega) (by omega)⟩
      refine of_eq (b :=
        (((((.d (.slc ((1 : Nat)) (List.length l) (fun i => DV.con (Value.string (sAt l i))))) : AV) = (.d (.slc ((1 : Nat)) (List.length l) (fun i => DV.con (Value.string (sAt l i)))))) ∧
        ((((.d (.con (.int .i64 ((↑(List.length (packL (List.take i l))) : Int) + ((↑(List.length (Lib.itoa (↑(ByteArray.size (sAt l i)) : Int))) : Int) + (1 : Int) + (↑(ByteArray.size (sAt l i)) : Int)))))) : AV) = (.d (.con (.int .i64 ((↑(List.length (packL (List.take (i + (1 : Nat)) l))) : Int)))))) ∧
        ((((.d (.slc ((1 : Nat)) (List.length l) (fun i => DV.con (Value.string (sAt l i))))) : AV) = (.d (.slc ((1 : Nat)) (List.length l) (fun i => DV.con (Value.string (sAt l i)))))) ∧
        ((((.d (.con (.int .i64 ((↑(List.length l) : Int))))) : AV) = (.d (.con (.int .i64 ((↑(List.length l) : Int)))))) ∧
        ((((.d (.con (.int .i64 ((↑i : Int) + (1 : Int))))) : AV) = (.d (.con (.int .i64 ((↑(i + (1 : Nat)) : Int)))))) ∧
        True))))) ∧
        True)) (by kernel_rfl) ?_
      refine ⟨⟨rfl, ?_, rfl, rfl, rfl, trivial⟩, trivial⟩
      rw [packL_take hi', List.length_append, fieldL_len]
      push_cast; rfl
    · have : i = l.length := by simp at h; omega
      subst this
      rw [List.take_length] at hlen ⊢
      refine walk (orc := orcPk) (keep := []) (cuts := []) (n := 1000) follows ?_
      refine of_eqH (b :=
        ((((decide ((↑(List.length l) : Int) > (4096 : Int)) || decide ((↑(List.length (packL l)) : Int) > (30000 : Int))) = true) →
        (((.tup [(.con (.string ({ data := #[] }))), (.con (.int .i64 ((8 : Int))))]) : DV) = (.tup [(ds (packS l)), (di (packE l))]))) ∧
        (((decide ((↑(List.length l) : Int) > (4096 : Int)) || decide ((↑(List.length (packL l)) : Int) > (30000 : Int))) = false) →
        AWP Tryd.prog G [.code (cAt (bodyOf Tryd.f23) [1, 1, 1, 1, 1, 0, 1, 0]), (.blk ((2 : Nat))), .code (cAt (bodyOf Tryd.f23) [1, 1, 1, 1, 1, 1])] ⟨[(.d (.slc ((1 : Nat)) (List.length l) (fun i => DV.con (Value.string (sAt l i))))), .any, .any, .any, (.d (.con (.int .i64 ((↑(List.length (packL l)) : Int))))), .any, .any, (.tb ((7 : Nat)) ((0 : Nat)) ((59 : Nat))), .any, .any, (.d (.slc ((1 : Nat)) (List.length l) (fun i => DV.con (Value.string (sAt l i))))), (.d (.con (.int .i64 ((↑(List.length l) : Int))))), (.d (.con (.int .i64 ((↑(List.length l) : Int))))), (.d (.con (.bool (decide ((↑(List.length l) : Int) < (↑(List.length l) : Int)))))), .any, .any, .any, .any, .any, .any, .any, .any, .any, .any, .any, .any, .any, (.d (.slc ((1 : Nat)) (List.length l) (fun i => DV.con (Value.string (sAt l i))))), (.d (.con (.int .i64 ((↑(List.length l) : Int))))), (.d (.con (.bool (decide ((↑(List.length l) : Int) > (4096 : Int)))))), (.d (.con (.bool (decide ((↑(List.length l) : Int) > (4096 : Int)))))), .any, .any, (.d (.con (.bool (decide ((↑(List.length l) : Int) > (4096 : Int)) || decide ((↑(List.length (packL l)) : Int) > (30000 : Int)))))), (.d (.slc ((1 : Nat)) (List.length l) (fun i => DV.con (Value.string (sAt l i))))), (.d (.con (.int .i64 ((↑(List.length l) : Int))))), (.d (.con (.int .i64 ((0 : Int))))), .any, .any, .any, .any, .any, .any, .any, .any, .any, .any, .any, .any], [(((7 : Nat)), [(.d (.con (.pointer none))), (.d (.con (.slice none ((0 : Nat)) ((0 : Nat)))))])]⟩ (Ret Tryd.prog Tryd.f23 (DV.tup [ds (packS l), di (packE l)]))))) (by kernel_rfl) ?_
      refine ⟨fun h => ?_, fun h => ?_⟩
      · have hb : packBad l = true := by
          unfold packBad
          simp at h ⊢
          omega
        unfold packS packE
        rw [hb]; rfl
      have hb : packBad l = false := by
        unfold packBad
        simp at h ⊢
        omega
      have hbl : (packL l).length ≤ 30000 := by
        simp at h
        omega
      have hR : (DV.tup [ds (packS l), di (packE l)]) = .tup [ds (bs (packL l)), di 0] := by
        unfold packS packE
        rw [hb]; rfl
      rw [hR]
      refine AWP.loop (c := cAt (bodyOf Tryd.f23) [1, 1, 1, 1, 1, 0, 1, 0, 0]) (by kernel_rfl) (S23b l) (fun i => i ≤ l.length) (fun i => l.length - i) 0 ?_ (Nat.zero_le _) ?_
      · refine of_eq (b :=
        (((((.tb ((7 : Nat)) ((0 : Nat)) ((59 : Nat))) : AV) = (.tb ((7 : Nat)) ((0 : Nat)) ((59 : Nat)))) ∧
        ((((.d (.slc ((1 : Nat)) (List.length l) (fun i => DV.con (Value.string (sAt l i))))) : AV) = (.d (.slc ((1 : Nat)) (List.length l) (fun i => DV.con (Value.string (sAt l i)))))) ∧
        ((((.d (.con (.int .i64 ((↑(List.length l) : Int))))) : AV) = (.d (.con (.int .i64 ((↑(List.length l) : Int)))))) ∧
        ((((.d (.con (.int .i64 ((0 : Int))))) : AV) = (.d (.con (.int .i64 ((0 : Int)))))) ∧
        True)))) ∧
        ((((some [(.d (.con (.pointer none))), (.d (.con (.slice none ((0 : Nat)) ((0 : Nat)))))]) : (Option (List AV))) = (some [(.d (.con (.pointer none))), (.d (.con (.slice none ((0 : Nat)) ((0 : Nat)))))])) ∧
        True))) (by kernel_rfl) ?_
        exact ⟨⟨rfl, rfl, rfl, rfl, trivial⟩, rfl, trivial⟩
      · intro i hi
        have hpl : ∀ i, i < l.length → (packL (l.take i)).length + (fieldL (sAt l i)).length ≤ 30000 := by
          intro i hi
          have e : packL l = packL (l.take (i + 1)) ++ packL (l.drop (i + 1)) := by rw [← packL_app, List.take_append_drop]
          rw [e, packL_take hi, List.length_append, List.length_append] at hbl
          omega
        have hfs : ∀ f : ByteArray, (bs (Lib.itoa (f.size : Int)) ++ { data := #[58] } ++ f).size = (fieldL f).length := fun f => by
          rw [ByteArray.size_append, ByteArray.size_append, bs_size, fieldL_len]; rfl
        have hfs2 : ∀ f : ByteArray, (bs (Lib.itoa (f.size : Int)) ++ { data := #[58] }).size = (Lib.itoa (f.size : Int)).length + 1 := fun f => by
          rw [ByteArray.size_append, bs_size]; rfl
        have hz1 : ({ data := #[58] } : ByteArray).size = 1 := rfl
        have hy : ∀ (β : Nat → Nat) (h : IH) (v : Value), (AV.tb 1000000 0 59).rel β h v → v = .pointer (some ⟨blk β 1000000, 0, none⟩) := fun β h v hv => hv.1
        cases i with
        | zero =>
          refine walk (orc := orcPk) (keep := []) (cuts := []) (n := 1000) follows ?_
          refine of_eqH (b :=
            ((((decide ((0 : Int) < (↑(List.length l) : Int))) = true) →
            ((((0 : Int) ≤ (0 : Int)) ∧
            ((0 : Int) < (↑(List.length l) : Int))) ∧
            ((FnOK Tryd.prog G ((46 : Nat)) [(.con (.int .i64 ((↑(ByteArray.size (sAt l (Int.toNat (0 : Int)))) : Int))))] (.con (.string (bs (Lib.itoa (↑(ByteArray.size (sAt l (Int.toNat (0 : Int)))) : Int))))) ∧
            ((ByteArray.size (bs (Lib.itoa (↑(ByteArray.size (sAt l (Int.toNat (0 : Int)))) : Int))) + ByteArray.size { data := #[(58 : UInt8)] } ≤ (9223372036854775807 : Nat)) ∧
            ((ByteArray.size (bs (Lib.itoa (↑(ByteArray.size (sAt l (Int.toNat (0 : Int)))) : Int)) ++ { data := #[(58 : UInt8)] }) + ByteArray.size (sAt l (Int.toNat (0 : Int))) ≤ (9223372036854775807 : Nat)) ∧
            FnM Tryd.prog G ((31 : Nat)) [(.tb ((1000000 : Nat)) ((0 : Nat)) ((59 : Nat))), (.d (.con (.string (bs (Lib.itoa (↑(ByteArray.size (sAt l (Int.toNat (0 : Int)))) : Int)) ++ { data := #[(58 : UInt8)] } ++ sAt l (Int.toNat (0 : Int))))))] [(((1000000 : Nat)), [(.d (.con (.pointer none))), (.d (.con (.slice none ((0 : Nat)) ((0 : Nat)))))])] (.d (.tup [(.con (.int .i64 ((↑(ByteArray.size (bs (Lib.itoa (↑(ByteArray.size (sAt l (Int.toNat (0 : Int)))) : Int)) ++ { data := #[(58 : UInt8)] } ++ sAt l (Int.toNat (0 : Int)))) : Int)))), (.con .nilIface)])) [(((1000000 : Nat)), [(.box ((1000000 : Nat)) ((0 : Nat))), (.vec ((14 : Nat)) ((1 : Nat)) ((0 : Nat)) (List.length (Lib.itoa (↑(ByteArray.size (sAt l (Int.toNat (0 : Int)))) : Int) ++ [(58 : UInt8)] ++ Array.toList (ByteArray.data (sAt l (Int.toNat (0 : Int)))))))]), (((14 : Nat)), [(.arr ⟨false, ((5 : Nat)), false⟩ ((1 : Nat)) (byteL (Lib.itoa (↑(ByteArray.size (sAt l (Int.toNat (0 : Int)))) : Int) ++ [(58 : UInt8)] ++ Array.toList (ByteArray.data (sAt l (Int.toNat (0 : Int)))))))])]))) ∧
            ((I64 ((0 : Int) + (1 : Int))) ∧
            Again (S23b l) (fun i => i ≤ List.length l) (fun i => List.length l - i) ((0 : Nat)) ⟨[.any, .any, .any, .any, .any, .any, .any, (.tb ((7 : Nat)) ((0 : Nat)) ((59 : Nat))), .any, (.d (.con (.string (sAt l (Int.toNat (0 : Int)))))), .any, .any, .any, .any, .any, .any, .any, .any, .any, .any, .any, .any, .any, .any, .any, .any, .any, .any, .any, .any, .any, .any, .any, .any, (.d (.slc ((1 : Nat)) (List.length l) (fun i => DV.con (Value.string (sAt l i))))), (.d (.con (.int .i64 ((↑(List.length l) : Int))))), (.d (.con (.int .i64 ((1 : Int))))), (.d (.con (.bool (decide ((0 : Int) < (↑(List.length l) : Int)))))), (.d (.ptr [(.con (.string (sAt l (Int.toNat (0 : Int)))))])), (.d (.con (.string (sAt l (Int.toNat (0 : Int)))))), (.d (.con (.string (sAt l (Int.toNat (0 : Int)))))), (.d (.con (.int .i64 ((↑(ByteArray.size (sAt l (Int.toNat (0 : Int)))) : Int))))), (.d (.con (.string (bs (Lib.itoa (↑(ByteArray.size (sAt l (Int.toNat (0 : Int)))) : Int)))))), (.d (.con (.string (bs (Lib.itoa (↑(ByteArray.size (sAt l (Int.toNat (0 : Int)))) : Int)) ++ { data := #[(58 : UInt8)] })))), (.d (.con (.string (sAt l (Int.toNat (0 : Int)))))), (.d (.con (.string (bs (Lib.itoa (↑(ByteArray.size (sAt l (Int.toNat (0 : Int)))) : Int)) ++ { data := #[(58 : UInt8)] } ++ sAt l (Int.toNat (0 : Int)))))), (.d (.tup [(.con (.int .i64 ((↑(ByteArray.size (bs (Lib.itoa (↑(ByteArray.size (sAt l (Int.toNat (0 : Int)))) : Int)) ++ { data := #[(58 : UInt8)] } ++ sAt l (Int.toNat (0 : Int)))) : Int)))), (.con .nilIface)])), (.d (.con (.int .i64 ((1 : Int))))), .any], [(((47014 : Nat)), [(.arr ⟨false, ((5 : Nat)), false⟩ ((1 : Nat)) (byteL (Lib.itoa (↑(ByteArray.size (sAt l (Int.toNat (0 : Int)))) : Int) ++ [(58 : UInt8)] ++ Array.toList (ByteArray.data (sAt l (Int.toNat (0 : Int)))))))]), (((7 : Nat)), [(.box ((7 : Nat)) ((0 : Nat))), (.vec ((47014 : Nat)) ((1 : Nat)) ((0 : Nat)) (List.length (Lib.itoa (↑(ByteArray.size (sAt l (Int.toNat (0 : Int)))) : Int) ++ [(58 : UInt8)] ++ Array.toList (ByteArray.data (sAt l (Int.toNat (0 : Int)))))))])]⟩)))) ∧
            (((decide ((0 : Int) < (↑(List.length l) : Int))) = false) →
            AWP Tryd.prog G [.code (cAt (bodyOf Tryd.f23) [1, 1, 1, 1, 1, 1])] ⟨[.any, .any, .any, .any, .any, .any, .any, (.tb ((7 : Nat)) ((0 : Nat)) ((59 : Nat))), .any, .any, .any, .any, .any, .any, .any, .any, .any, .any, .any, .any, .any, .any, .any, .any, .any, .any, .any, .any, .any, .any, .any, .any, .any, .any, (.d (.slc ((1 : Nat)) (List.length l) (fun i => DV.con (Value.string (sAt l i))))), (.d (.con (.int .i64 ((↑(List.length l) : Int))))), (.d (.con (.int .i64 ((0 : Int))))), (.d (.con (.bool (decide ((0 : Int) < (↑(List.length l) : Int)))))), .any, .any, .any, .any, .any, .any, .any, .any, .any, .any, .any], [(((7 : Nat)), [(.d (.con (.pointer none))), (.d (.con (.slice none ((0 : Nat)) ((0 : Nat)))))])]⟩ (Ret Tryd.prog Tryd.f23 (DV.tup [ds (bs (packL l)), di (0 : Int)]))))) (by kernel_rfl) ?_
          have e0 : Int.toNat (0 : Int) = 0 := rfl
          rw [e0]
          refine ⟨fun h => ?_, fun h => ?_⟩
          · have hi' : 0 < l.length := by simpa using h
            have h1 := hl.at hi'
            have h2 := itoa_len ((sAt l 0).size : Int) ⟨by omega, by omega⟩
            have h3 := hpl 0 hi'
            have h4 := hfs (sAt l 0)
            have h5 := hfs2 (sAt l 0)
            refine ⟨⟨by omega, by omega⟩, ⟨f46' hT _ (by omega), by rw [bs_size]; omega, by omega, f31_fresh _ (by omega)⟩, ⟨by decide, by decide⟩, Again.mkR [(47014, 500)] rfl 1 ?_ (by omega) (by omega)⟩
            refine of_eq (b :=
              (((((.tb ((7 : Nat)) ((0 : Nat)) ((59 : Nat))) : AV) = (.tb ((7 : Nat)) ((0 : Nat)) ((59 : Nat)))) ∧
              ((((.d (.slc ((1 : Nat)) (List.length l) (fun i => DV.con (Value.string (sAt l i))))) : AV) = (.d (.slc ((1 : Nat)) (List.length l) (fun i => DV.con (Value.string (sAt l i)))))) ∧
              ((((.d (.con (.int .i64 ((↑(List.length l) : Int))))) : AV) = (.d (.con (.int .i64 ((↑(List.length l) : Int)))))) ∧
              ((((.d (.con (.int .i64 ((1 : Int))))) : AV) = (.d (.con (.int .i64 ((1 : Int)))))) ∧
              True)))) ∧
              ((((some [(.box ((7 : Nat)) ((0 : Nat))), (.vec ((500 : Nat)) ((1 : Nat)) ((0 : Nat)) (List.length (Lib.itoa (↑(ByteArray.size (sAt l (0 : Nat))) : Int) ++ [(58 : UInt8)] ++ Array.toList (ByteArray.data (sAt l (0 : Nat))))))]) : (Option (List AV))) = (some [(.box ((7 : Nat)) ((0 : Nat))), (.vec ((500 : Nat)) ((1 : Nat)) ((0 : Nat)) (List.length (packL (List.take (1 : Nat) l))))])) ∧
              ((((some [(.arr ⟨false, ((5 : Nat)), false⟩ ((1 : Nat)) (byteL (Lib.itoa (↑(ByteArray.size (sAt l (0 : Nat))) : Int) ++ [(58 : UInt8)] ++ Array.toList (ByteArray.data (sAt l (0 : Nat))))))]) : (Option (List AV))) = (some [(.arr ⟨false, ((5 : Nat)), false⟩ ((1 : Nat)) (byteL (packL (List.take (1 : Nat) l))))])) ∧
              True)))) (by kernel_rfl) ?_
            refine ⟨⟨rfl, rfl, rfl, rfl, trivial⟩, ?_, ?_, trivial⟩
            · rw [packL_take hi']; rfl
            · rw [packL_take hi']; rfl
          · have h : l.length = 0 := by simpa using h
            have hnil : l = [] := List.eq_nil_of_length_eq_zero h
            subst hnil
            refine walk (orc := orcPk) (keep := []) (cuts := []) (n := 1000) follows ?_
            refine of_eqH (b :=
              (FnM Tryd.prog G ((35 : Nat)) [(.tb ((1000000 : Nat)) ((0 : Nat)) ((59 : Nat)))] [(((1000000 : Nat)), [(.d (.con (.pointer none))), (.d (.con (.slice none ((0 : Nat)) ((0 : Nat)))))])] (.d (.con (.string (bs [])))) [(((1000000 : Nat)), [(.d (.con (.pointer none))), (.d (.con (.slice none ((0 : Nat)) ((0 : Nat)))))])] ∧
              (((.tup [(.con (.string (bs []))), (.con (.int .i64 ((0 : Int))))]) : DV) = (.tup [(ds (bs (packL []))), (di (0 : Int))])))) (by kernel_rfl) ?_
            exact ⟨f35n _ nilP hy, rfl⟩
        | succ i =>
          refine walk (orc := orcPk) (keep := []) (cuts := []) (n := 1000) follows ?_
          refine of_eqH (b :=
            ((((decide ((↑(i + (1 : Nat)) : Int) < (↑(List.length l) : Int))) = true) →
            ((((0 : Int) ≤ (↑(i + (1 : Nat)) : Int)) ∧
            ((↑(i + (1 : Nat)) : Int) < (↑(List.length l) : Int))) ∧
            ((FnOK Tryd.prog G ((46 : Nat)) [(.con (.int .i64 ((↑(ByteArray.size (sAt l (Int.toNat (↑(i + (1 : Nat)) : Int)))) : Int))))] (.con (.string (bs (Lib.itoa (↑(ByteArray.size (sAt l (Int.toNat (↑(i + (1 : Nat)) : Int)))) : Int))))) ∧
            ((ByteArray.size (bs (Lib.itoa (↑(ByteArray.size (sAt l (Int.toNat (↑(i + (1 : Nat)) : Int)))) : Int))) + ByteArray.size { data := #[(58 : UInt8)] } ≤ (9223372036854775807 : Nat)) ∧
            ((ByteArray.size (bs (Lib.itoa (↑(ByteArray.size (sAt l (Int.toNat (↑(i + (1 : Nat)) : Int)))) : Int)) ++ { data := #[(58 : UInt8)] }) + ByteArray.size (sAt l (Int.toNat (↑(i + (1 : Nat)) : Int))) ≤ (9223372036854775807 : Nat)) ∧
            FnM Tryd.prog G ((31 : Nat)) [(.tb ((1000000 : Nat)) ((0 : Nat)) ((59 : Nat))), (.d (.con (.string (bs (Lib.itoa (↑(ByteArray.size (sAt l (Int.toNat (↑(i + (1 : Nat)) : Int)))) : Int)) ++ { data := #[(58 : UInt8)] } ++ sAt l (Int.toNat (↑(i + (1 : Nat)) : Int))))))] [(((1000000 : Nat)), [(.box ((1000000 : Nat)) ((0 : Nat))), (.vec ((1000001 : Nat)) ((1 : Nat)) ((0 : Nat)) (List.length (packL (List.take (i + (1 : Nat)) l))))]), (((1000001 : Nat)), [(.arr ⟨false, ((5 : Nat)), false⟩ ((1 : Nat)) (byteL (packL (List.take (i + (1 : Nat)) l))))])] (.d (.tup [(.con (.int .i64 ((↑(ByteArray.size (bs (Lib.itoa (↑(ByteArray.size (sAt l (Int.toNat (↑(i + (1 : Nat)) : Int)))) : Int)) ++ { data := #[(58 : UInt8)] } ++ sAt l (Int.toNat (↑(i + (1 : Nat)) : Int)))) : Int)))), (.con .nilIface)])) [(((1000000 : Nat)), [(.box ((1000000 : Nat)) ((0 : Nat))), (.vec ((14 : Nat)) ((1 : Nat)) ((0 : Nat)) (List.length (bytesOf (List.length (packL (List.take (i + (1 : Nat)) l))) (byteL (packL (List.take (i + (1 : Nat)) l))) ++ (Lib.itoa (↑(ByteArray.size (sAt l (Int.toNat (↑(i + (1 : Nat)) : Int)))) : Int) ++ [(58 : UInt8)] ++ Array.toList (ByteArray.data (sAt l (Int.toNat (↑(i + (1 : Nat)) : Int))))))))]), (((14 : Nat)), [(.arr ⟨false, ((5 : Nat)), false⟩ ((1 : Nat)) (byteL (bytesOf (List.length (packL (List.take (i + (1 : Nat)) l))) (byteL (packL (List.take (i + (1 : Nat)) l))) ++ (Lib.itoa (↑(ByteArray.size (sAt l (Int.toNat (↑(i + (1 : Nat)) : Int)))) : Int) ++ [(58 : UInt8)] ++ Array.toList (ByteArray.data (sAt l (Int.toNat (↑(i + (1 : Nat)) : Int))))))))])]))) ∧
            ((I64 ((↑(i + (1 : Nat)) : Int) + (1 : Int))) ∧
            Again (S23b l) (fun i => i ≤ List.length l) (fun i => List.length l - i) (i + (1 : Nat)) ⟨[.any, .any, .any, .any, .any, .any, .any, (.tb ((7 : Nat)) ((0 : Nat)) ((59 : Nat))), .any, (.d (.con (.string (sAt l (Int.toNat (↑(i + (1 : Nat)) : Int)))))), .any, .any, .any, .any, .any, .any, .any, .any, .any, .any, .any, .any, .any, .any, .any, .any, .any, .any, .any, .any, .any, .any, .any, .any, (.d (.slc ((1 : Nat)) (List.length l) (fun i => DV.con (Value.string (sAt l i))))), (.d (.con (.int .i64 ((↑(List.length l) : Int))))), (.d (.con (.int .i64 ((↑(i + (1 : Nat)) : Int) + (1 : Int))))), (.d (.con (.bool (decide ((↑(i + (1 : Nat)) : Int) < (↑(List.length l) : Int)))))), (.d (.ptr [(.con (.string (sAt l (Int.toNat (↑(i + (1 : Nat)) : Int)))))])), (.d (.con (.string (sAt l (Int.toNat (↑(i + (1 : Nat)) : Int)))))), (.d (.con (.string (sAt l (Int.toNat (↑(i + (1 : Nat)) : Int)))))), (.d (.con (.int .i64 ((↑(ByteArray.size (sAt l (Int.toNat (↑(i + (1 : Nat)) : Int)))) : Int))))), (.d (.con (.string (bs (Lib.itoa (↑(ByteArray.size (sAt l (Int.toNat (↑(i + (1 : Nat)) : Int)))) : Int)))))), (.d (.con (.string (bs (Lib.itoa (↑(ByteArray.size (sAt l (Int.toNat (↑(i + (1 : Nat)) : Int)))) : Int)) ++ { data := #[(58 : UInt8)] })))), (.d (.con (.string (sAt l (Int.toNat (↑(i + (1 : Nat)) : Int)))))), (.d (.con (.string (bs (Lib.itoa (↑(ByteArray.size (sAt l (Int.toNat (↑(i + (1 : Nat)) : Int)))) : Int)) ++ { data := #[(58 : UInt8)] } ++ sAt l (Int.toNat (↑(i + (1 : Nat)) : Int)))))), (.d (.tup [(.con (.int .i64 ((↑(ByteArray.size (bs (Lib.itoa (↑(ByteArray.size (sAt l (Int.toNat (↑(i + (1 : Nat)) : Int)))) : Int)) ++ { data := #[(58 : UInt8)] } ++ sAt l (Int.toNat (↑(i + (1 : Nat)) : Int)))) : Int)))), (.con .nilIface)])), (.d (.con (.int .i64 ((↑(i + (1 : Nat)) : Int) + (1 : Int))))), .any], [(((47014 : Nat)), [(.arr ⟨false, ((5 : Nat)), false⟩ ((1 : Nat)) (byteL (bytesOf (List.length (packL (List.take (i + (1 : Nat)) l))) (byteL (packL (List.take (i + (1 : Nat)) l))) ++ (Lib.itoa (↑(ByteArray.size (sAt l (Int.toNat (↑(i + (1 : Nat)) : Int)))) : Int) ++ [(58 : UInt8)] ++ Array.toList (ByteArray.data (sAt l (Int.toNat (↑(i + (1 : Nat)) : Int))))))))]), (((7 : Nat)), [(.box ((7 : Nat)) ((0 : Nat))), (.vec ((47014 : Nat)) ((1 : Nat)) ((0 : Nat)) (List.length (bytesOf (List.length (packL (List.take (i + (1 : Nat)) l))) (byteL (packL (List.take (i + (1 : Nat)) l))) ++ (Lib.itoa (↑(ByteArray.size (sAt l (Int.toNat (↑(i + (1 : Nat)) : Int)))) : Int) ++ [(58 : UInt8)] ++ Array.toList (ByteArray.data (sAt l (Int.toNat (↑(i + (1 : Nat)) : Int))))))))]), (((500 : Nat)), [.dead])]⟩)))) ∧
            (((decide ((↑(i + (1 : Nat)) : Int) < (↑(List.length l) : Int))) = false) →
            AWP Tryd.prog G [.code (cAt (bodyOf Tryd.f23) [1, 1, 1, 1, 1, 1])] ⟨[.any, .any, .any, .any, .any, .any, .any, (.tb ((7 : Nat)) ((0 : Nat)) ((59 : Nat))), .any, .any, .any, .any, .any, .any, .any, .any, .any, .any, .any, .any, .any, .any, .any, .any, .any, .any, .any, .any, .any, .any, .any, .any, .any, .any, (.d (.slc ((1 : Nat)) (List.length l) (fun i => DV.con (Value.string (sAt l i))))), (.d (.con (.int .i64 ((↑(List.length l) : Int))))), (.d (.con (.int .i64 ((↑(i + (1 : Nat)) : Int))))), (.d (.con (.bool (decide ((↑(i + (1 : Nat)) : Int) < (↑(List.length l) : Int)))))), .any, .any, .any, .any, .any, .any, .any, .any, .any, .any, .any], [(((7 : Nat)), [(.box ((7 : Nat)) ((0 : Nat))), (.vec ((500 : Nat)) ((1 : Nat)) ((0 : Nat)) (List.length (packL (List.take (i + (1 : Nat)) l))))]), (((500 : Nat)), [(.arr ⟨false, ((5 : Nat)), false⟩ ((1 : Nat)) (byteL (packL (List.take (i + (1 : Nat)) l))))])]⟩ (Ret Tryd.prog Tryd.f23 (DV.tup [ds (bs (packL l)), di (0 : Int)]))))) (by kernel_rfl) ?_
          simp only [Int.toNat_natCast, bytesOf_L]
          have hne : packL (l.take (i + 1)) ≠ [] := by
            rw [packL_take (by omega)]
            unfold fieldL
            intro e
            have := congrArg List.length e
            simp at this
          refine ⟨fun h => ?_, fun h => ?_⟩
          · have hi' : i + 1 < l.length := by simp at h; omega
            have h1 := hl.at hi'
            have h2 := itoa_len ((sAt l (i + 1)).size : Int) ⟨by omega, by omega⟩
            have h3 := hpl (i + 1) hi'
            have h4 := hfs (sAt l (i + 1))
            have h5 := hfs2 (sAt l (i + 1))
            refine ⟨⟨by omega, by omega⟩, ⟨f46' hT _ (by omega), by rw [bs_size]; omega, by omega, f31_used _ _ (by omega)⟩, ⟨by omega, by omega⟩, Again.mkR [(47014, 500)] rfl (i + 1 + 1) ?_ (by omega) (by omega)⟩
            refine of_eq (b :=
              (((((.tb ((7 : Nat)) ((0 : Nat)) ((59 : Nat))) : AV) = (.tb ((7 : Nat)) ((0 : Nat)) ((59 : Nat)))) ∧
              ((((.d (.slc ((1 : Nat)) (List.length l) (fun i => DV.con (Value.string (sAt l i))))) : AV) = (.d (.slc ((1 : Nat)) (List.length l) (fun i => DV.con (Value.string (sAt l i)))))) ∧
              ((((.d (.con (.int .i64 ((↑(List.length l) : Int))))) : AV) = (.d (.con (.int .i64 ((↑(List.length l) : Int)))))) ∧
              ((((.d (.con (.int .i64 ((↑(i + (1 : Nat)) : Int) + (1 : Int))))) : AV) = (.d (.con (.int .i64 ((↑(i + (1 : Nat) + (1 : Nat)) : Int)))))) ∧
              True)))) ∧
              ((((some [(.box ((7 : Nat)) ((0 : Nat))), (.vec ((500 : Nat)) ((1 : Nat)) ((0 : Nat)) (List.length (packL (List.take (i + (1 : Nat)) l) ++ (Lib.itoa (↑(ByteArray.size (sAt l (i + (1 : Nat)))) : Int) ++ [(58 : UInt8)] ++ Array.toList (ByteArray.data (sAt l (i + (1 : Nat))))))))]) : (Option (List AV))) = (some [(.box ((7 : Nat)) ((0 : Nat))), (.vec ((500 : Nat)) ((1 : Nat)) ((0 : Nat)) (List.length (packL (List.take (i + (1 : Nat) + (1 : Nat)) l))))])) ∧
              ((((some [(.arr ⟨false, ((5 : Nat)), false⟩ ((1 : Nat)) (byteL (packL (List.take (i + (1 : Nat)) l) ++ (Lib.itoa (↑(ByteArray.size (sAt l (i + (1 : Nat)))) : Int) ++ [(58 : UInt8)] ++ Array.toList (ByteArray.data (sAt l (i + (1 : Nat))))))))]) : (Option (List AV))) = (some [(.arr ⟨false, ((5 : Nat)), false⟩ ((1 : Nat)) (byteL (packL (List.take (i + (1 : Nat) + (1 : Nat)) l))))])) ∧
              True)))) (by kernel_rfl) ?_
            refine ⟨⟨rfl, rfl, rfl, rfl, trivial⟩, ?_, ?_, trivial⟩
            · rw [packL_take hi']; rfl
            · rw [packL_take hi']; rfl
          · have : i + 1 = l.length := by simp at h; omega
            rw [this, List.take_length] at hne ⊢
            refine walk (orc := orcPk) (keep := []) (cuts := []) (n := 1000) follows ?_
            refine of_eqH (b :=
              (FnM Tryd.prog G ((35 : Nat)) [(.tb ((1000000 : Nat)) ((0 : Nat)) ((59 : Nat)))] [(((1000000 : Nat)), [(.box ((1000000 : Nat)) ((0 : Nat))), (.vec ((1000001 : Nat)) ((1 : Nat)) ((0 : Nat)) (List.length (packL l)))]), (((1000001 : Nat)), [(.arr ⟨false, ((5 : Nat)), false⟩ ((1 : Nat)) (byteL (packL l)))])] (.d (.con (.string (bs (bytesOf (List.length (packL l)) (byteL (packL l))))))) [(((1000000 : Nat)), [(.box ((1000000 : Nat)) ((0 : Nat))), (.vec ((1000001 : Nat)) ((1 : Nat)) ((0 : Nat)) (List.length (packL l)))]), (((1000001 : Nat)), [(.arr ⟨false, ((5 : Nat)), true⟩ ((1 : Nat)) (byteL (packL l)))])] ∧
              (((.tup [(.con (.string (bs (bytesOf (List.length (packL l)) (byteL (packL l)))))), (.con (.int .i64 ((0 : Int))))]) : DV) = (.tup [(ds (bs (packL l))), (di (0 : Int))])))) (by kernel_rfl) ?_
            simp only [bytesOf_L]
            exact ⟨f35 _ _ hy false _ hne (by omega), trivial⟩
theorem f23 (hT : Tab G) (l : List ByteArray) (hl : Small l) : FnOK Tryd.prog G 23 [strL l] (.tup [ds (packS l), di (packE l)]) :=
  FnOK.args (f23s hT l hl) fun _ us h => DV.rels_cons (fun _ hv => strL_strs l hv) (fun _ h => h) us h
end Go.Proofs

set_option autoImplicit false
namespace Go.Proofs
open Go Go.Ab Go.RowKit
set_option maxHeartbeats 1000000
set_option maxRecDepth 100000
variable {G : IH}
def awS : List ByteArray := [bs [97, 98], bs [], bs [120, 58, 121]]
def orcAw : Oracle := fun f args => match f, args with
  | 23, [_] => some (.tup [ds (packS awS), di (packE awS)])
  | 17, [.con (.int .i64 g), .con (.string p)] => some (.tup [ds (encS g p), di (encE g p)])
  | _, _ => none
theorem f10 (hT : Tab G) : FnOK Tryd.prog G 10 [] (db true) := by
  refine FnOK.walk (orc := orcAw) (keep := []) follows Tryd.func10 rfl Tryd.call10 ?_
  refine of_eqH (b :=
    (FnOK Tryd.prog G ((23 : Nat)) [(.slc ((1 : Nat)) ((3 : Nat)) (elemF false ((1 : Nat)) [(.con (.string ({ data := #[(97 : UInt8), (98 : UInt8)] }))), (.con (.string ({ data := #[] }))), (.con (.string ({ data := #[(120 : UInt8), (58 : UInt8), (121 : UInt8)] })))]))] (.tup [(.con (.string (packS awS))), (.con (.int .i64 ((0 : Int))))]) ∧
    (FnOK Tryd.prog G ((17 : Nat)) [(.con (.int .i64 ((1 : Int)))), (.con (.string ({ data := #[(65 : UInt8)] })))] (.tup [(.con (.string (encS (1 : Int) { data := #[(65 : UInt8)] }))), (.con (.int .i64 ((0 : Int))))]) ∧
    ((((true = true) →
    (((0 : Int) ≤ (17 : Int)) ∧
    (((17 : Int) ≤ (43 : Int)) ∧
    ((43 : Int) ≤ (↑(ByteArray.size (encS (1 : Int) { data := #[(65 : UInt8)] })) : Int))))) ∧
    ((true = true) →
    (((0 : Int) ≤ (43 : Int)) ∧
    (((43 : Int) ≤ (↑(ByteArray.size (encS (1 : Int) { data := #[(65 : UInt8)] })) : Int)) ∧
    ((↑(ByteArray.size (encS (1 : Int) { data := #[(65 : UInt8)] })) : Int) ≤ (↑(ByteArray.size (encS (1 : Int) { data := #[(65 : UInt8)] })) : Int)))))) ∧
    (((.con (.bool true)) : DV) = (db true)))))) (by kernel_rfl) ?_
  have hsm : Small awS := ⟨by decide, by decide⟩
  have hsz : (encS (1 : Int) { data := #[65] }).size = 52 := by
    have : encS (1 : Int) { data := #[65] } = bs (encL 1 (bs [65])) := if_pos ⟨rfl, by decide⟩
    rw [this, bs_size, encL_len]; rfl
  rw [hsz]
  have h23 := f23 hT awS hsm
  rw [show packE awS = 0 by decide +kernel] at h23
  exact ⟨h23, f17' 1 _, ⟨fun _ => ⟨by omega, by omega, by omega⟩, fun _ => ⟨by omega, by omega, by omega⟩⟩, rfl⟩
/-! Strings -/
open Classical in
noncomputable def sEq (n : Nat) (f : Nat → DV) (m : Nat) (f' : Nat → DV) : Bool := decide (n = m ∧ ∀ i, i < n → f i = f' i)
open Classical in
theorem sEq_iff (n : Nat) (f : Nat → DV) (m : Nat) (f' : Nat → DV) : sEq n f m f' = true ↔ n = m ∧ ∀ i, i < n → f i = f' i := by
  unfold sEq; exact decide_eq_true_iff
theorem f13g (n m : Nat) (f f' : Nat → DV) (a b : Nat → ByteArray) (ha : ∀ i, i < n → f i = ds (a i)) (hb : ∀ i, i < m → f' i = ds (b i)) (hn : n < 1000000) : FnOK Tryd.prog G 13 [.slc 1 n f, .slc 1 m f'] (db (sEq n f m f')) := by
  have h := f13 (G := G) n m a b hn
  have e : decide (n = m ∧ ∀ i, i < n → a i = b i) = sEq n f m f' := by
    rw [Bool.eq_iff_iff, decide_eq_true_eq, sEq_iff]
    constructor
    · rintro ⟨rfl, h2⟩
      exact ⟨rfl, fun i hi => by rw [ha i hi, hb i hi, h2 i hi]⟩
    · rintro ⟨rfl, h2⟩
      refine ⟨rfl, fun i hi => ?_⟩
      have := h2 i hi
      rw [ha i hi, hb i hi] at this
      simpa using this
  rw [e] at h
  exact FnOK.args h fun k us hr => DV.rels_cons (fun v hv => DV.rel_slc_congr ha hv) (DV.rels_cons (fun v hv => DV.rel_slc_congr hb hv) fun _ h => h) us hr
theorem rowS_at {l : List ByteArray} {i : Nat} (h : i < l.length) : rowS l i = ds (sAt l i) := by
  rw [sAt_get h]
  simp [rowS, h]
theorem sEq_L (l m : List ByteArray) : sEq l.length (rowS l) m.length (rowS m) = true ↔ l = m := by
  rw [sEq_iff]
  constructor
  · rintro ⟨h1, h2⟩
    apply List.ext_getElem h1
    intro i hi hj
    have := h2 i hi
    rw [rowS_at hi, rowS_at hj, sAt_get hi, sAt_get hj] at this
    simpa using this
  · rintro rfl
    exact ⟨rfl, fun _ _ => rfl⟩
theorem f13L (l m : List ByteArray) (hn : l.length < 1000000) : FnOK Tryd.prog G 13 [strL l, strL m] (db (sEq l.length (rowS l) m.length (rowS m))) :=
  f13g _ _ _ _ (sAt l) (sAt m) (fun _ hi => rowS_at hi) (fun _ hi => rowS_at hi) hn
/-! the laws -/
noncomputable def orcLaw : Oracle := fun f args => match f, args with
  | 10, [] => some (db true)
  | 11, [.con (.string d), .con (.int .i64 g)] => some (.tup [strL (walkL g d), di (recLen (walkL g d))])
  | 12, [.con (.string d), .con (.int .i64 g)] => some (.tup [strL (walkL g d), di (recLen (walkL g d))])
  | 13, [.slc _ n f, .slc _ m f'] => some (db (sEq n f m f'))
  | 17, [.con (.int .i64 g), .con (.string p)] => some (.tup [ds (encS g p), di (encE g p)])
  | 18, [.con (.int .i64 g), .con (.string p)] => some (.tup [ds (encS g p), di (encE g p)])
  | 16, [.con (.string d), .con (.int .i64 a), .con (.int .i64 g)] => some (.tup [ds (deS d a g), di (deN d a g), di (deE d a g)])
  | 19, [.con (.string d), .con (.int .i64 a), .con (.int .i64 g)] => some (.tup [ds (deS d a g), di (deN d a g), di (deE d a g)])
  | 20, [.con (.string d)] => some (.tup [di (gnV d), db (gnB d)])
  | 21, [.con (.string d)] => some (.tup [di (gnV d), db (gnB d)])
  | _, _ => none
theorem walkF_len (g : Nat) : ∀ (f : Nat) (S : List UInt8), recLen (walkF g f S) ≤ S.length ∧ 50 * (walkF g f S).length ≤ S.length
  | 0, S => by simp [walkF, recLen]
  | f + 1, S => by
    cases h : decSpec g S with
    | none => rw [walkF_stop h]; simp [recLen]
    | some p =>
      rw [walkF_step h]
      have h1 := (read_enc (decSpec_eq h).2).1
      have h2 := walkF_len g f (S.drop (50 + 2 * p.size))
      rw [List.length_drop] at h2
      simp only [recLen, List.length_cons]
      omega
theorem walkL_len (g : Int) (d : ByteArray) : (walkL g d).length ≤ d.size := by
  unfold walkL
  split
  · have := (walkF_len g.toNat (d.size + 1) d.data.toList).2
    have hl : d.data.toList.length = d.size := Array.length_toList
    omega
  · simp
theorem f3 (hT : Tab G) (d : ByteArray) (g : Int) : FnOK Tryd.prog G 3 [ds d, di g] (db true) := by
  refine FnOK.walk (orc := orcLaw) (keep := []) follows Tryd.func3 rfl Tryd.call3 ?_
  refine of_eqH (b :=
    (FnOK Tryd.prog G ((10 : Nat)) [] (.con (.bool true)) ∧
    (((false = true) →
    (((.con (.bool false)) : DV) = (db true))) ∧
    ((false = false) →
    ((((decide ((↑(ByteArray.size d) : Int) > (800 : Int))) = true) →
    (((.con (.bool true)) : DV) = (db true))) ∧
    (((decide ((↑(ByteArray.size d) : Int) > (800 : Int))) = false) →
    (FnOK Tryd.prog G ((11 : Nat)) [(.con (.string d)), (.con (.int .i64 g))] (.tup [(.slc ((1 : Nat)) (List.length (walkL g d)) (rowS (walkL g d))), (.con (.int .i64 ((↑(recLen (walkL g d)) : Int))))]) ∧
    (FnOK Tryd.prog G ((12 : Nat)) [(.con (.string d)), (.con (.int .i64 g))] (.tup [(.slc ((1 : Nat)) (List.length (walkL g d)) (rowS (walkL g d))), (.con (.int .i64 ((↑(recLen (walkL g d)) : Int))))]) ∧
    (FnOK Tryd.prog G ((13 : Nat)) [(.slc ((1 : Nat)) (List.length (walkL g d)) (rowS (walkL g d))), (.slc ((1 : Nat)) (List.length (walkL g d)) (rowS (walkL g d)))] (.con (.bool (sEq (List.length (walkL g d)) (rowS (walkL g d)) (List.length (walkL g d)) (rowS (walkL g d))))) ∧
    (((.con (.bool (sEq (List.length (walkL g d)) (rowS (walkL g d)) (List.length (walkL g d)) (rowS (walkL g d)) && (↑(recLen (walkL g d)) : Int) == (↑(recLen (walkL g d)) : Int)))) : DV) = (db true))))))))))) (by kernel_rfl) ?_
  refine ⟨f10 hT, fun h => by simp at h, fun _ => ⟨fun _ => rfl, fun h => ?_⟩⟩
  have h : d.size ≤ 800 := by simp at h; omega
  have hl := walkL_len g d
  refine ⟨f11 d g (by omega), f12 d g (by omega), f13L _ _ (by omega), ?_⟩
  rw [(sEq_L _ _).2 rfl]
  simp
theorem f6 (hT : Tab G) (g : Int) (p d : ByteArray) (a : Int) : FnOK Tryd.prog G 6 [di g, ds p, ds d, di a] (db true) := by
  refine FnOK.walk (orc := orcLaw) (keep := []) follows Tryd.func6 rfl Tryd.call6 ?_
  refine of_eqH (b :=
    (FnOK Tryd.prog G ((10 : Nat)) [] (.con (.bool true)) ∧
    (((false = true) →
    (((.con (.bool false)) : DV) = (db true))) ∧
    ((false = false) →
    ((((decide ((↑(ByteArray.size p) : Int) > (100 : Int)) || decide ((↑(ByteArray.size d) : Int) > (600 : Int))) = true) →
    (((.con (.bool true)) : DV) = (db true))) ∧
    (((decide ((↑(ByteArray.size p) : Int) > (100 : Int)) || decide ((↑(ByteArray.size d) : Int) > (600 : Int))) = false) →
    (FnOK Tryd.prog G ((17 : Nat)) [(.con (.int .i64 g)), (.con (.string p))] (.tup [(.con (.string (encS g p))), (.con (.int .i64 (encE g p)))]) ∧
    (FnOK Tryd.prog G ((18 : Nat)) [(.con (.int .i64 g)), (.con (.string p))] (.tup [(.con (.string (encS g p))), (.con (.int .i64 (encE g p)))]) ∧
    (FnOK Tryd.prog G ((16 : Nat)) [(.con (.string d)), (.con (.int .i64 a)), (.con (.int .i64 g))] (.tup [(.con (.string (deS d a g))), (.con (.int .i64 (deN d a g))), (.con (.int .i64 (deE d a g)))]) ∧
    (FnOK Tryd.prog G ((19 : Nat)) [(.con (.string d)), (.con (.int .i64 a)), (.con (.int .i64 g))] (.tup [(.con (.string (deS d a g))), (.con (.int .i64 (deN d a g))), (.con (.int .i64 (deE d a g)))]) ∧
    (FnOK Tryd.prog G ((20 : Nat)) [(.con (.string d))] (.tup [(.con (.int .i64 (gnV d))), (.con (.bool (gnB d)))]) ∧
    (FnOK Tryd.prog G ((21 : Nat)) [(.con (.string d))] (.tup [(.con (.int .i64 (gnV d))), (.con (.bool (gnB d)))]) ∧
    (((.con (.bool (ByteArray.toList (encS g p) == ByteArray.toList (encS g p) && encE g p == encE g p && ByteArray.toList (deS d a g) == ByteArray.toList (deS d a g) && deN d a g == deN d a g && deE d a g == deE d a g && gnV d == gnV d && gnB d == gnB d))) : DV) = (db true)))))))))))))) (by kernel_rfl) ?_
  refine ⟨f10 hT, fun h => by simp at h, fun _ => ⟨fun _ => rfl, fun h => ?_⟩⟩
  have h : d.size ≤ 600 := by simp at h; omega
  exact ⟨f17' g p, f18' g p, f16' d a g (by omega), f19' d a g (by omega), f20' d (by omega), f21' d (by omega), by simp⟩
end Go.Proofs
