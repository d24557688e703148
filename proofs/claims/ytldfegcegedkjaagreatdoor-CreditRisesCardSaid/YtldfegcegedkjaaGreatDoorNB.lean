import Derived.Test.YtldfegcegedkjaaGreatDoorAcC
import Derived.Test.YtldfegcegedkjaaGreatDoorNA
set_option autoImplicit false
namespace Go.Proofs
open Go Go.Ab Go.RowKit
set_option maxHeartbeats 1000000
set_option maxRecDepth 100000
variable {G : IH}
/-- The expression that is a name. -/
abbrev eN (s : ByteArray) : DV := .agg [di 2, ds s, di 0, di 0, di 0, .con (.slice none 0 0)]
def orcE : Oracle := fun f a => match f, a with
  | 92, [_] => some (di 1)
  | 93, [.agg [_, .con (.string s), _, _, _, _]] => some (db (nameB s))
  | 94, [.agg [_, .con (.string s), _, _, _, _]] => some (ds s)
  | 74, [.agg [_, .con (.string s), _, _, _, _]] => some (ds (if nameB s then s else .empty))
  | 105, [.con (.string s)] => some (db (nameB s))
  | 113, [.con (.string s)] => some (db (nameB s))
  | 112, [_] => some (di 8)
  | 98, [.agg [_, .con (.string s), _, _, _, _]] => some (db (nameB s))
  | 99, [_] => some (di 1)
  | 100, [.agg [_, .con (.string s), _, _, _, _]] => some (ds s)
  | 80, [.agg [_, .con (.string s), _, _, _, _]] => some (db (nameB s))
  | _, _ => none
theorem name_size {s : ByteArray} (h : nameB s = true) : 1 ≤ s.size ∧ s.size ≤ 16 := by
  unfold nameB at h
  simp only [Bool.and_eq_true, decide_eq_true_eq] at h
  exact ⟨h.1, h.2.1⟩
theorem f92 (s : ByteArray) : FnOK Tryz.prog G 92 [eN s] (di 1) := by
  refine FnOK.walk (orc := orcE) (keep := []) follows Tryz.func92 rfl Tryz.call92 ?_
  refine of_eqH (b :=
    AWP Tryz.prog G [.code (cAt (bodyOf Tryz.f92) [1, 1, 0, 1, 0]), (.blk ((0 : Nat))), .code (cAt (bodyOf Tryz.f92) [1, 1, 1])] ⟨[(.d (.agg [(.con (.int .i64 ((2 : Int)))), (.con (.string s)), (.con (.int .i64 ((0 : Int)))), (.con (.int .i64 ((0 : Int)))), (.con (.int .i64 ((0 : Int)))), (.con (.slice none ((0 : Nat)) ((0 : Nat))))])), (.box ((1 : Nat)) ((0 : Nat))), (.d (.con (.int .i64 ((0 : Int))))), (.d (.con (.int .i64 ((0 : Int))))), .any, .any, (.box ((1 : Nat)) ((5 : Nat))), (.d (.con (.slice none ((0 : Nat)) ((0 : Nat))))), (.d (.con (.int .i64 ((0 : Int))))), (.d (.con (.int .i64 ((0 : Int))))), .any, .any, .any, .any, .any, .any, .any, .any, .any, .any], [(((1 : Nat)), [(.d (.con (.int .i64 ((2 : Int))))), (.d (.con (.string s))), (.d (.con (.int .i64 ((0 : Int))))), (.d (.con (.int .i64 ((0 : Int))))), (.d (.con (.int .i64 ((0 : Int))))), (.d (.con (.slice none ((0 : Nat)) ((0 : Nat)))))])]⟩ (Ret Tryz.prog Tryz.f92 (di (1 : Int)))) (by kernel_rfl) ?_
  refine AWP.loop (c := cAt (bodyOf Tryz.f92) [1, 1, 0, 1, 0, 0]) (by kernel_rfl) (fun _ : Unit => ⟨regs Tryz.f92.ntmps [(3, vi 0), (8, vi 0), (9, vi 0)], []⟩) (fun _ => True) (fun _ => 0) () ?_ trivial ?_
  · refine of_eq (b :=
    (((((.d (.con (.int .i64 ((0 : Int))))) : AV) = (.d (.con (.int .i64 ((0 : Int)))))) ∧
    ((((.d (.con (.int .i64 ((0 : Int))))) : AV) = (.d (.con (.int .i64 ((0 : Int)))))) ∧
    ((((.d (.con (.int .i64 ((0 : Int))))) : AV) = (.d (.con (.int .i64 ((0 : Int)))))) ∧
    True))) ∧
    True)) (by kernel_rfl) ?_
    exact ⟨⟨rfl, rfl, rfl, trivial⟩, trivial⟩
  · rintro _ _
    refine walk (orc := orcE) (keep := []) (cuts := []) (n := 1000) follows ?_
    refine of_eqH (b :=
      (((false = true) →
      False) ∧
      ((false = false) →
      AWP Tryz.prog G [.code (cAt (bodyOf Tryz.f92) [1, 1, 1])] ⟨[.any, .any, .any, (.d (.con (.int .i64 ((0 : Int))))), .any, .any, .any, .any, (.d (.con (.int .i64 ((0 : Int))))), (.d (.con (.int .i64 ((0 : Int))))), (.d (.con (.bool false))), .any, .any, .any, .any, .any, .any, .any, .any, .any], []⟩ (Ret Tryz.prog Tryz.f92 (di (1 : Int)))))) (by kernel_rfl) ?_
    simp only [Bool.false_eq_true, Bool.true_eq_false, false_implies, true_implies, true_and, and_true, forall_const]
    refine walk (orc := orcE) (keep := []) (cuts := []) (n := 1000) follows ?_
    refine of_eqH (b :=
      ((I64 ((0 : Int) + (1 : Int))) ∧
      (((.con (.int .i64 ((1 : Int)))) : DV) = (di (1 : Int))))) (by kernel_rfl) ?_
    exact ⟨⟨by omega, by omega⟩, rfl⟩
theorem f93 (s : ByteArray) (hs : s.size ≤ 1000000) : FnOK Tryz.prog G 93 [eN s] (db (nameB s)) := by
  refine FnOK.walk (orc := orcE) (keep := []) follows Tryz.func93 rfl Tryz.call93 ?_
  refine of_eqH (b :=
    (((false = true) →
    False) ∧
    ((false = false) →
    (((true = true) →
    (FnOK Tryz.prog G ((105 : Nat)) [(.con (.string s))] (.con (.bool (nameB s))) ∧
    (((.con (.bool (nameB s && true && (↑(0 : Nat) : Int) == (0 : Int)))) : DV) = (db (nameB s))))) ∧
    ((true = false) →
    (((false = true) →
    (((false = true) →
    False) ∧
    ((false = false) →
    (((false = true) →
    (((false = true) →
    False) ∧
    ((false = false) →
    (((false = true) →
    (((false = true) →
    False) ∧
    ((false = false) →
    False))) ∧
    ((false = false) →
    (((false = true) →
    False) ∧
    ((false = false) →
    False))))))) ∧
    ((false = false) →
    (((false = true) →
    False) ∧
    ((false = false) →
    (((false = true) →
    (((false = true) →
    False) ∧
    ((false = false) →
    False))) ∧
    ((false = false) →
    (((false = true) →
    False) ∧
    ((false = false) →
    False))))))))))) ∧
    ((false = false) →
    (((false = true) →
    False) ∧
    ((false = false) →
    (((false = true) →
    (((false = true) →
    False) ∧
    ((false = false) →
    (((false = true) →
    (((false = true) →
    False) ∧
    ((false = false) →
    False))) ∧
    ((false = false) →
    (((false = true) →
    False) ∧
    ((false = false) →
    False))))))) ∧
    ((false = false) →
    (((false = true) →
    False) ∧
    ((false = false) →
    (((false = true) →
    (((false = true) →
    False) ∧
    ((false = false) →
    False))) ∧
    ((false = false) →
    (((false = true) →
    False) ∧
    ((false = false) →
    False))))))))))))))))) (by kernel_rfl) ?_
  simp only [Bool.false_eq_true, Bool.true_eq_false, false_implies, true_implies, true_and, and_true, forall_const]
  refine ⟨f105 s hs, ?_⟩
  simp
theorem f94 (s : ByteArray) : FnOK Tryz.prog G 94 [eN s] (ds s) := by
  refine FnOK.walk (orc := orcE) (keep := []) follows Tryz.func94 rfl Tryz.call94 ?_
  refine of_eqH (b :=
    (((false = true) →
    False) ∧
    ((false = false) →
    (((true = true) →
    (((.con (.string s)) : DV) = (ds s))) ∧
    ((true = false) →
    (((false = true) →
    (((.con (.string ({ data := #[(116 : UInt8), (114 : UInt8), (117 : UInt8), (101 : UInt8)] }))) : DV) = (ds s))) ∧
    ((false = false) →
    (((false = true) →
    (((.con (.string ({ data := #[(102 : UInt8), (97 : UInt8), (108 : UInt8), (115 : UInt8), (101 : UInt8)] }))) : DV) = (ds s))) ∧
    ((false = false) →
    (((false = true) →
    False) ∧
    ((false = false) →
    (((false = true) →
    False) ∧
    ((false = false) →
    (((false = true) →
    (((false = true) →
    AWP Tryz.prog G [.code (cAt (bodyOf Tryz.f94) [1, 0, 1, 0, 1, 1, 1, 1, 1, 1, 1, 1, 1, 1, 1, 1, 1, 0, 1, 0, 1, 0]), (.blk ((1 : Nat))), .code (cAt (bodyOf Tryz.f94) [1, 0, 1, 0, 1, 1, 1, 1, 1, 1, 1, 1, 1, 1, 1, 1, 1, 0, 1, 1]), (.blk ((0 : Nat))), .code (cAt (bodyOf Tryz.f94) [1, 1])] ⟨[(.d (.agg [(.con (.int .i64 ((2 : Int)))), (.con (.string s)), (.con (.int .i64 ((0 : Int)))), (.con (.int .i64 ((0 : Int)))), (.con (.int .i64 ((0 : Int)))), (.con (.slice none ((0 : Nat)) ((0 : Nat))))])), (.box ((1 : Nat)) ((0 : Nat))), (.d (.con (.string ({ data := #[] })))), .any, .any, (.d (.con (.slice none ((0 : Nat)) ((0 : Nat))))), .any, .any, .any, .any, (.box ((1 : Nat)) ((0 : Nat))), (.d (.con (.int .i64 ((2 : Int))))), (.d (.con (.bool false))), (.d (.con (.bool false))), .any, .any, .any, .any, .any, .any, .any, (.d (.con (.bool true))), (.d (.con (.bool true))), .any, .any, (.d (.con (.bool false))), (.d (.con (.bool false))), (.d (.con (.bool false))), (.d (.con (.bool false))), (.d (.con (.bool false))), (.d (.con (.bool false))), .any, .any, .any, .any, .any, .any, (.d (.con (.bool false))), (.d (.con (.bool false))), .any, .any, .any, .any, .any, .any, (.d (.con (.bool false))), (.d (.con (.bool false))), .any, (.box ((1 : Nat)) ((5 : Nat))), (.d (.con (.slice none ((0 : Nat)) ((0 : Nat))))), (.d (.con (.int .i64 ((0 : Int))))), (.d (.con (.int .i64 ((0 : Int))))), .any, .any, .any, .any, .any, .any, .any, .any, .any, .any, .any, .any, .any, .any, .any, .any, .any, .any, .any, .any, .any, .any, .any, .any, .any, .any, .any, .any, .any, .any, .any, .any, .any, .any, .any, .any, .any, .any, .any, .any, .any, .any, .any, .any, .any, .any, .any, .any], [(((1 : Nat)), [(.d (.con (.int .i64 ((2 : Int))))), (.d (.con (.string s))), (.d (.con (.int .i64 ((0 : Int))))), (.d (.con (.int .i64 ((0 : Int))))), (.d (.con (.int .i64 ((0 : Int))))), (.d (.con (.slice none ((0 : Nat)) ((0 : Nat)))))])]⟩ (Ret Tryz.prog Tryz.f94 (ds s))) ∧
    ((false = false) →
    False))) ∧
    ((false = false) →
    (((false = true) →
    AWP Tryz.prog G [.code (cAt (bodyOf Tryz.f94) [1, 0, 1, 0, 1, 1, 1, 1, 1, 1, 1, 1, 1, 1, 1, 1, 1, 0, 1, 0, 1, 0]), (.blk ((1 : Nat))), .code (cAt (bodyOf Tryz.f94) [1, 0, 1, 0, 1, 1, 1, 1, 1, 1, 1, 1, 1, 1, 1, 1, 1, 0, 1, 1]), (.blk ((0 : Nat))), .code (cAt (bodyOf Tryz.f94) [1, 1])] ⟨[(.d (.agg [(.con (.int .i64 ((2 : Int)))), (.con (.string s)), (.con (.int .i64 ((0 : Int)))), (.con (.int .i64 ((0 : Int)))), (.con (.int .i64 ((0 : Int)))), (.con (.slice none ((0 : Nat)) ((0 : Nat))))])), (.box ((1 : Nat)) ((0 : Nat))), (.d (.con (.string ({ data := #[] })))), .any, .any, (.d (.con (.slice none ((0 : Nat)) ((0 : Nat))))), .any, .any, .any, .any, (.box ((1 : Nat)) ((0 : Nat))), (.d (.con (.int .i64 ((2 : Int))))), (.d (.con (.bool false))), (.d (.con (.bool false))), .any, .any, .any, .any, .any, .any, .any, (.d (.con (.bool true))), (.d (.con (.bool true))), .any, .any, (.d (.con (.bool false))), (.d (.con (.bool false))), (.d (.con (.bool false))), (.d (.con (.bool false))), (.d (.con (.bool false))), (.d (.con (.bool false))), .any, .any, .any, .any, .any, .any, (.d (.con (.bool false))), (.d (.con (.bool false))), .any, .any, .any, .any, .any, .any, (.d (.con (.bool false))), (.d (.con (.bool false))), (.d (.con (.bool false))), (.box ((1 : Nat)) ((5 : Nat))), (.d (.con (.slice none ((0 : Nat)) ((0 : Nat))))), (.d (.con (.int .i64 ((0 : Int))))), (.d (.con (.int .i64 ((0 : Int))))), .any, .any, .any, .any, .any, .any, .any, .any, .any, .any, .any, .any, .any, .any, .any, .any, .any, .any, .any, .any, .any, .any, .any, .any, .any, .any, .any, .any, .any, .any, .any, .any, .any, .any, .any, .any, .any, .any, .any, .any, .any, .any, .any, .any, .any, .any, .any, .any], [(((1 : Nat)), [(.d (.con (.int .i64 ((2 : Int))))), (.d (.con (.string s))), (.d (.con (.int .i64 ((0 : Int))))), (.d (.con (.int .i64 ((0 : Int))))), (.d (.con (.int .i64 ((0 : Int))))), (.d (.con (.slice none ((0 : Nat)) ((0 : Nat)))))])]⟩ (Ret Tryz.prog Tryz.f94 (ds s))) ∧
    ((false = false) →
    False))))))))))))))))) (by kernel_rfl) ?_
  simp
theorem f74 (s : ByteArray) (hs : s.size ≤ 1000000) : FnOK Tryz.prog G 74 [eN s] (ds (if nameB s then s else .empty)) := by
  refine FnOK.walk (orc := orcE) (keep := []) follows Tryz.func74 rfl Tryz.call74 ?_
  refine of_eqH (b :=
    ((FnOK Tryz.prog G ((92 : Nat)) [(.agg [(.con (.int .i64 ((2 : Int)))), (.con (.string s)), (.con (.int .i64 ((0 : Int)))), (.con (.int .i64 ((0 : Int)))), (.con (.int .i64 ((0 : Int)))), (.con (.slice none ((0 : Nat)) ((0 : Nat))))])] (.con (.int .i64 ((1 : Int)))) ∧
    ((true = true) →
    FnOK Tryz.prog G ((93 : Nat)) [(.agg [(.con (.int .i64 ((2 : Int)))), (.con (.string s)), (.con (.int .i64 ((0 : Int)))), (.con (.int .i64 ((0 : Int)))), (.con (.int .i64 ((0 : Int)))), (.con (.slice none ((0 : Nat)) ((0 : Nat))))])] (.con (.bool (nameB s))))) ∧
    ((((decide ((1 : Int) > (32 : Int)) || !nameB s) = true) →
    (((.con (.string ({ data := #[] }))) : DV) = (ds (if nameB s = true then s else ByteArray.empty)))) ∧
    (((decide ((1 : Int) > (32 : Int)) || !nameB s) = false) →
    (FnOK Tryz.prog G ((94 : Nat)) [(.agg [(.con (.int .i64 ((2 : Int)))), (.con (.string s)), (.con (.int .i64 ((0 : Int)))), (.con (.int .i64 ((0 : Int)))), (.con (.int .i64 ((0 : Int)))), (.con (.slice none ((0 : Nat)) ((0 : Nat))))])] (.con (.string s)) ∧
    ((((decide ((↑(ByteArray.size s) : Int) > (16384 : Int))) = true) →
    (((.con (.string ({ data := #[] }))) : DV) = (ds (if nameB s = true then s else ByteArray.empty)))) ∧
    (((decide ((↑(ByteArray.size s) : Int) > (16384 : Int))) = false) →
    (((.con (.string s)) : DV) = (ds (if nameB s = true then s else ByteArray.empty)))))))))) (by kernel_rfl) ?_
  refine ⟨⟨f92 s, fun _ => f93 s hs⟩, fun h => ?_, fun h => ⟨f94 s, fun h2 => ?_, fun h2 => ?_⟩⟩
  · cases hn : nameB s with
    | true => rw [hn] at h; simp at h
    | false => rfl
  · exfalso
    have hn : nameB s = true := by
      cases hn : nameB s with
      | true => rfl
      | false => rw [hn] at h; simp at h
    have := name_size hn
    simp only [decide_eq_true_eq] at h2
    omega
  · have hn : nameB s = true := by
      cases hn : nameB s with
      | true => rfl
      | false => rw [hn] at h; simp at h
    rw [hn]; rfl
theorem f42 (s : ByteArray) (hs : s.size ≤ 1000000) : FnOK Tryz.prog G 42 [ds s] (db (nameB s)) := by
  refine FnOK.walk (orc := orcE) (keep := []) follows Tryz.func42 rfl Tryz.call42 ?_
  refine of_eqH (b :=
    (FnOK Tryz.prog G ((74 : Nat)) [(.agg [(.con (.int .i64 ((2 : Int)))), (.con (.string s)), (.con (.int .i64 ((0 : Int)))), (.con (.int .i64 ((0 : Int)))), (.con (.int .i64 ((0 : Int)))), (.con (.slice none ((0 : Nat)) ((0 : Nat))))])] (.con (.string (if nameB s = true then s else ByteArray.empty))) ∧
    (((.con (.bool (!ByteArray.toList (if nameB s = true then s else ByteArray.empty) == ByteArray.toList { data := #[] }))) : DV) = (db (nameB s))))) (by kernel_rfl) ?_
  refine ⟨f74 s hs, ?_⟩
  cases hn : nameB s with
  | true =>
    have := name_size hn
    simp only [if_true, emp_beq]
    rw [decide_eq_false (by omega)]; rfl
  | false =>
    rw [if_neg (by simp), emp_beq]; rfl
theorem FnOK.res {P : Program} {f : FuncId} {xs : List DV} {r r' : DV} (h : FnOK P G f xs r) (hr : ∀ k v, r.rel k v → r'.rel k v) : FnOK P G f xs r' :=
  ⟨h.1, fun w k us hG hw hu => (h.2 w k us hG hw hu).mono fun _ _ ⟨v, h', e, hv, rest⟩ => ⟨v, h', e, hr h' v hv, rest⟩⟩
def opK (i : Int) : List Int := if i = 1 then [20] else if i = 2 then [19] else if i = 4 then [12, 13, 14, 15, 16, 17] else if i = 5 then [6, 7] else if i = 6 then [8, 9] else []
def inF (l : List Int) (i : Nat) : DV := di (l.getD i 0)
def anyD : DV := .prd fun _ _ => True
theorem op_res {f : FuncId} {xs : List DV} {n m : Nat} {a b g : Nat → DV} (h : FnOK Tryz.prog G f xs (.tup [.slc 1 n a, .slc 1 m b])) (hg : ∀ j, j < m → b j = g j) : FnOK Tryz.prog G f xs (.tup [anyD, .slc 1 m g]) := by
  refine FnOK.res h fun k v hv => ?_
  obtain ⟨vs, rfl, v1, vs1, rfl, h1, v2, vs2, rfl, h2, h3⟩ := hv
  refine ⟨_, rfl, v1, _, rfl, ?_, v2, _, rfl, DV.rel_slc_congr hg h2, h3⟩
  obtain ⟨p, cap, e, _⟩ := h1
  subst e
  exact ⟨rfl, k, IH.le.refl k, trivial⟩
theorem op_nil {f : FuncId} {xs : List DV} {g : Nat → DV} (h : FnOK Tryz.prog G f xs (.tup [.con (.slice none 0 0), .con (.slice none 0 0)])) : FnOK Tryz.prog G f xs (.tup [anyD, .slc 1 0 g]) := by
  refine FnOK.res h fun k v hv => ?_
  obtain ⟨vs, rfl, v1, vs1, rfl, h1, v2, vs2, rfl, h2, h3⟩ := hv
  have h1 : v1 = _ := h1
  have h2 : v2 = _ := h2
  subst h1; subst h2
  exact ⟨_, rfl, _, _, rfl, ⟨rfl, k, IH.le.refl k, trivial⟩, _, _, rfl, ⟨none, 0, rfl, Nat.le_refl _, .inl rfl⟩, h3⟩
theorem f116 (i : Int) (h1 : 1 ≤ i) (h6 : i ≤ 6) : FnOK Tryz.prog G 116 [di i] (.tup [anyD, .slc 1 (opK i).length (inF (opK i))]) := by
  have hc : i = 1 ∨ i = 2 ∨ i = 3 ∨ i = 4 ∨ i = 5 ∨ i = 6 := by omega
  rcases hc with rfl | rfl | rfl | rfl | rfl | rfl
  · refine op_res (n := 1) (m := 1) (a := elemF false 1 [ds ⟨#[111, 114]⟩]) (b := elemF false 1 [di 20]) (FnOK.walk (orc := orcE) (keep := []) follows Tryz.func116 rfl Tryz.call116 ?_) ?_
    · refine of_eqH (b :=
      (((true = true) →
      (((.tup [(.slc ((1 : Nat)) ((1 : Nat)) (elemF false ((1 : Nat)) [(.con (.string ({ data := #[(111 : UInt8), (114 : UInt8)] })))])), (.slc ((1 : Nat)) ((1 : Nat)) (elemF false ((1 : Nat)) [(.con (.int .i64 ((20 : Int))))]))]) : DV) = (.tup [(.slc ((1 : Nat)) ((1 : Nat)) (elemF false ((1 : Nat)) [(ds { data := #[(111 : UInt8), (114 : UInt8)] })])), (.slc ((1 : Nat)) ((1 : Nat)) (elemF false ((1 : Nat)) [(di (20 : Int))]))]))) ∧
      ((true = false) →
      (((false = true) →
      (((.tup [(.slc ((1 : Nat)) ((1 : Nat)) (elemF false ((1 : Nat)) [(.con (.string ({ data := #[(97 : UInt8), (110 : UInt8), (100 : UInt8)] })))])), (.slc ((1 : Nat)) ((1 : Nat)) (elemF false ((1 : Nat)) [(.con (.int .i64 ((19 : Int))))]))]) : DV) = (.tup [(.slc ((1 : Nat)) ((1 : Nat)) (elemF false ((1 : Nat)) [(ds { data := #[(111 : UInt8), (114 : UInt8)] })])), (.slc ((1 : Nat)) ((1 : Nat)) (elemF false ((1 : Nat)) [(di (20 : Int))]))]))) ∧
      ((false = false) →
      (((false = true) →
      (((.tup [(.slc ((1 : Nat)) ((6 : Nat)) (elemF false ((1 : Nat)) [(.con (.string ({ data := #[(61 : UInt8), (61 : UInt8)] }))), (.con (.string ({ data := #[(33 : UInt8), (61 : UInt8)] }))), (.con (.string ({ data := #[(60 : UInt8)] }))), (.con (.string ({ data := #[(60 : UInt8), (61 : UInt8)] }))), (.con (.string ({ data := #[(62 : UInt8)] }))), (.con (.string ({ data := #[(62 : UInt8), (61 : UInt8)] })))])), (.slc ((1 : Nat)) ((6 : Nat)) (elemF false ((1 : Nat)) [(.con (.int .i64 ((12 : Int)))), (.con (.int .i64 ((13 : Int)))), (.con (.int .i64 ((14 : Int)))), (.con (.int .i64 ((15 : Int)))), (.con (.int .i64 ((16 : Int)))), (.con (.int .i64 ((17 : Int))))]))]) : DV) = (.tup [(.slc ((1 : Nat)) ((1 : Nat)) (elemF false ((1 : Nat)) [(ds { data := #[(111 : UInt8), (114 : UInt8)] })])), (.slc ((1 : Nat)) ((1 : Nat)) (elemF false ((1 : Nat)) [(di (20 : Int))]))]))) ∧
      ((false = false) →
      (((false = true) →
      (((.tup [(.slc ((1 : Nat)) ((2 : Nat)) (elemF false ((1 : Nat)) [(.con (.string ({ data := #[(43 : UInt8)] }))), (.con (.string ({ data := #[(45 : UInt8)] })))])), (.slc ((1 : Nat)) ((2 : Nat)) (elemF false ((1 : Nat)) [(.con (.int .i64 ((6 : Int)))), (.con (.int .i64 ((7 : Int))))]))]) : DV) = (.tup [(.slc ((1 : Nat)) ((1 : Nat)) (elemF false ((1 : Nat)) [(ds { data := #[(111 : UInt8), (114 : UInt8)] })])), (.slc ((1 : Nat)) ((1 : Nat)) (elemF false ((1 : Nat)) [(di (20 : Int))]))]))) ∧
      ((false = false) →
      (((false = true) →
      (((.tup [(.slc ((1 : Nat)) ((2 : Nat)) (elemF false ((1 : Nat)) [(.con (.string ({ data := #[(42 : UInt8)] }))), (.con (.string ({ data := #[(47 : UInt8)] })))])), (.slc ((1 : Nat)) ((2 : Nat)) (elemF false ((1 : Nat)) [(.con (.int .i64 ((8 : Int)))), (.con (.int .i64 ((9 : Int))))]))]) : DV) = (.tup [(.slc ((1 : Nat)) ((1 : Nat)) (elemF false ((1 : Nat)) [(ds { data := #[(111 : UInt8), (114 : UInt8)] })])), (.slc ((1 : Nat)) ((1 : Nat)) (elemF false ((1 : Nat)) [(di (20 : Int))]))]))) ∧
      ((false = false) →
      (((.tup [(.con (.slice none ((0 : Nat)) ((0 : Nat)))), (.con (.slice none ((0 : Nat)) ((0 : Nat))))]) : DV) = (.tup [(.slc ((1 : Nat)) ((1 : Nat)) (elemF false ((1 : Nat)) [(ds { data := #[(111 : UInt8), (114 : UInt8)] })])), (.slc ((1 : Nat)) ((1 : Nat)) (elemF false ((1 : Nat)) [(di (20 : Int))]))]))))))))))))) (by kernel_rfl) ?_
      simp
    · intro j hj
      match j, hj with
      | 0, _ => rfl
  · refine op_res (n := 1) (m := 1) (a := elemF false 1 [ds ⟨#[97, 110, 100]⟩]) (b := elemF false 1 [di 19]) (FnOK.walk (orc := orcE) (keep := []) follows Tryz.func116 rfl Tryz.call116 ?_) ?_
    · refine of_eqH (b :=
      (((false = true) →
      (((.tup [(.slc ((1 : Nat)) ((1 : Nat)) (elemF false ((1 : Nat)) [(.con (.string ({ data := #[(111 : UInt8), (114 : UInt8)] })))])), (.slc ((1 : Nat)) ((1 : Nat)) (elemF false ((1 : Nat)) [(.con (.int .i64 ((20 : Int))))]))]) : DV) = (.tup [(.slc ((1 : Nat)) ((1 : Nat)) (elemF false ((1 : Nat)) [(ds { data := #[(97 : UInt8), (110 : UInt8), (100 : UInt8)] })])), (.slc ((1 : Nat)) ((1 : Nat)) (elemF false ((1 : Nat)) [(di (19 : Int))]))]))) ∧
      ((false = false) →
      (((true = true) →
      (((.tup [(.slc ((1 : Nat)) ((1 : Nat)) (elemF false ((1 : Nat)) [(.con (.string ({ data := #[(97 : UInt8), (110 : UInt8), (100 : UInt8)] })))])), (.slc ((1 : Nat)) ((1 : Nat)) (elemF false ((1 : Nat)) [(.con (.int .i64 ((19 : Int))))]))]) : DV) = (.tup [(.slc ((1 : Nat)) ((1 : Nat)) (elemF false ((1 : Nat)) [(ds { data := #[(97 : UInt8), (110 : UInt8), (100 : UInt8)] })])), (.slc ((1 : Nat)) ((1 : Nat)) (elemF false ((1 : Nat)) [(di (19 : Int))]))]))) ∧
      ((true = false) →
      (((false = true) →
      (((.tup [(.slc ((1 : Nat)) ((6 : Nat)) (elemF false ((1 : Nat)) [(.con (.string ({ data := #[(61 : UInt8), (61 : UInt8)] }))), (.con (.string ({ data := #[(33 : UInt8), (61 : UInt8)] }))), (.con (.string ({ data := #[(60 : UInt8)] }))), (.con (.string ({ data := #[(60 : UInt8), (61 : UInt8)] }))), (.con (.string ({ data := #[(62 : UInt8)] }))), (.con (.string ({ data := #[(62 : UInt8), (61 : UInt8)] })))])), (.slc ((1 : Nat)) ((6 : Nat)) (elemF false ((1 : Nat)) [(.con (.int .i64 ((12 : Int)))), (.con (.int .i64 ((13 : Int)))), (.con (.int .i64 ((14 : Int)))), (.con (.int .i64 ((15 : Int)))), (.con (.int .i64 ((16 : Int)))), (.con (.int .i64 ((17 : Int))))]))]) : DV) = (.tup [(.slc ((1 : Nat)) ((1 : Nat)) (elemF false ((1 : Nat)) [(ds { data := #[(97 : UInt8), (110 : UInt8), (100 : UInt8)] })])), (.slc ((1 : Nat)) ((1 : Nat)) (elemF false ((1 : Nat)) [(di (19 : Int))]))]))) ∧
      ((false = false) →
      (((false = true) →
      (((.tup [(.slc ((1 : Nat)) ((2 : Nat)) (elemF false ((1 : Nat)) [(.con (.string ({ data := #[(43 : UInt8)] }))), (.con (.string ({ data := #[(45 : UInt8)] })))])), (.slc ((1 : Nat)) ((2 : Nat)) (elemF false ((1 : Nat)) [(.con (.int .i64 ((6 : Int)))), (.con (.int .i64 ((7 : Int))))]))]) : DV) = (.tup [(.slc ((1 : Nat)) ((1 : Nat)) (elemF false ((1 : Nat)) [(ds { data := #[(97 : UInt8), (110 : UInt8), (100 : UInt8)] })])), (.slc ((1 : Nat)) ((1 : Nat)) (elemF false ((1 : Nat)) [(di (19 : Int))]))]))) ∧
      ((false = false) →
      (((false = true) →
      (((.tup [(.slc ((1 : Nat)) ((2 : Nat)) (elemF false ((1 : Nat)) [(.con (.string ({ data := #[(42 : UInt8)] }))), (.con (.string ({ data := #[(47 : UInt8)] })))])), (.slc ((1 : Nat)) ((2 : Nat)) (elemF false ((1 : Nat)) [(.con (.int .i64 ((8 : Int)))), (.con (.int .i64 ((9 : Int))))]))]) : DV) = (.tup [(.slc ((1 : Nat)) ((1 : Nat)) (elemF false ((1 : Nat)) [(ds { data := #[(97 : UInt8), (110 : UInt8), (100 : UInt8)] })])), (.slc ((1 : Nat)) ((1 : Nat)) (elemF false ((1 : Nat)) [(di (19 : Int))]))]))) ∧
      ((false = false) →
      (((.tup [(.con (.slice none ((0 : Nat)) ((0 : Nat)))), (.con (.slice none ((0 : Nat)) ((0 : Nat))))]) : DV) = (.tup [(.slc ((1 : Nat)) ((1 : Nat)) (elemF false ((1 : Nat)) [(ds { data := #[(97 : UInt8), (110 : UInt8), (100 : UInt8)] })])), (.slc ((1 : Nat)) ((1 : Nat)) (elemF false ((1 : Nat)) [(di (19 : Int))]))]))))))))))))) (by kernel_rfl) ?_
      simp
    · intro j hj
      match j, hj with
      | 0, _ => rfl
  · refine op_nil (FnOK.walk (orc := orcE) (keep := []) follows Tryz.func116 rfl Tryz.call116 ?_)
    refine of_eqH (b :=
      (((false = true) →
      (((.tup [(.slc ((1 : Nat)) ((1 : Nat)) (elemF false ((1 : Nat)) [(.con (.string ({ data := #[(111 : UInt8), (114 : UInt8)] })))])), (.slc ((1 : Nat)) ((1 : Nat)) (elemF false ((1 : Nat)) [(.con (.int .i64 ((20 : Int))))]))]) : DV) = (.tup [(.con (.slice none ((0 : Nat)) ((0 : Nat)))), (.con (.slice none ((0 : Nat)) ((0 : Nat))))]))) ∧
      ((false = false) →
      (((false = true) →
      (((.tup [(.slc ((1 : Nat)) ((1 : Nat)) (elemF false ((1 : Nat)) [(.con (.string ({ data := #[(97 : UInt8), (110 : UInt8), (100 : UInt8)] })))])), (.slc ((1 : Nat)) ((1 : Nat)) (elemF false ((1 : Nat)) [(.con (.int .i64 ((19 : Int))))]))]) : DV) = (.tup [(.con (.slice none ((0 : Nat)) ((0 : Nat)))), (.con (.slice none ((0 : Nat)) ((0 : Nat))))]))) ∧
      ((false = false) →
      (((false = true) →
      (((.tup [(.slc ((1 : Nat)) ((6 : Nat)) (elemF false ((1 : Nat)) [(.con (.string ({ data := #[(61 : UInt8), (61 : UInt8)] }))), (.con (.string ({ data := #[(33 : UInt8), (61 : UInt8)] }))), (.con (.string ({ data := #[(60 : UInt8)] }))), (.con (.string ({ data := #[(60 : UInt8), (61 : UInt8)] }))), (.con (.string ({ data := #[(62 : UInt8)] }))), (.con (.string ({ data := #[(62 : UInt8), (61 : UInt8)] })))])), (.slc ((1 : Nat)) ((6 : Nat)) (elemF false ((1 : Nat)) [(.con (.int .i64 ((12 : Int)))), (.con (.int .i64 ((13 : Int)))), (.con (.int .i64 ((14 : Int)))), (.con (.int .i64 ((15 : Int)))), (.con (.int .i64 ((16 : Int)))), (.con (.int .i64 ((17 : Int))))]))]) : DV) = (.tup [(.con (.slice none ((0 : Nat)) ((0 : Nat)))), (.con (.slice none ((0 : Nat)) ((0 : Nat))))]))) ∧
      ((false = false) →
      (((false = true) →
      (((.tup [(.slc ((1 : Nat)) ((2 : Nat)) (elemF false ((1 : Nat)) [(.con (.string ({ data := #[(43 : UInt8)] }))), (.con (.string ({ data := #[(45 : UInt8)] })))])), (.slc ((1 : Nat)) ((2 : Nat)) (elemF false ((1 : Nat)) [(.con (.int .i64 ((6 : Int)))), (.con (.int .i64 ((7 : Int))))]))]) : DV) = (.tup [(.con (.slice none ((0 : Nat)) ((0 : Nat)))), (.con (.slice none ((0 : Nat)) ((0 : Nat))))]))) ∧
      ((false = false) →
      (((false = true) →
      (((.tup [(.slc ((1 : Nat)) ((2 : Nat)) (elemF false ((1 : Nat)) [(.con (.string ({ data := #[(42 : UInt8)] }))), (.con (.string ({ data := #[(47 : UInt8)] })))])), (.slc ((1 : Nat)) ((2 : Nat)) (elemF false ((1 : Nat)) [(.con (.int .i64 ((8 : Int)))), (.con (.int .i64 ((9 : Int))))]))]) : DV) = (.tup [(.con (.slice none ((0 : Nat)) ((0 : Nat)))), (.con (.slice none ((0 : Nat)) ((0 : Nat))))]))) ∧
      ((false = false) →
      (((.tup [(.con (.slice none ((0 : Nat)) ((0 : Nat)))), (.con (.slice none ((0 : Nat)) ((0 : Nat))))]) : DV) = (.tup [(.con (.slice none ((0 : Nat)) ((0 : Nat)))), (.con (.slice none ((0 : Nat)) ((0 : Nat))))]))))))))))))) (by kernel_rfl) ?_
    simp
  · refine op_res (n := 6) (m := 6) (a := elemF false 1 [ds ⟨#[61, 61]⟩, ds ⟨#[33, 61]⟩, ds ⟨#[60]⟩, ds ⟨#[60, 61]⟩, ds ⟨#[62]⟩, ds ⟨#[62, 61]⟩]) (b := elemF false 1 [di 12, di 13, di 14, di 15, di 16, di 17]) (FnOK.walk (orc := orcE) (keep := []) follows Tryz.func116 rfl Tryz.call116 ?_) ?_
    · refine of_eqH (b :=
      (((false = true) →
      (((.tup [(.slc ((1 : Nat)) ((1 : Nat)) (elemF false ((1 : Nat)) [(.con (.string ({ data := #[(111 : UInt8), (114 : UInt8)] })))])), (.slc ((1 : Nat)) ((1 : Nat)) (elemF false ((1 : Nat)) [(.con (.int .i64 ((20 : Int))))]))]) : DV) = (.tup [(.slc ((1 : Nat)) ((6 : Nat)) (elemF false ((1 : Nat)) [(ds { data := #[(61 : UInt8), (61 : UInt8)] }), (ds { data := #[(33 : UInt8), (61 : UInt8)] }), (ds { data := #[(60 : UInt8)] }), (ds { data := #[(60 : UInt8), (61 : UInt8)] }), (ds { data := #[(62 : UInt8)] }), (ds { data := #[(62 : UInt8), (61 : UInt8)] })])), (.slc ((1 : Nat)) ((6 : Nat)) (elemF false ((1 : Nat)) [(di (12 : Int)), (di (13 : Int)), (di (14 : Int)), (di (15 : Int)), (di (16 : Int)), (di (17 : Int))]))]))) ∧
      ((false = false) →
      (((false = true) →
      (((.tup [(.slc ((1 : Nat)) ((1 : Nat)) (elemF false ((1 : Nat)) [(.con (.string ({ data := #[(97 : UInt8), (110 : UInt8), (100 : UInt8)] })))])), (.slc ((1 : Nat)) ((1 : Nat)) (elemF false ((1 : Nat)) [(.con (.int .i64 ((19 : Int))))]))]) : DV) = (.tup [(.slc ((1 : Nat)) ((6 : Nat)) (elemF false ((1 : Nat)) [(ds { data := #[(61 : UInt8), (61 : UInt8)] }), (ds { data := #[(33 : UInt8), (61 : UInt8)] }), (ds { data := #[(60 : UInt8)] }), (ds { data := #[(60 : UInt8), (61 : UInt8)] }), (ds { data := #[(62 : UInt8)] }), (ds { data := #[(62 : UInt8), (61 : UInt8)] })])), (.slc ((1 : Nat)) ((6 : Nat)) (elemF false ((1 : Nat)) [(di (12 : Int)), (di (13 : Int)), (di (14 : Int)), (di (15 : Int)), (di (16 : Int)), (di (17 : Int))]))]))) ∧
      ((false = false) →
      (((true = true) →
      (((.tup [(.slc ((1 : Nat)) ((6 : Nat)) (elemF false ((1 : Nat)) [(.con (.string ({ data := #[(61 : UInt8), (61 : UInt8)] }))), (.con (.string ({ data := #[(33 : UInt8), (61 : UInt8)] }))), (.con (.string ({ data := #[(60 : UInt8)] }))), (.con (.string ({ data := #[(60 : UInt8), (61 : UInt8)] }))), (.con (.string ({ data := #[(62 : UInt8)] }))), (.con (.string ({ data := #[(62 : UInt8), (61 : UInt8)] })))])), (.slc ((1 : Nat)) ((6 : Nat)) (elemF false ((1 : Nat)) [(.con (.int .i64 ((12 : Int)))), (.con (.int .i64 ((13 : Int)))), (.con (.int .i64 ((14 : Int)))), (.con (.int .i64 ((15 : Int)))), (.con (.int .i64 ((16 : Int)))), (.con (.int .i64 ((17 : Int))))]))]) : DV) = (.tup [(.slc ((1 : Nat)) ((6 : Nat)) (elemF false ((1 : Nat)) [(ds { data := #[(61 : UInt8), (61 : UInt8)] }), (ds { data := #[(33 : UInt8), (61 : UInt8)] }), (ds { data := #[(60 : UInt8)] }), (ds { data := #[(60 : UInt8), (61 : UInt8)] }), (ds { data := #[(62 : UInt8)] }), (ds { data := #[(62 : UInt8), (61 : UInt8)] })])), (.slc ((1 : Nat)) ((6 : Nat)) (elemF false ((1 : Nat)) [(di (12 : Int)), (di (13 : Int)), (di (14 : Int)), (di (15 : Int)), (di (16 : Int)), (di (17 : Int))]))]))) ∧
      ((true = false) →
      (((false = true) →
      (((.tup [(.slc ((1 : Nat)) ((2 : Nat)) (elemF false ((1 : Nat)) [(.con (.string ({ data := #[(43 : UInt8)] }))), (.con (.string ({ data := #[(45 : UInt8)] })))])), (.slc ((1 : Nat)) ((2 : Nat)) (elemF false ((1 : Nat)) [(.con (.int .i64 ((6 : Int)))), (.con (.int .i64 ((7 : Int))))]))]) : DV) = (.tup [(.slc ((1 : Nat)) ((6 : Nat)) (elemF false ((1 : Nat)) [(ds { data := #[(61 : UInt8), (61 : UInt8)] }), (ds { data := #[(33 : UInt8), (61 : UInt8)] }), (ds { data := #[(60 : UInt8)] }), (ds { data := #[(60 : UInt8), (61 : UInt8)] }), (ds { data := #[(62 : UInt8)] }), (ds { data := #[(62 : UInt8), (61 : UInt8)] })])), (.slc ((1 : Nat)) ((6 : Nat)) (elemF false ((1 : Nat)) [(di (12 : Int)), (di (13 : Int)), (di (14 : Int)), (di (15 : Int)), (di (16 : Int)), (di (17 : Int))]))]))) ∧
      ((false = false) →
      (((false = true) →
      (((.tup [(.slc ((1 : Nat)) ((2 : Nat)) (elemF false ((1 : Nat)) [(.con (.string ({ data := #[(42 : UInt8)] }))), (.con (.string ({ data := #[(47 : UInt8)] })))])), (.slc ((1 : Nat)) ((2 : Nat)) (elemF false ((1 : Nat)) [(.con (.int .i64 ((8 : Int)))), (.con (.int .i64 ((9 : Int))))]))]) : DV) = (.tup [(.slc ((1 : Nat)) ((6 : Nat)) (elemF false ((1 : Nat)) [(ds { data := #[(61 : UInt8), (61 : UInt8)] }), (ds { data := #[(33 : UInt8), (61 : UInt8)] }), (ds { data := #[(60 : UInt8)] }), (ds { data := #[(60 : UInt8), (61 : UInt8)] }), (ds { data := #[(62 : UInt8)] }), (ds { data := #[(62 : UInt8), (61 : UInt8)] })])), (.slc ((1 : Nat)) ((6 : Nat)) (elemF false ((1 : Nat)) [(di (12 : Int)), (di (13 : Int)), (di (14 : Int)), (di (15 : Int)), (di (16 : Int)), (di (17 : Int))]))]))) ∧
      ((false = false) →
      (((.tup [(.con (.slice none ((0 : Nat)) ((0 : Nat)))), (.con (.slice none ((0 : Nat)) ((0 : Nat))))]) : DV) = (.tup [(.slc ((1 : Nat)) ((6 : Nat)) (elemF false ((1 : Nat)) [(ds { data := #[(61 : UInt8), (61 : UInt8)] }), (ds { data := #[(33 : UInt8), (61 : UInt8)] }), (ds { data := #[(60 : UInt8)] }), (ds { data := #[(60 : UInt8), (61 : UInt8)] }), (ds { data := #[(62 : UInt8)] }), (ds { data := #[(62 : UInt8), (61 : UInt8)] })])), (.slc ((1 : Nat)) ((6 : Nat)) (elemF false ((1 : Nat)) [(di (12 : Int)), (di (13 : Int)), (di (14 : Int)), (di (15 : Int)), (di (16 : Int)), (di (17 : Int))]))]))))))))))))) (by kernel_rfl) ?_
      simp
    · intro j hj
      match j, hj with
      | 0, _ => rfl
      | 1, _ => rfl
      | 2, _ => rfl
      | 3, _ => rfl
      | 4, _ => rfl
      | 5, _ => rfl
  · refine op_res (n := 2) (m := 2) (a := elemF false 1 [ds ⟨#[43]⟩, ds ⟨#[45]⟩]) (b := elemF false 1 [di 6, di 7]) (FnOK.walk (orc := orcE) (keep := []) follows Tryz.func116 rfl Tryz.call116 ?_) ?_
    · refine of_eqH (b :=
      (((false = true) →
      (((.tup [(.slc ((1 : Nat)) ((1 : Nat)) (elemF false ((1 : Nat)) [(.con (.string ({ data := #[(111 : UInt8), (114 : UInt8)] })))])), (.slc ((1 : Nat)) ((1 : Nat)) (elemF false ((1 : Nat)) [(.con (.int .i64 ((20 : Int))))]))]) : DV) = (.tup [(.slc ((1 : Nat)) ((2 : Nat)) (elemF false ((1 : Nat)) [(ds { data := #[(43 : UInt8)] }), (ds { data := #[(45 : UInt8)] })])), (.slc ((1 : Nat)) ((2 : Nat)) (elemF false ((1 : Nat)) [(di (6 : Int)), (di (7 : Int))]))]))) ∧
      ((false = false) →
      (((false = true) →
      (((.tup [(.slc ((1 : Nat)) ((1 : Nat)) (elemF false ((1 : Nat)) [(.con (.string ({ data := #[(97 : UInt8), (110 : UInt8), (100 : UInt8)] })))])), (.slc ((1 : Nat)) ((1 : Nat)) (elemF false ((1 : Nat)) [(.con (.int .i64 ((19 : Int))))]))]) : DV) = (.tup [(.slc ((1 : Nat)) ((2 : Nat)) (elemF false ((1 : Nat)) [(ds { data := #[(43 : UInt8)] }), (ds { data := #[(45 : UInt8)] })])), (.slc ((1 : Nat)) ((2 : Nat)) (elemF false ((1 : Nat)) [(di (6 : Int)), (di (7 : Int))]))]))) ∧
      ((false = false) →
      (((false = true) →
      (((.tup [(.slc ((1 : Nat)) ((6 : Nat)) (elemF false ((1 : Nat)) [(.con (.string ({ data := #[(61 : UInt8), (61 : UInt8)] }))), (.con (.string ({ data := #[(33 : UInt8), (61 : UInt8)] }))), (.con (.string ({ data := #[(60 : UInt8)] }))), (.con (.string ({ data := #[(60 : UInt8), (61 : UInt8)] }))), (.con (.string ({ data := #[(62 : UInt8)] }))), (.con (.string ({ data := #[(62 : UInt8), (61 : UInt8)] })))])), (.slc ((1 : Nat)) ((6 : Nat)) (elemF false ((1 : Nat)) [(.con (.int .i64 ((12 : Int)))), (.con (.int .i64 ((13 : Int)))), (.con (.int .i64 ((14 : Int)))), (.con (.int .i64 ((15 : Int)))), (.con (.int .i64 ((16 : Int)))), (.con (.int .i64 ((17 : Int))))]))]) : DV) = (.tup [(.slc ((1 : Nat)) ((2 : Nat)) (elemF false ((1 : Nat)) [(ds { data := #[(43 : UInt8)] }), (ds { data := #[(45 : UInt8)] })])), (.slc ((1 : Nat)) ((2 : Nat)) (elemF false ((1 : Nat)) [(di (6 : Int)), (di (7 : Int))]))]))) ∧
      ((false = false) →
      (((true = true) →
      (((.tup [(.slc ((1 : Nat)) ((2 : Nat)) (elemF false ((1 : Nat)) [(.con (.string ({ data := #[(43 : UInt8)] }))), (.con (.string ({ data := #[(45 : UInt8)] })))])), (.slc ((1 : Nat)) ((2 : Nat)) (elemF false ((1 : Nat)) [(.con (.int .i64 ((6 : Int)))), (.con (.int .i64 ((7 : Int))))]))]) : DV) = (.tup [(.slc ((1 : Nat)) ((2 : Nat)) (elemF false ((1 : Nat)) [(ds { data := #[(43 : UInt8)] }), (ds { data := #[(45 : UInt8)] })])), (.slc ((1 : Nat)) ((2 : Nat)) (elemF false ((1 : Nat)) [(di (6 : Int)), (di (7 : Int))]))]))) ∧
      ((true = false) →
      (((false = true) →
      (((.tup [(.slc ((1 : Nat)) ((2 : Nat)) (elemF false ((1 : Nat)) [(.con (.string ({ data := #[(42 : UInt8)] }))), (.con (.string ({ data := #[(47 : UInt8)] })))])), (.slc ((1 : Nat)) ((2 : Nat)) (elemF false ((1 : Nat)) [(.con (.int .i64 ((8 : Int)))), (.con (.int .i64 ((9 : Int))))]))]) : DV) = (.tup [(.slc ((1 : Nat)) ((2 : Nat)) (elemF false ((1 : Nat)) [(ds { data := #[(43 : UInt8)] }), (ds { data := #[(45 : UInt8)] })])), (.slc ((1 : Nat)) ((2 : Nat)) (elemF false ((1 : Nat)) [(di (6 : Int)), (di (7 : Int))]))]))) ∧
      ((false = false) →
      (((.tup [(.con (.slice none ((0 : Nat)) ((0 : Nat)))), (.con (.slice none ((0 : Nat)) ((0 : Nat))))]) : DV) = (.tup [(.slc ((1 : Nat)) ((2 : Nat)) (elemF false ((1 : Nat)) [(ds { data := #[(43 : UInt8)] }), (ds { data := #[(45 : UInt8)] })])), (.slc ((1 : Nat)) ((2 : Nat)) (elemF false ((1 : Nat)) [(di (6 : Int)), (di (7 : Int))]))]))))))))))))) (by kernel_rfl) ?_
      simp
    · intro j hj
      match j, hj with
      | 0, _ => rfl
      | 1, _ => rfl
  · refine op_res (n := 2) (m := 2) (a := elemF false 1 [ds ⟨#[42]⟩, ds ⟨#[47]⟩]) (b := elemF false 1 [di 8, di 9]) (FnOK.walk (orc := orcE) (keep := []) follows Tryz.func116 rfl Tryz.call116 ?_) ?_
    · refine of_eqH (b :=
      (((false = true) →
      (((.tup [(.slc ((1 : Nat)) ((1 : Nat)) (elemF false ((1 : Nat)) [(.con (.string ({ data := #[(111 : UInt8), (114 : UInt8)] })))])), (.slc ((1 : Nat)) ((1 : Nat)) (elemF false ((1 : Nat)) [(.con (.int .i64 ((20 : Int))))]))]) : DV) = (.tup [(.slc ((1 : Nat)) ((2 : Nat)) (elemF false ((1 : Nat)) [(ds { data := #[(42 : UInt8)] }), (ds { data := #[(47 : UInt8)] })])), (.slc ((1 : Nat)) ((2 : Nat)) (elemF false ((1 : Nat)) [(di (8 : Int)), (di (9 : Int))]))]))) ∧
      ((false = false) →
      (((false = true) →
      (((.tup [(.slc ((1 : Nat)) ((1 : Nat)) (elemF false ((1 : Nat)) [(.con (.string ({ data := #[(97 : UInt8), (110 : UInt8), (100 : UInt8)] })))])), (.slc ((1 : Nat)) ((1 : Nat)) (elemF false ((1 : Nat)) [(.con (.int .i64 ((19 : Int))))]))]) : DV) = (.tup [(.slc ((1 : Nat)) ((2 : Nat)) (elemF false ((1 : Nat)) [(ds { data := #[(42 : UInt8)] }), (ds { data := #[(47 : UInt8)] })])), (.slc ((1 : Nat)) ((2 : Nat)) (elemF false ((1 : Nat)) [(di (8 : Int)), (di (9 : Int))]))]))) ∧
      ((false = false) →
      (((false = true) →
      (((.tup [(.slc ((1 : Nat)) ((6 : Nat)) (elemF false ((1 : Nat)) [(.con (.string ({ data := #[(61 : UInt8), (61 : UInt8)] }))), (.con (.string ({ data := #[(33 : UInt8), (61 : UInt8)] }))), (.con (.string ({ data := #[(60 : UInt8)] }))), (.con (.string ({ data := #[(60 : UInt8), (61 : UInt8)] }))), (.con (.string ({ data := #[(62 : UInt8)] }))), (.con (.string ({ data := #[(62 : UInt8), (61 : UInt8)] })))])), (.slc ((1 : Nat)) ((6 : Nat)) (elemF false ((1 : Nat)) [(.con (.int .i64 ((12 : Int)))), (.con (.int .i64 ((13 : Int)))), (.con (.int .i64 ((14 : Int)))), (.con (.int .i64 ((15 : Int)))), (.con (.int .i64 ((16 : Int)))), (.con (.int .i64 ((17 : Int))))]))]) : DV) = (.tup [(.slc ((1 : Nat)) ((2 : Nat)) (elemF false ((1 : Nat)) [(ds { data := #[(42 : UInt8)] }), (ds { data := #[(47 : UInt8)] })])), (.slc ((1 : Nat)) ((2 : Nat)) (elemF false ((1 : Nat)) [(di (8 : Int)), (di (9 : Int))]))]))) ∧
      ((false = false) →
      (((false = true) →
      (((.tup [(.slc ((1 : Nat)) ((2 : Nat)) (elemF false ((1 : Nat)) [(.con (.string ({ data := #[(43 : UInt8)] }))), (.con (.string ({ data := #[(45 : UInt8)] })))])), (.slc ((1 : Nat)) ((2 : Nat)) (elemF false ((1 : Nat)) [(.con (.int .i64 ((6 : Int)))), (.con (.int .i64 ((7 : Int))))]))]) : DV) = (.tup [(.slc ((1 : Nat)) ((2 : Nat)) (elemF false ((1 : Nat)) [(ds { data := #[(42 : UInt8)] }), (ds { data := #[(47 : UInt8)] })])), (.slc ((1 : Nat)) ((2 : Nat)) (elemF false ((1 : Nat)) [(di (8 : Int)), (di (9 : Int))]))]))) ∧
      ((false = false) →
      (((true = true) →
      (((.tup [(.slc ((1 : Nat)) ((2 : Nat)) (elemF false ((1 : Nat)) [(.con (.string ({ data := #[(42 : UInt8)] }))), (.con (.string ({ data := #[(47 : UInt8)] })))])), (.slc ((1 : Nat)) ((2 : Nat)) (elemF false ((1 : Nat)) [(.con (.int .i64 ((8 : Int)))), (.con (.int .i64 ((9 : Int))))]))]) : DV) = (.tup [(.slc ((1 : Nat)) ((2 : Nat)) (elemF false ((1 : Nat)) [(ds { data := #[(42 : UInt8)] }), (ds { data := #[(47 : UInt8)] })])), (.slc ((1 : Nat)) ((2 : Nat)) (elemF false ((1 : Nat)) [(di (8 : Int)), (di (9 : Int))]))]))) ∧
      ((true = false) →
      (((.tup [(.con (.slice none ((0 : Nat)) ((0 : Nat)))), (.con (.slice none ((0 : Nat)) ((0 : Nat))))]) : DV) = (.tup [(.slc ((1 : Nat)) ((2 : Nat)) (elemF false ((1 : Nat)) [(ds { data := #[(42 : UInt8)] }), (ds { data := #[(47 : UInt8)] })])), (.slc ((1 : Nat)) ((2 : Nat)) (elemF false ((1 : Nat)) [(di (8 : Int)), (di (9 : Int))]))]))))))))))))) (by kernel_rfl) ?_
      simp
    · intro j hj
      match j, hj with
      | 0, _ => rfl
      | 1, _ => rfl
def orcR : Oracle := fun f a => match f, a with
  | 116, [di i] => some (.tup [anyD, .slc 1 (opK i).length (inF (opK i))])
  | _, _ => none
theorem opK_ne (i : Int) (j : Nat) (h : j < (opK i).length) : (opK i).getD j 0 ≠ 2 := by
  have hall : ∀ x ∈ opK i, x ≠ 2 := by
    intro x
    unfold opK
    repeat' split
    all_goals simp
    all_goals omega
  have hm : (opK i).getD j 0 = (opK i)[j] := by rw [List.getD, List.getElem?_eq_getElem h]; rfl
  rw [hm]
  exact hall _ (List.getElem_mem h)
noncomputable def S112 (s : ByteArray) (i : Nat) : AS := ⟨regs Tryz.f112.ntmps [(1, .box 1 0), (3, vi i)], [(1, [vi 2, vs s, vi 0, vi 0, vi 0, .d (.con (.slice none 0 0))])]⟩
noncomputable def S112i (s : ByteArray) (i : Nat) (k : Nat) : AS := ⟨regs Tryz.f112.ntmps [(1, .box 1 0), (3, vi i), (5, .d (.slc 1 (opK i).length (inF (opK i)))), (6, vi k)], [(1, [vi 2, vs s, vi 0, vi 0, vi 0, .d (.con (.slice none 0 0))])]⟩
theorem f112 (s : ByteArray) : FnOK Tryz.prog G 112 [eN s] (di 8) := by
  refine FnOK.walk (orc := orcR) (keep := []) follows Tryz.func112 rfl Tryz.call112 ?_
  refine of_eqH (b :=
    AWP Tryz.prog G [.code (cAt (bodyOf Tryz.f112) [1, 0, 1, 0]), (.blk ((0 : Nat))), .code (cAt (bodyOf Tryz.f112) [1, 1])] ⟨[(.d (.agg [(.con (.int .i64 ((2 : Int)))), (.con (.string s)), (.con (.int .i64 ((0 : Int)))), (.con (.int .i64 ((0 : Int)))), (.con (.int .i64 ((0 : Int)))), (.con (.slice none ((0 : Nat)) ((0 : Nat))))])), (.box ((1 : Nat)) ((0 : Nat))), (.d (.con (.int .i64 ((0 : Int))))), (.d (.con (.int .i64 ((1 : Int))))), .any, .any, .any, .any, .any, .any, .any, .any, .any, .any, .any, .any, .any, .any, .any, .any, .any, .any, .any, .any, .any, .any, .any, .any, .any, .any, .any, .any, .any, .any, .any, .any, .any, .any, .any, .any, .any, .any, .any], [(((1 : Nat)), [(.d (.con (.int .i64 ((2 : Int))))), (.d (.con (.string s))), (.d (.con (.int .i64 ((0 : Int))))), (.d (.con (.int .i64 ((0 : Int))))), (.d (.con (.int .i64 ((0 : Int))))), (.d (.con (.slice none ((0 : Nat)) ((0 : Nat)))))])]⟩ (Ret Tryz.prog Tryz.f112 (di (8 : Int)))) (by kernel_rfl) ?_
  refine AWP.loop (c := cAt (bodyOf Tryz.f112) [1, 0, 1, 0, 0]) (by kernel_rfl) (S112 s) (fun i => 1 ≤ i ∧ i ≤ 7) (fun i => 7 - i) 1 ?_ ⟨Nat.le_refl _, by omega⟩ ?_
  · refine of_eq (b :=
    (((((.box ((1 : Nat)) ((0 : Nat))) : AV) = (.box ((1 : Nat)) ((0 : Nat)))) ∧
    ((((.d (.con (.int .i64 ((1 : Int))))) : AV) = (.d (.con (.int .i64 ((1 : Int)))))) ∧
    True)) ∧
    ((((some [(.d (.con (.int .i64 ((2 : Int))))), (.d (.con (.string s))), (.d (.con (.int .i64 ((0 : Int))))), (.d (.con (.int .i64 ((0 : Int))))), (.d (.con (.int .i64 ((0 : Int))))), (.d (.con (.slice none ((0 : Nat)) ((0 : Nat)))))]) : (Option (List AV))) = (some [(.d (.con (.int .i64 ((2 : Int))))), (.d (.con (.string s))), (.d (.con (.int .i64 ((0 : Int))))), (.d (.con (.int .i64 ((0 : Int))))), (.d (.con (.int .i64 ((0 : Int))))), (.d (.con (.slice none ((0 : Nat)) ((0 : Nat)))))])) ∧
    True))) (by kernel_rfl) ?_
    exact ⟨⟨rfl, rfl, trivial⟩, rfl, trivial⟩
  · rintro i ⟨hi1, hi7⟩
    refine walk (orc := orcR) (keep := []) (cuts := []) (n := 1000) follows ?_
    refine of_eqH (b :=
      ((((decide ((↑i : Int) ≤ (6 : Int))) = true) →
      (FnOK Tryz.prog G ((116 : Nat)) [(.con (.int .i64 ((↑i : Int))))] (.tup [(.prd (fun x x_1 => True)), (.slc ((1 : Nat)) (List.length (opK (↑i : Int))) (inF (opK (↑i : Int))))]) ∧
      AWP Tryz.prog G [.code (cAt (bodyOf Tryz.f112) [1, 0, 1, 0, 0, 1, 0, 0, 1, 1, 0]), (.blk ((2 : Nat))), (.blk ((1 : Nat))), .code (cAt (bodyOf Tryz.f112) [1, 0, 1, 0, 0, 1, 1])] ⟨[.any, (.box ((1 : Nat)) ((0 : Nat))), .any, (.d (.con (.int .i64 ((↑i : Int))))), (.d (.prd (fun x x_1 => True))), (.d (.slc ((1 : Nat)) (List.length (opK (↑i : Int))) (inF (opK (↑i : Int))))), (.d (.con (.int .i64 ((0 : Int))))), (.d (.con (.int .i64 ((↑i : Int))))), (.d (.con (.bool (decide ((↑i : Int) ≤ (6 : Int)))))), .any, .any, (.d (.tup [(.prd (fun x x_1 => True)), (.slc ((1 : Nat)) (List.length (opK (↑i : Int))) (inF (opK (↑i : Int))))])), (.d (.con (.int .i64 ((↑i : Int))))), (.d (.tup [(.prd (fun x x_1 => True)), (.slc ((1 : Nat)) (List.length (opK (↑i : Int))) (inF (opK (↑i : Int))))])), (.d (.prd (fun x x_1 => True))), (.d (.slc ((1 : Nat)) (List.length (opK (↑i : Int))) (inF (opK (↑i : Int))))), .any, .any, .any, .any, .any, .any, .any, .any, .any, .any, .any, .any, .any, .any, .any, .any, .any, .any, .any, .any, .any, .any, .any, .any, .any, .any, .any], [(((1 : Nat)), [(.d (.con (.int .i64 ((2 : Int))))), (.d (.con (.string s))), (.d (.con (.int .i64 ((0 : Int))))), (.d (.con (.int .i64 ((0 : Int))))), (.d (.con (.int .i64 ((0 : Int))))), (.d (.con (.slice none ((0 : Nat)) ((0 : Nat)))))])]⟩ (RoundQ Tryz.prog G [It.blk (0 : Nat), It.code (Code.seq (Code.seq (Code.region (10 : Nat) #[{ dst := some (30 : Nat), op := Op.fieldAddr (94 : Nat) (Operand.tmp (1 : Nat)) (0 : Nat), type := (0 : Nat), pos := "ref.go:337", after := #[], guard := none }, { dst := some (31 : Nat), op := Op.load (3 : Nat) (Operand.tmp (30 : Nat)), type := (3 : Nat), pos := "ref.go:337", after := #[{ on := (0 : Nat), ground := Ground.data }], guard := none }] false) (Code.block (4 : Nat) (Code.seq (Code.region (11 : Nat) #[{ dst := some (33 : Nat), op := Op.binOp BinOp.eql (3 : Nat) (Operand.tmp (31 : Nat)) (Operand.const (Value.int IntKind.i64 (18 : Int))) (3 : Nat), type := (4 : Nat), pos := "ref.go:338", after := #[], guard := none }, { dst := some (32 : Nat), op := Op.assign (Operand.tmp (33 : Nat)), type := (4 : Nat), pos := "ref.go:338", after := #[{ on := (0 : Nat), ground := Ground.data }], guard := none }] false) (Code.cond (Operand.tmp (32 : Nat)) (Code.seq (Code.region (12 : Nat) #[{ dst := some (2 : Nat), op := Op.assign (Operand.const (Value.int IntKind.i64 (3 : Int))), type := (3 : Nat), pos := "ref.go:339", after := #[], guard := none }] false) Code.ret) (Code.seq (Code.region (13 : Nat) #[{ dst := some (35 : Nat), op := Op.binOp BinOp.eql (3 : Nat) (Operand.tmp (31 : Nat)) (Operand.const (Value.int IntKind.i64 (5 : Int))) (3 : Nat), type := (4 : Nat), pos := "ref.go:340", after := #[], guard := none }, { dst := some (34 : Nat), op := Op.assign (Operand.tmp (35 : Nat)), type := (4 : Nat), pos := "ref.go:340", after := #[{ on := (0 : Nat), ground := Ground.data }], guard := none }] false) (Code.cond (Operand.tmp (34 : Nat)) (Code.seq (Code.region (14 : Nat) #[{ dst := some (2 : Nat), op := Op.assign (Operand.const (Value.int IntKind.i64 (7 : Int))), type := (3 : Nat), pos := "ref.go:341", after := #[], guard := none }] false) Code.ret) (Code.seq (Code.seq (Code.region (15 : Nat) #[{ dst := some (37 : Nat), op := Op.binOp BinOp.eql (3 : Nat) (Operand.tmp (31 : Nat)) (Operand.const (Value.int IntKind.i64 (1 : Int))) (3 : Nat), type := (4 : Nat), pos := "ref.go:342", after := #[], guard := none }, { dst := some (36 : Nat), op := Op.assign (Operand.tmp (37 : Nat)), type := (4 : Nat), pos := "ref.go:342", after := #[{ on := (0 : Nat), ground := Ground.data }], guard := none }] false) (Code.cond (Operand.tmp (36 : Nat)) Code.skip (Code.seq (Code.region (16 : Nat) #[{ dst := some (38 : Nat), op := Op.binOp BinOp.eql (3 : Nat) (Operand.tmp (31 : Nat)) (Operand.const (Value.int IntKind.i64 (2 : Int))) (3 : Nat), type := (4 : Nat), pos := "ref.go:342", after := #[], guard := none }, { dst := some (36 : Nat), op := Op.assign (Operand.tmp (38 : Nat)), type := (4 : Nat), pos := "ref.go:342", after := #[{ on := (0 : Nat), ground := Ground.data }], guard := none }] false) (Code.cond (Operand.tmp (36 : Nat)) Code.skip (Code.seq (Code.region (17 : Nat) #[{ dst := some (39 : Nat), op := Op.binOp BinOp.eql (3 : Nat) (Operand.tmp (31 : Nat)) (Operand.const (Value.int IntKind.i64 (3 : Int))) (3 : Nat), type := (4 : Nat), pos := "ref.go:342", after := #[], guard := none }, { dst := some (36 : Nat), op := Op.assign (Operand.tmp (39 : Nat)), type := (4 : Nat), pos := "ref.go:342", after := #[{ on := (0 : Nat), ground := Ground.data }], guard := none }] false) (Code.cond (Operand.tmp (36 : Nat)) Code.skip (Code.seq (Code.region (18 : Nat) #[{ dst := some (40 : Nat), op := Op.binOp BinOp.eql (3 : Nat) (Operand.tmp (31 : Nat)) (Operand.const (Value.int IntKind.i64 (4 : Int))) (3 : Nat), type := (4 : Nat), pos := "ref.go:342", after := #[], guard := none }, { dst := some (36 : Nat), op := Op.assign (Operand.tmp (40 : Nat)), type := (4 : Nat), pos := "ref.go:342", after := #[{ on := (0 : Nat), ground := Ground.data }], guard := none }] false) (Code.cond (Operand.tmp (36 : Nat)) Code.skip (Code.seq (Code.region (19 : Nat) #[{ dst := some (41 : Nat), op := Op.binOp BinOp.eql (3 : Nat) (Operand.tmp (31 : Nat)) (Operand.const (Value.int IntKind.i64 (10 : Int))) (3 : Nat), type := (4 : Nat), pos := "ref.go:342", after := #[], guard := none }, { dst := some (36 : Nat), op := Op.assign (Operand.tmp (41 : Nat)), type := (4 : Nat), pos := "ref.go:342", after := #[{ on := (0 : Nat), ground := Ground.data }], guard := none }] false) (Code.cond (Operand.tmp (36 : Nat)) Code.skip (Code.region (20 : Nat) #[{ dst := some (42 : Nat), op := Op.binOp BinOp.eql (3 : Nat) (Operand.tmp (31 : Nat)) (Operand.const (Value.int IntKind.i64 (11 : Int))) (3 : Nat), type := (4 : Nat), pos := "ref.go:342", after := #[], guard := none }, { dst := some (36 : Nat), op := Op.assign (Operand.tmp (42 : Nat)), type := (4 : Nat), pos := "ref.go:342", after := #[{ on := (0 : Nat), ground := Ground.data }], guard := none }] false))))))))))) (Code.cond (Operand.tmp (36 : Nat)) (Code.seq (Code.region (21 : Nat) #[{ dst := some (2 : Nat), op := Op.assign (Operand.const (Value.int IntKind.i64 (8 : Int))), type := (3 : Nat), pos := "ref.go:343", after := #[], guard := none }] false) Code.ret) Code.skip)))))))) (Code.seq (Code.region (22 : Nat) #[{ dst := some (2 : Nat), op := Op.assign (Operand.const (Value.int IntKind.i64 (0 : Int))), type := (3 : Nat), pos := "ref.go:345", after := #[], guard := none }] false) Code.ret))] (Ret Tryz.prog Tryz.f112 (di (8 : Int))) (S112 s) (fun i => (1 : Nat) ≤ i ∧ i ≤ (7 : Nat)) (fun i => (7 : Nat) - i) i))) ∧
      (((decide ((↑i : Int) ≤ (6 : Int))) = false) →
      AWP Tryz.prog G [.code (cAt (bodyOf Tryz.f112) [1, 1])] ⟨[.any, (.box ((1 : Nat)) ((0 : Nat))), .any, (.d (.con (.int .i64 ((↑i : Int))))), .any, .any, .any, (.d (.con (.int .i64 ((↑i : Int))))), (.d (.con (.bool (decide ((↑i : Int) ≤ (6 : Int)))))), .any, .any, .any, .any, .any, .any, .any, .any, .any, .any, .any, .any, .any, .any, .any, .any, .any, .any, .any, .any, .any, .any, .any, .any, .any, .any, .any, .any, .any, .any, .any, .any, .any, .any], [(((1 : Nat)), [(.d (.con (.int .i64 ((2 : Int))))), (.d (.con (.string s))), (.d (.con (.int .i64 ((0 : Int))))), (.d (.con (.int .i64 ((0 : Int))))), (.d (.con (.int .i64 ((0 : Int))))), (.d (.con (.slice none ((0 : Nat)) ((0 : Nat)))))])]⟩ (Ret Tryz.prog Tryz.f112 (di (8 : Int)))))) (by kernel_rfl) ?_
    refine ⟨fun h => ?_, fun h => ?_⟩
    · simp only [decide_eq_true_eq] at h
      refine ⟨f116 _ (by omega) (by omega), ?_⟩
      refine AWP.loop (c := cAt (bodyOf Tryz.f112) [1, 0, 1, 0, 0, 1, 0, 0, 1, 1, 0, 0]) (by kernel_rfl) (S112i s i) (fun k => k ≤ (opK i).length) (fun k => (opK i).length - k) 0 ?_ (Nat.zero_le _) ?_
      · refine of_eq (b :=
        (((((.box ((1 : Nat)) ((0 : Nat))) : AV) = (.box ((1 : Nat)) ((0 : Nat)))) ∧
        ((((.d (.con (.int .i64 ((↑i : Int))))) : AV) = (.d (.con (.int .i64 ((↑i : Int)))))) ∧
        ((((.d (.slc ((1 : Nat)) (List.length (opK (↑i : Int))) (inF (opK (↑i : Int))))) : AV) = (.d (.slc ((1 : Nat)) (List.length (opK (↑i : Int))) (inF (opK (↑i : Int)))))) ∧
        ((((.d (.con (.int .i64 ((0 : Int))))) : AV) = (.d (.con (.int .i64 ((0 : Int)))))) ∧
        True)))) ∧
        ((((some [(.d (.con (.int .i64 ((2 : Int))))), (.d (.con (.string s))), (.d (.con (.int .i64 ((0 : Int))))), (.d (.con (.int .i64 ((0 : Int))))), (.d (.con (.int .i64 ((0 : Int))))), (.d (.con (.slice none ((0 : Nat)) ((0 : Nat)))))]) : (Option (List AV))) = (some [(.d (.con (.int .i64 ((2 : Int))))), (.d (.con (.string s))), (.d (.con (.int .i64 ((0 : Int))))), (.d (.con (.int .i64 ((0 : Int))))), (.d (.con (.int .i64 ((0 : Int))))), (.d (.con (.slice none ((0 : Nat)) ((0 : Nat)))))])) ∧
        True))) (by kernel_rfl) ?_
        exact ⟨⟨rfl, rfl, rfl, rfl, trivial⟩, rfl, trivial⟩
      · intro k hk
        refine walk (orc := orcR) (keep := []) (cuts := []) (n := 1000) follows ?_
        refine of_eqH (b :=
          ((((decide ((↑k : Int) < (↑(List.length (opK (↑i : Int))) : Int))) = true) →
          ((((0 : Int) ≤ (↑k : Int)) ∧
          ((↑k : Int) < (↑(List.length (opK (↑i : Int))) : Int))) ∧
          ((((List.getD (opK (↑i : Int)) (Int.toNat (↑k : Int)) (0 : Int) == (2 : Int)) = true) →
          (((.con (.int .i64 ((↑i : Int)))) : DV) = (di (8 : Int)))) ∧
          (((List.getD (opK (↑i : Int)) (Int.toNat (↑k : Int)) (0 : Int) == (2 : Int)) = false) →
          ((I64 ((↑k : Int) + (1 : Int))) ∧
          Again (S112i s i) (fun k => k ≤ List.length (opK (↑i : Int))) (fun k => List.length (opK (↑i : Int)) - k) k ⟨[.any, (.box ((1 : Nat)) ((0 : Nat))), .any, (.d (.con (.int .i64 ((↑i : Int))))), .any, (.d (.slc ((1 : Nat)) (List.length (opK (↑i : Int))) (inF (opK (↑i : Int))))), (.d (.con (.int .i64 ((↑k : Int) + (1 : Int))))), .any, .any, .any, .any, .any, .any, .any, .any, .any, (.d (.con (.int .i64 ((↑k : Int))))), (.d (.slc ((1 : Nat)) (List.length (opK (↑i : Int))) (inF (opK (↑i : Int))))), (.d (.con (.int .i64 ((↑(List.length (opK (↑i : Int))) : Int))))), (.d (.con (.bool (decide ((↑k : Int) < (↑(List.length (opK (↑i : Int))) : Int)))))), (.d (.con (.int .i64 ((↑k : Int))))), (.d (.con (.int .i64 ((↑k : Int) + (1 : Int))))), (.d (.slc ((1 : Nat)) (List.length (opK (↑i : Int))) (inF (opK (↑i : Int))))), (.d (.con (.int .i64 ((↑k : Int))))), (.d (.ptr [(.con (.int .i64 (List.getD (opK (↑i : Int)) (Int.toNat (↑k : Int)) (0 : Int))))])), (.d (.con (.int .i64 (List.getD (opK (↑i : Int)) (Int.toNat (↑k : Int)) (0 : Int))))), (.box ((1 : Nat)) ((0 : Nat))), (.d (.con (.int .i64 ((2 : Int))))), (.d (.con (.bool (List.getD (opK (↑i : Int)) (Int.toNat (↑k : Int)) (0 : Int) == (2 : Int))))), .any, .any, .any, .any, .any, .any, .any, .any, .any, .any, .any, .any, .any, .any], [(((1 : Nat)), [(.d (.con (.int .i64 ((2 : Int))))), (.d (.con (.string s))), (.d (.con (.int .i64 ((0 : Int))))), (.d (.con (.int .i64 ((0 : Int))))), (.d (.con (.int .i64 ((0 : Int))))), (.d (.con (.slice none ((0 : Nat)) ((0 : Nat)))))])]⟩))))) ∧
          (((decide ((↑k : Int) < (↑(List.length (opK (↑i : Int))) : Int))) = false) →
          AWP Tryz.prog G [(.blk ((1 : Nat))), .code (cAt (bodyOf Tryz.f112) [1, 0, 1, 0, 0, 1, 1])] ⟨[.any, (.box ((1 : Nat)) ((0 : Nat))), .any, (.d (.con (.int .i64 ((↑i : Int))))), .any, (.d (.slc ((1 : Nat)) (List.length (opK (↑i : Int))) (inF (opK (↑i : Int))))), (.d (.con (.int .i64 ((↑k : Int))))), .any, .any, .any, .any, .any, .any, .any, .any, .any, (.d (.con (.int .i64 ((↑k : Int))))), (.d (.slc ((1 : Nat)) (List.length (opK (↑i : Int))) (inF (opK (↑i : Int))))), (.d (.con (.int .i64 ((↑(List.length (opK (↑i : Int))) : Int))))), (.d (.con (.bool (decide ((↑k : Int) < (↑(List.length (opK (↑i : Int))) : Int)))))), .any, .any, .any, .any, .any, .any, .any, .any, .any, .any, .any, .any, .any, .any, .any, .any, .any, .any, .any, .any, .any, .any, .any], [(((1 : Nat)), [(.d (.con (.int .i64 ((2 : Int))))), (.d (.con (.string s))), (.d (.con (.int .i64 ((0 : Int))))), (.d (.con (.int .i64 ((0 : Int))))), (.d (.con (.int .i64 ((0 : Int))))), (.d (.con (.slice none ((0 : Nat)) ((0 : Nat)))))])]⟩ (RoundQ Tryz.prog G [It.blk (0 : Nat), It.code (Code.seq (Code.seq (Code.region (10 : Nat) #[{ dst := some (30 : Nat), op := Op.fieldAddr (94 : Nat) (Operand.tmp (1 : Nat)) (0 : Nat), type := (0 : Nat), pos := "ref.go:337", after := #[], guard := none }, { dst := some (31 : Nat), op := Op.load (3 : Nat) (Operand.tmp (30 : Nat)), type := (3 : Nat), pos := "ref.go:337", after := #[{ on := (0 : Nat), ground := Ground.data }], guard := none }] false) (Code.block (4 : Nat) (Code.seq (Code.region (11 : Nat) #[{ dst := some (33 : Nat), op := Op.binOp BinOp.eql (3 : Nat) (Operand.tmp (31 : Nat)) (Operand.const (Value.int IntKind.i64 (18 : Int))) (3 : Nat), type := (4 : Nat), pos := "ref.go:338", after := #[], guard := none }, { dst := some (32 : Nat), op := Op.assign (Operand.tmp (33 : Nat)), type := (4 : Nat), pos := "ref.go:338", after := #[{ on := (0 : Nat), ground := Ground.data }], guard := none }] false) (Code.cond (Operand.tmp (32 : Nat)) (Code.seq (Code.region (12 : Nat) #[{ dst := some (2 : Nat), op := Op.assign (Operand.const (Value.int IntKind.i64 (3 : Int))), type := (3 : Nat), pos := "ref.go:339", after := #[], guard := none }] false) Code.ret) (Code.seq (Code.region (13 : Nat) #[{ dst := some (35 : Nat), op := Op.binOp BinOp.eql (3 : Nat) (Operand.tmp (31 : Nat)) (Operand.const (Value.int IntKind.i64 (5 : Int))) (3 : Nat), type := (4 : Nat), pos := "ref.go:340", after := #[], guard := none }, { dst := some (34 : Nat), op := Op.assign (Operand.tmp (35 : Nat)), type := (4 : Nat), pos := "ref.go:340", after := #[{ on := (0 : Nat), ground := Ground.data }], guard := none }] false) (Code.cond (Operand.tmp (34 : Nat)) (Code.seq (Code.region (14 : Nat) #[{ dst := some (2 : Nat), op := Op.assign (Operand.const (Value.int IntKind.i64 (7 : Int))), type := (3 : Nat), pos := "ref.go:341", after := #[], guard := none }] false) Code.ret) (Code.seq (Code.seq (Code.region (15 : Nat) #[{ dst := some (37 : Nat), op := Op.binOp BinOp.eql (3 : Nat) (Operand.tmp (31 : Nat)) (Operand.const (Value.int IntKind.i64 (1 : Int))) (3 : Nat), type := (4 : Nat), pos := "ref.go:342", after := #[], guard := none }, { dst := some (36 : Nat), op := Op.assign (Operand.tmp (37 : Nat)), type := (4 : Nat), pos := "ref.go:342", after := #[{ on := (0 : Nat), ground := Ground.data }], guard := none }] false) (Code.cond (Operand.tmp (36 : Nat)) Code.skip (Code.seq (Code.region (16 : Nat) #[{ dst := some (38 : Nat), op := Op.binOp BinOp.eql (3 : Nat) (Operand.tmp (31 : Nat)) (Operand.const (Value.int IntKind.i64 (2 : Int))) (3 : Nat), type := (4 : Nat), pos := "ref.go:342", after := #[], guard := none }, { dst := some (36 : Nat), op := Op.assign (Operand.tmp (38 : Nat)), type := (4 : Nat), pos := "ref.go:342", after := #[{ on := (0 : Nat), ground := Ground.data }], guard := none }] false) (Code.cond (Operand.tmp (36 : Nat)) Code.skip (Code.seq (Code.region (17 : Nat) #[{ dst := some (39 : Nat), op := Op.binOp BinOp.eql (3 : Nat) (Operand.tmp (31 : Nat)) (Operand.const (Value.int IntKind.i64 (3 : Int))) (3 : Nat), type := (4 : Nat), pos := "ref.go:342", after := #[], guard := none }, { dst := some (36 : Nat), op := Op.assign (Operand.tmp (39 : Nat)), type := (4 : Nat), pos := "ref.go:342", after := #[{ on := (0 : Nat), ground := Ground.data }], guard := none }] false) (Code.cond (Operand.tmp (36 : Nat)) Code.skip (Code.seq (Code.region (18 : Nat) #[{ dst := some (40 : Nat), op := Op.binOp BinOp.eql (3 : Nat) (Operand.tmp (31 : Nat)) (Operand.const (Value.int IntKind.i64 (4 : Int))) (3 : Nat), type := (4 : Nat), pos := "ref.go:342", after := #[], guard := none }, { dst := some (36 : Nat), op := Op.assign (Operand.tmp (40 : Nat)), type := (4 : Nat), pos := "ref.go:342", after := #[{ on := (0 : Nat), ground := Ground.data }], guard := none }] false) (Code.cond (Operand.tmp (36 : Nat)) Code.skip (Code.seq (Code.region (19 : Nat) #[{ dst := some (41 : Nat), op := Op.binOp BinOp.eql (3 : Nat) (Operand.tmp (31 : Nat)) (Operand.const (Value.int IntKind.i64 (10 : Int))) (3 : Nat), type := (4 : Nat), pos := "ref.go:342", after := #[], guard := none }, { dst := some (36 : Nat), op := Op.assign (Operand.tmp (41 : Nat)), type := (4 : Nat), pos := "ref.go:342", after := #[{ on := (0 : Nat), ground := Ground.data }], guard := none }] false) (Code.cond (Operand.tmp (36 : Nat)) Code.skip (Code.region (20 : Nat) #[{ dst := some (42 : Nat), op := Op.binOp BinOp.eql (3 : Nat) (Operand.tmp (31 : Nat)) (Operand.const (Value.int IntKind.i64 (11 : Int))) (3 : Nat), type := (4 : Nat), pos := "ref.go:342", after := #[], guard := none }, { dst := some (36 : Nat), op := Op.assign (Operand.tmp (42 : Nat)), type := (4 : Nat), pos := "ref.go:342", after := #[{ on := (0 : Nat), ground := Ground.data }], guard := none }] false))))))))))) (Code.cond (Operand.tmp (36 : Nat)) (Code.seq (Code.region (21 : Nat) #[{ dst := some (2 : Nat), op := Op.assign (Operand.const (Value.int IntKind.i64 (8 : Int))), type := (3 : Nat), pos := "ref.go:343", after := #[], guard := none }] false) Code.ret) Code.skip)))))))) (Code.seq (Code.region (22 : Nat) #[{ dst := some (2 : Nat), op := Op.assign (Operand.const (Value.int IntKind.i64 (0 : Int))), type := (3 : Nat), pos := "ref.go:345", after := #[], guard := none }] false) Code.ret))] (Ret Tryz.prog Tryz.f112 (di (8 : Int))) (S112 s) (fun i => (1 : Nat) ≤ i ∧ i ≤ (7 : Nat)) (fun i => (7 : Nat) - i) i)))) (by kernel_rfl) ?_
        refine ⟨fun h5 => ?_, fun h5 => ?_⟩
        · simp only [decide_eq_true_eq] at h5
          have hne := opK_ne (i : Int) k (by omega)
          refine ⟨⟨by omega, by omega⟩, fun h6 => ?_, fun _ => ?_⟩
          · rw [beq_iff_eq, Int.toNat_natCast] at h6
            exact absurd h6 hne
          · have hlen : (opK (i : Int)).length ≤ 6 := by
              unfold opK
              repeat' split
              all_goals decide
            refine ⟨⟨by omega, by omega⟩, Again.mk (k + 1) ?_ (by omega) (by omega)⟩
            refine of_eq (b :=
              (((((.box ((1 : Nat)) ((0 : Nat))) : AV) = (.box ((1 : Nat)) ((0 : Nat)))) ∧
              ((((.d (.con (.int .i64 ((↑i : Int))))) : AV) = (.d (.con (.int .i64 ((↑i : Int)))))) ∧
              ((((.d (.slc ((1 : Nat)) (List.length (opK (↑i : Int))) (inF (opK (↑i : Int))))) : AV) = (.d (.slc ((1 : Nat)) (List.length (opK (↑i : Int))) (inF (opK (↑i : Int)))))) ∧
              ((((.d (.con (.int .i64 ((↑k : Int) + (1 : Int))))) : AV) = (.d (.con (.int .i64 ((↑(k + (1 : Nat)) : Int)))))) ∧
              True)))) ∧
              ((((some [(.d (.con (.int .i64 ((2 : Int))))), (.d (.con (.string s))), (.d (.con (.int .i64 ((0 : Int))))), (.d (.con (.int .i64 ((0 : Int))))), (.d (.con (.int .i64 ((0 : Int))))), (.d (.con (.slice none ((0 : Nat)) ((0 : Nat)))))]) : (Option (List AV))) = (some [(.d (.con (.int .i64 ((2 : Int))))), (.d (.con (.string s))), (.d (.con (.int .i64 ((0 : Int))))), (.d (.con (.int .i64 ((0 : Int))))), (.d (.con (.int .i64 ((0 : Int))))), (.d (.con (.slice none ((0 : Nat)) ((0 : Nat)))))])) ∧
              True))) (by kernel_rfl) ?_
            exact ⟨⟨rfl, rfl, rfl, rfl, trivial⟩, rfl, trivial⟩
        · refine walk (orc := orcR) (keep := []) (cuts := []) (n := 1000) follows ?_
          refine of_eqH (b :=
            ((I64 ((↑i : Int) + (1 : Int))) ∧
            Again (S112 s) (fun i => (1 : Nat) ≤ i ∧ i ≤ (7 : Nat)) (fun i => (7 : Nat) - i) i ⟨[.any, (.box ((1 : Nat)) ((0 : Nat))), .any, (.d (.con (.int .i64 ((↑i : Int) + (1 : Int))))), .any, (.d (.slc ((1 : Nat)) (List.length (opK (↑i : Int))) (inF (opK (↑i : Int))))), (.d (.con (.int .i64 ((↑k : Int))))), .any, .any, (.d (.con (.int .i64 ((↑i : Int))))), (.d (.con (.int .i64 ((↑i : Int) + (1 : Int))))), .any, .any, .any, .any, .any, (.d (.con (.int .i64 ((↑k : Int))))), (.d (.slc ((1 : Nat)) (List.length (opK (↑i : Int))) (inF (opK (↑i : Int))))), (.d (.con (.int .i64 ((↑(List.length (opK (↑i : Int))) : Int))))), (.d (.con (.bool (decide ((↑k : Int) < (↑(List.length (opK (↑i : Int))) : Int)))))), .any, .any, .any, .any, .any, .any, .any, .any, .any, .any, .any, .any, .any, .any, .any, .any, .any, .any, .any, .any, .any, .any, .any], [(((1 : Nat)), [(.d (.con (.int .i64 ((2 : Int))))), (.d (.con (.string s))), (.d (.con (.int .i64 ((0 : Int))))), (.d (.con (.int .i64 ((0 : Int))))), (.d (.con (.int .i64 ((0 : Int))))), (.d (.con (.slice none ((0 : Nat)) ((0 : Nat)))))])]⟩)) (by kernel_rfl) ?_
          refine ⟨⟨by omega, by omega⟩, Again.mk (i + 1) ?_ ⟨by omega, by omega⟩ (by omega)⟩
          refine of_eq (b :=
            (((((.box ((1 : Nat)) ((0 : Nat))) : AV) = (.box ((1 : Nat)) ((0 : Nat)))) ∧
            ((((.d (.con (.int .i64 ((↑i : Int) + (1 : Int))))) : AV) = (.d (.con (.int .i64 ((↑(i + (1 : Nat)) : Int)))))) ∧
            True)) ∧
            ((((some [(.d (.con (.int .i64 ((2 : Int))))), (.d (.con (.string s))), (.d (.con (.int .i64 ((0 : Int))))), (.d (.con (.int .i64 ((0 : Int))))), (.d (.con (.int .i64 ((0 : Int))))), (.d (.con (.slice none ((0 : Nat)) ((0 : Nat)))))]) : (Option (List AV))) = (some [(.d (.con (.int .i64 ((2 : Int))))), (.d (.con (.string s))), (.d (.con (.int .i64 ((0 : Int))))), (.d (.con (.int .i64 ((0 : Int))))), (.d (.con (.int .i64 ((0 : Int))))), (.d (.con (.slice none ((0 : Nat)) ((0 : Nat)))))])) ∧
            True))) (by kernel_rfl) ?_
          exact ⟨⟨rfl, rfl, trivial⟩, rfl, trivial⟩
    · simp only [decide_eq_false_iff_not] at h
      refine walk (orc := orcR) (keep := []) (cuts := []) (n := 1000) follows ?_
      refine of_eqH (b :=
        (((false = true) →
        (((.con (.int .i64 ((3 : Int)))) : DV) = (di (8 : Int)))) ∧
        ((false = false) →
        (((false = true) →
        (((.con (.int .i64 ((7 : Int)))) : DV) = (di (8 : Int)))) ∧
        ((false = false) →
        (((false = true) →
        (((false = true) →
        (((.con (.int .i64 ((8 : Int)))) : DV) = (di (8 : Int)))) ∧
        ((false = false) →
        (((.con (.int .i64 ((0 : Int)))) : DV) = (di (8 : Int)))))) ∧
        ((false = false) →
        (((true = true) →
        (((true = true) →
        (((.con (.int .i64 ((8 : Int)))) : DV) = (di (8 : Int)))) ∧
        ((true = false) →
        (((.con (.int .i64 ((0 : Int)))) : DV) = (di (8 : Int)))))) ∧
        ((true = false) →
        (((false = true) →
        (((false = true) →
        (((.con (.int .i64 ((8 : Int)))) : DV) = (di (8 : Int)))) ∧
        ((false = false) →
        (((.con (.int .i64 ((0 : Int)))) : DV) = (di (8 : Int)))))) ∧
        ((false = false) →
        (((false = true) →
        (((false = true) →
        (((.con (.int .i64 ((8 : Int)))) : DV) = (di (8 : Int)))) ∧
        ((false = false) →
        (((.con (.int .i64 ((0 : Int)))) : DV) = (di (8 : Int)))))) ∧
        ((false = false) →
        (((false = true) →
        (((false = true) →
        (((.con (.int .i64 ((8 : Int)))) : DV) = (di (8 : Int)))) ∧
        ((false = false) →
        (((.con (.int .i64 ((0 : Int)))) : DV) = (di (8 : Int)))))) ∧
        ((false = false) →
        (((false = true) →
        (((.con (.int .i64 ((8 : Int)))) : DV) = (di (8 : Int)))) ∧
        ((false = false) →
        (((.con (.int .i64 ((0 : Int)))) : DV) = (di (8 : Int)))))))))))))))))))) (by kernel_rfl) ?_
      simp
theorem f98 (s : ByteArray) (hs : s.size ≤ 1000000) : FnOK Tryz.prog G 98 [eN s] (db (nameB s)) := by
  refine FnOK.walk (orc := orcE) (keep := []) follows Tryz.func98 rfl Tryz.call98 ?_
  refine of_eqH (b :=
    (FnOK Tryz.prog G ((112 : Nat)) [(.agg [(.con (.int .i64 ((2 : Int)))), (.con (.string s)), (.con (.int .i64 ((0 : Int)))), (.con (.int .i64 ((0 : Int)))), (.con (.int .i64 ((0 : Int)))), (.con (.slice none ((0 : Nat)) ((0 : Nat))))])] (.con (.int .i64 ((8 : Int)))) ∧
    (((((8 : Int) == (0 : Int) || (2 : Int) != (2 : Int) && !ByteArray.toList s == ByteArray.toList { data := #[] } || (2 : Int) != (1 : Int) && !true) = true) →
    (((.con (.bool false)) : DV) = (db (nameB s)))) ∧
    ((((8 : Int) == (0 : Int) || (2 : Int) != (2 : Int) && !ByteArray.toList s == ByteArray.toList { data := #[] } || (2 : Int) != (1 : Int) && !true) = false) →
    (((true = true) →
    (FnOK Tryz.prog G ((113 : Nat)) [(.con (.string s))] (.con (.bool (nameB s))) ∧
    ((((!nameB s || decide ((0 : Int) > (0 : Int))) = true) →
    (((.con (.bool false)) : DV) = (db (nameB s)))) ∧
    (((!nameB s || decide ((0 : Int) > (0 : Int))) = false) →
    AWP Tryz.prog G [.code (cAt (bodyOf Tryz.f98) [1, 1, 1, 1, 1, 0, 1, 0]), (.blk ((1 : Nat))), .code (cAt (bodyOf Tryz.f98) [1, 1, 1, 1, 1, 1])] ⟨[(.d (.agg [(.con (.int .i64 ((2 : Int)))), (.con (.string s)), (.con (.int .i64 ((0 : Int)))), (.con (.int .i64 ((0 : Int)))), (.con (.int .i64 ((0 : Int)))), (.con (.slice none ((0 : Nat)) ((0 : Nat))))])), (.box ((1 : Nat)) ((0 : Nat))), (.d (.con (.bool false))), (.d (.con (.int .i64 ((8 : Int))))), (.d (.con (.int .i64 ((0 : Int))))), .any, .any, (.d (.con (.int .i64 ((0 : Int))))), (.d (.agg [(.con (.int .i64 ((2 : Int)))), (.con (.string s)), (.con (.int .i64 ((0 : Int)))), (.con (.int .i64 ((0 : Int)))), (.con (.int .i64 ((0 : Int)))), (.con (.slice none ((0 : Nat)) ((0 : Nat))))])), (.d (.con (.int .i64 ((8 : Int))))), (.d (.con (.int .i64 ((8 : Int))))), (.d (.con (.bool false))), (.d (.con (.bool false))), .any, .any, .any, .any, .any, .any, .any, .any, (.d (.con (.bool ((8 : Int) == (0 : Int) || (2 : Int) != (2 : Int) && !ByteArray.toList s == ByteArray.toList { data := #[] })))), (.d (.con (.bool ((8 : Int) == (0 : Int) || (2 : Int) != (2 : Int) && !ByteArray.toList s == ByteArray.toList { data := #[] })))), .any, .any, .any, .any, .any, .any, .any, .any, .any, (.d (.con (.bool ((8 : Int) == (0 : Int) || (2 : Int) != (2 : Int) && !ByteArray.toList s == ByteArray.toList { data := #[] } || (2 : Int) != (1 : Int) && !true)))), (.box ((1 : Nat)) ((5 : Nat))), (.d (.con (.slice none ((0 : Nat)) ((0 : Nat))))), (.d (.con (.int .i64 ((0 : Int))))), .any, .any, (.d (.con (.bool true))), (.box ((1 : Nat)) ((0 : Nat))), (.d (.con (.int .i64 ((2 : Int))))), (.d (.con (.bool true))), (.box ((1 : Nat)) ((1 : Nat))), (.d (.con (.string s))), (.d (.con (.bool (nameB s)))), (.d (.con (.bool (!nameB s)))), (.d (.con (.bool (!nameB s)))), .any, .any, (.d (.con (.bool (!nameB s || decide ((0 : Int) > (0 : Int)))))), .any, .any, .any, .any, .any, .any, .any, .any, .any, .any, .any, .any, .any, .any, .any, .any, .any, .any, .any, .any, .any, .any, .any, .any, .any, .any, .any, .any, .any, .any, .any, .any, .any, .any, .any, .any, .any, .any, .any, .any, .any, .any, .any, .any, .any, .any, .any, .any, .any, .any, .any, .any, .any, .any, .any, .any, .any, .any, .any, .any, .any, .any, .any, .any, .any, .any, .any, .any, .any], [(((1 : Nat)), [(.d (.con (.int .i64 ((2 : Int))))), (.d (.con (.string s))), (.d (.con (.int .i64 ((0 : Int))))), (.d (.con (.int .i64 ((0 : Int))))), (.d (.con (.int .i64 ((0 : Int))))), (.d (.con (.slice none ((0 : Nat)) ((0 : Nat)))))])]⟩ (Ret Tryz.prog Tryz.f98 (db (nameB s))))))) ∧
    ((true = false) →
    (((false = true) →
    False) ∧
    ((false = false) →
    (((false = true) →
    (((false = true) →
    (((.con (.bool false)) : DV) = (db (nameB s)))) ∧
    ((false = false) →
    AWP Tryz.prog G [.code (cAt (bodyOf Tryz.f98) [1, 1, 1, 1, 1, 0, 1, 0]), (.blk ((1 : Nat))), .code (cAt (bodyOf Tryz.f98) [1, 1, 1, 1, 1, 1])] ⟨[(.d (.agg [(.con (.int .i64 ((2 : Int)))), (.con (.string s)), (.con (.int .i64 ((0 : Int)))), (.con (.int .i64 ((0 : Int)))), (.con (.int .i64 ((0 : Int)))), (.con (.slice none ((0 : Nat)) ((0 : Nat))))])), (.box ((1 : Nat)) ((0 : Nat))), (.d (.con (.bool false))), (.d (.con (.int .i64 ((8 : Int))))), (.d (.con (.int .i64 ((0 : Int))))), .any, .any, (.d (.con (.int .i64 ((0 : Int))))), (.d (.agg [(.con (.int .i64 ((2 : Int)))), (.con (.string s)), (.con (.int .i64 ((0 : Int)))), (.con (.int .i64 ((0 : Int)))), (.con (.int .i64 ((0 : Int)))), (.con (.slice none ((0 : Nat)) ((0 : Nat))))])), (.d (.con (.int .i64 ((8 : Int))))), (.d (.con (.int .i64 ((8 : Int))))), (.d (.con (.bool false))), (.d (.con (.bool false))), .any, .any, .any, .any, .any, .any, .any, .any, (.d (.con (.bool ((8 : Int) == (0 : Int) || (2 : Int) != (2 : Int) && !ByteArray.toList s == ByteArray.toList { data := #[] })))), (.d (.con (.bool ((8 : Int) == (0 : Int) || (2 : Int) != (2 : Int) && !ByteArray.toList s == ByteArray.toList { data := #[] })))), .any, .any, .any, .any, .any, .any, .any, .any, .any, (.d (.con (.bool ((8 : Int) == (0 : Int) || (2 : Int) != (2 : Int) && !ByteArray.toList s == ByteArray.toList { data := #[] } || (2 : Int) != (1 : Int) && !true)))), (.box ((1 : Nat)) ((5 : Nat))), (.d (.con (.slice none ((0 : Nat)) ((0 : Nat))))), (.d (.con (.int .i64 ((0 : Int))))), .any, .any, (.d (.con (.bool true))), (.box ((1 : Nat)) ((0 : Nat))), (.d (.con (.int .i64 ((2 : Int))))), (.d (.con (.bool true))), .any, .any, .any, .any, .any, .any, .any, .any, (.d (.con (.bool false))), (.box ((1 : Nat)) ((0 : Nat))), (.d (.con (.int .i64 ((2 : Int))))), (.d (.con (.bool false))), .any, .any, .any, .any, .any, .any, .any, .any, .any, .any, .any, .any, .any, .any, .any, .any, .any, .any, .any, .any, .any, .any, (.d (.con (.bool false))), (.box ((1 : Nat)) ((0 : Nat))), (.d (.con (.int .i64 ((2 : Int))))), (.d (.con (.bool false))), (.d (.con (.bool false))), .any, .any, .any, (.d (.con (.bool false))), (.d (.con (.int .i64 ((0 : Int))))), (.d (.con (.bool false))), .any, .any, .any, .any, .any, .any, .any, .any, .any, .any, .any, .any, .any, .any, .any, .any, .any, .any, .any, .any, .any, .any, .any, .any, .any, .any, .any, .any, .any, .any, .any, .any], [(((1 : Nat)), [(.d (.con (.int .i64 ((2 : Int))))), (.d (.con (.string s))), (.d (.con (.int .i64 ((0 : Int))))), (.d (.con (.int .i64 ((0 : Int))))), (.d (.con (.int .i64 ((0 : Int))))), (.d (.con (.slice none ((0 : Nat)) ((0 : Nat)))))])]⟩ (Ret Tryz.prog Tryz.f98 (db (nameB s)))))) ∧
    ((false = false) →
    (((false = true) →
    (((true = true) →
    (((.con (.bool false)) : DV) = (db (nameB s)))) ∧
    ((true = false) →
    AWP Tryz.prog G [.code (cAt (bodyOf Tryz.f98) [1, 1, 1, 1, 1, 0, 1, 0]), (.blk ((1 : Nat))), .code (cAt (bodyOf Tryz.f98) [1, 1, 1, 1, 1, 1])] ⟨[(.d (.agg [(.con (.int .i64 ((2 : Int)))), (.con (.string s)), (.con (.int .i64 ((0 : Int)))), (.con (.int .i64 ((0 : Int)))), (.con (.int .i64 ((0 : Int)))), (.con (.slice none ((0 : Nat)) ((0 : Nat))))])), (.box ((1 : Nat)) ((0 : Nat))), (.d (.con (.bool false))), (.d (.con (.int .i64 ((8 : Int))))), (.d (.con (.int .i64 ((0 : Int))))), .any, .any, (.d (.con (.int .i64 ((0 : Int))))), (.d (.agg [(.con (.int .i64 ((2 : Int)))), (.con (.string s)), (.con (.int .i64 ((0 : Int)))), (.con (.int .i64 ((0 : Int)))), (.con (.int .i64 ((0 : Int)))), (.con (.slice none ((0 : Nat)) ((0 : Nat))))])), (.d (.con (.int .i64 ((8 : Int))))), (.d (.con (.int .i64 ((8 : Int))))), (.d (.con (.bool false))), (.d (.con (.bool false))), .any, .any, .any, .any, .any, .any, .any, .any, (.d (.con (.bool ((8 : Int) == (0 : Int) || (2 : Int) != (2 : Int) && !ByteArray.toList s == ByteArray.toList { data := #[] })))), (.d (.con (.bool ((8 : Int) == (0 : Int) || (2 : Int) != (2 : Int) && !ByteArray.toList s == ByteArray.toList { data := #[] })))), .any, .any, .any, .any, .any, .any, .any, .any, .any, (.d (.con (.bool ((8 : Int) == (0 : Int) || (2 : Int) != (2 : Int) && !ByteArray.toList s == ByteArray.toList { data := #[] } || (2 : Int) != (1 : Int) && !true)))), (.box ((1 : Nat)) ((5 : Nat))), (.d (.con (.slice none ((0 : Nat)) ((0 : Nat))))), (.d (.con (.int .i64 ((0 : Int))))), .any, .any, (.d (.con (.bool true))), (.box ((1 : Nat)) ((0 : Nat))), (.d (.con (.int .i64 ((2 : Int))))), (.d (.con (.bool true))), .any, .any, .any, .any, .any, .any, .any, .any, (.d (.con (.bool false))), (.box ((1 : Nat)) ((0 : Nat))), (.d (.con (.int .i64 ((2 : Int))))), (.d (.con (.bool false))), .any, .any, .any, .any, .any, .any, .any, .any, .any, .any, .any, .any, .any, .any, .any, .any, .any, .any, .any, .any, .any, .any, (.d (.con (.bool false))), (.box ((1 : Nat)) ((0 : Nat))), (.d (.con (.int .i64 ((2 : Int))))), (.d (.con (.bool false))), (.d (.con (.bool false))), .any, .any, .any, (.d (.con (.bool false))), .any, .any, (.d (.con (.bool false))), (.box ((1 : Nat)) ((0 : Nat))), (.d (.con (.int .i64 ((2 : Int))))), (.d (.con (.bool false))), (.d (.con (.bool false))), .any, .any, .any, (.d (.con (.bool false))), (.d (.con (.int .i64 ((0 : Int))))), (.d (.con (.bool true))), .any, .any, .any, .any, .any, .any, .any, .any, .any, .any, .any, .any, .any, .any, .any, .any, .any, .any, .any, .any, .any], [(((1 : Nat)), [(.d (.con (.int .i64 ((2 : Int))))), (.d (.con (.string s))), (.d (.con (.int .i64 ((0 : Int))))), (.d (.con (.int .i64 ((0 : Int))))), (.d (.con (.int .i64 ((0 : Int))))), (.d (.con (.slice none ((0 : Nat)) ((0 : Nat)))))])]⟩ (Ret Tryz.prog Tryz.f98 (db (nameB s)))))) ∧
    ((false = false) →
    (((false = true) →
    (((true = true) →
    (((.con (.bool false)) : DV) = (db (nameB s)))) ∧
    ((true = false) →
    AWP Tryz.prog G [.code (cAt (bodyOf Tryz.f98) [1, 1, 1, 1, 1, 0, 1, 0]), (.blk ((1 : Nat))), .code (cAt (bodyOf Tryz.f98) [1, 1, 1, 1, 1, 1])] ⟨[(.d (.agg [(.con (.int .i64 ((2 : Int)))), (.con (.string s)), (.con (.int .i64 ((0 : Int)))), (.con (.int .i64 ((0 : Int)))), (.con (.int .i64 ((0 : Int)))), (.con (.slice none ((0 : Nat)) ((0 : Nat))))])), (.box ((1 : Nat)) ((0 : Nat))), (.d (.con (.bool false))), (.d (.con (.int .i64 ((8 : Int))))), (.d (.con (.int .i64 ((0 : Int))))), .any, .any, (.d (.con (.int .i64 ((0 : Int))))), (.d (.agg [(.con (.int .i64 ((2 : Int)))), (.con (.string s)), (.con (.int .i64 ((0 : Int)))), (.con (.int .i64 ((0 : Int)))), (.con (.int .i64 ((0 : Int)))), (.con (.slice none ((0 : Nat)) ((0 : Nat))))])), (.d (.con (.int .i64 ((8 : Int))))), (.d (.con (.int .i64 ((8 : Int))))), (.d (.con (.bool false))), (.d (.con (.bool false))), .any, .any, .any, .any, .any, .any, .any, .any, (.d (.con (.bool ((8 : Int) == (0 : Int) || (2 : Int) != (2 : Int) && !ByteArray.toList s == ByteArray.toList { data := #[] })))), (.d (.con (.bool ((8 : Int) == (0 : Int) || (2 : Int) != (2 : Int) && !ByteArray.toList s == ByteArray.toList { data := #[] })))), .any, .any, .any, .any, .any, .any, .any, .any, .any, (.d (.con (.bool ((8 : Int) == (0 : Int) || (2 : Int) != (2 : Int) && !ByteArray.toList s == ByteArray.toList { data := #[] } || (2 : Int) != (1 : Int) && !true)))), (.box ((1 : Nat)) ((5 : Nat))), (.d (.con (.slice none ((0 : Nat)) ((0 : Nat))))), (.d (.con (.int .i64 ((0 : Int))))), .any, .any, (.d (.con (.bool true))), (.box ((1 : Nat)) ((0 : Nat))), (.d (.con (.int .i64 ((2 : Int))))), (.d (.con (.bool true))), .any, .any, .any, .any, .any, .any, .any, .any, (.d (.con (.bool false))), (.box ((1 : Nat)) ((0 : Nat))), (.d (.con (.int .i64 ((2 : Int))))), (.d (.con (.bool false))), .any, .any, .any, .any, .any, .any, .any, .any, .any, .any, .any, .any, .any, .any, .any, .any, .any, .any, .any, .any, .any, .any, (.d (.con (.bool false))), (.box ((1 : Nat)) ((0 : Nat))), (.d (.con (.int .i64 ((2 : Int))))), (.d (.con (.bool false))), (.d (.con (.bool false))), .any, .any, .any, (.d (.con (.bool false))), .any, .any, (.d (.con (.bool false))), (.box ((1 : Nat)) ((0 : Nat))), (.d (.con (.int .i64 ((2 : Int))))), (.d (.con (.bool false))), (.d (.con (.bool false))), .any, .any, .any, (.d (.con (.bool false))), .any, .any, (.d (.con (.bool false))), (.d (.con (.int .i64 ((8 : Int))))), (.d (.con (.bool false))), (.d (.con (.bool false))), .any, .any, (.d (.con (.bool false))), (.d (.con (.int .i64 ((0 : Int))))), (.d (.con (.bool true))), .any, .any, .any, .any, .any, .any, .any, .any, .any, .any, .any, .any], [(((1 : Nat)), [(.d (.con (.int .i64 ((2 : Int))))), (.d (.con (.string s))), (.d (.con (.int .i64 ((0 : Int))))), (.d (.con (.int .i64 ((0 : Int))))), (.d (.con (.int .i64 ((0 : Int))))), (.d (.con (.slice none ((0 : Nat)) ((0 : Nat)))))])]⟩ (Ret Tryz.prog Tryz.f98 (db (nameB s)))))) ∧
    ((false = false) →
    (((true = true) →
    (((.con (.bool false)) : DV) = (db (nameB s)))) ∧
    ((true = false) →
    AWP Tryz.prog G [.code (cAt (bodyOf Tryz.f98) [1, 1, 1, 1, 1, 0, 1, 0]), (.blk ((1 : Nat))), .code (cAt (bodyOf Tryz.f98) [1, 1, 1, 1, 1, 1])] ⟨[(.d (.agg [(.con (.int .i64 ((2 : Int)))), (.con (.string s)), (.con (.int .i64 ((0 : Int)))), (.con (.int .i64 ((0 : Int)))), (.con (.int .i64 ((0 : Int)))), (.con (.slice none ((0 : Nat)) ((0 : Nat))))])), (.box ((1 : Nat)) ((0 : Nat))), (.d (.con (.bool false))), (.d (.con (.int .i64 ((8 : Int))))), (.d (.con (.int .i64 ((0 : Int))))), .any, .any, (.d (.con (.int .i64 ((0 : Int))))), (.d (.agg [(.con (.int .i64 ((2 : Int)))), (.con (.string s)), (.con (.int .i64 ((0 : Int)))), (.con (.int .i64 ((0 : Int)))), (.con (.int .i64 ((0 : Int)))), (.con (.slice none ((0 : Nat)) ((0 : Nat))))])), (.d (.con (.int .i64 ((8 : Int))))), (.d (.con (.int .i64 ((8 : Int))))), (.d (.con (.bool false))), (.d (.con (.bool false))), .any, .any, .any, .any, .any, .any, .any, .any, (.d (.con (.bool ((8 : Int) == (0 : Int) || (2 : Int) != (2 : Int) && !ByteArray.toList s == ByteArray.toList { data := #[] })))), (.d (.con (.bool ((8 : Int) == (0 : Int) || (2 : Int) != (2 : Int) && !ByteArray.toList s == ByteArray.toList { data := #[] })))), .any, .any, .any, .any, .any, .any, .any, .any, .any, (.d (.con (.bool ((8 : Int) == (0 : Int) || (2 : Int) != (2 : Int) && !ByteArray.toList s == ByteArray.toList { data := #[] } || (2 : Int) != (1 : Int) && !true)))), (.box ((1 : Nat)) ((5 : Nat))), (.d (.con (.slice none ((0 : Nat)) ((0 : Nat))))), (.d (.con (.int .i64 ((0 : Int))))), (.d (.con (.int .i64 ((0 : Int))))), (.d (.con (.bool true))), (.d (.con (.bool true))), (.box ((1 : Nat)) ((0 : Nat))), (.d (.con (.int .i64 ((2 : Int))))), (.d (.con (.bool true))), .any, .any, .any, .any, .any, .any, .any, .any, (.d (.con (.bool false))), (.box ((1 : Nat)) ((0 : Nat))), (.d (.con (.int .i64 ((2 : Int))))), (.d (.con (.bool false))), .any, .any, .any, .any, .any, .any, .any, .any, .any, .any, .any, .any, .any, .any, .any, .any, .any, .any, .any, .any, .any, .any, (.d (.con (.bool false))), (.box ((1 : Nat)) ((0 : Nat))), (.d (.con (.int .i64 ((2 : Int))))), (.d (.con (.bool false))), (.d (.con (.bool false))), .any, .any, .any, (.d (.con (.bool false))), .any, .any, (.d (.con (.bool false))), (.box ((1 : Nat)) ((0 : Nat))), (.d (.con (.int .i64 ((2 : Int))))), (.d (.con (.bool false))), (.d (.con (.bool false))), .any, .any, .any, (.d (.con (.bool false))), .any, .any, (.d (.con (.bool false))), (.d (.con (.int .i64 ((8 : Int))))), (.d (.con (.bool false))), (.d (.con (.bool false))), .any, .any, (.d (.con (.bool false))), .any, .any, .any, .any, .any, .any, .any, .any, .any, .any, .any, .any, .any, .any], [(((1 : Nat)), [(.d (.con (.int .i64 ((2 : Int))))), (.d (.con (.string s))), (.d (.con (.int .i64 ((0 : Int))))), (.d (.con (.int .i64 ((0 : Int))))), (.d (.con (.int .i64 ((0 : Int))))), (.d (.con (.slice none ((0 : Nat)) ((0 : Nat)))))])]⟩ (Ret Tryz.prog Tryz.f98 (db (nameB s))))))))))))))))))) (by kernel_rfl) ?_
  simp only [Bool.false_eq_true, Bool.true_eq_false, false_implies, true_implies, true_and, and_true, forall_const]
  refine ⟨f112 s, fun h => ?_, fun h => ⟨f113 s hs, fun h2 => ?_, fun h2 => ?_⟩⟩
  · simp at h
  · cases hn : nameB s with
    | true => rw [hn] at h2; simp at h2
    | false => rfl
  · have hn : nameB s = true := by
      cases hn : nameB s with
      | true => rfl
      | false => rw [hn] at h2; simp at h2
    rw [hn]
    refine AWP.loop (c := cAt (bodyOf Tryz.f98) [1, 1, 1, 1, 1, 0, 1, 0, 0]) (by kernel_rfl) (fun _ : Unit => ⟨regs Tryz.f98.ntmps [(1, .box 1 0), (4, vi 0), (7, vi 0)], [(1, [vi 2, vs s, vi 0, vi 0, vi 0, .d (.con (.slice none 0 0))])]⟩) (fun _ => True) (fun _ => 0) () ?_ trivial ?_
    · refine of_eq (b :=
      (((((.box ((1 : Nat)) ((0 : Nat))) : AV) = (.box ((1 : Nat)) ((0 : Nat)))) ∧
      ((((.d (.con (.int .i64 ((0 : Int))))) : AV) = (.d (.con (.int .i64 ((0 : Int)))))) ∧
      ((((.d (.con (.int .i64 ((0 : Int))))) : AV) = (.d (.con (.int .i64 ((0 : Int)))))) ∧
      True))) ∧
      ((((some [(.d (.con (.int .i64 ((2 : Int))))), (.d (.con (.string s))), (.d (.con (.int .i64 ((0 : Int))))), (.d (.con (.int .i64 ((0 : Int))))), (.d (.con (.int .i64 ((0 : Int))))), (.d (.con (.slice none ((0 : Nat)) ((0 : Nat)))))]) : (Option (List AV))) = (some [(.d (.con (.int .i64 ((2 : Int))))), (.d (.con (.string s))), (.d (.con (.int .i64 ((0 : Int))))), (.d (.con (.int .i64 ((0 : Int))))), (.d (.con (.int .i64 ((0 : Int))))), (.d (.con (.slice none ((0 : Nat)) ((0 : Nat)))))])) ∧
      True))) (by kernel_rfl) ?_
      exact ⟨⟨rfl, rfl, rfl, trivial⟩, rfl, trivial⟩
    · rintro _ _
      refine walk (orc := orcE) (keep := []) (cuts := []) (n := 1000) follows ?_
      refine of_eqH (b :=
        (((false = true) →
        False) ∧
        ((false = false) →
        AWP Tryz.prog G [.code (cAt (bodyOf Tryz.f98) [1, 1, 1, 1, 1, 1])] ⟨[.any, (.box ((1 : Nat)) ((0 : Nat))), .any, .any, (.d (.con (.int .i64 ((0 : Int))))), .any, .any, (.d (.con (.int .i64 ((0 : Int))))), .any, .any, .any, .any, .any, .any, .any, .any, .any, .any, .any, .any, .any, .any, .any, .any, .any, .any, .any, .any, .any, .any, .any, .any, .any, .any, .any, .any, .any, .any, .any, .any, .any, .any, .any, .any, .any, .any, .any, .any, .any, .any, .any, .any, .any, .any, .any, .any, .any, .any, .any, .any, .any, .any, .any, .any, .any, .any, .any, .any, .any, .any, .any, .any, .any, .any, .any, .any, .any, .any, .any, .any, .any, .any, .any, .any, .any, .any, .any, .any, .any, .any, .any, .any, .any, .any, .any, .any, .any, .any, .any, .any, .any, .any, .any, .any, .any, .any, .any, (.d (.con (.int .i64 ((0 : Int))))), (.d (.con (.int .i64 ((0 : Int))))), (.d (.con (.bool false))), .any, .any, .any, .any, .any, .any, .any, .any, .any], [(((1 : Nat)), [(.d (.con (.int .i64 ((2 : Int))))), (.d (.con (.string s))), (.d (.con (.int .i64 ((0 : Int))))), (.d (.con (.int .i64 ((0 : Int))))), (.d (.con (.int .i64 ((0 : Int))))), (.d (.con (.slice none ((0 : Nat)) ((0 : Nat)))))])]⟩ (Ret Tryz.prog Tryz.f98 (db true))))) (by kernel_rfl) ?_
      simp only [Bool.false_eq_true, Bool.true_eq_false, false_implies, true_implies, true_and, and_true, forall_const]
      refine walk (orc := orcE) (keep := []) (cuts := []) (n := 1000) follows ?_
      refine of_eqH (b :=
        (((.con (.bool true)) : DV) = (db true))) (by kernel_rfl) ?_
      rfl
theorem f99 (s : ByteArray) : FnOK Tryz.prog G 99 [eN s] (di 1) := by
  refine FnOK.walk (orc := orcE) (keep := []) follows Tryz.func99 rfl Tryz.call99 ?_
  refine of_eqH (b :=
    AWP Tryz.prog G [.code (cAt (bodyOf Tryz.f99) [1, 1, 0, 1, 0]), (.blk ((0 : Nat))), .code (cAt (bodyOf Tryz.f99) [1, 1, 1])] ⟨[(.d (.agg [(.con (.int .i64 ((2 : Int)))), (.con (.string s)), (.con (.int .i64 ((0 : Int)))), (.con (.int .i64 ((0 : Int)))), (.con (.int .i64 ((0 : Int)))), (.con (.slice none ((0 : Nat)) ((0 : Nat))))])), (.box ((1 : Nat)) ((0 : Nat))), (.d (.con (.int .i64 ((0 : Int))))), (.d (.con (.int .i64 ((0 : Int))))), (.d (.con (.int .i64 ((0 : Int))))), .any, .any, .any, .any, .any, .any, .any, .any, .any, .any, .any, .any, .any, .any, .any, .any, .any], [(((1 : Nat)), [(.d (.con (.int .i64 ((2 : Int))))), (.d (.con (.string s))), (.d (.con (.int .i64 ((0 : Int))))), (.d (.con (.int .i64 ((0 : Int))))), (.d (.con (.int .i64 ((0 : Int))))), (.d (.con (.slice none ((0 : Nat)) ((0 : Nat)))))])]⟩ (Ret Tryz.prog Tryz.f99 (di (1 : Int)))) (by kernel_rfl) ?_
  refine AWP.loop (c := cAt (bodyOf Tryz.f99) [1, 1, 0, 1, 0, 0]) (by kernel_rfl) (fun _ : Unit => ⟨regs Tryz.f99.ntmps [(1, .box 1 0), (3, vi 0), (4, vi 0)], [(1, [vi 2, vs s, vi 0, vi 0, vi 0, .d (.con (.slice none 0 0))])]⟩) (fun _ => True) (fun _ => 0) () ?_ trivial ?_
  · refine of_eq (b :=
    (((((.box ((1 : Nat)) ((0 : Nat))) : AV) = (.box ((1 : Nat)) ((0 : Nat)))) ∧
    ((((.d (.con (.int .i64 ((0 : Int))))) : AV) = (.d (.con (.int .i64 ((0 : Int)))))) ∧
    ((((.d (.con (.int .i64 ((0 : Int))))) : AV) = (.d (.con (.int .i64 ((0 : Int)))))) ∧
    True))) ∧
    ((((some [(.d (.con (.int .i64 ((2 : Int))))), (.d (.con (.string s))), (.d (.con (.int .i64 ((0 : Int))))), (.d (.con (.int .i64 ((0 : Int))))), (.d (.con (.int .i64 ((0 : Int))))), (.d (.con (.slice none ((0 : Nat)) ((0 : Nat)))))]) : (Option (List AV))) = (some [(.d (.con (.int .i64 ((2 : Int))))), (.d (.con (.string s))), (.d (.con (.int .i64 ((0 : Int))))), (.d (.con (.int .i64 ((0 : Int))))), (.d (.con (.int .i64 ((0 : Int))))), (.d (.con (.slice none ((0 : Nat)) ((0 : Nat)))))])) ∧
    True))) (by kernel_rfl) ?_
    exact ⟨⟨rfl, rfl, rfl, trivial⟩, rfl, trivial⟩
  · rintro _ _
    refine walk (orc := orcE) (keep := []) (cuts := []) (n := 1000) follows ?_
    refine of_eqH (b :=
      (((false = true) →
      False) ∧
      ((false = false) →
      AWP Tryz.prog G [.code (cAt (bodyOf Tryz.f99) [1, 1, 1])] ⟨[.any, (.box ((1 : Nat)) ((0 : Nat))), .any, (.d (.con (.int .i64 ((0 : Int))))), (.d (.con (.int .i64 ((0 : Int))))), (.d (.con (.int .i64 ((0 : Int))))), (.box ((1 : Nat)) ((5 : Nat))), (.d (.con (.slice none ((0 : Nat)) ((0 : Nat))))), (.d (.con (.int .i64 ((0 : Int))))), (.d (.con (.bool false))), .any, .any, .any, .any, .any, .any, .any, .any, .any, .any, .any, .any], [(((1 : Nat)), [(.d (.con (.int .i64 ((2 : Int))))), (.d (.con (.string s))), (.d (.con (.int .i64 ((0 : Int))))), (.d (.con (.int .i64 ((0 : Int))))), (.d (.con (.int .i64 ((0 : Int))))), (.d (.con (.slice none ((0 : Nat)) ((0 : Nat)))))])]⟩ (Ret Tryz.prog Tryz.f99 (di (1 : Int)))))) (by kernel_rfl) ?_
    simp only [Bool.false_eq_true, Bool.true_eq_false, false_implies, true_implies, true_and, and_true, forall_const]
    refine walk (orc := orcE) (keep := []) (cuts := []) (n := 1000) follows ?_
    refine of_eqH (b :=
      ((I64 ((0 : Int) + (1 : Int))) ∧
      (((.con (.int .i64 ((1 : Int)))) : DV) = (di (1 : Int))))) (by kernel_rfl) ?_
    exact ⟨⟨by omega, by omega⟩, rfl⟩
theorem f100 (s : ByteArray) : FnOK Tryz.prog G 100 [eN s] (ds s) := by
  refine FnOK.walk (orc := orcE) (keep := []) follows Tryz.func100 rfl Tryz.call100 ?_
  refine of_eqH (b :=
    (((true = true) →
    (((.con (.string s)) : DV) = (ds s))) ∧
    ((true = false) →
    (((false = true) →
    False) ∧
    ((false = false) →
    (((false = true) →
    (((.con (.string ({ data := #[(116 : UInt8), (114 : UInt8), (117 : UInt8), (101 : UInt8)] }))) : DV) = (ds s))) ∧
    ((false = false) →
    (((false = true) →
    (((.con (.string ({ data := #[(102 : UInt8), (97 : UInt8), (108 : UInt8), (115 : UInt8), (101 : UInt8)] }))) : DV) = (ds s))) ∧
    ((false = false) →
    (((false = true) →
    False) ∧
    ((false = false) →
    (((false = true) →
    False) ∧
    ((false = false) →
    (((false = true) →
    (((false = true) →
    (((false = true) →
    AWP Tryz.prog G [.code (cAt (bodyOf Tryz.f100) [1, 0, 1, 0, 1, 1, 1, 1, 1, 1, 1, 1, 1, 1, 1, 1, 1, 0, 1, 1, 0, 1, 0]), (.blk ((1 : Nat))), .code (cAt (bodyOf Tryz.f100) [1, 0, 1, 0, 1, 1, 1, 1, 1, 1, 1, 1, 1, 1, 1, 1, 1, 0, 1, 1, 1]), (.blk ((0 : Nat))), .code (cAt (bodyOf Tryz.f100) [1, 1])] ⟨[(.d (.agg [(.con (.int .i64 ((2 : Int)))), (.con (.string s)), (.con (.int .i64 ((0 : Int)))), (.con (.int .i64 ((0 : Int)))), (.con (.int .i64 ((0 : Int)))), (.con (.slice none ((0 : Nat)) ((0 : Nat))))])), (.box ((1 : Nat)) ((0 : Nat))), (.d (.con (.string ({ data := #[] })))), .any, .any, (.d (.con (.string ({ data := #[(109 : UInt8), (97 : UInt8), (120 : UInt8), (40 : UInt8)] })))), (.d (.con (.int .i64 ((0 : Int))))), .any, .any, .any, .any, .any, .any, (.box ((1 : Nat)) ((0 : Nat))), (.d (.con (.int .i64 ((2 : Int))))), (.d (.con (.bool true))), (.d (.con (.bool true))), .any, .any, (.d (.con (.bool false))), (.d (.con (.bool false))), .any, .any, .any, .any, .any, .any, .any, (.d (.con (.bool false))), (.d (.con (.bool false))), (.d (.con (.bool false))), (.d (.con (.bool false))), (.d (.con (.bool false))), (.d (.con (.bool false))), .any, .any, .any, .any, .any, .any, (.d (.con (.bool false))), (.d (.con (.bool false))), .any, .any, .any, .any, .any, .any, (.d (.con (.bool false))), (.d (.con (.bool false))), .any, (.box ((1 : Nat)) ((0 : Nat))), (.d (.con (.int .i64 ((2 : Int))))), (.d (.con (.bool false))), .any, .any, .any, .any, .any, .any, .any, .any, .any, .any, .any, .any, .any, .any, .any, .any, .any, .any, .any, .any, .any, .any, .any, .any, .any, .any, .any, .any, .any, .any, .any, .any, .any, .any, .any, .any, .any, .any, .any, .any, .any, .any, .any, .any, .any, .any, .any, .any, .any, .any, .any, .any, .any, .any, .any, .any, .any, .any, .any, .any, .any, .any, .any, .any, .any, .any], [(((1 : Nat)), [(.d (.con (.int .i64 ((2 : Int))))), (.d (.con (.string s))), (.d (.con (.int .i64 ((0 : Int))))), (.d (.con (.int .i64 ((0 : Int))))), (.d (.con (.int .i64 ((0 : Int))))), (.d (.con (.slice none ((0 : Nat)) ((0 : Nat)))))])]⟩ (Ret Tryz.prog Tryz.f100 (ds s))) ∧
    ((false = false) →
    AWP Tryz.prog G [.code (cAt (bodyOf Tryz.f100) [1, 0, 1, 0, 1, 1, 1, 1, 1, 1, 1, 1, 1, 1, 1, 1, 1, 0, 1, 1, 0, 1, 0]), (.blk ((1 : Nat))), .code (cAt (bodyOf Tryz.f100) [1, 0, 1, 0, 1, 1, 1, 1, 1, 1, 1, 1, 1, 1, 1, 1, 1, 0, 1, 1, 1]), (.blk ((0 : Nat))), .code (cAt (bodyOf Tryz.f100) [1, 1])] ⟨[(.d (.agg [(.con (.int .i64 ((2 : Int)))), (.con (.string s)), (.con (.int .i64 ((0 : Int)))), (.con (.int .i64 ((0 : Int)))), (.con (.int .i64 ((0 : Int)))), (.con (.slice none ((0 : Nat)) ((0 : Nat))))])), (.box ((1 : Nat)) ((0 : Nat))), (.d (.con (.string ({ data := #[] })))), .any, .any, (.d (.con (.string ({ data := #[(109 : UInt8), (105 : UInt8), (110 : UInt8), (40 : UInt8)] })))), (.d (.con (.int .i64 ((0 : Int))))), .any, .any, .any, .any, .any, .any, (.box ((1 : Nat)) ((0 : Nat))), (.d (.con (.int .i64 ((2 : Int))))), (.d (.con (.bool true))), (.d (.con (.bool true))), .any, .any, (.d (.con (.bool false))), (.d (.con (.bool false))), .any, .any, .any, .any, .any, .any, .any, (.d (.con (.bool false))), (.d (.con (.bool false))), (.d (.con (.bool false))), (.d (.con (.bool false))), (.d (.con (.bool false))), (.d (.con (.bool false))), .any, .any, .any, .any, .any, .any, (.d (.con (.bool false))), (.d (.con (.bool false))), .any, .any, .any, .any, .any, .any, (.d (.con (.bool false))), (.d (.con (.bool false))), .any, (.box ((1 : Nat)) ((0 : Nat))), (.d (.con (.int .i64 ((2 : Int))))), (.d (.con (.bool false))), .any, .any, .any, .any, .any, .any, .any, .any, .any, .any, .any, .any, .any, .any, .any, .any, .any, .any, .any, .any, .any, .any, .any, .any, .any, .any, .any, .any, .any, .any, .any, .any, .any, .any, .any, .any, .any, .any, .any, .any, .any, .any, .any, .any, .any, .any, .any, .any, .any, .any, .any, .any, .any, .any, .any, .any, .any, .any, .any, .any, .any, .any, .any, .any, .any, .any], [(((1 : Nat)), [(.d (.con (.int .i64 ((2 : Int))))), (.d (.con (.string s))), (.d (.con (.int .i64 ((0 : Int))))), (.d (.con (.int .i64 ((0 : Int))))), (.d (.con (.int .i64 ((0 : Int))))), (.d (.con (.slice none ((0 : Nat)) ((0 : Nat)))))])]⟩ (Ret Tryz.prog Tryz.f100 (ds s))))) ∧
    ((false = false) →
    (FnOK Tryz.prog G ((112 : Nat)) [(.agg [(.con (.int .i64 ((2 : Int)))), (.con (.string s)), (.con (.int .i64 ((0 : Int)))), (.con (.int .i64 ((0 : Int)))), (.con (.int .i64 ((0 : Int)))), (.con (.slice none ((0 : Nat)) ((0 : Nat))))])] (.con (.int .i64 ((8 : Int)))) ∧
    False)))) ∧
    ((false = false) →
    (((false = true) →
    (((false = true) →
    AWP Tryz.prog G [.code (cAt (bodyOf Tryz.f100) [1, 0, 1, 0, 1, 1, 1, 1, 1, 1, 1, 1, 1, 1, 1, 1, 1, 0, 1, 1, 0, 1, 0]), (.blk ((1 : Nat))), .code (cAt (bodyOf Tryz.f100) [1, 0, 1, 0, 1, 1, 1, 1, 1, 1, 1, 1, 1, 1, 1, 1, 1, 0, 1, 1, 1]), (.blk ((0 : Nat))), .code (cAt (bodyOf Tryz.f100) [1, 1])] ⟨[(.d (.agg [(.con (.int .i64 ((2 : Int)))), (.con (.string s)), (.con (.int .i64 ((0 : Int)))), (.con (.int .i64 ((0 : Int)))), (.con (.int .i64 ((0 : Int)))), (.con (.slice none ((0 : Nat)) ((0 : Nat))))])), (.box ((1 : Nat)) ((0 : Nat))), (.d (.con (.string ({ data := #[] })))), .any, .any, (.d (.con (.string ({ data := #[(109 : UInt8), (97 : UInt8), (120 : UInt8), (40 : UInt8)] })))), (.d (.con (.int .i64 ((0 : Int))))), .any, .any, .any, .any, .any, .any, (.box ((1 : Nat)) ((0 : Nat))), (.d (.con (.int .i64 ((2 : Int))))), (.d (.con (.bool true))), (.d (.con (.bool true))), .any, .any, (.d (.con (.bool false))), (.d (.con (.bool false))), .any, .any, .any, .any, .any, .any, .any, (.d (.con (.bool false))), (.d (.con (.bool false))), (.d (.con (.bool false))), (.d (.con (.bool false))), (.d (.con (.bool false))), (.d (.con (.bool false))), .any, .any, .any, .any, .any, .any, (.d (.con (.bool false))), (.d (.con (.bool false))), .any, .any, .any, .any, .any, .any, (.d (.con (.bool false))), (.d (.con (.bool false))), (.d (.con (.bool false))), (.box ((1 : Nat)) ((0 : Nat))), (.d (.con (.int .i64 ((2 : Int))))), (.d (.con (.bool false))), .any, .any, .any, .any, .any, .any, .any, .any, .any, .any, .any, .any, .any, .any, .any, .any, .any, .any, .any, .any, .any, .any, .any, .any, .any, .any, .any, .any, .any, .any, .any, .any, .any, .any, .any, .any, .any, .any, .any, .any, .any, .any, .any, .any, .any, .any, .any, .any, .any, .any, .any, .any, .any, .any, .any, .any, .any, .any, .any, .any, .any, .any, .any, .any, .any, .any], [(((1 : Nat)), [(.d (.con (.int .i64 ((2 : Int))))), (.d (.con (.string s))), (.d (.con (.int .i64 ((0 : Int))))), (.d (.con (.int .i64 ((0 : Int))))), (.d (.con (.int .i64 ((0 : Int))))), (.d (.con (.slice none ((0 : Nat)) ((0 : Nat)))))])]⟩ (Ret Tryz.prog Tryz.f100 (ds s))) ∧
    ((false = false) →
    AWP Tryz.prog G [.code (cAt (bodyOf Tryz.f100) [1, 0, 1, 0, 1, 1, 1, 1, 1, 1, 1, 1, 1, 1, 1, 1, 1, 0, 1, 1, 0, 1, 0]), (.blk ((1 : Nat))), .code (cAt (bodyOf Tryz.f100) [1, 0, 1, 0, 1, 1, 1, 1, 1, 1, 1, 1, 1, 1, 1, 1, 1, 0, 1, 1, 1]), (.blk ((0 : Nat))), .code (cAt (bodyOf Tryz.f100) [1, 1])] ⟨[(.d (.agg [(.con (.int .i64 ((2 : Int)))), (.con (.string s)), (.con (.int .i64 ((0 : Int)))), (.con (.int .i64 ((0 : Int)))), (.con (.int .i64 ((0 : Int)))), (.con (.slice none ((0 : Nat)) ((0 : Nat))))])), (.box ((1 : Nat)) ((0 : Nat))), (.d (.con (.string ({ data := #[] })))), .any, .any, (.d (.con (.string ({ data := #[(109 : UInt8), (105 : UInt8), (110 : UInt8), (40 : UInt8)] })))), (.d (.con (.int .i64 ((0 : Int))))), .any, .any, .any, .any, .any, .any, (.box ((1 : Nat)) ((0 : Nat))), (.d (.con (.int .i64 ((2 : Int))))), (.d (.con (.bool true))), (.d (.con (.bool true))), .any, .any, (.d (.con (.bool false))), (.d (.con (.bool false))), .any, .any, .any, .any, .any, .any, .any, (.d (.con (.bool false))), (.d (.con (.bool false))), (.d (.con (.bool false))), (.d (.con (.bool false))), (.d (.con (.bool false))), (.d (.con (.bool false))), .any, .any, .any, .any, .any, .any, (.d (.con (.bool false))), (.d (.con (.bool false))), .any, .any, .any, .any, .any, .any, (.d (.con (.bool false))), (.d (.con (.bool false))), (.d (.con (.bool false))), (.box ((1 : Nat)) ((0 : Nat))), (.d (.con (.int .i64 ((2 : Int))))), (.d (.con (.bool false))), .any, .any, .any, .any, .any, .any, .any, .any, .any, .any, .any, .any, .any, .any, .any, .any, .any, .any, .any, .any, .any, .any, .any, .any, .any, .any, .any, .any, .any, .any, .any, .any, .any, .any, .any, .any, .any, .any, .any, .any, .any, .any, .any, .any, .any, .any, .any, .any, .any, .any, .any, .any, .any, .any, .any, .any, .any, .any, .any, .any, .any, .any, .any, .any, .any, .any], [(((1 : Nat)), [(.d (.con (.int .i64 ((2 : Int))))), (.d (.con (.string s))), (.d (.con (.int .i64 ((0 : Int))))), (.d (.con (.int .i64 ((0 : Int))))), (.d (.con (.int .i64 ((0 : Int))))), (.d (.con (.slice none ((0 : Nat)) ((0 : Nat)))))])]⟩ (Ret Tryz.prog Tryz.f100 (ds s))))) ∧
    ((false = false) →
    (FnOK Tryz.prog G ((112 : Nat)) [(.agg [(.con (.int .i64 ((2 : Int)))), (.con (.string s)), (.con (.int .i64 ((0 : Int)))), (.con (.int .i64 ((0 : Int)))), (.con (.int .i64 ((0 : Int)))), (.con (.slice none ((0 : Nat)) ((0 : Nat))))])] (.con (.int .i64 ((8 : Int)))) ∧
    False)))))))))))))))))) (by kernel_rfl) ?_
  simp
theorem f80 (s : ByteArray) (hs : s.size ≤ 1000000) : FnOK Tryz.prog G 80 [eN s] (db (nameB s)) := by
  refine FnOK.walk (orc := orcE) (keep := []) follows Tryz.func80 rfl Tryz.call80 ?_
  refine of_eqH (b :=
    ((FnOK Tryz.prog G ((98 : Nat)) [(.agg [(.con (.int .i64 ((2 : Int)))), (.con (.string s)), (.con (.int .i64 ((0 : Int)))), (.con (.int .i64 ((0 : Int)))), (.con (.int .i64 ((0 : Int)))), (.con (.slice none ((0 : Nat)) ((0 : Nat))))])] (.con (.bool (nameB s))) ∧
    ((((nameB s) = true) →
    FnOK Tryz.prog G ((99 : Nat)) [(.agg [(.con (.int .i64 ((2 : Int)))), (.con (.string s)), (.con (.int .i64 ((0 : Int)))), (.con (.int .i64 ((0 : Int)))), (.con (.int .i64 ((0 : Int)))), (.con (.slice none ((0 : Nat)) ((0 : Nat))))])] (.con (.int .i64 ((1 : Int))))) ∧
    (((nameB s && decide ((1 : Int) ≤ (32 : Int))) = true) →
    FnOK Tryz.prog G ((100 : Nat)) [(.agg [(.con (.int .i64 ((2 : Int)))), (.con (.string s)), (.con (.int .i64 ((0 : Int)))), (.con (.int .i64 ((0 : Int)))), (.con (.int .i64 ((0 : Int)))), (.con (.slice none ((0 : Nat)) ((0 : Nat))))])] (.con (.string s))))) ∧
    (((.con (.bool (nameB s && decide ((1 : Int) ≤ (32 : Int)) && decide ((↑(ByteArray.size s) : Int) ≤ (16384 : Int))))) : DV) = (db (nameB s))))) (by kernel_rfl) ?_
  refine ⟨⟨f98 s hs, fun _ => f99 s, fun _ => f100 s⟩, ?_⟩
  cases hn : nameB s with
  | true =>
    have := name_size hn
    have e : decide ((s.size : Int) ≤ 16384) = true := by rw [decide_eq_true_eq]; omega
    rw [e]; rfl
  | false => rfl
theorem f48 (s : ByteArray) (hs : s.size ≤ 1000000) : FnOK Tryz.prog G 48 [ds s] (db (nameB s)) := by
  refine FnOK.walk (orc := orcE) (keep := []) follows Tryz.func48 rfl Tryz.call48 ?_
  refine of_eqH (b :=
    (FnOK Tryz.prog G ((80 : Nat)) [(.agg [(.con (.int .i64 ((2 : Int)))), (.con (.string s)), (.con (.int .i64 ((0 : Int)))), (.con (.int .i64 ((0 : Int)))), (.con (.int .i64 ((0 : Int)))), (.con (.slice none ((0 : Nat)) ((0 : Nat))))])] (.con (.bool (nameB s))) ∧
    (((.con (.bool (nameB s))) : DV) = (db (nameB s))))) (by kernel_rfl) ?_
  exact ⟨f80 s hs, rfl⟩
end Go.Proofs
