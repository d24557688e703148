import Derived.Test.YtldfegcegedkjaaGreatDoorAcC
import Derived.Test.YtldfegcegedkjaaGreatDoorNA
set_option autoImplicit false
namespace Go.Proofs
open Go Go.Ab Go.RowKit
set_option maxHeartbeats 1000000
set_option maxRecDepth 100000
variable {G : IH}
abbrev eN (s : ByteArray) : DV := .agg [di 2, ds s, di 0, di 0, di 0, .con (.slice none 0 0)]
def orcE : Oracle := fun f a => match f, a with
  | 92, [_] => some (di 1)
  | 93, [.agg [_, .con (.string s), _, _, _, _]] => some (db (nameB s))
  | 94, [.agg [_, .con (.string s), _, _, _, _]] => some (ds s)
  | 74, [.agg [_, .con (.string s), _, _, _, _]] => some (ds (if nameB s then s else .empty))
  | 105, [.con (.string s)] => some (db (nameB s))
  | 113, [.con (.string s)] => some (db (nameB s))
  | 112, [_] => some (di 8)
  | 98, [.agg [_, .con (.string s), _, _, _, _]] => some (db (nameB s))
  | 99, [_] => some (di 1)
  | 100, [.agg [_, .con (.string s), _, _, _, _]] => some (ds s)
  | 80, [.agg [_, .con (.string s), _, _, _, _]] => some (db (nameB s))
  | _, _ => none
theorem name_size {s : ByteArray} (h : nameB s = true) : 1 ≤ s.size ∧ s.size ≤ 16 := by
  unfold nameB at h
  simp only [Bool.and_eq_true, decide_eq_true_eq] at h
  exact ⟨h.1, h.2.1⟩
theorem f92 (s : ByteArray) : FnOK Tryz.prog G 92 [eN s] (di 1) := by
  refine FnOK.walk (orc := orcE) (keep := []) follows Tryz.func92 rfl Tryz.call92 ?_
  refine of_eqH (b :=
    AWP Tryz.prog G [.code (cAt (bodyOf Tryz.f92) [1, 1, 0, 1, 0]), (.blk 0), .code (cAt (bodyOf Tryz.f92) [1, 1, 1])] ⟨regs 20 [(0, (.d (.agg [(di 2), (ds s), (di 0), (di 0), (di 0), (.con (.slice none 0 0))]))), (1, (.box 1 0)), (2, (vi 0)), (3, (vi 0)), (6, (.box 1 5)), (7, (.d (.con (.slice none 0 0)))), (8, (vi 0)), (9, (vi 0))], [(1, [(vi 2), (vs s), (vi 0), (vi 0), (vi 0), (.d (.con (.slice none 0 0)))])]⟩ (Ret Tryz.prog Tryz.f92 (di (1 : Int)))) (by kernel_rfl) ?_
  refine AWP.loop (c := cAt (bodyOf Tryz.f92) [1, 1, 0, 1, 0, 0]) (by kernel_rfl) (fun _ : Unit => ⟨regs Tryz.f92.ntmps [(3, vi 0), (8, vi 0), (9, vi 0)], []⟩) (fun _ => True) (fun _ => 0) () ?_ trivial ?_
  · refine of_eq (b :=
    (((((vi 0) : AV) = (vi 0)) ∧
    ((((vi 0) : AV) = (vi 0)) ∧
    ((((vi 0) : AV) = (vi 0)) ∧
    True))) ∧
    True)) (by kernel_rfl) ?_
    exact ⟨⟨rfl, rfl, rfl, trivial⟩, trivial⟩
  · rintro _ _
    refine walk (orc := orcE) (keep := []) (cuts := []) (n := 1000) follows ?_
    refine of_eqH (b :=
      (((false = true) →
      False) ∧
      ((false = false) →
      AWP Tryz.prog G [.code (cAt (bodyOf Tryz.f92) [1, 1, 1])] ⟨regs 20 [(3, (vi 0)), (8, (vi 0)), (9, (vi 0)), (10, (vb false))], []⟩ (Ret Tryz.prog Tryz.f92 (di (1 : Int)))))) (by kernel_rfl) ?_
    simp only [Bool.false_eq_true, Bool.true_eq_false, false_implies, true_implies, true_and, and_true, forall_const]
    refine walk (orc := orcE) (keep := []) (cuts := []) (n := 1000) follows ?_
    refine of_eqH (b :=
      ((I64 ((0 : Int) + (1 : Int))) ∧
      (((di 1) : DV) = (di (1 : Int))))) (by kernel_rfl) ?_
    exact ⟨⟨by omega, by omega⟩, rfl⟩
theorem f93 (s : ByteArray) (hs : s.size ≤ 1000000) : FnOK Tryz.prog G 93 [eN s] (db (nameB s)) := by
  refine FnOK.walk (orc := orcE) (keep := []) follows Tryz.func93 rfl Tryz.call93 ?_
  refine of_eqH (b :=
    (((false = true) →
    False) ∧
    ((false = false) →
    (((true = true) →
    (FnOK Tryz.prog G 105 [(ds s)] (db (nameB s)) ∧
    (((db (nameB s && true && (↑(0 : Nat) : Int) == (0 : Int))) : DV) = (db (nameB s))))) ∧
    ((true = false) →
    (((false = true) →
    (((false = true) →
    False) ∧
    ((false = false) →
    (((false = true) →
    (((false = true) →
    False) ∧
    ((false = false) →
    (((false = true) →
    (((false = true) →
    False) ∧
    ((false = false) →
    False))) ∧
    ((false = false) →
    (((false = true) →
    False) ∧
    ((false = false) →
    False))))))) ∧
    ((false = false) →
    (((false = true) →
    False) ∧
    ((false = false) →
    (((false = true) →
    (((false = true) →
    False) ∧
    ((false = false) →
    False))) ∧
    ((false = false) →
    (((false = true) →
    False) ∧
    ((false = false) →
    False))))))))))) ∧
    ((false = false) →
    (((false = true) →
    False) ∧
    ((false = false) →
    (((false = true) →
    (((false = true) →
    False) ∧
    ((false = false) →
    (((false = true) →
    (((false = true) →
    False) ∧
    ((false = false) →
    False))) ∧
    ((false = false) →
    (((false = true) →
    False) ∧
    ((false = false) →
    False))))))) ∧
    ((false = false) →
    (((false = true) →
    False) ∧
    ((false = false) →
    (((false = true) →
    (((false = true) →
    False) ∧
    ((false = false) →
    False))) ∧
    ((false = false) →
    (((false = true) →
    False) ∧
    ((false = false) →
    False))))))))))))))))) (by kernel_rfl) ?_
  simp only [Bool.false_eq_true, Bool.true_eq_false, false_implies, true_implies, true_and, and_true, forall_const]
  refine ⟨f105 s hs, ?_⟩
  simp
theorem f94 (s : ByteArray) : FnOK Tryz.prog G 94 [eN s] (ds s) := by
  refine FnOK.walk (orc := orcE) (keep := []) follows Tryz.func94 rfl Tryz.call94 ?_
  refine of_eqH (b :=
    (((false = true) →
    False) ∧
    ((false = false) →
    (((true = true) →
    (((ds s) : DV) = (ds s))) ∧
    ((true = false) →
    (((false = true) →
    (((ds ({ data := #[(116 : UInt8), (114 : UInt8), (117 : UInt8), (101 : UInt8)] })) : DV) = (ds s))) ∧
    ((false = false) →
    (((false = true) →
    (((ds ({ data := #[(102 : UInt8), (97 : UInt8), (108 : UInt8), (115 : UInt8), (101 : UInt8)] })) : DV) = (ds s))) ∧
    ((false = false) →
    (((false = true) →
    False) ∧
    ((false = false) →
    (((false = true) →
    False) ∧
    ((false = false) →
    (((false = true) →
    (((false = true) →
    AWP Tryz.prog G [.code (cAt (bodyOf Tryz.f94) [1, 0, 1, 0, 1, 1, 1, 1, 1, 1, 1, 1, 1, 1, 1, 1, 1, 0, 1, 0, 1, 0]), (.blk 1), .code (cAt (bodyOf Tryz.f94) [1, 0, 1, 0, 1, 1, 1, 1, 1, 1, 1, 1, 1, 1, 1, 1, 1, 0, 1, 1]), (.blk 0), .code (cAt (bodyOf Tryz.f94) [1, 1])] ⟨regs 100 [(0, (.d (.agg [(di 2), (ds s), (di 0), (di 0), (di 0), (.con (.slice none 0 0))]))), (1, (.box 1 0)), (2, (vs ({ data := #[] }))), (5, (.d (.con (.slice none 0 0)))), (10, (.box 1 0)), (11, (vi 2)), (12, (vb false)), (13, (vb false)), (21, (vb true)), (22, (vb true)), (25, (vb false)), (26, (vb false)), (27, (vb false)), (28, (vb false)), (29, (vb false)), (30, (vb false)), (37, (vb false)), (38, (vb false)), (45, (vb false)), (46, (vb false)), (48, (.box 1 5)), (49, (.d (.con (.slice none 0 0)))), (50, (vi 0)), (51, (vi 0))], [(1, [(vi 2), (vs s), (vi 0), (vi 0), (vi 0), (.d (.con (.slice none 0 0)))])]⟩ (Ret Tryz.prog Tryz.f94 (ds s))) ∧
    ((false = false) →
    False))) ∧
    ((false = false) →
    (((false = true) →
    AWP Tryz.prog G [.code (cAt (bodyOf Tryz.f94) [1, 0, 1, 0, 1, 1, 1, 1, 1, 1, 1, 1, 1, 1, 1, 1, 1, 0, 1, 0, 1, 0]), (.blk 1), .code (cAt (bodyOf Tryz.f94) [1, 0, 1, 0, 1, 1, 1, 1, 1, 1, 1, 1, 1, 1, 1, 1, 1, 0, 1, 1]), (.blk 0), .code (cAt (bodyOf Tryz.f94) [1, 1])] ⟨regs 100 [(0, (.d (.agg [(di 2), (ds s), (di 0), (di 0), (di 0), (.con (.slice none 0 0))]))), (1, (.box 1 0)), (2, (vs ({ data := #[] }))), (5, (.d (.con (.slice none 0 0)))), (10, (.box 1 0)), (11, (vi 2)), (12, (vb false)), (13, (vb false)), (21, (vb true)), (22, (vb true)), (25, (vb false)), (26, (vb false)), (27, (vb false)), (28, (vb false)), (29, (vb false)), (30, (vb false)), (37, (vb false)), (38, (vb false)), (45, (vb false)), (46, (vb false)), (47, (vb false)), (48, (.box 1 5)), (49, (.d (.con (.slice none 0 0)))), (50, (vi 0)), (51, (vi 0))], [(1, [(vi 2), (vs s), (vi 0), (vi 0), (vi 0), (.d (.con (.slice none 0 0)))])]⟩ (Ret Tryz.prog Tryz.f94 (ds s))) ∧
    ((false = false) →
    False))))))))))))))))) (by kernel_rfl) ?_
  simp
theorem f74 (s : ByteArray) (hs : s.size ≤ 1000000) : FnOK Tryz.prog G 74 [eN s] (ds (if nameB s then s else .empty)) := by
  refine FnOK.walk (orc := orcE) (keep := []) follows Tryz.func74 rfl Tryz.call74 ?_
  refine of_eqH (b :=
    ((FnOK Tryz.prog G 92 [(.agg [(di 2), (ds s), (di 0), (di 0), (di 0), (.con (.slice none 0 0))])] (di 1) ∧
    ((true = true) →
    FnOK Tryz.prog G 93 [(.agg [(di 2), (ds s), (di 0), (di 0), (di 0), (.con (.slice none 0 0))])] (db (nameB s)))) ∧
    ((((decide ((1 : Int) > (32 : Int)) || !nameB s) = true) →
    (((ds ({ data := #[] })) : DV) = (ds (if nameB s = true then s else ByteArray.empty)))) ∧
    (((decide ((1 : Int) > (32 : Int)) || !nameB s) = false) →
    (FnOK Tryz.prog G 94 [(.agg [(di 2), (ds s), (di 0), (di 0), (di 0), (.con (.slice none 0 0))])] (ds s) ∧
    ((((decide ((↑(ByteArray.size s) : Int) > (16384 : Int))) = true) →
    (((ds ({ data := #[] })) : DV) = (ds (if nameB s = true then s else ByteArray.empty)))) ∧
    (((decide ((↑(ByteArray.size s) : Int) > (16384 : Int))) = false) →
    (((ds s) : DV) = (ds (if nameB s = true then s else ByteArray.empty)))))))))) (by kernel_rfl) ?_
  refine ⟨⟨f92 s, fun _ => f93 s hs⟩, fun h => ?_, fun h => ⟨f94 s, fun h2 => ?_, fun h2 => ?_⟩⟩
  · cases hn : nameB s with
    | true => rw [hn] at h; simp at h
    | false => rfl
  · exfalso
    have hn : nameB s = true := by
      cases hn : nameB s with
      | true => rfl
      | false => rw [hn] at h; simp at h
    have := name_size hn
    simp only [decide_eq_true_eq] at h2
    omega
  · have hn : nameB s = true := by
      cases hn : nameB s with
      | true => rfl
      | false => rw [hn] at h; simp at h
    rw [hn]; rfl
theorem f42 (s : ByteArray) (hs : s.size ≤ 1000000) : FnOK Tryz.prog G 42 [ds s] (db (nameB s)) := by
  refine FnOK.walk (orc := orcE) (keep := []) follows Tryz.func42 rfl Tryz.call42 ?_
  refine of_eqH (b :=
    (FnOK Tryz.prog G 74 [(.agg [(di 2), (ds s), (di 0), (di 0), (di 0), (.con (.slice none 0 0))])] (ds (if nameB s = true then s else ByteArray.empty)) ∧
    (((db (!ByteArray.toList (if nameB s = true then s else ByteArray.empty) == ByteArray.toList { data := #[] })) : DV) = (db (nameB s))))) (by kernel_rfl) ?_
  refine ⟨f74 s hs, ?_⟩
  cases hn : nameB s with
  | true =>
    have := name_size hn
    simp only [if_true, emp_beq]
    rw [decide_eq_false (by omega)]; rfl
  | false =>
    rw [if_neg (by simp), emp_beq]; rfl
theorem FnOK.res {P : Program} {f : FuncId} {xs : List DV} {r r' : DV} (h : FnOK P G f xs r) (hr : ∀ k v, r.rel k v → r'.rel k v) : FnOK P G f xs r' :=
  ⟨h.1, fun w k us hG hw hu => (h.2 w k us hG hw hu).mono fun _ _ ⟨v, h', e, hv, rest⟩ => ⟨v, h', e, hr h' v hv, rest⟩⟩
def opK (i : Int) : List Int := if i = 1 then [20] else if i = 2 then [19] else if i = 4 then [12, 13, 14, 15, 16, 17] else if i = 5 then [6, 7] else if i = 6 then [8, 9] else []
def inF (l : List Int) (i : Nat) : DV := di (l.getD i 0)
def anyD : DV := .prd fun _ _ => True
theorem op_res {f : FuncId} {xs : List DV} {n m : Nat} {a b g : Nat → DV} (h : FnOK Tryz.prog G f xs (.tup [.slc 1 n a, .slc 1 m b])) (hg : ∀ j, j < m → b j = g j) : FnOK Tryz.prog G f xs (.tup [anyD, .slc 1 m g]) := by
  refine FnOK.res h fun k v hv => ?_
  obtain ⟨vs, rfl, v1, vs1, rfl, h1, v2, vs2, rfl, h2, h3⟩ := hv
  refine ⟨_, rfl, v1, _, rfl, ?_, v2, _, rfl, DV.rel_slc_congr hg h2, h3⟩
  obtain ⟨p, cap, e, _⟩ := h1
  subst e
  exact ⟨rfl, k, IH.le.refl k, trivial⟩
theorem op_nil {f : FuncId} {xs : List DV} {g : Nat → DV} (h : FnOK Tryz.prog G f xs (.tup [.con (.slice none 0 0), .con (.slice none 0 0)])) : FnOK Tryz.prog G f xs (.tup [anyD, .slc 1 0 g]) := by
  refine FnOK.res h fun k v hv => ?_
  obtain ⟨vs, rfl, v1, vs1, rfl, h1, v2, vs2, rfl, h2, h3⟩ := hv
  have h1 : v1 = _ := h1
  have h2 : v2 = _ := h2
  subst h1; subst h2
  exact ⟨_, rfl, _, _, rfl, ⟨rfl, k, IH.le.refl k, trivial⟩, _, _, rfl, ⟨none, 0, rfl, Nat.le_refl _, .inl rfl⟩, h3⟩
theorem f116 (i : Int) (h1 : 1 ≤ i) (h6 : i ≤ 6) : FnOK Tryz.prog G 116 [di i] (.tup [anyD, .slc 1 (opK i).length (inF (opK i))]) := by
  have hc : i = 1 ∨ i = 2 ∨ i = 3 ∨ i = 4 ∨ i = 5 ∨ i = 6 := by omega
  rcases hc with rfl | rfl | rfl | rfl | rfl | rfl
  · refine op_res (n := 1) (m := 1) (a := elemF false 1 [ds ⟨#[111, 114]⟩]) (b := elemF false 1 [di 20]) (FnOK.walk (orc := orcE) (keep := []) follows Tryz.func116 rfl Tryz.call116 ?_) ?_
    · refine of_eqH (b :=
      (((true = true) →
      (((.tup [(.slc 1 1 (elemF false 1 [(ds ({ data := #[(111 : UInt8), (114 : UInt8)] }))])), (.slc 1 1 (elemF false 1 [(di 20)]))]) : DV) = (.tup [(.slc 1 1 (elemF false 1 [(ds { data := #[(111 : UInt8), (114 : UInt8)] })])), (.slc 1 1 (elemF false 1 [(di (20 : Int))]))]))) ∧
      ((true = false) →
      (((false = true) →
      (((.tup [(.slc 1 1 (elemF false 1 [(ds ({ data := #[(97 : UInt8), (110 : UInt8), (100 : UInt8)] }))])), (.slc 1 1 (elemF false 1 [(di 19)]))]) : DV) = (.tup [(.slc 1 1 (elemF false 1 [(ds { data := #[(111 : UInt8), (114 : UInt8)] })])), (.slc 1 1 (elemF false 1 [(di (20 : Int))]))]))) ∧
      ((false = false) →
      (((false = true) →
      (((.tup [(.slc 1 6 (elemF false 1 [(ds ({ data := #[(61 : UInt8), (61 : UInt8)] })), (ds ({ data := #[(33 : UInt8), (61 : UInt8)] })), (ds ({ data := #[(60 : UInt8)] })), (ds ({ data := #[(60 : UInt8), (61 : UInt8)] })), (ds ({ data := #[(62 : UInt8)] })), (ds ({ data := #[(62 : UInt8), (61 : UInt8)] }))])), (.slc 1 6 (elemF false 1 [(di 12), (di 13), (di 14), (di 15), (di 16), (di 17)]))]) : DV) = (.tup [(.slc 1 1 (elemF false 1 [(ds { data := #[(111 : UInt8), (114 : UInt8)] })])), (.slc 1 1 (elemF false 1 [(di (20 : Int))]))]))) ∧
      ((false = false) →
      (((false = true) →
      (((.tup [(.slc 1 2 (elemF false 1 [(ds ({ data := #[(43 : UInt8)] })), (ds ({ data := #[(45 : UInt8)] }))])), (.slc 1 2 (elemF false 1 [(di 6), (di 7)]))]) : DV) = (.tup [(.slc 1 1 (elemF false 1 [(ds { data := #[(111 : UInt8), (114 : UInt8)] })])), (.slc 1 1 (elemF false 1 [(di (20 : Int))]))]))) ∧
      ((false = false) →
      (((false = true) →
      (((.tup [(.slc 1 2 (elemF false 1 [(ds ({ data := #[(42 : UInt8)] })), (ds ({ data := #[(47 : UInt8)] }))])), (.slc 1 2 (elemF false 1 [(di 8), (di 9)]))]) : DV) = (.tup [(.slc 1 1 (elemF false 1 [(ds { data := #[(111 : UInt8), (114 : UInt8)] })])), (.slc 1 1 (elemF false 1 [(di (20 : Int))]))]))) ∧
      ((false = false) →
      (((.tup [(.con (.slice none 0 0)), (.con (.slice none 0 0))]) : DV) = (.tup [(.slc 1 1 (elemF false 1 [(ds { data := #[(111 : UInt8), (114 : UInt8)] })])), (.slc 1 1 (elemF false 1 [(di (20 : Int))]))]))))))))))))) (by kernel_rfl) ?_
      simp
    · intro j hj
      match j, hj with
      | 0, _ => rfl
  · refine op_res (n := 1) (m := 1) (a := elemF false 1 [ds ⟨#[97, 110, 100]⟩]) (b := elemF false 1 [di 19]) (FnOK.walk (orc := orcE) (keep := []) follows Tryz.func116 rfl Tryz.call116 ?_) ?_
    · refine of_eqH (b :=
      (((false = true) →
      (((.tup [(.slc 1 1 (elemF false 1 [(ds ({ data := #[(111 : UInt8), (114 : UInt8)] }))])), (.slc 1 1 (elemF false 1 [(di 20)]))]) : DV) = (.tup [(.slc 1 1 (elemF false 1 [(ds { data := #[(97 : UInt8), (110 : UInt8), (100 : UInt8)] })])), (.slc 1 1 (elemF false 1 [(di (19 : Int))]))]))) ∧
      ((false = false) →
      (((true = true) →
      (((.tup [(.slc 1 1 (elemF false 1 [(ds ({ data := #[(97 : UInt8), (110 : UInt8), (100 : UInt8)] }))])), (.slc 1 1 (elemF false 1 [(di 19)]))]) : DV) = (.tup [(.slc 1 1 (elemF false 1 [(ds { data := #[(97 : UInt8), (110 : UInt8), (100 : UInt8)] })])), (.slc 1 1 (elemF false 1 [(di (19 : Int))]))]))) ∧
      ((true = false) →
      (((false = true) →
      (((.tup [(.slc 1 6 (elemF false 1 [(ds ({ data := #[(61 : UInt8), (61 : UInt8)] })), (ds ({ data := #[(33 : UInt8), (61 : UInt8)] })), (ds ({ data := #[(60 : UInt8)] })), (ds ({ data := #[(60 : UInt8), (61 : UInt8)] })), (ds ({ data := #[(62 : UInt8)] })), (ds ({ data := #[(62 : UInt8), (61 : UInt8)] }))])), (.slc 1 6 (elemF false 1 [(di 12), (di 13), (di 14), (di 15), (di 16), (di 17)]))]) : DV) = (.tup [(.slc 1 1 (elemF false 1 [(ds { data := #[(97 : UInt8), (110 : UInt8), (100 : UInt8)] })])), (.slc 1 1 (elemF false 1 [(di (19 : Int))]))]))) ∧
      ((false = false) →
      (((false = true) →
      (((.tup [(.slc 1 2 (elemF false 1 [(ds ({ data := #[(43 : UInt8)] })), (ds ({ data := #[(45 : UInt8)] }))])), (.slc 1 2 (elemF false 1 [(di 6), (di 7)]))]) : DV) = (.tup [(.slc 1 1 (elemF false 1 [(ds { data := #[(97 : UInt8), (110 : UInt8), (100 : UInt8)] })])), (.slc 1 1 (elemF false 1 [(di (19 : Int))]))]))) ∧
      ((false = false) →
      (((false = true) →
      (((.tup [(.slc 1 2 (elemF false 1 [(ds ({ data := #[(42 : UInt8)] })), (ds ({ data := #[(47 : UInt8)] }))])), (.slc 1 2 (elemF false 1 [(di 8), (di 9)]))]) : DV) = (.tup [(.slc 1 1 (elemF false 1 [(ds { data := #[(97 : UInt8), (110 : UInt8), (100 : UInt8)] })])), (.slc 1 1 (elemF false 1 [(di (19 : Int))]))]))) ∧
      ((false = false) →
      (((.tup [(.con (.slice none 0 0)), (.con (.slice none 0 0))]) : DV) = (.tup [(.slc 1 1 (elemF false 1 [(ds { data := #[(97 : UInt8), (110 : UInt8), (100 : UInt8)] })])), (.slc 1 1 (elemF false 1 [(di (19 : Int))]))]))))))))))))) (by kernel_rfl) ?_
      simp
    · intro j hj
      match j, hj with
      | 0, _ => rfl
  · refine op_nil (FnOK.walk (orc := orcE) (keep := []) follows Tryz.func116 rfl Tryz.call116 ?_)
    refine of_eqH (b :=
      (((false = true) →
      (((.tup [(.slc 1 1 (elemF false 1 [(ds ({ data := #[(111 : UInt8), (114 : UInt8)] }))])), (.slc 1 1 (elemF false 1 [(di 20)]))]) : DV) = (.tup [(.con (.slice none 0 0)), (.con (.slice none 0 0))]))) ∧
      ((false = false) →
      (((false = true) →
      (((.tup [(.slc 1 1 (elemF false 1 [(ds ({ data := #[(97 : UInt8), (110 : UInt8), (100 : UInt8)] }))])), (.slc 1 1 (elemF false 1 [(di 19)]))]) : DV) = (.tup [(.con (.slice none 0 0)), (.con (.slice none 0 0))]))) ∧
      ((false = false) →
      (((false = true) →
      (((.tup [(.slc 1 6 (elemF false 1 [(ds ({ data := #[(61 : UInt8), (61 : UInt8)] })), (ds ({ data := #[(33 : UInt8), (61 : UInt8)] })), (ds ({ data := #[(60 : UInt8)] })), (ds ({ data := #[(60 : UInt8), (61 : UInt8)] })), (ds ({ data := #[(62 : UInt8)] })), (ds ({ data := #[(62 : UInt8), (61 : UInt8)] }))])), (.slc 1 6 (elemF false 1 [(di 12), (di 13), (di 14), (di 15), (di 16), (di 17)]))]) : DV) = (.tup [(.con (.slice none 0 0)), (.con (.slice none 0 0))]))) ∧
      ((false = false) →
      (((false = true) →
      (((.tup [(.slc 1 2 (elemF false 1 [(ds ({ data := #[(43 : UInt8)] })), (ds ({ data := #[(45 : UInt8)] }))])), (.slc 1 2 (elemF false 1 [(di 6), (di 7)]))]) : DV) = (.tup [(.con (.slice none 0 0)), (.con (.slice none 0 0))]))) ∧
      ((false = false) →
      (((false = true) →
      (((.tup [(.slc 1 2 (elemF false 1 [(ds ({ data := #[(42 : UInt8)] })), (ds ({ data := #[(47 : UInt8)] }))])), (.slc 1 2 (elemF false 1 [(di 8), (di 9)]))]) : DV) = (.tup [(.con (.slice none 0 0)), (.con (.slice none 0 0))]))) ∧
      ((false = false) →
      (((.tup [(.con (.slice none 0 0)), (.con (.slice none 0 0))]) : DV) = (.tup [(.con (.slice none 0 0)), (.con (.slice none 0 0))]))))))))))))) (by kernel_rfl) ?_
    simp
  · refine op_res (n := 6) (m := 6) (a := elemF false 1 [ds ⟨#[61, 61]⟩, ds ⟨#[33, 61]⟩, ds ⟨#[60]⟩, ds ⟨#[60, 61]⟩, ds ⟨#[62]⟩, ds ⟨#[62, 61]⟩]) (b := elemF false 1 [di 12, di 13, di 14, di 15, di 16, di 17]) (FnOK.walk (orc := orcE) (keep := []) follows Tryz.func116 rfl Tryz.call116 ?_) ?_
    · refine of_eqH (b :=
      (((false = true) →
      (((.tup [(.slc 1 1 (elemF false 1 [(ds ({ data := #[(111 : UInt8), (114 : UInt8)] }))])), (.slc 1 1 (elemF false 1 [(di 20)]))]) : DV) = (.tup [(.slc 1 6 (elemF false 1 [(ds { data := #[(61 : UInt8), (61 : UInt8)] }), (ds { data := #[(33 : UInt8), (61 : UInt8)] }), (ds { data := #[(60 : UInt8)] }), (ds { data := #[(60 : UInt8), (61 : UInt8)] }), (ds { data := #[(62 : UInt8)] }), (ds { data := #[(62 : UInt8), (61 : UInt8)] })])), (.slc 1 6 (elemF false 1 [(di (12 : Int)), (di (13 : Int)), (di (14 : Int)), (di (15 : Int)), (di (16 : Int)), (di (17 : Int))]))]))) ∧
      ((false = false) →
      (((false = true) →
      (((.tup [(.slc 1 1 (elemF false 1 [(ds ({ data := #[(97 : UInt8), (110 : UInt8), (100 : UInt8)] }))])), (.slc 1 1 (elemF false 1 [(di 19)]))]) : DV) = (.tup [(.slc 1 6 (elemF false 1 [(ds { data := #[(61 : UInt8), (61 : UInt8)] }), (ds { data := #[(33 : UInt8), (61 : UInt8)] }), (ds { data := #[(60 : UInt8)] }), (ds { data := #[(60 : UInt8), (61 : UInt8)] }), (ds { data := #[(62 : UInt8)] }), (ds { data := #[(62 : UInt8), (61 : UInt8)] })])), (.slc 1 6 (elemF false 1 [(di (12 : Int)), (di (13 : Int)), (di (14 : Int)), (di (15 : Int)), (di (16 : Int)), (di (17 : Int))]))]))) ∧
      ((false = false) →
      (((true = true) →
      (((.tup [(.slc 1 6 (elemF false 1 [(ds ({ data := #[(61 : UInt8), (61 : UInt8)] })), (ds ({ data := #[(33 : UInt8), (61 : UInt8)] })), (ds ({ data := #[(60 : UInt8)] })), (ds ({ data := #[(60 : UInt8), (61 : UInt8)] })), (ds ({ data := #[(62 : UInt8)] })), (ds ({ data := #[(62 : UInt8), (61 : UInt8)] }))])), (.slc 1 6 (elemF false 1 [(di 12), (di 13), (di 14), (di 15), (di 16), (di 17)]))]) : DV) = (.tup [(.slc 1 6 (elemF false 1 [(ds { data := #[(61 : UInt8), (61 : UInt8)] }), (ds { data := #[(33 : UInt8), (61 : UInt8)] }), (ds { data := #[(60 : UInt8)] }), (ds { data := #[(60 : UInt8), (61 : UInt8)] }), (ds { data := #[(62 : UInt8)] }), (ds { data := #[(62 : UInt8), (61 : UInt8)] })])), (.slc 1 6 (elemF false 1 [(di (12 : Int)), (di (13 : Int)), (di (14 : Int)), (di (15 : Int)), (di (16 : Int)), (di (17 : Int))]))]))) ∧
      ((true = false) →
      (((false = true) →
      (((.tup [(.slc 1 2 (elemF false 1 [(ds ({ data := #[(43 : UInt8)] })), (ds ({ data := #[(45 : UInt8)] }))])), (.slc 1 2 (elemF false 1 [(di 6), (di 7)]))]) : DV) = (.tup [(.slc 1 6 (elemF false 1 [(ds { data := #[(61 : UInt8), (61 : UInt8)] }), (ds { data := #[(33 : UInt8), (61 : UInt8)] }), (ds { data := #[(60 : UInt8)] }), (ds { data := #[(60 : UInt8), (61 : UInt8)] }), (ds { data := #[(62 : UInt8)] }), (ds { data := #[(62 : UInt8), (61 : UInt8)] })])), (.slc 1 6 (elemF false 1 [(di (12 : Int)), (di (13 : Int)), (di (14 : Int)), (di (15 : Int)), (di (16 : Int)), (di (17 : Int))]))]))) ∧
      ((false = false) →
      (((false = true) →
      (((.tup [(.slc 1 2 (elemF false 1 [(ds ({ data := #[(42 : UInt8)] })), (ds ({ data := #[(47 : UInt8)] }))])), (.slc 1 2 (elemF false 1 [(di 8), (di 9)]))]) : DV) = (.tup [(.slc 1 6 (elemF false 1 [(ds { data := #[(61 : UInt8), (61 : UInt8)] }), (ds { data := #[(33 : UInt8), (61 : UInt8)] }), (ds { data := #[(60 : UInt8)] }), (ds { data := #[(60 : UInt8), (61 : UInt8)] }), (ds { data := #[(62 : UInt8)] }), (ds { data := #[(62 : UInt8), (61 : UInt8)] })])), (.slc 1 6 (elemF false 1 [(di (12 : Int)), (di (13 : Int)), (di (14 : Int)), (di (15 : Int)), (di (16 : Int)), (di (17 : Int))]))]))) ∧
      ((false = false) →
      (((.tup [(.con (.slice none 0 0)), (.con (.slice none 0 0))]) : DV) = (.tup [(.slc 1 6 (elemF false 1 [(ds { data := #[(61 : UInt8), (61 : UInt8)] }), (ds { data := #[(33 : UInt8), (61 : UInt8)] }), (ds { data := #[(60 : UInt8)] }), (ds { data := #[(60 : UInt8), (61 : UInt8)] }), (ds { data := #[(62 : UInt8)] }), (ds { data := #[(62 : UInt8), (61 : UInt8)] })])), (.slc 1 6 (elemF false 1 [(di (12 : Int)), (di (13 : Int)), (di (14 : Int)), (di (15 : Int)), (di (16 : Int)), (di (17 : Int))]))]))))))))))))) (by kernel_rfl) ?_
      simp
    · intro j hj
      match j, hj with
      | 0, _ => rfl
      | 1, _ => rfl
      | 2, _ => rfl
      | 3, _ => rfl
      | 4, _ => rfl
      | 5, _ => rfl
  · refine op_res (n := 2) (m := 2) (a := elemF false 1 [ds ⟨#[43]⟩, ds ⟨#[45]⟩]) (b := elemF false 1 [di 6, di 7]) (FnOK.walk (orc := orcE) (keep := []) follows Tryz.func116 rfl Tryz.call116 ?_) ?_
    · refine of_eqH (b :=
      (((false = true) →
      (((.tup [(.slc 1 1 (elemF false 1 [(ds ({ data := #[(111 : UInt8), (114 : UInt8)] }))])), (.slc 1 1 (elemF false 1 [(di 20)]))]) : DV) = (.tup [(.slc 1 2 (elemF false 1 [(ds { data := #[(43 : UInt8)] }), (ds { data := #[(45 : UInt8)] })])), (.slc 1 2 (elemF false 1 [(di (6 : Int)), (di (7 : Int))]))]))) ∧
      ((false = false) →
      (((false = true) →
      (((.tup [(.slc 1 1 (elemF false 1 [(ds ({ data := #[(97 : UInt8), (110 : UInt8), (100 : UInt8)] }))])), (.slc 1 1 (elemF false 1 [(di 19)]))]) : DV) = (.tup [(.slc 1 2 (elemF false 1 [(ds { data := #[(43 : UInt8)] }), (ds { data := #[(45 : UInt8)] })])), (.slc 1 2 (elemF false 1 [(di (6 : Int)), (di (7 : Int))]))]))) ∧
      ((false = false) →
      (((false = true) →
      (((.tup [(.slc 1 6 (elemF false 1 [(ds ({ data := #[(61 : UInt8), (61 : UInt8)] })), (ds ({ data := #[(33 : UInt8), (61 : UInt8)] })), (ds ({ data := #[(60 : UInt8)] })), (ds ({ data := #[(60 : UInt8), (61 : UInt8)] })), (ds ({ data := #[(62 : UInt8)] })), (ds ({ data := #[(62 : UInt8), (61 : UInt8)] }))])), (.slc 1 6 (elemF false 1 [(di 12), (di 13), (di 14), (di 15), (di 16), (di 17)]))]) : DV) = (.tup [(.slc 1 2 (elemF false 1 [(ds { data := #[(43 : UInt8)] }), (ds { data := #[(45 : UInt8)] })])), (.slc 1 2 (elemF false 1 [(di (6 : Int)), (di (7 : Int))]))]))) ∧
      ((false = false) →
      (((true = true) →
      (((.tup [(.slc 1 2 (elemF false 1 [(ds ({ data := #[(43 : UInt8)] })), (ds ({ data := #[(45 : UInt8)] }))])), (.slc 1 2 (elemF false 1 [(di 6), (di 7)]))]) : DV) = (.tup [(.slc 1 2 (elemF false 1 [(ds { data := #[(43 : UInt8)] }), (ds { data := #[(45 : UInt8)] })])), (.slc 1 2 (elemF false 1 [(di (6 : Int)), (di (7 : Int))]))]))) ∧
      ((true = false) →
      (((false = true) →
      (((.tup [(.slc 1 2 (elemF false 1 [(ds ({ data := #[(42 : UInt8)] })), (ds ({ data := #[(47 : UInt8)] }))])), (.slc 1 2 (elemF false 1 [(di 8), (di 9)]))]) : DV) = (.tup [(.slc 1 2 (elemF false 1 [(ds { data := #[(43 : UInt8)] }), (ds { data := #[(45 : UInt8)] })])), (.slc 1 2 (elemF false 1 [(di (6 : Int)), (di (7 : Int))]))]))) ∧
      ((false = false) →
      (((.tup [(.con (.slice none 0 0)), (.con (.slice none 0 0))]) : DV) = (.tup [(.slc 1 2 (elemF false 1 [(ds { data := #[(43 : UInt8)] }), (ds { data := #[(45 : UInt8)] })])), (.slc 1 2 (elemF false 1 [(di (6 : Int)), (di (7 : Int))]))]))))))))))))) (by kernel_rfl) ?_
      simp
    · intro j hj
      match j, hj with
      | 0, _ => rfl
      | 1, _ => rfl
  · refine op_res (n := 2) (m := 2) (a := elemF false 1 [ds ⟨#[42]⟩, ds ⟨#[47]⟩]) (b := elemF false 1 [di 8, di 9]) (FnOK.walk (orc := orcE) (keep := []) follows Tryz.func116 rfl Tryz.call116 ?_) ?_
    · refine of_eqH (b :=
      (((false = true) →
      (((.tup [(.slc 1 1 (elemF false 1 [(ds ({ data := #[(111 : UInt8), (114 : UInt8)] }))])), (.slc 1 1 (elemF false 1 [(di 20)]))]) : DV) = (.tup [(.slc 1 2 (elemF false 1 [(ds { data := #[(42 : UInt8)] }), (ds { data := #[(47 : UInt8)] })])), (.slc 1 2 (elemF false 1 [(di (8 : Int)), (di (9 : Int))]))]))) ∧
      ((false = false) →
      (((false = true) →
      (((.tup [(.slc 1 1 (elemF false 1 [(ds ({ data := #[(97 : UInt8), (110 : UInt8), (100 : UInt8)] }))])), (.slc 1 1 (elemF false 1 [(di 19)]))]) : DV) = (.tup [(.slc 1 2 (elemF false 1 [(ds { data := #[(42 : UInt8)] }), (ds { data := #[(47 : UInt8)] })])), (.slc 1 2 (elemF false 1 [(di (8 : Int)), (di (9 : Int))]))]))) ∧
      ((false = false) →
      (((false = true) →
      (((.tup [(.slc 1 6 (elemF false 1 [(ds ({ data := #[(61 : UInt8), (61 : UInt8)] })), (ds ({ data := #[(33 : UInt8), (61 : UInt8)] })), (ds ({ data := #[(60 : UInt8)] })), (ds ({ data := #[(60 : UInt8), (61 : UInt8)] })), (ds ({ data := #[(62 : UInt8)] })), (ds ({ data := #[(62 : UInt8), (61 : UInt8)] }))])), (.slc 1 6 (elemF false 1 [(di 12), (di 13), (di 14), (di 15), (di 16), (di 17)]))]) : DV) = (.tup [(.slc 1 2 (elemF false 1 [(ds { data := #[(42 : UInt8)] }), (ds { data := #[(47 : UInt8)] })])), (.slc 1 2 (elemF false 1 [(di (8 : Int)), (di (9 : Int))]))]))) ∧
      ((false = false) →
      (((false = true) →
      (((.tup [(.slc 1 2 (elemF false 1 [(ds ({ data := #[(43 : UInt8)] })), (ds ({ data := #[(45 : UInt8)] }))])), (.slc 1 2 (elemF false 1 [(di 6), (di 7)]))]) : DV) = (.tup [(.slc 1 2 (elemF false 1 [(ds { data := #[(42 : UInt8)] }), (ds { data := #[(47 : UInt8)] })])), (.slc 1 2 (elemF false 1 [(di (8 : Int)), (di (9 : Int))]))]))) ∧
      ((false = false) →
      (((true = true) →
      (((.tup [(.slc 1 2 (elemF false 1 [(ds ({ data := #[(42 : UInt8)] })), (ds ({ data := #[(47 : UInt8)] }))])), (.slc 1 2 (elemF false 1 [(di 8), (di 9)]))]) : DV) = (.tup [(.slc 1 2 (elemF false 1 [(ds { data := #[(42 : UInt8)] }), (ds { data := #[(47 : UInt8)] })])), (.slc 1 2 (elemF false 1 [(di (8 : Int)), (di (9 : Int))]))]))) ∧
      ((true = false) →
      (((.tup [(.con (.slice none 0 0)), (.con (.slice none 0 0))]) : DV) = (.tup [(.slc 1 2 (elemF false 1 [(ds { data := #[(42 : UInt8)] }), (ds { data := #[(47 : UInt8)] })])), (.slc 1 2 (elemF false 1 [(di (8 : Int)), (di (9 : Int))]))]))))))))))))) (by kernel_rfl) ?_
      simp
    · intro j hj
      match j, hj with
      | 0, _ => rfl
      | 1, _ => rfl
def orcR : Oracle := fun f a => match f, a with
  | 116, [di i] => some (.tup [anyD, .slc 1 (opK i).length (inF (opK i))])
  | _, _ => none
theorem opK_ne (i : Int) (j : Nat) (h : j < (opK i).length) : (opK i).getD j 0 ≠ 2 := by
  have hall : ∀ x ∈ opK i, x ≠ 2 := by
    intro x
    unfold opK
    repeat' split
    all_goals simp
    all_goals omega
  have hm : (opK i).getD j 0 = (opK i)[j] := by rw [List.getD, List.getElem?_eq_getElem h]; rfl
  rw [hm]
  exact hall _ (List.getElem_mem h)
noncomputable def S112 (s : ByteArray) (i : Nat) : AS := ⟨regs Tryz.f112.ntmps [(1, .box 1 0), (3, vi i)], [(1, [vi 2, vs s, vi 0, vi 0, vi 0, .d (.con (.slice none 0 0))])]⟩
noncomputable def S112i (s : ByteArray) (i : Nat) (k : Nat) : AS := ⟨regs Tryz.f112.ntmps [(1, .box 1 0), (3, vi i), (5, .d (.slc 1 (opK i).length (inF (opK i)))), (6, vi k)], [(1, [vi 2, vs s, vi 0, vi 0, vi 0, .d (.con (.slice none 0 0))])]⟩
theorem f112 (s : ByteArray) : FnOK Tryz.prog G 112 [eN s] (di 8) := by
  refine FnOK.walk (orc := orcR) (keep := []) follows Tryz.func112 rfl Tryz.call112 ?_
  refine of_eqH (b :=
    AWP Tryz.prog G [.code (cAt (bodyOf Tryz.f112) [1, 0, 1, 0]), (.blk 0), .code (cAt (bodyOf Tryz.f112) [1, 1])] ⟨regs 43 [(0, (.d (.agg [(di 2), (ds s), (di 0), (di 0), (di 0), (.con (.slice none 0 0))]))), (1, (.box 1 0)), (2, (vi 0)), (3, (vi 1))], [(1, [(vi 2), (vs s), (vi 0), (vi 0), (vi 0), (.d (.con (.slice none 0 0)))])]⟩ (Ret Tryz.prog Tryz.f112 (di (8 : Int)))) (by kernel_rfl) ?_
  refine AWP.loop (c := cAt (bodyOf Tryz.f112) [1, 0, 1, 0, 0]) (by kernel_rfl) (S112 s) (fun i => 1 ≤ i ∧ i ≤ 7) (fun i => 7 - i) 1 ?_ ⟨Nat.le_refl _, by omega⟩ ?_
  · refine of_eq (b :=
    (((((.box 1 0) : AV) = (.box 1 0)) ∧
    ((((vi 1) : AV) = (vi 1)) ∧
    True)) ∧
    ((((some [(vi 2), (vs s), (vi 0), (vi 0), (vi 0), (.d (.con (.slice none 0 0)))]) : (Option (List AV))) = (some [(vi 2), (vs s), (vi 0), (vi 0), (vi 0), (.d (.con (.slice none 0 0)))])) ∧
    True))) (by kernel_rfl) ?_
    exact ⟨⟨rfl, rfl, trivial⟩, rfl, trivial⟩
  · rintro i ⟨hi1, hi7⟩
    refine walk (orc := orcR) (keep := []) (cuts := []) (n := 1000) follows ?_
    refine of_eqH (b :=
      ((((decide ((↑i : Int) ≤ (6 : Int))) = true) →
      (FnOK Tryz.prog G 116 [(di ((↑i : Int)))] (.tup [(.prd (fun x x_1 => True)), (.slc 1 (List.length (opK (↑i : Int))) (inF (opK (↑i : Int))))]) ∧
      AWP Tryz.prog G [.code (cAt (bodyOf Tryz.f112) [1, 0, 1, 0, 0, 1, 0, 0, 1, 1, 0]), (.blk 2), (.blk 1), .code (cAt (bodyOf Tryz.f112) [1, 0, 1, 0, 0, 1, 1])] ⟨regs 43 [(1, (.box 1 0)), (3, (vi ((↑i : Int)))), (4, (.d (.prd (fun x x_1 => True)))), (5, (.d (.slc 1 (List.length (opK (↑i : Int))) (inF (opK (↑i : Int)))))), (6, (vi 0)), (7, (vi ((↑i : Int)))), (8, (vb (decide ((↑i : Int) ≤ (6 : Int))))), (11, (.d (.tup [(.prd (fun x x_1 => True)), (.slc 1 (List.length (opK (↑i : Int))) (inF (opK (↑i : Int))))]))), (12, (vi ((↑i : Int)))), (13, (.d (.tup [(.prd (fun x x_1 => True)), (.slc 1 (List.length (opK (↑i : Int))) (inF (opK (↑i : Int))))]))), (14, (.d (.prd (fun x x_1 => True)))), (15, (.d (.slc 1 (List.length (opK (↑i : Int))) (inF (opK (↑i : Int))))))], [(1, [(vi 2), (vs s), (vi 0), (vi 0), (vi 0), (.d (.con (.slice none 0 0)))])]⟩ (RoundQ Tryz.prog G [It.blk (0 : Nat), It.code (Code.seq (Code.seq (Code.region (10 : Nat) #[{ dst := some (30 : Nat), op := Op.fieldAddr (94 : Nat) (Operand.tmp (1 : Nat)) (0 : Nat), type := (0 : Nat), pos := "ref.go:337", after := #[], guard := none }, { dst := some (31 : Nat), op := Op.load (3 : Nat) (Operand.tmp (30 : Nat)), type := (3 : Nat), pos := "ref.go:337", after := #[{ on := (0 : Nat), ground := Ground.data }], guard := none }] false) (Code.block (4 : Nat) (Code.seq (Code.region (11 : Nat) #[{ dst := some (33 : Nat), op := Op.binOp BinOp.eql (3 : Nat) (Operand.tmp (31 : Nat)) (Operand.const (Value.int IntKind.i64 (18 : Int))) (3 : Nat), type := (4 : Nat), pos := "ref.go:338", after := #[], guard := none }, { dst := some (32 : Nat), op := Op.assign (Operand.tmp (33 : Nat)), type := (4 : Nat), pos := "ref.go:338", after := #[{ on := (0 : Nat), ground := Ground.data }], guard := none }] false) (Code.cond (Operand.tmp (32 : Nat)) (Code.seq (Code.region (12 : Nat) #[{ dst := some (2 : Nat), op := Op.assign (Operand.const (Value.int IntKind.i64 (3 : Int))), type := (3 : Nat), pos := "ref.go:339", after := #[], guard := none }] false) Code.ret) (Code.seq (Code.region (13 : Nat) #[{ dst := some (35 : Nat), op := Op.binOp BinOp.eql (3 : Nat) (Operand.tmp (31 : Nat)) (Operand.const (Value.int IntKind.i64 (5 : Int))) (3 : Nat), type := (4 : Nat), pos := "ref.go:340", after := #[], guard := none }, { dst := some (34 : Nat), op := Op.assign (Operand.tmp (35 : Nat)), type := (4 : Nat), pos := "ref.go:340", after := #[{ on := (0 : Nat), ground := Ground.data }], guard := none }] false) (Code.cond (Operand.tmp (34 : Nat)) (Code.seq (Code.region (14 : Nat) #[{ dst := some (2 : Nat), op := Op.assign (Operand.const (Value.int IntKind.i64 (7 : Int))), type := (3 : Nat), pos := "ref.go:341", after := #[], guard := none }] false) Code.ret) (Code.seq (Code.seq (Code.region (15 : Nat) #[{ dst := some (37 : Nat), op := Op.binOp BinOp.eql (3 : Nat) (Operand.tmp (31 : Nat)) (Operand.const (Value.int IntKind.i64 (1 : Int))) (3 : Nat), type := (4 : Nat), pos := "ref.go:342", after := #[], guard := none }, { dst := some (36 : Nat), op := Op.assign (Operand.tmp (37 : Nat)), type := (4 : Nat), pos := "ref.go:342", after := #[{ on := (0 : Nat), ground := Ground.data }], guard := none }] false) (Code.cond (Operand.tmp (36 : Nat)) Code.skip (Code.seq (Code.region (16 : Nat) #[{ dst := some (38 : Nat), op := Op.binOp BinOp.eql (3 : Nat) (Operand.tmp (31 : Nat)) (Operand.const (Value.int IntKind.i64 (2 : Int))) (3 : Nat), type := (4 : Nat), pos := "ref.go:342", after := #[], guard := none }, { dst := some (36 : Nat), op := Op.assign (Operand.tmp (38 : Nat)), type := (4 : Nat), pos := "ref.go:342", after := #[{ on := (0 : Nat), ground := Ground.data }], guard := none }] false) (Code.cond (Operand.tmp (36 : Nat)) Code.skip (Code.seq (Code.region (17 : Nat) #[{ dst := some (39 : Nat), op := Op.binOp BinOp.eql (3 : Nat) (Operand.tmp (31 : Nat)) (Operand.const (Value.int IntKind.i64 (3 : Int))) (3 : Nat), type := (4 : Nat), pos := "ref.go:342", after := #[], guard := none }, { dst := some (36 : Nat), op := Op.assign (Operand.tmp (39 : Nat)), type := (4 : Nat), pos := "ref.go:342", after := #[{ on := (0 : Nat), ground := Ground.data }], guard := none }] false) (Code.cond (Operand.tmp (36 : Nat)) Code.skip (Code.seq (Code.region (18 : Nat) #[{ dst := some (40 : Nat), op := Op.binOp BinOp.eql (3 : Nat) (Operand.tmp (31 : Nat)) (Operand.const (Value.int IntKind.i64 (4 : Int))) (3 : Nat), type := (4 : Nat), pos := "ref.go:342", after := #[], guard := none }, { dst := some (36 : Nat), op := Op.assign (Operand.tmp (40 : Nat)), type := (4 : Nat), pos := "ref.go:342", after := #[{ on := (0 : Nat), ground := Ground.data }], guard := none }] false) (Code.cond (Operand.tmp (36 : Nat)) Code.skip (Code.seq (Code.region (19 : Nat) #[{ dst := some (41 : Nat), op := Op.binOp BinOp.eql (3 : Nat) (Operand.tmp (31 : Nat)) (Operand.const (Value.int IntKind.i64 (10 : Int))) (3 : Nat), type := (4 : Nat), pos := "ref.go:342", after := #[], guard := none }, { dst := some (36 : Nat), op := Op.assign (Operand.tmp (41 : Nat)), type := (4 : Nat), pos := "ref.go:342", after := #[{ on := (0 : Nat), ground := Ground.data }], guard := none }] false) (Code.cond (Operand.tmp (36 : Nat)) Code.skip (Code.region (20 : Nat) #[{ dst := some (42 : Nat), op := Op.binOp BinOp.eql (3 : Nat) (Operand.tmp (31 : Nat)) (Operand.const (Value.int IntKind.i64 (11 : Int))) (3 : Nat), type := (4 : Nat), pos := "ref.go:342", after := #[], guard := none }, { dst := some (36 : Nat), op := Op.assign (Operand.tmp (42 : Nat)), type := (4 : Nat), pos := "ref.go:342", after := #[{ on := (0 : Nat), ground := Ground.data }], guard := none }] false))))))))))) (Code.cond (Operand.tmp (36 : Nat)) (Code.seq (Code.region (21 : Nat) #[{ dst := some (2 : Nat), op := Op.assign (Operand.const (Value.int IntKind.i64 (8 : Int))), type := (3 : Nat), pos := "ref.go:343", after := #[], guard := none }] false) Code.ret) Code.skip)))))))) (Code.seq (Code.region (22 : Nat) #[{ dst := some (2 : Nat), op := Op.assign (Operand.const (Value.int IntKind.i64 (0 : Int))), type := (3 : Nat), pos := "ref.go:345", after := #[], guard := none }] false) Code.ret))] (Ret Tryz.prog Tryz.f112 (di (8 : Int))) (S112 s) (fun i => (1 : Nat) ≤ i ∧ i ≤ (7 : Nat)) (fun i => (7 : Nat) - i) i))) ∧
      (((decide ((↑i : Int) ≤ (6 : Int))) = false) →
      AWP Tryz.prog G [.code (cAt (bodyOf Tryz.f112) [1, 1])] ⟨regs 43 [(1, (.box 1 0)), (3, (vi ((↑i : Int)))), (7, (vi ((↑i : Int)))), (8, (vb (decide ((↑i : Int) ≤ (6 : Int)))))], [(1, [(vi 2), (vs s), (vi 0), (vi 0), (vi 0), (.d (.con (.slice none 0 0)))])]⟩ (Ret Tryz.prog Tryz.f112 (di (8 : Int)))))) (by kernel_rfl) ?_
    refine ⟨fun h => ?_, fun h => ?_⟩
    · simp only [decide_eq_true_eq] at h
      refine ⟨f116 _ (by omega) (by omega), ?_⟩
      refine AWP.loop (c := cAt (bodyOf Tryz.f112) [1, 0, 1, 0, 0, 1, 0, 0, 1, 1, 0, 0]) (by kernel_rfl) (S112i s i) (fun k => k ≤ (opK i).length) (fun k => (opK i).length - k) 0 ?_ (Nat.zero_le _) ?_
      · refine of_eq (b :=
        (((((.box 1 0) : AV) = (.box 1 0)) ∧
        ((((vi ((↑i : Int))) : AV) = (vi ((↑i : Int)))) ∧
        ((((.d (.slc 1 (List.length (opK (↑i : Int))) (inF (opK (↑i : Int))))) : AV) = (.d (.slc 1 (List.length (opK (↑i : Int))) (inF (opK (↑i : Int)))))) ∧
        ((((vi 0) : AV) = (vi 0)) ∧
        True)))) ∧
        ((((some [(vi 2), (vs s), (vi 0), (vi 0), (vi 0), (.d (.con (.slice none 0 0)))]) : (Option (List AV))) = (some [(vi 2), (vs s), (vi 0), (vi 0), (vi 0), (.d (.con (.slice none 0 0)))])) ∧
        True))) (by kernel_rfl) ?_
        exact ⟨⟨rfl, rfl, rfl, rfl, trivial⟩, rfl, trivial⟩
      · intro k hk
        refine walk (orc := orcR) (keep := []) (cuts := []) (n := 1000) follows ?_
        refine of_eqH (b :=
          ((((decide ((↑k : Int) < (↑(List.length (opK (↑i : Int))) : Int))) = true) →
          ((((0 : Int) ≤ (↑k : Int)) ∧
          ((↑k : Int) < (↑(List.length (opK (↑i : Int))) : Int))) ∧
          ((((List.getD (opK (↑i : Int)) (Int.toNat (↑k : Int)) (0 : Int) == (2 : Int)) = true) →
          (((di ((↑i : Int))) : DV) = (di (8 : Int)))) ∧
          (((List.getD (opK (↑i : Int)) (Int.toNat (↑k : Int)) (0 : Int) == (2 : Int)) = false) →
          ((I64 ((↑k : Int) + (1 : Int))) ∧
          Again (S112i s i) (fun k => k ≤ List.length (opK (↑i : Int))) (fun k => List.length (opK (↑i : Int)) - k) k ⟨regs 43 [(1, (.box 1 0)), (3, (vi ((↑i : Int)))), (5, (.d (.slc 1 (List.length (opK (↑i : Int))) (inF (opK (↑i : Int)))))), (6, (vi ((↑k : Int) + (1 : Int)))), (16, (vi ((↑k : Int)))), (17, (.d (.slc 1 (List.length (opK (↑i : Int))) (inF (opK (↑i : Int)))))), (18, (vi ((↑(List.length (opK (↑i : Int))) : Int)))), (19, (vb (decide ((↑k : Int) < (↑(List.length (opK (↑i : Int))) : Int))))), (20, (vi ((↑k : Int)))), (21, (vi ((↑k : Int) + (1 : Int)))), (22, (.d (.slc 1 (List.length (opK (↑i : Int))) (inF (opK (↑i : Int)))))), (23, (vi ((↑k : Int)))), (24, (.d (.ptr [(di (List.getD (opK (↑i : Int)) (Int.toNat (↑k : Int)) (0 : Int)))]))), (25, (vi (List.getD (opK (↑i : Int)) (Int.toNat (↑k : Int)) (0 : Int)))), (26, (.box 1 0)), (27, (vi 2)), (28, (vb (List.getD (opK (↑i : Int)) (Int.toNat (↑k : Int)) (0 : Int) == (2 : Int))))], [(1, [(vi 2), (vs s), (vi 0), (vi 0), (vi 0), (.d (.con (.slice none 0 0)))])]⟩))))) ∧
          (((decide ((↑k : Int) < (↑(List.length (opK (↑i : Int))) : Int))) = false) →
          AWP Tryz.prog G [(.blk 1), .code (cAt (bodyOf Tryz.f112) [1, 0, 1, 0, 0, 1, 1])] ⟨regs 43 [(1, (.box 1 0)), (3, (vi ((↑i : Int)))), (5, (.d (.slc 1 (List.length (opK (↑i : Int))) (inF (opK (↑i : Int)))))), (6, (vi ((↑k : Int)))), (16, (vi ((↑k : Int)))), (17, (.d (.slc 1 (List.length (opK (↑i : Int))) (inF (opK (↑i : Int)))))), (18, (vi ((↑(List.length (opK (↑i : Int))) : Int)))), (19, (vb (decide ((↑k : Int) < (↑(List.length (opK (↑i : Int))) : Int)))))], [(1, [(vi 2), (vs s), (vi 0), (vi 0), (vi 0), (.d (.con (.slice none 0 0)))])]⟩ (RoundQ Tryz.prog G [It.blk (0 : Nat), It.code (Code.seq (Code.seq (Code.region (10 : Nat) #[{ dst := some (30 : Nat), op := Op.fieldAddr (94 : Nat) (Operand.tmp (1 : Nat)) (0 : Nat), type := (0 : Nat), pos := "ref.go:337", after := #[], guard := none }, { dst := some (31 : Nat), op := Op.load (3 : Nat) (Operand.tmp (30 : Nat)), type := (3 : Nat), pos := "ref.go:337", after := #[{ on := (0 : Nat), ground := Ground.data }], guard := none }] false) (Code.block (4 : Nat) (Code.seq (Code.region (11 : Nat) #[{ dst := some (33 : Nat), op := Op.binOp BinOp.eql (3 : Nat) (Operand.tmp (31 : Nat)) (Operand.const (Value.int IntKind.i64 (18 : Int))) (3 : Nat), type := (4 : Nat), pos := "ref.go:338", after := #[], guard := none }, { dst := some (32 : Nat), op := Op.assign (Operand.tmp (33 : Nat)), type := (4 : Nat), pos := "ref.go:338", after := #[{ on := (0 : Nat), ground := Ground.data }], guard := none }] false) (Code.cond (Operand.tmp (32 : Nat)) (Code.seq (Code.region (12 : Nat) #[{ dst := some (2 : Nat), op := Op.assign (Operand.const (Value.int IntKind.i64 (3 : Int))), type := (3 : Nat), pos := "ref.go:339", after := #[], guard := none }] false) Code.ret) (Code.seq (Code.region (13 : Nat) #[{ dst := some (35 : Nat), op := Op.binOp BinOp.eql (3 : Nat) (Operand.tmp (31 : Nat)) (Operand.const (Value.int IntKind.i64 (5 : Int))) (3 : Nat), type := (4 : Nat), pos := "ref.go:340", after := #[], guard := none }, { dst := some (34 : Nat), op := Op.assign (Operand.tmp (35 : Nat)), type := (4 : Nat), pos := "ref.go:340", after := #[{ on := (0 : Nat), ground := Ground.data }], guard := none }] false) (Code.cond (Operand.tmp (34 : Nat)) (Code.seq (Code.region (14 : Nat) #[{ dst := some (2 : Nat), op := Op.assign (Operand.const (Value.int IntKind.i64 (7 : Int))), type := (3 : Nat), pos := "ref.go:341", after := #[], guard := none }] false) Code.ret) (Code.seq (Code.seq (Code.region (15 : Nat) #[{ dst := some (37 : Nat), op := Op.binOp BinOp.eql (3 : Nat) (Operand.tmp (31 : Nat)) (Operand.const (Value.int IntKind.i64 (1 : Int))) (3 : Nat), type := (4 : Nat), pos := "ref.go:342", after := #[], guard := none }, { dst := some (36 : Nat), op := Op.assign (Operand.tmp (37 : Nat)), type := (4 : Nat), pos := "ref.go:342", after := #[{ on := (0 : Nat), ground := Ground.data }], guard := none }] false) (Code.cond (Operand.tmp (36 : Nat)) Code.skip (Code.seq (Code.region (16 : Nat) #[{ dst := some (38 : Nat), op := Op.binOp BinOp.eql (3 : Nat) (Operand.tmp (31 : Nat)) (Operand.const (Value.int IntKind.i64 (2 : Int))) (3 : Nat), type := (4 : Nat), pos := "ref.go:342", after := #[], guard := none }, { dst := some (36 : Nat), op := Op.assign (Operand.tmp (38 : Nat)), type := (4 : Nat), pos := "ref.go:342", after := #[{ on := (0 : Nat), ground := Ground.data }], guard := none }] false) (Code.cond (Operand.tmp (36 : Nat)) Code.skip (Code.seq (Code.region (17 : Nat) #[{ dst := some (39 : Nat), op := Op.binOp BinOp.eql (3 : Nat) (Operand.tmp (31 : Nat)) (Operand.const (Value.int IntKind.i64 (3 : Int))) (3 : Nat), type := (4 : Nat), pos := "ref.go:342", after := #[], guard := none }, { dst := some (36 : Nat), op := Op.assign (Operand.tmp (39 : Nat)), type := (4 : Nat), pos := "ref.go:342", after := #[{ on := (0 : Nat), ground := Ground.data }], guard := none }] false) (Code.cond (Operand.tmp (36 : Nat)) Code.skip (Code.seq (Code.region (18 : Nat) #[{ dst := some (40 : Nat), op := Op.binOp BinOp.eql (3 : Nat) (Operand.tmp (31 : Nat)) (Operand.const (Value.int IntKind.i64 (4 : Int))) (3 : Nat), type := (4 : Nat), pos := "ref.go:342", after := #[], guard := none }, { dst := some (36 : Nat), op := Op.assign (Operand.tmp (40 : Nat)), type := (4 : Nat), pos := "ref.go:342", after := #[{ on := (0 : Nat), ground := Ground.data }], guard := none }] false) (Code.cond (Operand.tmp (36 : Nat)) Code.skip (Code.seq (Code.region (19 : Nat) #[{ dst := some (41 : Nat), op := Op.binOp BinOp.eql (3 : Nat) (Operand.tmp (31 : Nat)) (Operand.const (Value.int IntKind.i64 (10 : Int))) (3 : Nat), type := (4 : Nat), pos := "ref.go:342", after := #[], guard := none }, { dst := some (36 : Nat), op := Op.assign (Operand.tmp (41 : Nat)), type := (4 : Nat), pos := "ref.go:342", after := #[{ on := (0 : Nat), ground := Ground.data }], guard := none }] false) (Code.cond (Operand.tmp (36 : Nat)) Code.skip (Code.region (20 : Nat) #[{ dst := some (42 : Nat), op := Op.binOp BinOp.eql (3 : Nat) (Operand.tmp (31 : Nat)) (Operand.const (Value.int IntKind.i64 (11 : Int))) (3 : Nat), type := (4 : Nat), pos := "ref.go:342", after := #[], guard := none }, { dst := some (36 : Nat), op := Op.assign (Operand.tmp (42 : Nat)), type := (4 : Nat), pos := "ref.go:342", after := #[{ on := (0 : Nat), ground := Ground.data }], guard := none }] false))))))))))) (Code.cond (Operand.tmp (36 : Nat)) (Code.seq (Code.region (21 : Nat) #[{ dst := some (2 : Nat), op := Op.assign (Operand.const (Value.int IntKind.i64 (8 : Int))), type := (3 : Nat), pos := "ref.go:343", after := #[], guard := none }] false) Code.ret) Code.skip)))))))) (Code.seq (Code.region (22 : Nat) #[{ dst := some (2 : Nat), op := Op.assign (Operand.const (Value.int IntKind.i64 (0 : Int))), type := (3 : Nat), pos := "ref.go:345", after := #[], guard := none }] false) Code.ret))] (Ret Tryz.prog Tryz.f112 (di (8 : Int))) (S112 s) (fun i => (1 : Nat) ≤ i ∧ i ≤ (7 : Nat)) (fun i => (7 : Nat) - i) i)))) (by kernel_rfl) ?_
        refine ⟨fun h5 => ?_, fun h5 => ?_⟩
        · simp only [decide_eq_true_eq] at h5
          have hne := opK_ne (i : Int) k (by omega)
          refine ⟨⟨by omega, by omega⟩, fun h6 => ?_, fun _ => ?_⟩
          · rw [beq_iff_eq, Int.toNat_natCast] at h6
            exact absurd h6 hne
          · have hlen : (opK (i : Int)).length ≤ 6 := by
              unfold opK
              repeat' split
              all_goals decide
            refine ⟨⟨by omega, by omega⟩, Again.mk (k + 1) ?_ (by omega) (by omega)⟩
            refine of_eq (b :=
              (((((.box 1 0) : AV) = (.box 1 0)) ∧
              ((((vi ((↑i : Int))) : AV) = (vi ((↑i : Int)))) ∧
              ((((.d (.slc 1 (List.length (opK (↑i : Int))) (inF (opK (↑i : Int))))) : AV) = (.d (.slc 1 (List.length (opK (↑i : Int))) (inF (opK (↑i : Int)))))) ∧
              ((((vi ((↑k : Int) + (1 : Int))) : AV) = (vi ((↑(k + (1 : Nat)) : Int)))) ∧
              True)))) ∧
              ((((some [(vi 2), (vs s), (vi 0), (vi 0), (vi 0), (.d (.con (.slice none 0 0)))]) : (Option (List AV))) = (some [(vi 2), (vs s), (vi 0), (vi 0), (vi 0), (.d (.con (.slice none 0 0)))])) ∧
              True))) (by kernel_rfl) ?_
            exact ⟨⟨rfl, rfl, rfl, rfl, trivial⟩, rfl, trivial⟩
        · refine walk (orc := orcR) (keep := []) (cuts := []) (n := 1000) follows ?_
          refine of_eqH (b :=
            ((I64 ((↑i : Int) + (1 : Int))) ∧
            Again (S112 s) (fun i => (1 : Nat) ≤ i ∧ i ≤ (7 : Nat)) (fun i => (7 : Nat) - i) i ⟨regs 43 [(1, (.box 1 0)), (3, (vi ((↑i : Int) + (1 : Int)))), (5, (.d (.slc 1 (List.length (opK (↑i : Int))) (inF (opK (↑i : Int)))))), (6, (vi ((↑k : Int)))), (9, (vi ((↑i : Int)))), (10, (vi ((↑i : Int) + (1 : Int)))), (16, (vi ((↑k : Int)))), (17, (.d (.slc 1 (List.length (opK (↑i : Int))) (inF (opK (↑i : Int)))))), (18, (vi ((↑(List.length (opK (↑i : Int))) : Int)))), (19, (vb (decide ((↑k : Int) < (↑(List.length (opK (↑i : Int))) : Int)))))], [(1, [(vi 2), (vs s), (vi 0), (vi 0), (vi 0), (.d (.con (.slice none 0 0)))])]⟩)) (by kernel_rfl) ?_
          refine ⟨⟨by omega, by omega⟩, Again.mk (i + 1) ?_ ⟨by omega, by omega⟩ (by omega)⟩
          refine of_eq (b :=
            (((((.box 1 0) : AV) = (.box 1 0)) ∧
            ((((vi ((↑i : Int) + (1 : Int))) : AV) = (vi ((↑(i + (1 : Nat)) : Int)))) ∧
            True)) ∧
            ((((some [(vi 2), (vs s), (vi 0), (vi 0), (vi 0), (.d (.con (.slice none 0 0)))]) : (Option (List AV))) = (some [(vi 2), (vs s), (vi 0), (vi 0), (vi 0), (.d (.con (.slice none 0 0)))])) ∧
            True))) (by kernel_rfl) ?_
          exact ⟨⟨rfl, rfl, trivial⟩, rfl, trivial⟩
    · simp only [decide_eq_false_iff_not] at h
      refine walk (orc := orcR) (keep := []) (cuts := []) (n := 1000) follows ?_
      refine of_eqH (b :=
        (((false = true) →
        (((di 3) : DV) = (di (8 : Int)))) ∧
        ((false = false) →
        (((false = true) →
        (((di 7) : DV) = (di (8 : Int)))) ∧
        ((false = false) →
        (((false = true) →
        (((false = true) →
        (((di 8) : DV) = (di (8 : Int)))) ∧
        ((false = false) →
        (((di 0) : DV) = (di (8 : Int)))))) ∧
        ((false = false) →
        (((true = true) →
        (((true = true) →
        (((di 8) : DV) = (di (8 : Int)))) ∧
        ((true = false) →
        (((di 0) : DV) = (di (8 : Int)))))) ∧
        ((true = false) →
        (((false = true) →
        (((false = true) →
        (((di 8) : DV) = (di (8 : Int)))) ∧
        ((false = false) →
        (((di 0) : DV) = (di (8 : Int)))))) ∧
        ((false = false) →
        (((false = true) →
        (((false = true) →
        (((di 8) : DV) = (di (8 : Int)))) ∧
        ((false = false) →
        (((di 0) : DV) = (di (8 : Int)))))) ∧
        ((false = false) →
        (((false = true) →
        (((false = true) →
        (((di 8) : DV) = (di (8 : Int)))) ∧
        ((false = false) →
        (((di 0) : DV) = (di (8 : Int)))))) ∧
        ((false = false) →
        (((false = true) →
        (((di 8) : DV) = (di (8 : Int)))) ∧
        ((false = false) →
        (((di 0) : DV) = (di (8 : Int)))))))))))))))))))) (by kernel_rfl) ?_
      simp
theorem f98 (s : ByteArray) (hs : s.size ≤ 1000000) : FnOK Tryz.prog G 98 [eN s] (db (nameB s)) := by
  refine FnOK.walk (orc := orcE) (keep := []) follows Tryz.func98 rfl Tryz.call98 ?_
  refine of_eqH (b :=
    (FnOK Tryz.prog G 112 [(.agg [(di 2), (ds s), (di 0), (di 0), (di 0), (.con (.slice none 0 0))])] (di 8) ∧
    (((((8 : Int) == (0 : Int) || (2 : Int) != (2 : Int) && !ByteArray.toList s == ByteArray.toList { data := #[] } || (2 : Int) != (1 : Int) && !true) = true) →
    (((db false) : DV) = (db (nameB s)))) ∧
    ((((8 : Int) == (0 : Int) || (2 : Int) != (2 : Int) && !ByteArray.toList s == ByteArray.toList { data := #[] } || (2 : Int) != (1 : Int) && !true) = false) →
    (((true = true) →
    (FnOK Tryz.prog G 113 [(ds s)] (db (nameB s)) ∧
    ((((!nameB s || decide ((0 : Int) > (0 : Int))) = true) →
    (((db false) : DV) = (db (nameB s)))) ∧
    (((!nameB s || decide ((0 : Int) > (0 : Int))) = false) →
    AWP Tryz.prog G [.code (cAt (bodyOf Tryz.f98) [1, 1, 1, 1, 1, 0, 1, 0]), (.blk 1), .code (cAt (bodyOf Tryz.f98) [1, 1, 1, 1, 1, 1])] ⟨regs 119 [(0, (.d (.agg [(di 2), (ds s), (di 0), (di 0), (di 0), (.con (.slice none 0 0))]))), (1, (.box 1 0)), (2, (vb false)), (3, (vi 8)), (4, (vi 0)), (7, (vi 0)), (8, (.d (.agg [(di 2), (ds s), (di 0), (di 0), (di 0), (.con (.slice none 0 0))]))), (9, (vi 8)), (10, (vi 8)), (11, (vb false)), (12, (vb false)), (21, (vb ((8 : Int) == (0 : Int) || (2 : Int) != (2 : Int) && !ByteArray.toList s == ByteArray.toList { data := #[] }))), (22, (vb ((8 : Int) == (0 : Int) || (2 : Int) != (2 : Int) && !ByteArray.toList s == ByteArray.toList { data := #[] }))), (32, (vb ((8 : Int) == (0 : Int) || (2 : Int) != (2 : Int) && !ByteArray.toList s == ByteArray.toList { data := #[] } || (2 : Int) != (1 : Int) && !true))), (33, (.box 1 5)), (34, (.d (.con (.slice none 0 0)))), (35, (vi 0)), (38, (vb true)), (39, (.box 1 0)), (40, (vi 2)), (41, (vb true)), (42, (.box 1 1)), (43, (vs s)), (44, (vb (nameB s))), (45, (vb (!nameB s))), (46, (vb (!nameB s))), (49, (vb (!nameB s || decide ((0 : Int) > (0 : Int)))))], [(1, [(vi 2), (vs s), (vi 0), (vi 0), (vi 0), (.d (.con (.slice none 0 0)))])]⟩ (Ret Tryz.prog Tryz.f98 (db (nameB s))))))) ∧
    ((true = false) →
    (((false = true) →
    False) ∧
    ((false = false) →
    (((false = true) →
    (((false = true) →
    (((db false) : DV) = (db (nameB s)))) ∧
    ((false = false) →
    AWP Tryz.prog G [.code (cAt (bodyOf Tryz.f98) [1, 1, 1, 1, 1, 0, 1, 0]), (.blk 1), .code (cAt (bodyOf Tryz.f98) [1, 1, 1, 1, 1, 1])] ⟨regs 119 [(0, (.d (.agg [(di 2), (ds s), (di 0), (di 0), (di 0), (.con (.slice none 0 0))]))), (1, (.box 1 0)), (2, (vb false)), (3, (vi 8)), (4, (vi 0)), (7, (vi 0)), (8, (.d (.agg [(di 2), (ds s), (di 0), (di 0), (di 0), (.con (.slice none 0 0))]))), (9, (vi 8)), (10, (vi 8)), (11, (vb false)), (12, (vb false)), (21, (vb ((8 : Int) == (0 : Int) || (2 : Int) != (2 : Int) && !ByteArray.toList s == ByteArray.toList { data := #[] }))), (22, (vb ((8 : Int) == (0 : Int) || (2 : Int) != (2 : Int) && !ByteArray.toList s == ByteArray.toList { data := #[] }))), (32, (vb ((8 : Int) == (0 : Int) || (2 : Int) != (2 : Int) && !ByteArray.toList s == ByteArray.toList { data := #[] } || (2 : Int) != (1 : Int) && !true))), (33, (.box 1 5)), (34, (.d (.con (.slice none 0 0)))), (35, (vi 0)), (38, (vb true)), (39, (.box 1 0)), (40, (vi 2)), (41, (vb true)), (50, (vb false)), (51, (.box 1 0)), (52, (vi 2)), (53, (vb false)), (76, (vb false)), (77, (.box 1 0)), (78, (vi 2)), (79, (vb false)), (80, (vb false)), (84, (vb false)), (85, (vi 0)), (86, (vb false))], [(1, [(vi 2), (vs s), (vi 0), (vi 0), (vi 0), (.d (.con (.slice none 0 0)))])]⟩ (Ret Tryz.prog Tryz.f98 (db (nameB s)))))) ∧
    ((false = false) →
    (((false = true) →
    (((true = true) →
    (((db false) : DV) = (db (nameB s)))) ∧
    ((true = false) →
    AWP Tryz.prog G [.code (cAt (bodyOf Tryz.f98) [1, 1, 1, 1, 1, 0, 1, 0]), (.blk 1), .code (cAt (bodyOf Tryz.f98) [1, 1, 1, 1, 1, 1])] ⟨regs 119 [(0, (.d (.agg [(di 2), (ds s), (di 0), (di 0), (di 0), (.con (.slice none 0 0))]))), (1, (.box 1 0)), (2, (vb false)), (3, (vi 8)), (4, (vi 0)), (7, (vi 0)), (8, (.d (.agg [(di 2), (ds s), (di 0), (di 0), (di 0), (.con (.slice none 0 0))]))), (9, (vi 8)), (10, (vi 8)), (11, (vb false)), (12, (vb false)), (21, (vb ((8 : Int) == (0 : Int) || (2 : Int) != (2 : Int) && !ByteArray.toList s == ByteArray.toList { data := #[] }))), (22, (vb ((8 : Int) == (0 : Int) || (2 : Int) != (2 : Int) && !ByteArray.toList s == ByteArray.toList { data := #[] }))), (32, (vb ((8 : Int) == (0 : Int) || (2 : Int) != (2 : Int) && !ByteArray.toList s == ByteArray.toList { data := #[] } || (2 : Int) != (1 : Int) && !true))), (33, (.box 1 5)), (34, (.d (.con (.slice none 0 0)))), (35, (vi 0)), (38, (vb true)), (39, (.box 1 0)), (40, (vi 2)), (41, (vb true)), (50, (vb false)), (51, (.box 1 0)), (52, (vi 2)), (53, (vb false)), (76, (vb false)), (77, (.box 1 0)), (78, (vi 2)), (79, (vb false)), (80, (vb false)), (84, (vb false)), (87, (vb false)), (88, (.box 1 0)), (89, (vi 2)), (90, (vb false)), (91, (vb false)), (95, (vb false)), (96, (vi 0)), (97, (vb true))], [(1, [(vi 2), (vs s), (vi 0), (vi 0), (vi 0), (.d (.con (.slice none 0 0)))])]⟩ (Ret Tryz.prog Tryz.f98 (db (nameB s)))))) ∧
    ((false = false) →
    (((false = true) →
    (((true = true) →
    (((db false) : DV) = (db (nameB s)))) ∧
    ((true = false) →
    AWP Tryz.prog G [.code (cAt (bodyOf Tryz.f98) [1, 1, 1, 1, 1, 0, 1, 0]), (.blk 1), .code (cAt (bodyOf Tryz.f98) [1, 1, 1, 1, 1, 1])] ⟨regs 119 [(0, (.d (.agg [(di 2), (ds s), (di 0), (di 0), (di 0), (.con (.slice none 0 0))]))), (1, (.box 1 0)), (2, (vb false)), (3, (vi 8)), (4, (vi 0)), (7, (vi 0)), (8, (.d (.agg [(di 2), (ds s), (di 0), (di 0), (di 0), (.con (.slice none 0 0))]))), (9, (vi 8)), (10, (vi 8)), (11, (vb false)), (12, (vb false)), (21, (vb ((8 : Int) == (0 : Int) || (2 : Int) != (2 : Int) && !ByteArray.toList s == ByteArray.toList { data := #[] }))), (22, (vb ((8 : Int) == (0 : Int) || (2 : Int) != (2 : Int) && !ByteArray.toList s == ByteArray.toList { data := #[] }))), (32, (vb ((8 : Int) == (0 : Int) || (2 : Int) != (2 : Int) && !ByteArray.toList s == ByteArray.toList { data := #[] } || (2 : Int) != (1 : Int) && !true))), (33, (.box 1 5)), (34, (.d (.con (.slice none 0 0)))), (35, (vi 0)), (38, (vb true)), (39, (.box 1 0)), (40, (vi 2)), (41, (vb true)), (50, (vb false)), (51, (.box 1 0)), (52, (vi 2)), (53, (vb false)), (76, (vb false)), (77, (.box 1 0)), (78, (vi 2)), (79, (vb false)), (80, (vb false)), (84, (vb false)), (87, (vb false)), (88, (.box 1 0)), (89, (vi 2)), (90, (vb false)), (91, (vb false)), (95, (vb false)), (98, (vb false)), (99, (vi 8)), (100, (vb false)), (101, (vb false)), (104, (vb false)), (105, (vi 0)), (106, (vb true))], [(1, [(vi 2), (vs s), (vi 0), (vi 0), (vi 0), (.d (.con (.slice none 0 0)))])]⟩ (Ret Tryz.prog Tryz.f98 (db (nameB s)))))) ∧
    ((false = false) →
    (((true = true) →
    (((db false) : DV) = (db (nameB s)))) ∧
    ((true = false) →
    AWP Tryz.prog G [.code (cAt (bodyOf Tryz.f98) [1, 1, 1, 1, 1, 0, 1, 0]), (.blk 1), .code (cAt (bodyOf Tryz.f98) [1, 1, 1, 1, 1, 1])] ⟨regs 119 [(0, (.d (.agg [(di 2), (ds s), (di 0), (di 0), (di 0), (.con (.slice none 0 0))]))), (1, (.box 1 0)), (2, (vb false)), (3, (vi 8)), (4, (vi 0)), (7, (vi 0)), (8, (.d (.agg [(di 2), (ds s), (di 0), (di 0), (di 0), (.con (.slice none 0 0))]))), (9, (vi 8)), (10, (vi 8)), (11, (vb false)), (12, (vb false)), (21, (vb ((8 : Int) == (0 : Int) || (2 : Int) != (2 : Int) && !ByteArray.toList s == ByteArray.toList { data := #[] }))), (22, (vb ((8 : Int) == (0 : Int) || (2 : Int) != (2 : Int) && !ByteArray.toList s == ByteArray.toList { data := #[] }))), (32, (vb ((8 : Int) == (0 : Int) || (2 : Int) != (2 : Int) && !ByteArray.toList s == ByteArray.toList { data := #[] } || (2 : Int) != (1 : Int) && !true))), (33, (.box 1 5)), (34, (.d (.con (.slice none 0 0)))), (35, (vi 0)), (36, (vi 0)), (37, (vb true)), (38, (vb true)), (39, (.box 1 0)), (40, (vi 2)), (41, (vb true)), (50, (vb false)), (51, (.box 1 0)), (52, (vi 2)), (53, (vb false)), (76, (vb false)), (77, (.box 1 0)), (78, (vi 2)), (79, (vb false)), (80, (vb false)), (84, (vb false)), (87, (vb false)), (88, (.box 1 0)), (89, (vi 2)), (90, (vb false)), (91, (vb false)), (95, (vb false)), (98, (vb false)), (99, (vi 8)), (100, (vb false)), (101, (vb false)), (104, (vb false))], [(1, [(vi 2), (vs s), (vi 0), (vi 0), (vi 0), (.d (.con (.slice none 0 0)))])]⟩ (Ret Tryz.prog Tryz.f98 (db (nameB s))))))))))))))))))) (by kernel_rfl) ?_
  simp only [Bool.false_eq_true, Bool.true_eq_false, false_implies, true_implies, true_and, and_true, forall_const]
  refine ⟨f112 s, fun h => ?_, fun h => ⟨f113 s hs, fun h2 => ?_, fun h2 => ?_⟩⟩
  · simp at h
  · cases hn : nameB s with
    | true => rw [hn] at h2; simp at h2
    | false => rfl
  · have hn : nameB s = true := by
      cases hn : nameB s with
      | true => rfl
      | false => rw [hn] at h2; simp at h2
    rw [hn]
    refine AWP.loop (c := cAt (bodyOf Tryz.f98) [1, 1, 1, 1, 1, 0, 1, 0, 0]) (by kernel_rfl) (fun _ : Unit => ⟨regs Tryz.f98.ntmps [(1, .box 1 0), (4, vi 0), (7, vi 0)], [(1, [vi 2, vs s, vi 0, vi 0, vi 0, .d (.con (.slice none 0 0))])]⟩) (fun _ => True) (fun _ => 0) () ?_ trivial ?_
    · refine of_eq (b :=
      (((((.box 1 0) : AV) = (.box 1 0)) ∧
      ((((vi 0) : AV) = (vi 0)) ∧
      ((((vi 0) : AV) = (vi 0)) ∧
      True))) ∧
      ((((some [(vi 2), (vs s), (vi 0), (vi 0), (vi 0), (.d (.con (.slice none 0 0)))]) : (Option (List AV))) = (some [(vi 2), (vs s), (vi 0), (vi 0), (vi 0), (.d (.con (.slice none 0 0)))])) ∧
      True))) (by kernel_rfl) ?_
      exact ⟨⟨rfl, rfl, rfl, trivial⟩, rfl, trivial⟩
    · rintro _ _
      refine walk (orc := orcE) (keep := []) (cuts := []) (n := 1000) follows ?_
      refine of_eqH (b :=
        (((false = true) →
        False) ∧
        ((false = false) →
        AWP Tryz.prog G [.code (cAt (bodyOf Tryz.f98) [1, 1, 1, 1, 1, 1])] ⟨regs 119 [(1, (.box 1 0)), (4, (vi 0)), (7, (vi 0)), (107, (vi 0)), (108, (vi 0)), (109, (vb false))], [(1, [(vi 2), (vs s), (vi 0), (vi 0), (vi 0), (.d (.con (.slice none 0 0)))])]⟩ (Ret Tryz.prog Tryz.f98 (db true))))) (by kernel_rfl) ?_
      simp only [Bool.false_eq_true, Bool.true_eq_false, false_implies, true_implies, true_and, and_true, forall_const]
      refine walk (orc := orcE) (keep := []) (cuts := []) (n := 1000) follows ?_
      refine of_eqH (b :=
        (((db true) : DV) = (db true))) (by kernel_rfl) ?_
      rfl
theorem f99 (s : ByteArray) : FnOK Tryz.prog G 99 [eN s] (di 1) := by
  refine FnOK.walk (orc := orcE) (keep := []) follows Tryz.func99 rfl Tryz.call99 ?_
  refine of_eqH (b :=
    AWP Tryz.prog G [.code (cAt (bodyOf Tryz.f99) [1, 1, 0, 1, 0]), (.blk 0), .code (cAt (bodyOf Tryz.f99) [1, 1, 1])] ⟨regs 22 [(0, (.d (.agg [(di 2), (ds s), (di 0), (di 0), (di 0), (.con (.slice none 0 0))]))), (1, (.box 1 0)), (2, (vi 0)), (3, (vi 0)), (4, (vi 0))], [(1, [(vi 2), (vs s), (vi 0), (vi 0), (vi 0), (.d (.con (.slice none 0 0)))])]⟩ (Ret Tryz.prog Tryz.f99 (di (1 : Int)))) (by kernel_rfl) ?_
  refine AWP.loop (c := cAt (bodyOf Tryz.f99) [1, 1, 0, 1, 0, 0]) (by kernel_rfl) (fun _ : Unit => ⟨regs Tryz.f99.ntmps [(1, .box 1 0), (3, vi 0), (4, vi 0)], [(1, [vi 2, vs s, vi 0, vi 0, vi 0, .d (.con (.slice none 0 0))])]⟩) (fun _ => True) (fun _ => 0) () ?_ trivial ?_
  · refine of_eq (b :=
    (((((.box 1 0) : AV) = (.box 1 0)) ∧
    ((((vi 0) : AV) = (vi 0)) ∧
    ((((vi 0) : AV) = (vi 0)) ∧
    True))) ∧
    ((((some [(vi 2), (vs s), (vi 0), (vi 0), (vi 0), (.d (.con (.slice none 0 0)))]) : (Option (List AV))) = (some [(vi 2), (vs s), (vi 0), (vi 0), (vi 0), (.d (.con (.slice none 0 0)))])) ∧
    True))) (by kernel_rfl) ?_
    exact ⟨⟨rfl, rfl, rfl, trivial⟩, rfl, trivial⟩
  · rintro _ _
    refine walk (orc := orcE) (keep := []) (cuts := []) (n := 1000) follows ?_
    refine of_eqH (b :=
      (((false = true) →
      False) ∧
      ((false = false) →
      AWP Tryz.prog G [.code (cAt (bodyOf Tryz.f99) [1, 1, 1])] ⟨regs 22 [(1, (.box 1 0)), (3, (vi 0)), (4, (vi 0)), (5, (vi 0)), (6, (.box 1 5)), (7, (.d (.con (.slice none 0 0)))), (8, (vi 0)), (9, (vb false))], [(1, [(vi 2), (vs s), (vi 0), (vi 0), (vi 0), (.d (.con (.slice none 0 0)))])]⟩ (Ret Tryz.prog Tryz.f99 (di (1 : Int)))))) (by kernel_rfl) ?_
    simp only [Bool.false_eq_true, Bool.true_eq_false, false_implies, true_implies, true_and, and_true, forall_const]
    refine walk (orc := orcE) (keep := []) (cuts := []) (n := 1000) follows ?_
    refine of_eqH (b :=
      ((I64 ((0 : Int) + (1 : Int))) ∧
      (((di 1) : DV) = (di (1 : Int))))) (by kernel_rfl) ?_
    exact ⟨⟨by omega, by omega⟩, rfl⟩
theorem f100 (s : ByteArray) : FnOK Tryz.prog G 100 [eN s] (ds s) := by
  refine FnOK.walk (orc := orcE) (keep := []) follows Tryz.func100 rfl Tryz.call100 ?_
  refine of_eqH (b :=
    (((true = true) →
    (((ds s) : DV) = (ds s))) ∧
    ((true = false) →
    (((false = true) →
    False) ∧
    ((false = false) →
    (((false = true) →
    (((ds ({ data := #[(116 : UInt8), (114 : UInt8), (117 : UInt8), (101 : UInt8)] })) : DV) = (ds s))) ∧
    ((false = false) →
    (((false = true) →
    (((ds ({ data := #[(102 : UInt8), (97 : UInt8), (108 : UInt8), (115 : UInt8), (101 : UInt8)] })) : DV) = (ds s))) ∧
    ((false = false) →
    (((false = true) →
    False) ∧
    ((false = false) →
    (((false = true) →
    False) ∧
    ((false = false) →
    (((false = true) →
    (((false = true) →
    (((false = true) →
    AWP Tryz.prog G [.code (cAt (bodyOf Tryz.f100) [1, 0, 1, 0, 1, 1, 1, 1, 1, 1, 1, 1, 1, 1, 1, 1, 1, 0, 1, 1, 0, 1, 0]), (.blk 1), .code (cAt (bodyOf Tryz.f100) [1, 0, 1, 0, 1, 1, 1, 1, 1, 1, 1, 1, 1, 1, 1, 1, 1, 0, 1, 1, 1]), (.blk 0), .code (cAt (bodyOf Tryz.f100) [1, 1])] ⟨regs 120 [(0, (.d (.agg [(di 2), (ds s), (di 0), (di 0), (di 0), (.con (.slice none 0 0))]))), (1, (.box 1 0)), (2, (vs ({ data := #[] }))), (5, (vs ({ data := #[(109 : UInt8), (97 : UInt8), (120 : UInt8), (40 : UInt8)] }))), (6, (vi 0)), (13, (.box 1 0)), (14, (vi 2)), (15, (vb true)), (16, (vb true)), (19, (vb false)), (20, (vb false)), (28, (vb false)), (29, (vb false)), (30, (vb false)), (31, (vb false)), (32, (vb false)), (33, (vb false)), (40, (vb false)), (41, (vb false)), (48, (vb false)), (49, (vb false)), (51, (.box 1 0)), (52, (vi 2)), (53, (vb false))], [(1, [(vi 2), (vs s), (vi 0), (vi 0), (vi 0), (.d (.con (.slice none 0 0)))])]⟩ (Ret Tryz.prog Tryz.f100 (ds s))) ∧
    ((false = false) →
    AWP Tryz.prog G [.code (cAt (bodyOf Tryz.f100) [1, 0, 1, 0, 1, 1, 1, 1, 1, 1, 1, 1, 1, 1, 1, 1, 1, 0, 1, 1, 0, 1, 0]), (.blk 1), .code (cAt (bodyOf Tryz.f100) [1, 0, 1, 0, 1, 1, 1, 1, 1, 1, 1, 1, 1, 1, 1, 1, 1, 0, 1, 1, 1]), (.blk 0), .code (cAt (bodyOf Tryz.f100) [1, 1])] ⟨regs 120 [(0, (.d (.agg [(di 2), (ds s), (di 0), (di 0), (di 0), (.con (.slice none 0 0))]))), (1, (.box 1 0)), (2, (vs ({ data := #[] }))), (5, (vs ({ data := #[(109 : UInt8), (105 : UInt8), (110 : UInt8), (40 : UInt8)] }))), (6, (vi 0)), (13, (.box 1 0)), (14, (vi 2)), (15, (vb true)), (16, (vb true)), (19, (vb false)), (20, (vb false)), (28, (vb false)), (29, (vb false)), (30, (vb false)), (31, (vb false)), (32, (vb false)), (33, (vb false)), (40, (vb false)), (41, (vb false)), (48, (vb false)), (49, (vb false)), (51, (.box 1 0)), (52, (vi 2)), (53, (vb false))], [(1, [(vi 2), (vs s), (vi 0), (vi 0), (vi 0), (.d (.con (.slice none 0 0)))])]⟩ (Ret Tryz.prog Tryz.f100 (ds s))))) ∧
    ((false = false) →
    (FnOK Tryz.prog G 112 [(.agg [(di 2), (ds s), (di 0), (di 0), (di 0), (.con (.slice none 0 0))])] (di 8) ∧
    False)))) ∧
    ((false = false) →
    (((false = true) →
    (((false = true) →
    AWP Tryz.prog G [.code (cAt (bodyOf Tryz.f100) [1, 0, 1, 0, 1, 1, 1, 1, 1, 1, 1, 1, 1, 1, 1, 1, 1, 0, 1, 1, 0, 1, 0]), (.blk 1), .code (cAt (bodyOf Tryz.f100) [1, 0, 1, 0, 1, 1, 1, 1, 1, 1, 1, 1, 1, 1, 1, 1, 1, 0, 1, 1, 1]), (.blk 0), .code (cAt (bodyOf Tryz.f100) [1, 1])] ⟨regs 120 [(0, (.d (.agg [(di 2), (ds s), (di 0), (di 0), (di 0), (.con (.slice none 0 0))]))), (1, (.box 1 0)), (2, (vs ({ data := #[] }))), (5, (vs ({ data := #[(109 : UInt8), (97 : UInt8), (120 : UInt8), (40 : UInt8)] }))), (6, (vi 0)), (13, (.box 1 0)), (14, (vi 2)), (15, (vb true)), (16, (vb true)), (19, (vb false)), (20, (vb false)), (28, (vb false)), (29, (vb false)), (30, (vb false)), (31, (vb false)), (32, (vb false)), (33, (vb false)), (40, (vb false)), (41, (vb false)), (48, (vb false)), (49, (vb false)), (50, (vb false)), (51, (.box 1 0)), (52, (vi 2)), (53, (vb false))], [(1, [(vi 2), (vs s), (vi 0), (vi 0), (vi 0), (.d (.con (.slice none 0 0)))])]⟩ (Ret Tryz.prog Tryz.f100 (ds s))) ∧
    ((false = false) →
    AWP Tryz.prog G [.code (cAt (bodyOf Tryz.f100) [1, 0, 1, 0, 1, 1, 1, 1, 1, 1, 1, 1, 1, 1, 1, 1, 1, 0, 1, 1, 0, 1, 0]), (.blk 1), .code (cAt (bodyOf Tryz.f100) [1, 0, 1, 0, 1, 1, 1, 1, 1, 1, 1, 1, 1, 1, 1, 1, 1, 0, 1, 1, 1]), (.blk 0), .code (cAt (bodyOf Tryz.f100) [1, 1])] ⟨regs 120 [(0, (.d (.agg [(di 2), (ds s), (di 0), (di 0), (di 0), (.con (.slice none 0 0))]))), (1, (.box 1 0)), (2, (vs ({ data := #[] }))), (5, (vs ({ data := #[(109 : UInt8), (105 : UInt8), (110 : UInt8), (40 : UInt8)] }))), (6, (vi 0)), (13, (.box 1 0)), (14, (vi 2)), (15, (vb true)), (16, (vb true)), (19, (vb false)), (20, (vb false)), (28, (vb false)), (29, (vb false)), (30, (vb false)), (31, (vb false)), (32, (vb false)), (33, (vb false)), (40, (vb false)), (41, (vb false)), (48, (vb false)), (49, (vb false)), (50, (vb false)), (51, (.box 1 0)), (52, (vi 2)), (53, (vb false))], [(1, [(vi 2), (vs s), (vi 0), (vi 0), (vi 0), (.d (.con (.slice none 0 0)))])]⟩ (Ret Tryz.prog Tryz.f100 (ds s))))) ∧
    ((false = false) →
    (FnOK Tryz.prog G 112 [(.agg [(di 2), (ds s), (di 0), (di 0), (di 0), (.con (.slice none 0 0))])] (di 8) ∧
    False)))))))))))))))))) (by kernel_rfl) ?_
  simp
theorem f80 (s : ByteArray) (hs : s.size ≤ 1000000) : FnOK Tryz.prog G 80 [eN s] (db (nameB s)) := by
  refine FnOK.walk (orc := orcE) (keep := []) follows Tryz.func80 rfl Tryz.call80 ?_
  refine of_eqH (b :=
    ((FnOK Tryz.prog G 98 [(.agg [(di 2), (ds s), (di 0), (di 0), (di 0), (.con (.slice none 0 0))])] (db (nameB s)) ∧
    ((((nameB s) = true) →
    FnOK Tryz.prog G 99 [(.agg [(di 2), (ds s), (di 0), (di 0), (di 0), (.con (.slice none 0 0))])] (di 1)) ∧
    (((nameB s && decide ((1 : Int) ≤ (32 : Int))) = true) →
    FnOK Tryz.prog G 100 [(.agg [(di 2), (ds s), (di 0), (di 0), (di 0), (.con (.slice none 0 0))])] (ds s)))) ∧
    (((db (nameB s && decide ((1 : Int) ≤ (32 : Int)) && decide ((↑(ByteArray.size s) : Int) ≤ (16384 : Int)))) : DV) = (db (nameB s))))) (by kernel_rfl) ?_
  refine ⟨⟨f98 s hs, fun _ => f99 s, fun _ => f100 s⟩, ?_⟩
  cases hn : nameB s with
  | true =>
    have := name_size hn
    have e : decide ((s.size : Int) ≤ 16384) = true := by rw [decide_eq_true_eq]; omega
    rw [e]; rfl
  | false => rfl
theorem f48 (s : ByteArray) (hs : s.size ≤ 1000000) : FnOK Tryz.prog G 48 [ds s] (db (nameB s)) := by
  refine FnOK.walk (orc := orcE) (keep := []) follows Tryz.func48 rfl Tryz.call48 ?_
  refine of_eqH (b :=
    (FnOK Tryz.prog G 80 [(.agg [(di 2), (ds s), (di 0), (di 0), (di 0), (.con (.slice none 0 0))])] (db (nameB s)) ∧
    (((db (nameB s)) : DV) = (db (nameB s))))) (by kernel_rfl) ?_
  exact ⟨f80 s hs, rfl⟩
end Go.Proofs