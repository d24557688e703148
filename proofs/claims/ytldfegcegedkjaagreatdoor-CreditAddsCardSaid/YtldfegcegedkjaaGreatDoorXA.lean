import Derived.Test.YtldfegcegedkjaaGreatDoorAcC
import Derived.Test.YtldfegcegedkjaaGreatDoorMD
import Derived.Test.YtldfegcegedkjaaGreatDoorFC
import Derived.Test.YtldfegcegedkjaaGreatDoorFB
set_option autoImplicit false
namespace Go.Proofs
open Go Go.Ab Go.RowKit
set_option maxHeartbeats 2000000
set_option maxRecDepth 100000
variable {G : IH}
abbrev frK : RK := ⟨true, 27, false, none⟩
/-- A row of fractions that is being made. -/
def frR (M : PL) (i : Nat) : DV := match M[i]? with
  | some x => .agg [di x.1, di x.2]
  | none => .agg []
theorem frR_snoc (M : PL) (a b : Int) : frR (M ++ [(a, b)]) = fun i => bif Nat.blt i M.length then frR M i else elemF true 2 [di a, di b] (i - M.length) := by
  funext i
  cases h : Nat.blt i M.length with
  | true =>
    rw [Nat.blt_eq] at h
    simp only [cond_true]
    unfold frR
    rw [List.getElem?_append_left h]
  | false =>
    have h : ¬ i < M.length := by rw [← Nat.blt_eq, h]; decide
    simp only [cond_false]
    unfold frR
    rw [List.getElem?_append_right (by omega)]
    generalize i - M.length = j
    cases j with
    | zero => rfl
    | succ j =>
      rw [List.getElem?_cons_succ, List.getElem?_nil]
      unfold elemF
      rw [List.drop_eq_nil_of_le (by simp only [List.length_cons, List.length_nil]; omega)]; rfl
def effs (PS : List Pt) : PL := PS.map fun x => x.2
def sm1 (M : PL) : Int := (sumS addF M).1
def sm2 (M : PL) : Int := (sumS addF M).2.1
def sm3 (M : PL) : Int := (sumS addF M).2.2
def vB (PS : List Pt) (p q h : Int) : Bool := (PS.all fun x => nameB x.1) && (sm3 (effs PS) == 0 && (sm1 (effs PS) == p && sm2 (effs PS) == q) && ok p q && !lessB p q 0 1 && hunF p q == h && decide (hunF p q ≤ 100000000))
def orcVd (M : PL) : Oracle := fun f a => match f, a with
  | 42, [.con (.string s)] => some (db (nameB s))
  | 50, [_] => some (.tup [fr (sm1 M) (sm2 M), di (sm3 M)])
  | 51, [fr a b] => some (.tup [di (hunF a b), db (ok a b)])
  | 44, [fr a b, fr c d] => some (db (lessB a b c d))
  | _, _ => none
def orcV (M : PL) : Orc := { d := orcVd M, gl := glZ }
theorem f50r (M : PL) (hM : M.length ≤ 1000000) (f : Nat → DV) (hf : ∀ i, i < M.length → f i = frR M i) : FnOK Tryz.prog G 50 [.slc 2 M.length f] (.tup [fr (sm1 M) (sm2 M), di (sm3 M)]) :=
  (f50 M hM).args fun _ => DV.rels_cons (fun _ h => DV.rel_slc_congr (fun i hi => by
    rw [hf i hi]
    unfold frR
    rw [List.getElem?_eq_getElem hi]
    show _ = fr (M.getD i (0, 0)).1 (M.getD i (0, 0)).2
    rw [List.getD, List.getElem?_eq_getElem hi]; rfl) h) (fun _ h => h)
/-- Parts with names that are not too long. -/
def ShortP (PS : List Pt) : Prop := ∀ x ∈ PS, x.1.size ≤ 1000000
theorem ShortP.get {L : List Pt} (h : ShortP L) (i : Nat) : (L.getD i (.empty, 0, 0)).1.size ≤ 1000000 := by
  rcases Nat.lt_or_ge i L.length with h1 | h1
  · have e : L.getD i (.empty, 0, 0) = L[i] := by rw [List.getD, List.getElem?_eq_getElem h1]; rfl
    rw [e]; exact h _ (List.getElem_mem h1)
  · have e : L.getD i (.empty, 0, 0) = (.empty, 0, 0) := by rw [List.getD, List.getElem?_eq_none h1]; rfl
    rw [e]; decide
noncomputable def S24 (PS : List Pt) (p q h : Int) (k : Nat) : AS := ⟨regs Tryz.f24.ntmps [(1, .box 1 0), (3, .vec 900 2 0 k), (11, .d (.slc 3 PS.length (ptF PS))), (12, vi PS.length), (13, vi k)], [(1, [.d (.slc 3 PS.length (ptF PS)), vi p, vi q, vi h]), (900, [.arr frK 2 (frR ((effs PS).take k))])]⟩
theorem f24 (hZ : Glob G 0 zeroL) (PS : List Pt) (p q h : Int) (hS : ShortP PS) (hl : PS.length ≤ 1000000) : FnOK Tryz.prog G 24 [crV PS p q h] (db (vB PS p q h)) := by
  refine FnOK.walk (orc := orcV (effs PS)) (keep := []) follows Tryz.func24 rfl Tryz.call24 ?_
  refine of_eqH (b :=
    AWP Tryz.prog G [.code (cAt (bodyOf Tryz.f24) [1, 1, 0, 1, 0]), (.blk 0), .code (cAt (bodyOf Tryz.f24) [1, 1, 1])] ⟨regs 66 [(0, (.d (.agg [(.slc 3 (List.length PS) (ptF PS)), (di p), (di q), (di h)]))), (1, (.box 1 0)), (2, (vb false)), (3, (.d (.con (.slice none 0 0)))), (10, (.box 1 0)), (11, (.d (.slc 3 (List.length PS) (ptF PS)))), (12, (vi ((↑(List.length PS) : Int)))), (13, (vi 0))], [(1, [(.d (.slc 3 (List.length PS) (ptF PS))), (vi p), (vi q), (vi h)])]⟩ (Ret Tryz.prog Tryz.f24 (db (vB PS p q h)))) (by kernel_rfl) ?_
  refine AWP.pre (.nilRow _ 3 900 2 frK (frR []) (by kernel_rfl) (by kernel_rfl)) ?_
  refine AWP.loop (c := cAt (bodyOf Tryz.f24) [1, 1, 0, 1, 0, 0]) (by kernel_rfl) (S24 PS p q h) (fun k => k ≤ PS.length ∧ ∀ i, i < k → nameB (PS.getD i (.empty, 0, 0)).1 = true) (fun k => PS.length - k) 0 ?_ ⟨Nat.zero_le _, fun i hi => by omega⟩ ?_
  · refine of_eq (b :=
    (((((.box 1 0) : AV) = (.box 1 0)) ∧
    ((((.vec 900 2 0 0) : AV) = (.vec 900 2 0 0)) ∧
    ((((.d (.slc 3 (List.length PS) (ptF PS))) : AV) = (.d (.slc 3 (List.length PS) (ptF PS)))) ∧
    ((((vi ((↑(List.length PS) : Int))) : AV) = (vi ((↑(List.length PS) : Int)))) ∧
    ((((vi 0) : AV) = (vi 0)) ∧
    True))))) ∧
    ((((some [(.d (.slc 3 (List.length PS) (ptF PS))), (vi p), (vi q), (vi h)]) : (Option (List AV))) = (some [(.d (.slc 3 (List.length PS) (ptF PS))), (vi p), (vi q), (vi h)])) ∧
    ((((some [(.arr ⟨true, 27, false, none⟩ 2 (frR []))]) : (Option (List AV))) = (some [(.arr ⟨true, 27, false, none⟩ 2 (frR (List.take (0 : Nat) (effs PS))))])) ∧
    True)))) (by kernel_rfl) ?_
    exact ⟨⟨rfl, rfl, rfl, rfl, rfl, trivial⟩, rfl, rfl, trivial⟩
  · rintro k ⟨hk, hkd⟩
    refine walk (orc := orcV (effs PS)) (keep := []) (cuts := []) (n := 1000) follows ?_
    refine of_eqH (b :=
      ((((decide ((↑k : Int) < (↑(List.length PS) : Int))) = true) →
      ((((0 : Int) ≤ (↑k : Int)) ∧
      ((↑k : Int) < (↑(List.length PS) : Int))) ∧
      (FnOK Tryz.prog G 42 [(ds (Prod.fst (List.getD PS (Int.toNat (↑k : Int)) (ByteArray.empty, (0 : Int), (0 : Int)))))] (db (nameB (Prod.fst (List.getD PS (Int.toNat (↑k : Int)) (ByteArray.empty, (0 : Int), (0 : Int)))))) ∧
      ((((!nameB (Prod.fst (List.getD PS (Int.toNat (↑k : Int)) (ByteArray.empty, (0 : Int), (0 : Int))))) = true) →
      (((db false) : DV) = (db (vB PS p q h)))) ∧
      (((!nameB (Prod.fst (List.getD PS (Int.toNat (↑k : Int)) (ByteArray.empty, (0 : Int), (0 : Int))))) = false) →
      (((((k + (1 : Nat)) * (16 : Nat) ≤ (1099511627776 : Nat)) ∧
      (k + (1 : Nat) ≤ (1099511627776 : Nat))) ∧
      (∀ (i : Nat), i < (1 : Nat) → elemOK true (2 : Nat) (elemF true (2 : Nat) [DV.con (Value.int IntKind.i64 (Prod.fst (Prod.snd (List.getD PS (Int.toNat (↑k : Int)) (ByteArray.empty, (0 : Int), (0 : Int)))))), DV.con (Value.int IntKind.i64 (Prod.snd (Prod.snd (List.getD PS (Int.toNat (↑k : Int)) (ByteArray.empty, (0 : Int), (0 : Int))))))] i) = true)) ∧
      ((I64 ((↑k : Int) + (1 : Int))) ∧
      Again (S24 PS p q h) (fun k => k ≤ List.length PS ∧ ∀ (i : Nat), i < k → nameB (Prod.fst (List.getD PS i (ByteArray.empty, (0 : Int), (0 : Int)))) = true) (fun k => List.length PS - k) k ⟨regs 66 [(1, (.box 1 0)), (3, (.vec 25 2 0 (k + (1 : Nat)))), (5, (.box 5 0)), (11, (.d (.slc 3 (List.length PS) (ptF PS)))), (12, (vi ((↑(List.length PS) : Int)))), (13, (vi ((↑k : Int) + (1 : Int)))), (14, (vb (decide ((↑k : Int) < (↑(List.length PS) : Int))))), (15, (.d (.ptr [(ds (Prod.fst (List.getD PS (Int.toNat (↑k : Int)) (ByteArray.empty, (0 : Int), (0 : Int))))), (di (Prod.fst (Prod.snd (List.getD PS (Int.toNat (↑k : Int)) (ByteArray.empty, (0 : Int), (0 : Int)))))), (di (Prod.snd (Prod.snd (List.getD PS (Int.toNat (↑k : Int)) (ByteArray.empty, (0 : Int), (0 : Int))))))]))), (16, (.d (.agg [(ds (Prod.fst (List.getD PS (Int.toNat (↑k : Int)) (ByteArray.empty, (0 : Int), (0 : Int))))), (di (Prod.fst (Prod.snd (List.getD PS (Int.toNat (↑k : Int)) (ByteArray.empty, (0 : Int), (0 : Int)))))), (di (Prod.snd (Prod.snd (List.getD PS (Int.toNat (↑k : Int)) (ByteArray.empty, (0 : Int), (0 : Int))))))]))), (17, (.box 5 0)), (18, (vs (Prod.fst (List.getD PS (Int.toNat (↑k : Int)) (ByteArray.empty, (0 : Int), (0 : Int)))))), (19, (vb (nameB (Prod.fst (List.getD PS (Int.toNat (↑k : Int)) (ByteArray.empty, (0 : Int), (0 : Int))))))), (20, (vb (!nameB (Prod.fst (List.getD PS (Int.toNat (↑k : Int)) (ByteArray.empty, (0 : Int), (0 : Int))))))), (21, (.vec 900 2 0 k)), (22, (.box 5 1)), (23, (.d (.agg [(di (Prod.fst (Prod.snd (List.getD PS (Int.toNat (↑k : Int)) (ByteArray.empty, (0 : Int), (0 : Int)))))), (di (Prod.snd (Prod.snd (List.getD PS (Int.toNat (↑k : Int)) (ByteArray.empty, (0 : Int), (0 : Int))))))]))), (24, (.d (.slc 2 1 (elemF true 2 [(di (Prod.fst (Prod.snd (List.getD PS (Int.toNat (↑k : Int)) (ByteArray.empty, (0 : Int), (0 : Int)))))), (di (Prod.snd (Prod.snd (List.getD PS (Int.toNat (↑k : Int)) (ByteArray.empty, (0 : Int), (0 : Int))))))])))), (25, (.vec 25 2 0 (k + (1 : Nat)))), (26, (vi ((↑k : Int) + (1 : Int))))], [(25, [(.arr ⟨true, 27, false, none⟩ 2 (fun i => bif Nat.blt i k then frR (List.take k (effs PS)) i else elemF true (2 : Nat) [DV.con (Value.int IntKind.i64 (Prod.fst (Prod.snd (List.getD PS (Int.toNat (↑k : Int)) (ByteArray.empty, (0 : Int), (0 : Int)))))), DV.con (Value.int IntKind.i64 (Prod.snd (Prod.snd (List.getD PS (Int.toNat (↑k : Int)) (ByteArray.empty, (0 : Int), (0 : Int))))))] (i - k)))]), (5, [(vs (Prod.fst (List.getD PS (Int.toNat (↑k : Int)) (ByteArray.empty, (0 : Int), (0 : Int))))), (vi (Prod.fst (Prod.snd (List.getD PS (Int.toNat (↑k : Int)) (ByteArray.empty, (0 : Int), (0 : Int)))))), (vi (Prod.snd (Prod.snd (List.getD PS (Int.toNat (↑k : Int)) (ByteArray.empty, (0 : Int), (0 : Int))))))]), (1, [(.d (.slc 3 (List.length PS) (ptF PS))), (vi p), (vi q), (vi h)]), (900, [.dead])]⟩))))))) ∧
      (((decide ((↑k : Int) < (↑(List.length PS) : Int))) = false) →
      AWP Tryz.prog G [.code (cAt (bodyOf Tryz.f24) [1, 1, 1])] ⟨regs 66 [(1, (.box 1 0)), (3, (.vec 900 2 0 k)), (11, (.d (.slc 3 (List.length PS) (ptF PS)))), (12, (vi ((↑(List.length PS) : Int)))), (13, (vi ((↑k : Int)))), (14, (vb (decide ((↑k : Int) < (↑(List.length PS) : Int)))))], [(1, [(.d (.slc 3 (List.length PS) (ptF PS))), (vi p), (vi q), (vi h)]), (900, [(.arr ⟨true, 27, false, none⟩ 2 (frR (List.take k (effs PS))))])]⟩ (Ret Tryz.prog Tryz.f24 (db (vB PS p q h)))))) (by kernel_rfl) ?_
    simp only [Int.toNat_natCast]
    refine ⟨fun h1 => ⟨⟨by omega, of_decide_eq_true h1⟩, f42 _ (hS.get k), fun h2 => ?_, fun h2 => ⟨⟨⟨by omega, by omega⟩, fun i hi => ?_⟩, ⟨by omega, by omega⟩, Again.mkR [(25, 900)] rfl (k + 1) ?_ ⟨?_, fun i hi => ?_⟩ ?_⟩⟩, fun h1 => ?_⟩
    · simp only [decide_eq_true_eq] at h1
      have e : (PS.all fun x => nameB x.1) = false := by
        rw [Bool.eq_false_iff]
        intro hall
        have hk2 : k < PS.length := by omega
        have := List.all_eq_true.1 hall PS[k] (List.getElem_mem hk2)
        rw [List.getD, List.getElem?_eq_getElem hk2] at h2
        simp only [Option.getD_some, this] at h2
        cases h2
      unfold vB
      rw [e]; rfl
    · obtain rfl : i = 0 := by omega
      rfl
    · simp only [decide_eq_true_eq] at h1
      have hk2 : k < PS.length := by omega
      have e : (effs PS).take (k + 1) = (effs PS).take k ++ [((PS.getD k (.empty, 0, 0)).2.1, (PS.getD k (.empty, 0, 0)).2.2)] := by
        rw [List.take_succ_eq_append_getElem (by unfold effs; rw [List.length_map]; exact hk2)]
        unfold effs
        rw [List.getElem_map, List.getD, List.getElem?_eq_getElem hk2]; rfl
      have el : ((effs PS).take k).length = k := by unfold effs; rw [List.length_take, List.length_map]; omega
      refine of_eq (b :=
        (((((.box 1 0) : AV) = (.box 1 0)) ∧
        ((((.vec 900 2 0 (k + (1 : Nat))) : AV) = (.vec 900 2 0 (k + (1 : Nat)))) ∧
        ((((.d (.slc 3 (List.length PS) (ptF PS))) : AV) = (.d (.slc 3 (List.length PS) (ptF PS)))) ∧
        ((((vi ((↑(List.length PS) : Int))) : AV) = (vi ((↑(List.length PS) : Int)))) ∧
        ((((vi ((↑k : Int) + (1 : Int))) : AV) = (vi ((↑(k + (1 : Nat)) : Int)))) ∧
        True))))) ∧
        ((((some [(.d (.slc 3 (List.length PS) (ptF PS))), (vi p), (vi q), (vi h)]) : (Option (List AV))) = (some [(.d (.slc 3 (List.length PS) (ptF PS))), (vi p), (vi q), (vi h)])) ∧
        ((((some [(.arr ⟨true, 27, false, none⟩ 2 (fun i => bif Nat.blt i k then frR (List.take k (effs PS)) i else elemF true (2 : Nat) [DV.con (Value.int IntKind.i64 (Prod.fst (Prod.snd (List.getD PS k (ByteArray.empty, (0 : Int), (0 : Int)))))), DV.con (Value.int IntKind.i64 (Prod.snd (Prod.snd (List.getD PS k (ByteArray.empty, (0 : Int), (0 : Int))))))] (i - k)))]) : (Option (List AV))) = (some [(.arr ⟨true, 27, false, none⟩ 2 (frR (List.take (k + (1 : Nat)) (effs PS))))])) ∧
        True)))) (by kernel_rfl) ?_
      refine ⟨⟨rfl, rfl, rfl, rfl, rfl, trivial⟩, rfl, ?_, trivial⟩
      rw [e, frR_snoc, el]
    · simp only [decide_eq_true_eq] at h1; omega
    · rcases Nat.lt_or_ge i k with h3 | h3
      · exact hkd i h3
      · obtain rfl : i = k := by omega
        simpa using h2
    · simp only [decide_eq_true_eq] at h1; omega
    · simp only [decide_eq_false_iff_not] at h1
      have hk2 : k = PS.length := by omega
      have hall : (PS.all fun x => nameB x.1) = true := by
        rw [List.all_eq_true]
        intro x hx
        obtain ⟨i, hi, rfl⟩ := List.getElem_of_mem hx
        have := hkd i (by omega)
        rw [List.getD, List.getElem?_eq_getElem hi] at this
        exact this
      have el : (effs PS).length = PS.length := by unfold effs; rw [List.length_map]
      subst hk2
      have hle : (effs PS).length ≤ 1000000 := by omega
      rw [← el] at *
      refine walk (orc := orcV (effs PS)) (keep := []) (cuts := []) (n := 1000) follows ?_
      refine of_eqH (b :=
        (FnOK Tryz.prog G 50 [(.slc 2 (List.length (effs PS)) (fun i => frR (List.take (List.length (effs PS)) (effs PS)) ((0 : Nat) + i)))] (.tup [(.agg [(di (sm1 (effs PS))), (di (sm2 (effs PS)))]), (di (sm3 (effs PS)))]) ∧
        (FnOK Tryz.prog G 51 [(.agg [(di p), (di q)])] (.tup [(di (hunF p q)), (db (ok p q))]) ∧
        (((((sm3 (effs PS) == (0 : Int) && Bool.rec false (sm2 (effs PS) == q) (sm1 (effs PS) == p) && ok p q) = true) →
        (∃ vs, (∃ v vs', vs = v :: vs' ∧ v = Value.int IntKind.i64 (0 : Int) ∧ ∃ v vs'_1, vs' = v :: vs'_1 ∧ v = Value.int IntKind.i64 (1 : Int) ∧ vs'_1 = []) ∧ ∀ (i : Nat), i < List.length vs → IH.cell G (0 : Nat) i = vs[i]?)) ∧
        (((sm3 (effs PS) == (0 : Int) && Bool.rec false (sm2 (effs PS) == q) (sm1 (effs PS) == p) && ok p q) = true) →
        FnOK Tryz.prog G 44 [(.agg [(di p), (di q)]), (.agg [(di 0), (di 1)])] (db (lessB p q (0 : Int) (1 : Int))))) ∧
        (((db (sm3 (effs PS) == (0 : Int) && Bool.rec false (sm2 (effs PS) == q) (sm1 (effs PS) == p) && ok p q && !lessB p q (0 : Int) (1 : Int) && hunF p q == h && decide (hunF p q ≤ (100000000 : Int)))) : DV) = (db (vB PS p q h))))))) (by kernel_rfl) ?_
      have hfr : ∀ i, i < (effs PS).length → frR ((effs PS).take (effs PS).length) (0 + i) = frR (effs PS) i := fun i _ => by rw [List.take_length, Nat.zero_add]
      refine ⟨f50r (effs PS) hle _ hfr, f51' p q, ⟨fun _ => hZ, fun _ => f44 _ _ _ _⟩, ?_⟩
      unfold vB
      rw [hall]
      have hb : (Bool.rec false (sm2 (effs PS) == q) (sm1 (effs PS) == p) : Bool) = (sm1 (effs PS) == p && sm2 (effs PS) == q) := by
        cases (sm1 (effs PS) == p) <;> rfl
      rw [hb, Bool.true_and]
end Go.Proofs

set_option autoImplicit false
namespace Go.Proofs
open Go Go.Ab Go.RowKit
set_option maxHeartbeats 2000000
set_option maxRecDepth 100000
variable {G : IH}
abbrev stK : RK := ⟨false, 9, false, none⟩
/-- A row of strings that is being made. -/
def stR (l : List ByteArray) (i : Nat) : DV := (l.map fun s => ds s).getD i (.con undef)
theorem stR_snoc (l : List ByteArray) (s : ByteArray) : stR (l ++ [s]) = fun i => bif Nat.blt i l.length then stR l i else elemF false 1 [ds s] (i - l.length) := by
  funext i
  unfold stR elemF
  cases h : Nat.blt i l.length with
  | true =>
    rw [Nat.blt_eq] at h
    simp only [cond_true]
    rw [List.map_append, List.getD, List.getD, List.getElem?_append_left (by rw [List.length_map]; exact h)]
  | false =>
    have h : ¬ i < l.length := by rw [← Nat.blt_eq, h]; decide
    simp only [cond_false]
    rw [List.map_append, List.getD, List.getD, List.getElem?_append_right (by rw [List.length_map]; omega), List.length_map]; rfl
theorem stR_F {l : List ByteArray} {i : Nat} (h : i < l.length) : stR l i = stF l i := by
  unfold stR stF
  rw [List.getD, List.getD, List.getElem?_map, List.getElem?_eq_getElem h]; rfl
def mns : ByteArray := ⟨#[45]⟩
def cutS (s : ByteArray) : ByteArray := bs (Lib.trimPrefix s.data.toList mns.data.toList)
def cutB (s : ByteArray) : Bool := Lib.hasPrefix s.data.toList mns.data.toList
theorem tup2_con {f : FuncId} {args : List DV} {a b : Value} (h : FnOK Tryz.prog G f args (.con (.tuple #[a, b]))) : FnOK Tryz.prog G f args (.tup [.con a, .con b]) :=
  FnOK.res h fun k v hv => by
    have hv : v = _ := hv
    subst hv
    exact ⟨[a, b], rfl, a, _, rfl, rfl, b, _, rfl, rfl, rfl⟩
theorem f53 (s : ByteArray) : FnOK Tryz.prog G 53 [ds s, ds mns] (.tup [ds (cutS s), db (cutB s)]) := by
  refine tup2_con (FnOK.of_calls (args := [.string s, .string mns]) (v := .tuple #[_, _]) Tryz.call53 fun w _ => ?_)
  refine Calls.mono (Tryz.strings_CutPrefix s mns w) ?_
  rintro e w' ⟨he, rfl⟩
  exact ⟨he, Below.refl _ _⟩
def sgnS (s : ByteArray) : ByteArray := if cutB s then ⟨#[45]⟩ else ⟨#[43]⟩
def fmtS (n d : Int) : ByteArray := str (fmt n d)
/-- The text of a part. -/
def lineS (x : Pt) : ByteArray := ((x.1 ++ ⟨#[32]⟩) ++ sgnS (fmtS x.2.1 x.2.2)) ++ cutS (fmtS x.2.1 x.2.2)
def ptsS (n : Int) : ByteArray := str (pts n)
def totS (h : Int) : ByteArray := (⟨#[116, 111, 116, 97, 108, 32]⟩ : ByteArray) ++ ptsS h
/-- The text of a credit. -/
def expl (PS : List Pt) (p q h : Int) : List ByteArray := if vB PS p q h then PS.map lineS ++ [totS h] else []
def orcXd (PS : List Pt) (p q h : Int) : Oracle := fun f a => match f, a with
  | 24, [_] => some (db (vB PS p q h))
  | 54, [fr n d] => some (ds (fmtS n d))
  | 53, [.con (.string s), _] => some (.tup [ds (cutS s), db (cutB s)])
  | 55, [di n] => some (ds (ptsS n))
  | _, _ => none
theorem cut_size (s : ByteArray) : (cutS s).size ≤ s.size := by
  unfold cutS
  rw [bs_size]
  have : (Lib.trimPrefix s.data.toList mns.data.toList).length ≤ s.data.toList.length := by
    unfold Lib.trimPrefix
    split
    · rw [List.length_drop]; omega
    · exact Nat.le_refl _
  rw [Array.length_toList] at this
  exact this
theorem fmtS_size (n d : Int) : (fmtS n d).size ≤ 60 := by
  unfold fmtS
  rw [str_size]
  unfold fmt
  cases h : ok n d with
  | false => simp
  | true =>
    obtain ⟨d1, d2, n1, n2, hg⟩ := ok_spec h
    rw [if_pos rfl]
    have h1 := itoa_len n ⟨by omega, by omega⟩
    have h2 := itoa_len d ⟨by omega, by omega⟩
    split
    · omega
    · rw [List.length_append, List.length_cons]; omega
theorem ptsS_size (n : Int) : (ptsS n).size ≤ 100 := by
  unfold ptsS
  rw [str_size]
  unfold pts
  split
  · rename_i h
    unfold pt
    have e1 : (n.natAbs : Int).tdiv 100 = ((n.natAbs / 100 : Nat) : Int) := (Int.ofNat_tdiv _ _).symm
    have e2 : (n.natAbs : Int).tmod 100 = ((n.natAbs % 100 : Nat) : Int) := (Int.ofNat_tmod _ _).symm
    rw [e1, e2]
    have h1 := sg_len n
    have h2 := itoa_len ((n.natAbs / 100 : Nat) : Int) ⟨by omega, by omega⟩
    have h3 := itoa_len (100 + ((n.natAbs % 100 : Nat) : Int)) ⟨by omega, by omega⟩
    rw [List.length_append, List.length_append, List.length_cons, List.length_drop]
    omega
  · simp
noncomputable def S26 (PS : List Pt) (p q h : Int) (k : Nat) : AS := ⟨regs Tryz.f26.ntmps [(1, .box 1 0), (3, .vec 900 1 0 k), (13, .d (.slc 3 PS.length (ptF PS))), (14, vi PS.length), (15, vi k)], [(1, [.d (.slc 3 PS.length (ptF PS)), vi p, vi q, vi h]), (900, [.arr stK 1 (stR ((PS.take k).map lineS))])]⟩
theorem f26 (hZ : Glob G 0 zeroL) (hT : Tab G) (PS : List Pt) (p q h : Int) (hS : ShortP PS) (hl : PS.length ≤ 1000000) : FnOK Tryz.prog G 26 [crV PS p q h] (.slc 1 (expl PS p q h).length (stF (expl PS p q h))) := by
  cases hv : vB PS p q h with
  | false =>
    refine FnOK.res (r := .con (.slice none 0 0)) (FnOK.walk (orc := orcXd PS p q h) (keep := []) follows Tryz.func26 rfl Tryz.call26 ?_) fun k v hv2 => ?_
    · refine of_eqH (b :=
      (FnOK Tryz.prog G 24 [(.agg [(.slc 3 (List.length PS) (ptF PS)), (di p), (di q), (di h)])] (db (vB PS p q h)) ∧
      ((((!vB PS p q h) = true) →
      (((.con (.slice none 0 0)) : DV) = (.con (.slice none 0 0)))) ∧
      (((!vB PS p q h) = false) →
      AWP Tryz.prog G [.code (cAt (bodyOf Tryz.f26) [1, 1, 1, 0, 1, 0]), (.blk 0), .code (cAt (bodyOf Tryz.f26) [1, 1, 1, 1])] ⟨regs 45 [(0, (.d (.agg [(.slc 3 (List.length PS) (ptF PS)), (di p), (di q), (di h)]))), (1, (.box 1 0)), (2, (.d (.con (.slice none 0 0)))), (3, (.d (.con (.slice none 0 0)))), (9, (.d (.agg [(.slc 3 (List.length PS) (ptF PS)), (di p), (di q), (di h)]))), (10, (vb (vB PS p q h))), (11, (vb (!vB PS p q h))), (12, (.box 1 0)), (13, (.d (.slc 3 (List.length PS) (ptF PS)))), (14, (vi ((↑(List.length PS) : Int)))), (15, (vi 0))], [(1, [(.d (.slc 3 (List.length PS) (ptF PS))), (vi p), (vi q), (vi h)])]⟩ (Ret Tryz.prog Tryz.f26 (DV.con (Value.slice none (0 : Nat) (0 : Nat)))))))) (by kernel_rfl) ?_
      refine ⟨f24 hZ PS p q h hS hl, fun _ => rfl, fun h2 => ?_⟩
      rw [hv] at h2; cases h2
    · unfold expl
      rw [hv]
      exact nil_slc hv2
  | true =>
    have he : expl PS p q h = PS.map lineS ++ [totS h] := by unfold expl; rw [hv]; rfl
    refine FnOK.res (r := .slc 1 (expl PS p q h).length (stR (expl PS p q h))) (FnOK.walk (orc := orcXd PS p q h) (keep := []) follows Tryz.func26 rfl Tryz.call26 ?_) fun k v hv2 => DV.rel_slc_congr (fun i hi => stR_F hi) hv2
    refine of_eqH (b :=
      (FnOK Tryz.prog G 24 [(.agg [(.slc 3 (List.length PS) (ptF PS)), (di p), (di q), (di h)])] (db (vB PS p q h)) ∧
      ((((!vB PS p q h) = true) →
      (((.con (.slice none 0 0)) : DV) = (.slc 1 (List.length (expl PS p q h)) (stR (expl PS p q h))))) ∧
      (((!vB PS p q h) = false) →
      AWP Tryz.prog G [.code (cAt (bodyOf Tryz.f26) [1, 1, 1, 0, 1, 0]), (.blk 0), .code (cAt (bodyOf Tryz.f26) [1, 1, 1, 1])] ⟨regs 45 [(0, (.d (.agg [(.slc 3 (List.length PS) (ptF PS)), (di p), (di q), (di h)]))), (1, (.box 1 0)), (2, (.d (.con (.slice none 0 0)))), (3, (.d (.con (.slice none 0 0)))), (9, (.d (.agg [(.slc 3 (List.length PS) (ptF PS)), (di p), (di q), (di h)]))), (10, (vb (vB PS p q h))), (11, (vb (!vB PS p q h))), (12, (.box 1 0)), (13, (.d (.slc 3 (List.length PS) (ptF PS)))), (14, (vi ((↑(List.length PS) : Int)))), (15, (vi 0))], [(1, [(.d (.slc 3 (List.length PS) (ptF PS))), (vi p), (vi q), (vi h)])]⟩ (Ret Tryz.prog Tryz.f26 (DV.slc (1 : Nat) (List.length (expl PS p q h)) (stR (expl PS p q h)))))))) (by kernel_rfl) ?_
    refine ⟨f24 hZ PS p q h hS hl, fun h2 => ?_, fun _ => ?_⟩
    · rw [hv] at h2; cases h2
    · refine AWP.pre (.nilRow _ 3 900 1 stK (stR []) (by kernel_rfl) (by kernel_rfl)) ?_
      refine AWP.loop (c := cAt (bodyOf Tryz.f26) [1, 1, 1, 0, 1, 0, 0]) (by kernel_rfl) (S26 PS p q h) (fun k => k ≤ PS.length) (fun k => PS.length - k) 0 ?_ (Nat.zero_le _) ?_
      · refine of_eq (b :=
        (((((.box 1 0) : AV) = (.box 1 0)) ∧
        ((((.vec 900 1 0 0) : AV) = (.vec 900 1 0 0)) ∧
        ((((.d (.slc 3 (List.length PS) (ptF PS))) : AV) = (.d (.slc 3 (List.length PS) (ptF PS)))) ∧
        ((((vi ((↑(List.length PS) : Int))) : AV) = (vi ((↑(List.length PS) : Int)))) ∧
        ((((vi 0) : AV) = (vi 0)) ∧
        True))))) ∧
        ((((some [(.d (.slc 3 (List.length PS) (ptF PS))), (vi p), (vi q), (vi h)]) : (Option (List AV))) = (some [(.d (.slc 3 (List.length PS) (ptF PS))), (vi p), (vi q), (vi h)])) ∧
        ((((some [(.arr ⟨false, 9, false, none⟩ 1 (stR []))]) : (Option (List AV))) = (some [(.arr ⟨false, 9, false, none⟩ 1 (stR (List.map lineS (List.take (0 : Nat) PS))))])) ∧
        True)))) (by kernel_rfl) ?_
        exact ⟨⟨rfl, rfl, rfl, rfl, rfl, trivial⟩, rfl, rfl, trivial⟩
      · rintro k hk
        refine walk (orc := orcXd PS p q h) (keep := []) (cuts := []) (n := 1000) follows ?_
        refine of_eqH (b :=
          ((((decide ((↑k : Int) < (↑(List.length PS) : Int))) = true) →
          ((((0 : Int) ≤ (↑k : Int)) ∧
          ((↑k : Int) < (↑(List.length PS) : Int))) ∧
          ((FnOK Tryz.prog G 54 [(.agg [(di (Prod.fst (Prod.snd (List.getD PS (Int.toNat (↑k : Int)) (ByteArray.empty, (0 : Int), (0 : Int)))))), (di (Prod.snd (Prod.snd (List.getD PS (Int.toNat (↑k : Int)) (ByteArray.empty, (0 : Int), (0 : Int))))))])] (ds (fmtS (Prod.fst (Prod.snd (List.getD PS (Int.toNat (↑k : Int)) (ByteArray.empty, (0 : Int), (0 : Int))))) (Prod.snd (Prod.snd (List.getD PS (Int.toNat (↑k : Int)) (ByteArray.empty, (0 : Int), (0 : Int))))))) ∧
          FnOK Tryz.prog G 53 [(ds (fmtS (Prod.fst (Prod.snd (List.getD PS (Int.toNat (↑k : Int)) (ByteArray.empty, (0 : Int), (0 : Int))))) (Prod.snd (Prod.snd (List.getD PS (Int.toNat (↑k : Int)) (ByteArray.empty, (0 : Int), (0 : Int))))))), (ds ({ data := #[(45 : UInt8)] }))] (.tup [(ds (cutS (fmtS (Prod.fst (Prod.snd (List.getD PS (Int.toNat (↑k : Int)) (ByteArray.empty, (0 : Int), (0 : Int))))) (Prod.snd (Prod.snd (List.getD PS (Int.toNat (↑k : Int)) (ByteArray.empty, (0 : Int), (0 : Int)))))))), (db (cutB (fmtS (Prod.fst (Prod.snd (List.getD PS (Int.toNat (↑k : Int)) (ByteArray.empty, (0 : Int), (0 : Int))))) (Prod.snd (Prod.snd (List.getD PS (Int.toNat (↑k : Int)) (ByteArray.empty, (0 : Int), (0 : Int))))))))])) ∧
          ((((cutB (fmtS (Prod.fst (Prod.snd (List.getD PS (Int.toNat (↑k : Int)) (ByteArray.empty, (0 : Int), (0 : Int))))) (Prod.snd (Prod.snd (List.getD PS (Int.toNat (↑k : Int)) (ByteArray.empty, (0 : Int), (0 : Int))))))) = true) →
          (((ByteArray.size (Prod.fst (List.getD PS (Int.toNat (↑k : Int)) (ByteArray.empty, (0 : Int), (0 : Int)))) + ByteArray.size { data := #[(32 : UInt8)] } ≤ (9223372036854775807 : Nat)) ∧
          ((ByteArray.size (Prod.fst (List.getD PS (Int.toNat (↑k : Int)) (ByteArray.empty, (0 : Int), (0 : Int))) ++ { data := #[(32 : UInt8)] }) + ByteArray.size { data := #[(45 : UInt8)] } ≤ (9223372036854775807 : Nat)) ∧
          ((ByteArray.size (Prod.fst (List.getD PS (Int.toNat (↑k : Int)) (ByteArray.empty, (0 : Int), (0 : Int))) ++ { data := #[(32 : UInt8)] } ++ { data := #[(45 : UInt8)] }) + ByteArray.size (cutS (fmtS (Prod.fst (Prod.snd (List.getD PS (Int.toNat (↑k : Int)) (ByteArray.empty, (0 : Int), (0 : Int))))) (Prod.snd (Prod.snd (List.getD PS (Int.toNat (↑k : Int)) (ByteArray.empty, (0 : Int), (0 : Int))))))) ≤ (9223372036854775807 : Nat)) ∧
          ((((k + (1 : Nat)) * (16 : Nat) ≤ (1099511627776 : Nat)) ∧
          (k + (1 : Nat) ≤ (1099511627776 : Nat))) ∧
          (∀ (i : Nat), i < (1 : Nat) → elemOK false (1 : Nat) (elemF false (1 : Nat) [DV.con (Value.string (Prod.fst (List.getD PS (Int.toNat (↑k : Int)) (ByteArray.empty, (0 : Int), (0 : Int))) ++ { data := #[(32 : UInt8)] } ++ { data := #[(45 : UInt8)] } ++ cutS (fmtS (Prod.fst (Prod.snd (List.getD PS (Int.toNat (↑k : Int)) (ByteArray.empty, (0 : Int), (0 : Int))))) (Prod.snd (Prod.snd (List.getD PS (Int.toNat (↑k : Int)) (ByteArray.empty, (0 : Int), (0 : Int))))))))] i) = true))))) ∧
          ((I64 ((↑k : Int) + (1 : Int))) ∧
          Again (S26 PS p q h) (fun k => k ≤ List.length PS) (fun k => List.length PS - k) k ⟨regs 45 [(1, (.box 1 0)), (3, (.vec 36 1 0 (k + (1 : Nat)))), (5, (.box 5 0)), (6, (vs (cutS (fmtS (Prod.fst (Prod.snd (List.getD PS (Int.toNat (↑k : Int)) (ByteArray.empty, (0 : Int), (0 : Int))))) (Prod.snd (Prod.snd (List.getD PS (Int.toNat (↑k : Int)) (ByteArray.empty, (0 : Int), (0 : Int))))))))), (7, (vb (cutB (fmtS (Prod.fst (Prod.snd (List.getD PS (Int.toNat (↑k : Int)) (ByteArray.empty, (0 : Int), (0 : Int))))) (Prod.snd (Prod.snd (List.getD PS (Int.toNat (↑k : Int)) (ByteArray.empty, (0 : Int), (0 : Int))))))))), (8, (vs ({ data := #[(45 : UInt8)] }))), (13, (.d (.slc 3 (List.length PS) (ptF PS)))), (14, (vi ((↑(List.length PS) : Int)))), (15, (vi ((↑k : Int) + (1 : Int)))), (16, (vb (decide ((↑k : Int) < (↑(List.length PS) : Int))))), (17, (.d (.ptr [(ds (Prod.fst (List.getD PS (Int.toNat (↑k : Int)) (ByteArray.empty, (0 : Int), (0 : Int))))), (di (Prod.fst (Prod.snd (List.getD PS (Int.toNat (↑k : Int)) (ByteArray.empty, (0 : Int), (0 : Int)))))), (di (Prod.snd (Prod.snd (List.getD PS (Int.toNat (↑k : Int)) (ByteArray.empty, (0 : Int), (0 : Int))))))]))), (18, (.d (.agg [(ds (Prod.fst (List.getD PS (Int.toNat (↑k : Int)) (ByteArray.empty, (0 : Int), (0 : Int))))), (di (Prod.fst (Prod.snd (List.getD PS (Int.toNat (↑k : Int)) (ByteArray.empty, (0 : Int), (0 : Int)))))), (di (Prod.snd (Prod.snd (List.getD PS (Int.toNat (↑k : Int)) (ByteArray.empty, (0 : Int), (0 : Int))))))]))), (19, (.d (.tup [(ds (cutS (fmtS (Prod.fst (Prod.snd (List.getD PS (Int.toNat (↑k : Int)) (ByteArray.empty, (0 : Int), (0 : Int))))) (Prod.snd (Prod.snd (List.getD PS (Int.toNat (↑k : Int)) (ByteArray.empty, (0 : Int), (0 : Int)))))))), (db (cutB (fmtS (Prod.fst (Prod.snd (List.getD PS (Int.toNat (↑k : Int)) (ByteArray.empty, (0 : Int), (0 : Int))))) (Prod.snd (Prod.snd (List.getD PS (Int.toNat (↑k : Int)) (ByteArray.empty, (0 : Int), (0 : Int))))))))]))), (20, (.box 5 1)), (21, (.d (.agg [(di (Prod.fst (Prod.snd (List.getD PS (Int.toNat (↑k : Int)) (ByteArray.empty, (0 : Int), (0 : Int)))))), (di (Prod.snd (Prod.snd (List.getD PS (Int.toNat (↑k : Int)) (ByteArray.empty, (0 : Int), (0 : Int))))))]))), (22, (vs (fmtS (Prod.fst (Prod.snd (List.getD PS (Int.toNat (↑k : Int)) (ByteArray.empty, (0 : Int), (0 : Int))))) (Prod.snd (Prod.snd (List.getD PS (Int.toNat (↑k : Int)) (ByteArray.empty, (0 : Int), (0 : Int)))))))), (23, (.d (.tup [(ds (cutS (fmtS (Prod.fst (Prod.snd (List.getD PS (Int.toNat (↑k : Int)) (ByteArray.empty, (0 : Int), (0 : Int))))) (Prod.snd (Prod.snd (List.getD PS (Int.toNat (↑k : Int)) (ByteArray.empty, (0 : Int), (0 : Int)))))))), (db (cutB (fmtS (Prod.fst (Prod.snd (List.getD PS (Int.toNat (↑k : Int)) (ByteArray.empty, (0 : Int), (0 : Int))))) (Prod.snd (Prod.snd (List.getD PS (Int.toNat (↑k : Int)) (ByteArray.empty, (0 : Int), (0 : Int))))))))]))), (24, (vs (cutS (fmtS (Prod.fst (Prod.snd (List.getD PS (Int.toNat (↑k : Int)) (ByteArray.empty, (0 : Int), (0 : Int))))) (Prod.snd (Prod.snd (List.getD PS (Int.toNat (↑k : Int)) (ByteArray.empty, (0 : Int), (0 : Int))))))))), (25, (vb (cutB (fmtS (Prod.fst (Prod.snd (List.getD PS (Int.toNat (↑k : Int)) (ByteArray.empty, (0 : Int), (0 : Int))))) (Prod.snd (Prod.snd (List.getD PS (Int.toNat (↑k : Int)) (ByteArray.empty, (0 : Int), (0 : Int))))))))), (26, (vb (cutB (fmtS (Prod.fst (Prod.snd (List.getD PS (Int.toNat (↑k : Int)) (ByteArray.empty, (0 : Int), (0 : Int))))) (Prod.snd (Prod.snd (List.getD PS (Int.toNat (↑k : Int)) (ByteArray.empty, (0 : Int), (0 : Int))))))))), (27, (.vec 900 1 0 k)), (28, (.box 5 0)), (29, (vs (Prod.fst (List.getD PS (Int.toNat (↑k : Int)) (ByteArray.empty, (0 : Int), (0 : Int)))))), (30, (vs (Prod.fst (List.getD PS (Int.toNat (↑k : Int)) (ByteArray.empty, (0 : Int), (0 : Int))) ++ { data := #[(32 : UInt8)] }))), (31, (vs ({ data := #[(45 : UInt8)] }))), (32, (vs (Prod.fst (List.getD PS (Int.toNat (↑k : Int)) (ByteArray.empty, (0 : Int), (0 : Int))) ++ { data := #[(32 : UInt8)] } ++ { data := #[(45 : UInt8)] }))), (33, (vs (cutS (fmtS (Prod.fst (Prod.snd (List.getD PS (Int.toNat (↑k : Int)) (ByteArray.empty, (0 : Int), (0 : Int))))) (Prod.snd (Prod.snd (List.getD PS (Int.toNat (↑k : Int)) (ByteArray.empty, (0 : Int), (0 : Int))))))))), (34, (vs (Prod.fst (List.getD PS (Int.toNat (↑k : Int)) (ByteArray.empty, (0 : Int), (0 : Int))) ++ { data := #[(32 : UInt8)] } ++ { data := #[(45 : UInt8)] } ++ cutS (fmtS (Prod.fst (Prod.snd (List.getD PS (Int.toNat (↑k : Int)) (ByteArray.empty, (0 : Int), (0 : Int))))) (Prod.snd (Prod.snd (List.getD PS (Int.toNat (↑k : Int)) (ByteArray.empty, (0 : Int), (0 : Int))))))))), (35, (.d (.slc 1 1 (elemF false 1 [(ds (Prod.fst (List.getD PS (Int.toNat (↑k : Int)) (ByteArray.empty, (0 : Int), (0 : Int))) ++ { data := #[(32 : UInt8)] } ++ { data := #[(45 : UInt8)] } ++ cutS (fmtS (Prod.fst (Prod.snd (List.getD PS (Int.toNat (↑k : Int)) (ByteArray.empty, (0 : Int), (0 : Int))))) (Prod.snd (Prod.snd (List.getD PS (Int.toNat (↑k : Int)) (ByteArray.empty, (0 : Int), (0 : Int))))))))])))), (36, (.vec 36 1 0 (k + (1 : Nat)))), (37, (vi ((↑k : Int) + (1 : Int))))], [(36, [(.arr ⟨false, 9, false, none⟩ 1 (fun i => bif Nat.blt i k then stR (List.map lineS (List.take k PS)) i else elemF false (1 : Nat) [DV.con (Value.string (Prod.fst (List.getD PS (Int.toNat (↑k : Int)) (ByteArray.empty, (0 : Int), (0 : Int))) ++ { data := #[(32 : UInt8)] } ++ { data := #[(45 : UInt8)] } ++ cutS (fmtS (Prod.fst (Prod.snd (List.getD PS (Int.toNat (↑k : Int)) (ByteArray.empty, (0 : Int), (0 : Int))))) (Prod.snd (Prod.snd (List.getD PS (Int.toNat (↑k : Int)) (ByteArray.empty, (0 : Int), (0 : Int))))))))] (i - k)))]), (5, [(vs (Prod.fst (List.getD PS (Int.toNat (↑k : Int)) (ByteArray.empty, (0 : Int), (0 : Int))))), (vi (Prod.fst (Prod.snd (List.getD PS (Int.toNat (↑k : Int)) (ByteArray.empty, (0 : Int), (0 : Int)))))), (vi (Prod.snd (Prod.snd (List.getD PS (Int.toNat (↑k : Int)) (ByteArray.empty, (0 : Int), (0 : Int))))))]), (1, [(.d (.slc 3 (List.length PS) (ptF PS))), (vi p), (vi q), (vi h)]), (900, [.dead])]⟩))) ∧
          (((cutB (fmtS (Prod.fst (Prod.snd (List.getD PS (Int.toNat (↑k : Int)) (ByteArray.empty, (0 : Int), (0 : Int))))) (Prod.snd (Prod.snd (List.getD PS (Int.toNat (↑k : Int)) (ByteArray.empty, (0 : Int), (0 : Int))))))) = false) →
          (((ByteArray.size (Prod.fst (List.getD PS (Int.toNat (↑k : Int)) (ByteArray.empty, (0 : Int), (0 : Int)))) + ByteArray.size { data := #[(32 : UInt8)] } ≤ (9223372036854775807 : Nat)) ∧
          ((ByteArray.size (Prod.fst (List.getD PS (Int.toNat (↑k : Int)) (ByteArray.empty, (0 : Int), (0 : Int))) ++ { data := #[(32 : UInt8)] }) + ByteArray.size { data := #[(43 : UInt8)] } ≤ (9223372036854775807 : Nat)) ∧
          ((ByteArray.size (Prod.fst (List.getD PS (Int.toNat (↑k : Int)) (ByteArray.empty, (0 : Int), (0 : Int))) ++ { data := #[(32 : UInt8)] } ++ { data := #[(43 : UInt8)] }) + ByteArray.size (cutS (fmtS (Prod.fst (Prod.snd (List.getD PS (Int.toNat (↑k : Int)) (ByteArray.empty, (0 : Int), (0 : Int))))) (Prod.snd (Prod.snd (List.getD PS (Int.toNat (↑k : Int)) (ByteArray.empty, (0 : Int), (0 : Int))))))) ≤ (9223372036854775807 : Nat)) ∧
          ((((k + (1 : Nat)) * (16 : Nat) ≤ (1099511627776 : Nat)) ∧
          (k + (1 : Nat) ≤ (1099511627776 : Nat))) ∧
          (∀ (i : Nat), i < (1 : Nat) → elemOK false (1 : Nat) (elemF false (1 : Nat) [DV.con (Value.string (Prod.fst (List.getD PS (Int.toNat (↑k : Int)) (ByteArray.empty, (0 : Int), (0 : Int))) ++ { data := #[(32 : UInt8)] } ++ { data := #[(43 : UInt8)] } ++ cutS (fmtS (Prod.fst (Prod.snd (List.getD PS (Int.toNat (↑k : Int)) (ByteArray.empty, (0 : Int), (0 : Int))))) (Prod.snd (Prod.snd (List.getD PS (Int.toNat (↑k : Int)) (ByteArray.empty, (0 : Int), (0 : Int))))))))] i) = true))))) ∧
          ((I64 ((↑k : Int) + (1 : Int))) ∧
          Again (S26 PS p q h) (fun k => k ≤ List.length PS) (fun k => List.length PS - k) k ⟨regs 45 [(1, (.box 1 0)), (3, (.vec 36 1 0 (k + (1 : Nat)))), (5, (.box 5 0)), (6, (vs (cutS (fmtS (Prod.fst (Prod.snd (List.getD PS (Int.toNat (↑k : Int)) (ByteArray.empty, (0 : Int), (0 : Int))))) (Prod.snd (Prod.snd (List.getD PS (Int.toNat (↑k : Int)) (ByteArray.empty, (0 : Int), (0 : Int))))))))), (7, (vb (cutB (fmtS (Prod.fst (Prod.snd (List.getD PS (Int.toNat (↑k : Int)) (ByteArray.empty, (0 : Int), (0 : Int))))) (Prod.snd (Prod.snd (List.getD PS (Int.toNat (↑k : Int)) (ByteArray.empty, (0 : Int), (0 : Int))))))))), (8, (vs ({ data := #[(43 : UInt8)] }))), (13, (.d (.slc 3 (List.length PS) (ptF PS)))), (14, (vi ((↑(List.length PS) : Int)))), (15, (vi ((↑k : Int) + (1 : Int)))), (16, (vb (decide ((↑k : Int) < (↑(List.length PS) : Int))))), (17, (.d (.ptr [(ds (Prod.fst (List.getD PS (Int.toNat (↑k : Int)) (ByteArray.empty, (0 : Int), (0 : Int))))), (di (Prod.fst (Prod.snd (List.getD PS (Int.toNat (↑k : Int)) (ByteArray.empty, (0 : Int), (0 : Int)))))), (di (Prod.snd (Prod.snd (List.getD PS (Int.toNat (↑k : Int)) (ByteArray.empty, (0 : Int), (0 : Int))))))]))), (18, (.d (.agg [(ds (Prod.fst (List.getD PS (Int.toNat (↑k : Int)) (ByteArray.empty, (0 : Int), (0 : Int))))), (di (Prod.fst (Prod.snd (List.getD PS (Int.toNat (↑k : Int)) (ByteArray.empty, (0 : Int), (0 : Int)))))), (di (Prod.snd (Prod.snd (List.getD PS (Int.toNat (↑k : Int)) (ByteArray.empty, (0 : Int), (0 : Int))))))]))), (19, (.d (.tup [(ds (cutS (fmtS (Prod.fst (Prod.snd (List.getD PS (Int.toNat (↑k : Int)) (ByteArray.empty, (0 : Int), (0 : Int))))) (Prod.snd (Prod.snd (List.getD PS (Int.toNat (↑k : Int)) (ByteArray.empty, (0 : Int), (0 : Int)))))))), (db (cutB (fmtS (Prod.fst (Prod.snd (List.getD PS (Int.toNat (↑k : Int)) (ByteArray.empty, (0 : Int), (0 : Int))))) (Prod.snd (Prod.snd (List.getD PS (Int.toNat (↑k : Int)) (ByteArray.empty, (0 : Int), (0 : Int))))))))]))), (20, (.box 5 1)), (21, (.d (.agg [(di (Prod.fst (Prod.snd (List.getD PS (Int.toNat (↑k : Int)) (ByteArray.empty, (0 : Int), (0 : Int)))))), (di (Prod.snd (Prod.snd (List.getD PS (Int.toNat (↑k : Int)) (ByteArray.empty, (0 : Int), (0 : Int))))))]))), (22, (vs (fmtS (Prod.fst (Prod.snd (List.getD PS (Int.toNat (↑k : Int)) (ByteArray.empty, (0 : Int), (0 : Int))))) (Prod.snd (Prod.snd (List.getD PS (Int.toNat (↑k : Int)) (ByteArray.empty, (0 : Int), (0 : Int)))))))), (23, (.d (.tup [(ds (cutS (fmtS (Prod.fst (Prod.snd (List.getD PS (Int.toNat (↑k : Int)) (ByteArray.empty, (0 : Int), (0 : Int))))) (Prod.snd (Prod.snd (List.getD PS (Int.toNat (↑k : Int)) (ByteArray.empty, (0 : Int), (0 : Int)))))))), (db (cutB (fmtS (Prod.fst (Prod.snd (List.getD PS (Int.toNat (↑k : Int)) (ByteArray.empty, (0 : Int), (0 : Int))))) (Prod.snd (Prod.snd (List.getD PS (Int.toNat (↑k : Int)) (ByteArray.empty, (0 : Int), (0 : Int))))))))]))), (24, (vs (cutS (fmtS (Prod.fst (Prod.snd (List.getD PS (Int.toNat (↑k : Int)) (ByteArray.empty, (0 : Int), (0 : Int))))) (Prod.snd (Prod.snd (List.getD PS (Int.toNat (↑k : Int)) (ByteArray.empty, (0 : Int), (0 : Int))))))))), (25, (vb (cutB (fmtS (Prod.fst (Prod.snd (List.getD PS (Int.toNat (↑k : Int)) (ByteArray.empty, (0 : Int), (0 : Int))))) (Prod.snd (Prod.snd (List.getD PS (Int.toNat (↑k : Int)) (ByteArray.empty, (0 : Int), (0 : Int))))))))), (26, (vb (cutB (fmtS (Prod.fst (Prod.snd (List.getD PS (Int.toNat (↑k : Int)) (ByteArray.empty, (0 : Int), (0 : Int))))) (Prod.snd (Prod.snd (List.getD PS (Int.toNat (↑k : Int)) (ByteArray.empty, (0 : Int), (0 : Int))))))))), (27, (.vec 900 1 0 k)), (28, (.box 5 0)), (29, (vs (Prod.fst (List.getD PS (Int.toNat (↑k : Int)) (ByteArray.empty, (0 : Int), (0 : Int)))))), (30, (vs (Prod.fst (List.getD PS (Int.toNat (↑k : Int)) (ByteArray.empty, (0 : Int), (0 : Int))) ++ { data := #[(32 : UInt8)] }))), (31, (vs ({ data := #[(43 : UInt8)] }))), (32, (vs (Prod.fst (List.getD PS (Int.toNat (↑k : Int)) (ByteArray.empty, (0 : Int), (0 : Int))) ++ { data := #[(32 : UInt8)] } ++ { data := #[(43 : UInt8)] }))), (33, (vs (cutS (fmtS (Prod.fst (Prod.snd (List.getD PS (Int.toNat (↑k : Int)) (ByteArray.empty, (0 : Int), (0 : Int))))) (Prod.snd (Prod.snd (List.getD PS (Int.toNat (↑k : Int)) (ByteArray.empty, (0 : Int), (0 : Int))))))))), (34, (vs (Prod.fst (List.getD PS (Int.toNat (↑k : Int)) (ByteArray.empty, (0 : Int), (0 : Int))) ++ { data := #[(32 : UInt8)] } ++ { data := #[(43 : UInt8)] } ++ cutS (fmtS (Prod.fst (Prod.snd (List.getD PS (Int.toNat (↑k : Int)) (ByteArray.empty, (0 : Int), (0 : Int))))) (Prod.snd (Prod.snd (List.getD PS (Int.toNat (↑k : Int)) (ByteArray.empty, (0 : Int), (0 : Int))))))))), (35, (.d (.slc 1 1 (elemF false 1 [(ds (Prod.fst (List.getD PS (Int.toNat (↑k : Int)) (ByteArray.empty, (0 : Int), (0 : Int))) ++ { data := #[(32 : UInt8)] } ++ { data := #[(43 : UInt8)] } ++ cutS (fmtS (Prod.fst (Prod.snd (List.getD PS (Int.toNat (↑k : Int)) (ByteArray.empty, (0 : Int), (0 : Int))))) (Prod.snd (Prod.snd (List.getD PS (Int.toNat (↑k : Int)) (ByteArray.empty, (0 : Int), (0 : Int))))))))])))), (36, (.vec 36 1 0 (k + (1 : Nat)))), (37, (vi ((↑k : Int) + (1 : Int))))], [(36, [(.arr ⟨false, 9, false, none⟩ 1 (fun i => bif Nat.blt i k then stR (List.map lineS (List.take k PS)) i else elemF false (1 : Nat) [DV.con (Value.string (Prod.fst (List.getD PS (Int.toNat (↑k : Int)) (ByteArray.empty, (0 : Int), (0 : Int))) ++ { data := #[(32 : UInt8)] } ++ { data := #[(43 : UInt8)] } ++ cutS (fmtS (Prod.fst (Prod.snd (List.getD PS (Int.toNat (↑k : Int)) (ByteArray.empty, (0 : Int), (0 : Int))))) (Prod.snd (Prod.snd (List.getD PS (Int.toNat (↑k : Int)) (ByteArray.empty, (0 : Int), (0 : Int))))))))] (i - k)))]), (5, [(vs (Prod.fst (List.getD PS (Int.toNat (↑k : Int)) (ByteArray.empty, (0 : Int), (0 : Int))))), (vi (Prod.fst (Prod.snd (List.getD PS (Int.toNat (↑k : Int)) (ByteArray.empty, (0 : Int), (0 : Int)))))), (vi (Prod.snd (Prod.snd (List.getD PS (Int.toNat (↑k : Int)) (ByteArray.empty, (0 : Int), (0 : Int))))))]), (1, [(.d (.slc 3 (List.length PS) (ptF PS))), (vi p), (vi q), (vi h)]), (900, [.dead])]⟩))))))) ∧
          (((decide ((↑k : Int) < (↑(List.length PS) : Int))) = false) →
          AWP Tryz.prog G [.code (cAt (bodyOf Tryz.f26) [1, 1, 1, 1])] ⟨regs 45 [(1, (.box 1 0)), (3, (.vec 900 1 0 k)), (13, (.d (.slc 3 (List.length PS) (ptF PS)))), (14, (vi ((↑(List.length PS) : Int)))), (15, (vi ((↑k : Int)))), (16, (vb (decide ((↑k : Int) < (↑(List.length PS) : Int)))))], [(1, [(.d (.slc 3 (List.length PS) (ptF PS))), (vi p), (vi q), (vi h)]), (900, [(.arr ⟨false, 9, false, none⟩ 1 (stR (List.map lineS (List.take k PS))))])]⟩ (Ret Tryz.prog Tryz.f26 (DV.slc (1 : Nat) (List.length (expl PS p q h)) (stR (expl PS p q h))))))) (by kernel_rfl) ?_
        simp only [Int.toNat_natCast]
        refine ⟨fun h1 => ⟨⟨by omega, of_decide_eq_true h1⟩, ?_⟩, fun h1 => ?_⟩
        · have hk2 : k < PS.length := by simp only [decide_eq_true_eq] at h1; omega
          have hxs := hS.get k
          have ht : (PS.take (k + 1)).map lineS = (PS.take k).map lineS ++ [lineS (PS.getD k (.empty, 0, 0))] := by
            rw [List.take_succ_eq_append_getElem hk2, List.map_append, List.getD, List.getElem?_eq_getElem hk2]; rfl
          have el : ((PS.take k).map lineS).length = k := by rw [List.length_map, List.length_take]; omega
          generalize PS.getD k (.empty, 0, 0) = x at *
          have hc := cut_size (fmtS x.2.1 x.2.2)
          have hf := fmtS_size x.2.1 x.2.2
          refine ⟨⟨f54 hT _ _, f53 _⟩, fun h2 => ?_, fun h2 => ?_⟩
          · have hl : lineS x = ((x.1 ++ ⟨#[32]⟩) ++ ⟨#[45]⟩) ++ cutS (fmtS x.2.1 x.2.2) := by unfold lineS sgnS; rw [h2]; rfl
            refine ⟨⟨?_, ?_, ?_, ⟨by omega, by omega⟩, fun i hi => ?_⟩, ⟨by omega, by omega⟩, Again.mkR [(36, 900)] rfl (k + 1) ?_ ?_ ?_⟩
            · show x.1.size + 1 ≤ _; omega
            · rw [ByteArray.size_append]; show x.1.size + 1 + 1 ≤ _; omega
            · rw [ByteArray.size_append, ByteArray.size_append]; show x.1.size + 1 + 1 + _ ≤ _; omega
            · obtain rfl : i = 0 := by omega
              rfl
            · refine of_eq (b :=
              (((((.box 1 0) : AV) = (.box 1 0)) ∧
              ((((.vec 900 1 0 (k + (1 : Nat))) : AV) = (.vec 900 1 0 (k + (1 : Nat)))) ∧
              ((((.d (.slc 3 (List.length PS) (ptF PS))) : AV) = (.d (.slc 3 (List.length PS) (ptF PS)))) ∧
              ((((vi ((↑(List.length PS) : Int))) : AV) = (vi ((↑(List.length PS) : Int)))) ∧
              ((((vi ((↑k : Int) + (1 : Int))) : AV) = (vi ((↑(k + (1 : Nat)) : Int)))) ∧
              True))))) ∧
              ((((some [(.d (.slc 3 (List.length PS) (ptF PS))), (vi p), (vi q), (vi h)]) : (Option (List AV))) = (some [(.d (.slc 3 (List.length PS) (ptF PS))), (vi p), (vi q), (vi h)])) ∧
              ((((some [(.arr ⟨false, 9, false, none⟩ 1 (fun i => bif Nat.blt i k then stR (List.map lineS (List.take k PS)) i else elemF false (1 : Nat) [DV.con (Value.string (Prod.fst x ++ { data := #[(32 : UInt8)] } ++ { data := #[(45 : UInt8)] } ++ cutS (fmtS (Prod.fst (Prod.snd x)) (Prod.snd (Prod.snd x)))))] (i - k)))]) : (Option (List AV))) = (some [(.arr ⟨false, 9, false, none⟩ 1 (stR (List.map lineS (List.take (k + (1 : Nat)) PS))))])) ∧
              True)))) (by kernel_rfl) ?_
              refine ⟨⟨rfl, rfl, rfl, rfl, rfl, trivial⟩, rfl, ?_, trivial⟩
              rw [ht, hl, stR_snoc, el]
            · simp only [decide_eq_true_eq] at h1; omega
            · simp only [decide_eq_true_eq] at h1; omega
          · have hl : lineS x = ((x.1 ++ ⟨#[32]⟩) ++ ⟨#[43]⟩) ++ cutS (fmtS x.2.1 x.2.2) := by unfold lineS sgnS; rw [h2]; rfl
            refine ⟨⟨?_, ?_, ?_, ⟨by omega, by omega⟩, fun i hi => ?_⟩, ⟨by omega, by omega⟩, Again.mkR [(36, 900)] rfl (k + 1) ?_ ?_ ?_⟩
            · show x.1.size + 1 ≤ _; omega
            · rw [ByteArray.size_append]; show x.1.size + 1 + 1 ≤ _; omega
            · rw [ByteArray.size_append, ByteArray.size_append]; show x.1.size + 1 + 1 + _ ≤ _; omega
            · obtain rfl : i = 0 := by omega
              rfl
            · refine of_eq (b :=
              (((((.box 1 0) : AV) = (.box 1 0)) ∧
              ((((.vec 900 1 0 (k + (1 : Nat))) : AV) = (.vec 900 1 0 (k + (1 : Nat)))) ∧
              ((((.d (.slc 3 (List.length PS) (ptF PS))) : AV) = (.d (.slc 3 (List.length PS) (ptF PS)))) ∧
              ((((vi ((↑(List.length PS) : Int))) : AV) = (vi ((↑(List.length PS) : Int)))) ∧
              ((((vi ((↑k : Int) + (1 : Int))) : AV) = (vi ((↑(k + (1 : Nat)) : Int)))) ∧
              True))))) ∧
              ((((some [(.d (.slc 3 (List.length PS) (ptF PS))), (vi p), (vi q), (vi h)]) : (Option (List AV))) = (some [(.d (.slc 3 (List.length PS) (ptF PS))), (vi p), (vi q), (vi h)])) ∧
              ((((some [(.arr ⟨false, 9, false, none⟩ 1 (fun i => bif Nat.blt i k then stR (List.map lineS (List.take k PS)) i else elemF false (1 : Nat) [DV.con (Value.string (Prod.fst x ++ { data := #[(32 : UInt8)] } ++ { data := #[(43 : UInt8)] } ++ cutS (fmtS (Prod.fst (Prod.snd x)) (Prod.snd (Prod.snd x)))))] (i - k)))]) : (Option (List AV))) = (some [(.arr ⟨false, 9, false, none⟩ 1 (stR (List.map lineS (List.take (k + (1 : Nat)) PS))))])) ∧
              True)))) (by kernel_rfl) ?_
              refine ⟨⟨rfl, rfl, rfl, rfl, rfl, trivial⟩, rfl, ?_, trivial⟩
              rw [ht, hl, stR_snoc, el]
            · simp only [decide_eq_true_eq] at h1; omega
            · simp only [decide_eq_true_eq] at h1; omega
        · simp only [decide_eq_false_iff_not] at h1
          have hk2 : k = PS.length := by omega
          subst hk2
          have el : ((PS.take PS.length).map lineS).length = PS.length := by rw [List.length_map, List.length_take]; omega
          refine walk (orc := orcXd PS p q h) (keep := []) (cuts := []) (n := 1000) follows ?_
          refine of_eqH (b :=
            ((FnOK Tryz.prog G 55 [(di h)] (ds (ptsS h)) ∧
            ((ByteArray.size { data := #[(116 : UInt8), (111 : UInt8), (116 : UInt8), (97 : UInt8), (108 : UInt8), (32 : UInt8)] } + ByteArray.size (ptsS h) ≤ (9223372036854775807 : Nat)) ∧
            ((((List.length PS + (1 : Nat)) * (16 : Nat) ≤ (1099511627776 : Nat)) ∧
            (List.length PS + (1 : Nat) ≤ (1099511627776 : Nat))) ∧
            (∀ (i : Nat), i < (1 : Nat) → elemOK false (1 : Nat) (elemF false (1 : Nat) [DV.con (Value.string ({ data := #[(116 : UInt8), (111 : UInt8), (116 : UInt8), (97 : UInt8), (108 : UInt8), (32 : UInt8)] } ++ ptsS h))] i) = true)))) ∧
            (((.slc 1 (List.length PS + (1 : Nat)) (fun i => bif Nat.blt ((0 : Nat) + i) (List.length PS) then stR (List.map lineS (List.take (List.length PS) PS)) ((0 : Nat) + i) else elemF false (1 : Nat) [DV.con (Value.string ({ data := #[(116 : UInt8), (111 : UInt8), (116 : UInt8), (97 : UInt8), (108 : UInt8), (32 : UInt8)] } ++ ptsS h))] ((0 : Nat) + i - List.length PS))) : DV) = (.slc 1 (List.length (expl PS p q h)) (stR (expl PS p q h)))))) (by kernel_rfl) ?_
          have hp := ptsS_size h
          refine ⟨⟨f55 hT h, ?_, ⟨by omega, by omega⟩, fun i hi => ?_⟩, ?_⟩
          · show 6 + _ ≤ _; omega
          · obtain rfl : i = 0 := by omega
            rfl
          · rw [he, stR_snoc, List.length_append, List.length_map, List.take_length]
            simp only [Nat.zero_add]
            rfl
end Go.Proofs

set_option autoImplicit false
namespace Go.Proofs
open Go Go.Ab Go.RowKit
set_option maxHeartbeats 2000000
set_option maxRecDepth 100000
variable {G : IH}
def orcQ : Oracle := fun _ _ => none
noncomputable def S30 (l m : List ByteArray) (k : Nat) : AS := ⟨regs Tryz.f30.ntmps [(0, .d (.slc 1 l.length (stF l))), (1, .d (.slc 1 m.length (stF m))), (12, vi l.length), (13, vi k)], []⟩
theorem f30 (l m : List ByteArray) (hl : l.length ≤ 1000000) : FnOK Tryz.prog G 30 [.slc 1 l.length (stF l), .slc 1 m.length (stF m)] (db (decide (l = m))) := by
  refine FnOK.walk (orc := orcQ) (keep := []) follows Tryz.func30 rfl Tryz.call30 ?_
  refine of_eqH (b :=
    (((((↑(List.length l) : Int) != (↑(List.length m) : Int)) = true) →
    (((db false) : DV) = (db (decide (l = m))))) ∧
    ((((↑(List.length l) : Int) != (↑(List.length m) : Int)) = false) →
    AWP Tryz.prog G [.code (cAt (bodyOf Tryz.f30) [1, 1, 0, 1, 0]), (.blk 0), .code (cAt (bodyOf Tryz.f30) [1, 1, 1])] ⟨regs 26 [(0, (.d (.slc 1 (List.length l) (stF l)))), (1, (.d (.slc 1 (List.length m) (stF m)))), (4, (vb false)), (6, (.d (.slc 1 (List.length l) (stF l)))), (7, (vi ((↑(List.length l) : Int)))), (8, (.d (.slc 1 (List.length m) (stF m)))), (9, (vi ((↑(List.length m) : Int)))), (10, (vb ((↑(List.length l) : Int) != (↑(List.length m) : Int)))), (11, (.d (.slc 1 (List.length l) (stF l)))), (12, (vi ((↑(List.length l) : Int)))), (13, (vi 0))], []⟩ (Ret Tryz.prog Tryz.f30 (db (decide (l = m))))))) (by kernel_rfl) ?_
  refine ⟨fun h => ?_, fun h => ?_⟩
  · have hne : l ≠ m := by
      rintro rfl
      simp at h
    rw [decide_eq_false hne]
  · have hlm : l.length = m.length := by
      simp only [bne_eq_false_iff_eq] at h
      omega
    refine AWP.loop (c := cAt (bodyOf Tryz.f30) [1, 1, 0, 1, 0, 0]) (by kernel_rfl) (S30 l m) (fun k => k ≤ l.length ∧ ∀ i, i < k → l.getD i .empty = m.getD i .empty) (fun k => l.length - k) 0 ?_ ⟨Nat.zero_le _, fun i hi => by omega⟩ ?_
    · refine of_eq (b :=
      (((((.d (.slc 1 (List.length l) (stF l))) : AV) = (.d (.slc 1 (List.length l) (stF l)))) ∧
      ((((.d (.slc 1 (List.length m) (stF m))) : AV) = (.d (.slc 1 (List.length m) (stF m)))) ∧
      ((((vi ((↑(List.length l) : Int))) : AV) = (vi ((↑(List.length l) : Int)))) ∧
      ((((vi 0) : AV) = (vi 0)) ∧
      True)))) ∧
      True)) (by kernel_rfl) ?_
      exact ⟨⟨rfl, rfl, rfl, rfl, trivial⟩, trivial⟩
    · rintro k ⟨hk, hkd⟩
      refine walk (orc := orcQ) (keep := []) (cuts := []) (n := 1000) follows ?_
      refine of_eqH (b :=
        ((((decide ((↑k : Int) < (↑(List.length l) : Int))) = true) →
        (((((0 : Int) ≤ (↑k : Int)) ∧
        ((↑k : Int) < (↑(List.length l) : Int))) ∧
        (((0 : Int) ≤ (↑k : Int)) ∧
        ((↑k : Int) < (↑(List.length m) : Int)))) ∧
        ((((!ByteArray.toList (List.getD l (Int.toNat (↑k : Int)) ByteArray.empty) == ByteArray.toList (List.getD m (Int.toNat (↑k : Int)) ByteArray.empty)) = true) →
        (((db false) : DV) = (db (decide (l = m))))) ∧
        (((!ByteArray.toList (List.getD l (Int.toNat (↑k : Int)) ByteArray.empty) == ByteArray.toList (List.getD m (Int.toNat (↑k : Int)) ByteArray.empty)) = false) →
        ((I64 ((↑k : Int) + (1 : Int))) ∧
        Again (S30 l m) (fun k => k ≤ List.length l ∧ ∀ (i : Nat), i < k → List.getD l i ByteArray.empty = List.getD m i ByteArray.empty) (fun k => List.length l - k) k ⟨regs 26 [(0, (.d (.slc 1 (List.length l) (stF l)))), (1, (.d (.slc 1 (List.length m) (stF m)))), (5, (vi ((↑k : Int)))), (12, (vi ((↑(List.length l) : Int)))), (13, (vi ((↑k : Int) + (1 : Int)))), (14, (vb (decide ((↑k : Int) < (↑(List.length l) : Int))))), (15, (vi ((↑k : Int)))), (16, (.d (.slc 1 (List.length l) (stF l)))), (17, (vi ((↑k : Int)))), (18, (.d (.ptr [(ds (List.getD l (Int.toNat (↑k : Int)) ByteArray.empty))]))), (19, (vs (List.getD l (Int.toNat (↑k : Int)) ByteArray.empty))), (20, (.d (.slc 1 (List.length m) (stF m)))), (21, (vi ((↑k : Int)))), (22, (.d (.ptr [(ds (List.getD m (Int.toNat (↑k : Int)) ByteArray.empty))]))), (23, (vs (List.getD m (Int.toNat (↑k : Int)) ByteArray.empty))), (24, (vb (!ByteArray.toList (List.getD l (Int.toNat (↑k : Int)) ByteArray.empty) == ByteArray.toList (List.getD m (Int.toNat (↑k : Int)) ByteArray.empty)))), (25, (vi ((↑k : Int) + (1 : Int))))], []⟩))))) ∧
        (((decide ((↑k : Int) < (↑(List.length l) : Int))) = false) →
        AWP Tryz.prog G [.code (cAt (bodyOf Tryz.f30) [1, 1, 1])] ⟨regs 26 [(0, (.d (.slc 1 (List.length l) (stF l)))), (1, (.d (.slc 1 (List.length m) (stF m)))), (12, (vi ((↑(List.length l) : Int)))), (13, (vi ((↑k : Int)))), (14, (vb (decide ((↑k : Int) < (↑(List.length l) : Int)))))], []⟩ (Ret Tryz.prog Tryz.f30 (db (decide (l = m))))))) (by kernel_rfl) ?_
      simp only [Int.toNat_natCast, toList_beq]
      refine ⟨fun h1 => ⟨⟨⟨by omega, of_decide_eq_true h1⟩, by omega, by have := of_decide_eq_true h1; omega⟩, fun h2 => ?_, fun h2 => ⟨⟨by omega, by omega⟩, Again.mk (k + 1) ?_ ⟨?_, fun i hi => ?_⟩ ?_⟩⟩, fun h1 => ?_⟩
      · have hne : l ≠ m := by
          rintro rfl
          simp at h2
        rw [decide_eq_false hne]
      · refine of_eq (b :=
        (((((.d (.slc 1 (List.length l) (stF l))) : AV) = (.d (.slc 1 (List.length l) (stF l)))) ∧
        ((((.d (.slc 1 (List.length m) (stF m))) : AV) = (.d (.slc 1 (List.length m) (stF m)))) ∧
        ((((vi ((↑(List.length l) : Int))) : AV) = (vi ((↑(List.length l) : Int)))) ∧
        ((((vi ((↑k : Int) + (1 : Int))) : AV) = (vi ((↑(k + (1 : Nat)) : Int)))) ∧
        True)))) ∧
        True)) (by kernel_rfl) ?_
        exact ⟨⟨rfl, rfl, rfl, rfl, trivial⟩, trivial⟩
      · simp only [decide_eq_true_eq] at h1; omega
      · rcases Nat.lt_or_ge i k with h3 | h3
        · exact hkd i h3
        · obtain rfl : i = k := by omega
          simpa using h2
      · simp only [decide_eq_true_eq] at h1; omega
      · simp only [decide_eq_false_iff_not] at h1
        have heq : l = m := by
          apply List.ext_getElem hlm
          intro i h3 h4
          have := hkd i (by omega)
          rw [List.getD, List.getD, List.getElem?_eq_getElem h3, List.getElem?_eq_getElem h4] at this
          exact this
        refine walk (orc := orcQ) (keep := []) (cuts := []) (n := 1000) follows ?_
        refine of_eqH (b :=
          (((db true) : DV) = (db (decide (l = m))))) (by kernel_rfl) ?_
        rw [decide_eq_true heq]
theorem f29 (n : Int) : FnOK Tryz.prog G 29 [di n] (fr n 1) := by
  refine FnOK.walk (orc := orcQ) (keep := []) follows Tryz.func29 rfl Tryz.call29 ?_
  refine of_eqH (b :=
    (((.agg [(di n), (di 1)]) : DV) = (fr n (1 : Int)))) (by kernel_rfl) ?_
  rfl
/-- The lines of the chapter's example. -/
def L0 : List Ln := [⟨⟨#[97]⟩, .empty, 0, true, 30, 1, 0⟩, ⟨⟨#[98]⟩, ⟨#[103]⟩, 0, true, 5, 1, 0⟩, ⟨⟨#[99]⟩, ⟨#[103]⟩, 0, true, 8, 1, 0⟩, ⟨⟨#[100]⟩, .empty, 1, true, 50, 1, 0⟩, ⟨⟨#[102]⟩, .empty, 3, true, 10, 1, 0⟩, ⟨⟨#[104]⟩, .empty, 2, true, 9, 1, 0⟩]
def B0 : List ByteArray := [⟨#[97, 32, 43, 51, 48]⟩, ⟨#[99, 32, 43, 56]⟩, ⟨#[100, 32, 45, 51, 56]⟩, ⟨#[102, 32, 43, 49, 48]⟩, ⟨#[104, 32, 45, 49]⟩, ⟨#[116, 111, 116, 97, 108, 32, 57, 46, 48, 48]⟩]
def orcA : Oracle := fun f a => match f, a with
  | 29, [di n] => some (fr n 1)
  | 12, [_] => some (.tup [crV (cPs L0) (cP L0) (cQ L0) (cH L0), di (cE L0)])
  | 26, [_] => some (.slc 1 (expl (cPs L0) (cP L0) (cQ L0) (cH L0)).length (stF (expl (cPs L0) (cP L0) (cQ L0) (cH L0))))
  | 30, [_, _] => some (db true)
  | _, _ => none
theorem f10 (hZ : Glob G 0 zeroL) (hT : Tab G) : FnOK Tryz.prog G 10 [] (db true) := by
  refine FnOK.walk (orc := orcA) (keep := []) follows Tryz.func10 rfl Tryz.call10 ?_
  refine of_eqH (b :=
    ((FnOK Tryz.prog G 29 [(di 30)] (.agg [(di 30), (di 1)]) ∧
    (FnOK Tryz.prog G 29 [(di 5)] (.agg [(di 5), (di 1)]) ∧
    (FnOK Tryz.prog G 29 [(di 8)] (.agg [(di 8), (di 1)]) ∧
    (FnOK Tryz.prog G 29 [(di 50)] (.agg [(di 50), (di 1)]) ∧
    (FnOK Tryz.prog G 29 [(di 10)] (.agg [(di 10), (di 1)]) ∧
    (FnOK Tryz.prog G 29 [(di 9)] (.agg [(di 9), (di 1)]) ∧
    FnOK Tryz.prog G 12 [(.slc 7 6 (elemF true 7 [(ds ({ data := #[(97 : UInt8)] })), (ds ({ data := #[] })), (di 0), (db true), (di 30), (di 1), (di 0), (ds ({ data := #[(98 : UInt8)] })), (ds ({ data := #[(103 : UInt8)] })), (di 0), (db true), (di 5), (di 1), (di 0), (ds ({ data := #[(99 : UInt8)] })), (ds ({ data := #[(103 : UInt8)] })), (di 0), (db true), (di 8), (di 1), (di 0), (ds ({ data := #[(100 : UInt8)] })), (ds ({ data := #[] })), (di 1), (db true), (di 50), (di 1), (di 0), (ds ({ data := #[(102 : UInt8)] })), (ds ({ data := #[] })), (di 3), (db true), (di 10), (di 1), (di 0), (ds ({ data := #[(104 : UInt8)] })), (ds ({ data := #[] })), (di 2), (db true), (di 9), (di 1), (di 0)]))] (.tup [(.agg [(.slc 3 5 (ptF (cPs L0))), (di 9), (di 1), (di 900)]), (di 0)]))))))) ∧
    ((((true = true) →
    FnOK Tryz.prog G 26 [(.agg [(.slc 3 5 (ptF (cPs L0))), (di 9), (di 1), (di 900)])] (.slc 1 6 (stF (expl (cPs L0) (cP L0) (cQ L0) (cH L0))))) ∧
    ((true = true) →
    FnOK Tryz.prog G 30 [(.slc 1 6 (stF (expl (cPs L0) (cP L0) (cQ L0) (cH L0)))), (.slc 1 6 (elemF false 1 [(ds ({ data := #[(97 : UInt8), (32 : UInt8), (43 : UInt8), (51 : UInt8), (48 : UInt8)] })), (ds ({ data := #[(99 : UInt8), (32 : UInt8), (43 : UInt8), (56 : UInt8)] })), (ds ({ data := #[(100 : UInt8), (32 : UInt8), (45 : UInt8), (51 : UInt8), (56 : UInt8)] })), (ds ({ data := #[(102 : UInt8), (32 : UInt8), (43 : UInt8), (49 : UInt8), (48 : UInt8)] })), (ds ({ data := #[(104 : UInt8), (32 : UInt8), (45 : UInt8), (49 : UInt8)] })), (ds ({ data := #[(116 : UInt8), (111 : UInt8), (116 : UInt8), (97 : UInt8), (108 : UInt8), (32 : UInt8), (57 : UInt8), (46 : UInt8), (48 : UInt8), (48 : UInt8)] }))]))] (db true))) ∧
    (((db true) : DV) = (db true))))) (by kernel_rfl) ?_
  have e1 : (cPs L0).length = 5 := by kernel_rfl
  have e2 : cP L0 = 9 := by kernel_rfl
  have e3 : cQ L0 = 1 := by kernel_rfl
  have e4 : cH L0 = 900 := by kernel_rfl
  have e5 : cE L0 = 0 := by kernel_rfl
  have e6 : (expl (cPs L0) 9 1 900).length = 6 := by kernel_rfl
  have e7 : expl (cPs L0) 9 1 900 = B0 := by kernel_rfl
  have hS : Short L0 := by
    intro x hx
    have : (L0.all fun x => decide (x.name.size ≤ 1000000) && decide (x.group.size ≤ 1000000)) = true := by kernel_rfl
    have := List.all_eq_true.1 this x hx
    simpa using this
  have hP : ShortP (cPs L0) := by
    intro x hx
    have : ((cPs L0).all fun x => decide (x.1.size ≤ 1000000)) = true := by kernel_rfl
    have := List.all_eq_true.1 this x hx
    simpa using this
  have k12 := f12c (G := G) hZ L0 hS (by decide)
  have k26 := f26 (G := G) hZ hT (cPs L0) (cP L0) (cQ L0) (cH L0) hP (by rw [e1]; decide)
  have k30 := f30 (G := G) (expl (cPs L0) 9 1 900) B0 (by rw [e6]; decide)
  rw [e2, e3, e4, e5] at k12
  rw [e2, e3, e4, e6] at k26
  rw [decide_eq_true e7, e6] at k30
  rw [e2, e3, e4]
  have k12 : FnOK Tryz.prog G 12 [lnsD L0] (.tup [.agg [.slc 3 (cPs L0).length (ptF (cPs L0)), di 9, di 1, di 900], di 0]) := k12
  have k26 : FnOK Tryz.prog G 26 [.agg [.slc 3 (cPs L0).length (ptF (cPs L0)), di 9, di 1, di 900]] (.slc 1 6 (stF (expl (cPs L0) 9 1 900))) := k26
  rw [e1] at k12 k26
  refine ⟨⟨f29 _, f29 _, f29 _, f29 _, f29 _, f29 _, k12.args fun _ => DV.rels_cons (fun _ h => DV.rel_slc_congr (fun i hi => ?_) h) (fun _ h => h)⟩, ⟨fun _ => k26, fun _ => k30.args fun _ => DV.rels_cons (fun _ h => h) (DV.rels_cons (fun _ h => DV.rel_slc_congr (fun i hi => ?_) h) (fun _ h => h))⟩, rfl⟩
  · match i, hi with
    | 0, _ => rfl
    | 1, _ => rfl
    | 2, _ => rfl
    | 3, _ => rfl
    | 4, _ => rfl
    | 5, _ => rfl
  · match i, hi with
    | 0, _ => rfl
    | 1, _ => rfl
    | 2, _ => rfl
    | 3, _ => rfl
    | 4, _ => rfl
    | 5, _ => rfl
end Go.Proofs
