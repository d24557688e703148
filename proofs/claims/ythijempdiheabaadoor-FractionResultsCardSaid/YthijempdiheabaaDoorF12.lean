import Derived.Test.YthijempdiheabaaDoorAb15
import Derived.Test.YthijempdiheabaaDoorFb
import Derived.Test.YthijempdiheabaaDoorF8
set_option autoImplicit false
namespace Go.Proofs
open Go Go.Ab
set_option maxHeartbeats 1000000
set_option maxRecDepth 100000
variable {G : IH}
abbrev PL := List (Int × Int)
abbrev pg (L : PL) (i : Nat) : Int × Int := L.getD i (0, 0)
abbrev ls (L : PL) : DV := .slc 2 L.length (fun i => fr (pg L i).1 (pg L i).2)
def allOk (L : PL) : Bool := L.all fun x => ok x.1 x.2
def sumL (add : Int → Int → Int → Int → FE) : PL → Int × Int → FE
  | [], o => (o.1, o.2, 0)
  | x :: l, o => if (add o.1 o.2 x.1 x.2).2.2 = 0 then sumL add l ((add o.1 o.2 x.1 x.2).1, (add o.1 o.2 x.1 x.2).2.1) else (0, 0, (add o.1 o.2 x.1 x.2).2.2)
def orcS (add sub mul div : Int → Int → Int → Int → FE) (_ : PL → FE) (_ : PL → Int) (cmp : Int → Int → Int → Int → Int) (vb : Int → Int → Bool) : Oracle
  | 15, [fr a b] => some (db (vb a b))
  | 16, [fr a b] => some (db (vb a b))
  | 58, [fr a b] => some (fr (if vb a b then -a else a) b)
  | 21, [fr a b, fr c d] => some (fe' (add a b c d))
  | 22, [fr a b, fr c d] => some (fe' (mul a b c d))
  | 23, [fr a b, fr c d] => some (fe' (sub a b c d))
  | 24, [fr a b, fr c d] => some (fe' (div a b c d))
  | 28, [fr a b, fr c d] => some (fe' (add a b c d))
  | 29, [fr a b, fr c d] => some (fe' (sub a b c d))
  | 30, [fr a b, fr c d] => some (fe' (mul a b c d))
  | 31, [fr a b, fr c d] => some (fe' (div a b c d))
  | 43, [di a, di b] => some (fe (red a b))
  | 27, [fr a b, fr c d] => some (.tup [di (cmp a b c d), db (vb a b && vb c d)])
  | 34, [fr a b, fr c d] => some (.tup [di (cmp a b c d), db (vb a b && vb c d)])
  | f, l => orc3 f l
def bestTo (cmp : Int → Int → Int → Int → Int) (L : PL) : Nat → Int
  | 0 => -1
  | k + 1 => if bestTo cmp L k < 0 then k else if cmp (pg L k).1 (pg L k).2 (pg L (bestTo cmp L k).toNat).1 (pg L (bestTo cmp L k).toNat).2 ≤ 0 then bestTo cmp L k else k
def sumS (add : Int → Int → Int → Int → FE) (L : PL) : FE := if L.length ≤ 1024 ∧ allOk L = true then sumL add L (0, 1) else (0, 0, 1)
def bestS (cmp : Int → Int → Int → Int → Int) (L : PL) : Int := if allOk L then bestTo cmp L L.length else -1
def orcL (L : PL) : Oracle
  | 59, [_] => some (db (allOk L))
  | 32, [_] => some (fe' (sumS addF L))
  | 33, [_] => some (fe' (sumS addF L))
  | 37, [_] => some (di (bestS cmpF L))
  | 38, [_] => some (di (bestS cmpF L))
  | f, l => orcS addF subF mulF divF (fun _ => (0,0,0)) (fun _ => 0) cmpF ok f l
theorem f58 (a b : Int) : FnOK Tryd.prog G 58 [fr a b] (fr (if ok a b then -a else a) b) := by
  refine FnOK.walk (orc := orcS addF subF mulF divF (fun _ => (0,0,0)) (fun _ => 0) cmpF ok) (keep := []) follows Tryd.func58 rfl Tryd.call58 ?_
  refine of_eqH (b :=
    (FnOK Tryd.prog G ((16 : Nat)) [(.agg [(.con (.int .i64 a)), (.con (.int .i64 b))])] (.con (.bool (ok a b))) ∧
    ((((!ok a b) = true) →
    (((.agg [(.con (.int .i64 a)), (.con (.int .i64 b))]) : DV) = (fr (if ok a b = true then -a else a) b))) ∧
    (((!ok a b) = false) →
    ((R64 a) ∧
    (((.agg [(.con (.int .i64 (-a))), (.con (.int .i64 b))]) : DV) = (fr (if ok a b = true then -a else a) b))))))) (by kernel_rfl) ?_
  refine ⟨f16 a b, fun h => ?_, fun h => ?_⟩
  · have h : ok a b = false := by simpa using h
    simp [h]
  · have h : ok a b = true := by simpa using h
    have := ok_spec h
    exact ⟨⟨by omega, by omega⟩, by simp [h]⟩
theorem f28 (a b c d : Int) : FnOK Tryd.prog G 28 [fr a b, fr c d] (fe' (addF a b c d)) := by
  refine FnOK.walk (orc := orcS addF subF mulF divF (fun _ => (0,0,0)) (fun _ => 0) cmpF ok) (keep := []) follows Tryd.func28 rfl Tryd.call28 ?_
  refine of_eqH (b :=
    ((FnOK Tryd.prog G ((16 : Nat)) [(.agg [(.con (.int .i64 a)), (.con (.int .i64 b))])] (.con (.bool (ok a b))) ∧
    (((!!ok a b) = true) →
    FnOK Tryd.prog G ((16 : Nat)) [(.agg [(.con (.int .i64 c)), (.con (.int .i64 d))])] (.con (.bool (ok c d))))) ∧
    ((((!ok a b || !ok c d) = true) →
    (((.tup [(.agg [(.con (.int .i64 ((0 : Int)))), (.con (.int .i64 ((0 : Int))))]), (.con (.int .i64 ((1 : Int))))]) : DV) = (fe' (addF a b c d)))) ∧
    (((!ok a b || !ok c d) = false) →
    (((I64 (a * d)) ∧
    ((I64 (c * b)) ∧
    ((I64 (a * d + c * b)) ∧
    ((I64 (b * d)) ∧
    FnOK Tryd.prog G ((43 : Nat)) [(.con (.int .i64 (a * d + c * b))), (.con (.int .i64 (b * d)))] (.tup [(.agg [(.con (.int .i64 (Prod.fst (red (a * d + c * b) (b * d))))), (.con (.int .i64 (Prod.fst (Prod.snd (red (a * d + c * b) (b * d))))))]), (.con (.int .i64 (Prod.snd (Prod.snd (red (a * d + c * b) (b * d))))))]))))) ∧
    (((.tup [(.agg [(.con (.int .i64 (Prod.fst (red (a * d + c * b) (b * d))))), (.con (.int .i64 (Prod.fst (Prod.snd (red (a * d + c * b) (b * d))))))]), (.con (.int .i64 (Prod.snd (Prod.snd (red (a * d + c * b) (b * d))))))]) : DV) = (fe' (addF a b c d)))))))) (by kernel_rfl) ?_
  simp only [f16]
  cases h1 : ok a b with
  | false => simp [addF, opr, h1]
  | true => cases h2 : ok c d with
    | false => simp [addF, opr, h1, h2]
    | true =>
      have r := opR52 h1 h2
      simp only [opF] at r
      have hbd : b * d ≠ 0 := Int.mul_ne_zero (den_ne h1) (den_ne h2)
      have m0 := mb _ _ (okb h1).1 (okb h2).2
      have m1 := mb _ _ (okb h2).1 (okb h1).2
      have m2 := mb _ _ (okb h1).2 (okb h2).2
      have hc := f43 (G := G) (a * d + c * b) (b * d) hbd r.1 r.2
      simp only [addF, opr, h1, h2, opF, hbd]
      exact ⟨by simp, by simp, fun _ => ⟨⟨⟨by omega, by omega⟩, ⟨by omega, by omega⟩, ⟨by omega, by omega⟩, ⟨by omega, by omega⟩, hc⟩, rfl⟩⟩
theorem subF_neg (a b c d : Int) : addF a b (if ok c d = true then -c else c) d = subF a b c d := by
  cases h2 : ok c d with
  | false => simp [addF, subF, opr, h2]
  | true =>
    have h3 : ok (-c) d = true := by
      have := ok_spec h2
      simp [ok]; omega
    cases h1 : ok a b with
    | false => simp [addF, subF, opr, h1]
    | true =>
      simp only [addF, subF, opr, h1, h2, h3, opF, if_true]
      rw [show a * d + -c * b = a * d - c * b by rw [Int.neg_mul]; rfl]
theorem f29 (a b c d : Int) : FnOK Tryd.prog G 29 [fr a b, fr c d] (fe' (subF a b c d)) := by
  refine FnOK.walk (orc := orcS addF subF mulF divF (fun _ => (0,0,0)) (fun _ => 0) cmpF ok) (keep := []) follows Tryd.func29 rfl Tryd.call29 ?_
  refine of_eqH (b :=
    ((FnOK Tryd.prog G ((58 : Nat)) [(.agg [(.con (.int .i64 c)), (.con (.int .i64 d))])] (.agg [(.con (.int .i64 (if ok c d = true then -c else c))), (.con (.int .i64 d))]) ∧
    FnOK Tryd.prog G ((28 : Nat)) [(.agg [(.con (.int .i64 a)), (.con (.int .i64 b))]), (.agg [(.con (.int .i64 (if ok c d = true then -c else c))), (.con (.int .i64 d))])] (.tup [(.agg [(.con (.int .i64 (Prod.fst (addF a b (if ok c d = true then -c else c) d)))), (.con (.int .i64 (Prod.fst (Prod.snd (addF a b (if ok c d = true then -c else c) d)))))]), (.con (.int .i64 (Prod.snd (Prod.snd (addF a b (if ok c d = true then -c else c) d)))))])) ∧
    (((.tup [(.agg [(.con (.int .i64 (Prod.fst (addF a b (if ok c d = true then -c else c) d)))), (.con (.int .i64 (Prod.fst (Prod.snd (addF a b (if ok c d = true then -c else c) d)))))]), (.con (.int .i64 (Prod.snd (Prod.snd (addF a b (if ok c d = true then -c else c) d)))))]) : DV) = (fe' (subF a b c d))))) (by kernel_rfl) ?_
  have h := f28 (G := G) a b (if ok c d = true then -c else c) d
  rw [subF_neg] at h ⊢
  exact ⟨⟨f58 c d, h⟩, rfl⟩
theorem f30 (a b c d : Int) : FnOK Tryd.prog G 30 [fr a b, fr c d] (fe' (mulF a b c d)) := by
  refine FnOK.walk (orc := orcS addF subF mulF divF (fun _ => (0,0,0)) (fun _ => 0) cmpF ok) (keep := []) follows Tryd.func30 rfl Tryd.call30 ?_
  refine of_eqH (b :=
    ((FnOK Tryd.prog G ((16 : Nat)) [(.agg [(.con (.int .i64 a)), (.con (.int .i64 b))])] (.con (.bool (ok a b))) ∧
    (((!!ok a b) = true) →
    FnOK Tryd.prog G ((16 : Nat)) [(.agg [(.con (.int .i64 c)), (.con (.int .i64 d))])] (.con (.bool (ok c d))))) ∧
    ((((!ok a b || !ok c d) = true) →
    (((.tup [(.agg [(.con (.int .i64 ((0 : Int)))), (.con (.int .i64 ((0 : Int))))]), (.con (.int .i64 ((1 : Int))))]) : DV) = (fe' (mulF a b c d)))) ∧
    (((!ok a b || !ok c d) = false) →
    (((I64 (a * c)) ∧
    ((I64 (b * d)) ∧
    FnOK Tryd.prog G ((43 : Nat)) [(.con (.int .i64 (a * c))), (.con (.int .i64 (b * d)))] (.tup [(.agg [(.con (.int .i64 (Prod.fst (red (a * c) (b * d))))), (.con (.int .i64 (Prod.fst (Prod.snd (red (a * c) (b * d))))))]), (.con (.int .i64 (Prod.snd (Prod.snd (red (a * c) (b * d))))))]))) ∧
    (((.tup [(.agg [(.con (.int .i64 (Prod.fst (red (a * c) (b * d))))), (.con (.int .i64 (Prod.fst (Prod.snd (red (a * c) (b * d))))))]), (.con (.int .i64 (Prod.snd (Prod.snd (red (a * c) (b * d))))))]) : DV) = (fe' (mulF a b c d)))))))) (by kernel_rfl) ?_
  simp only [f16]
  cases h1 : ok a b with
  | false => simp [mulF, opr, h1]
  | true => cases h2 : ok c d with
    | false => simp [mulF, opr, h1, h2]
    | true =>
      have r := opR53 h1 h2
      simp only [opF] at r
      have hbd : b * d ≠ 0 := Int.mul_ne_zero (den_ne h1) (den_ne h2)
      have hc := f43 (G := G) (a * c) (b * d) hbd r.1 r.2
      have r1 := r.1
      have r2 := r.2
      simp only [R64] at r1 r2
      simp only [mulF, opr, h1, h2, opF, hbd]
      exact ⟨by simp, by simp, fun _ => ⟨⟨⟨by omega, by omega⟩, ⟨by omega, by omega⟩, hc⟩, rfl⟩⟩
theorem f31 (a b c d : Int) : FnOK Tryd.prog G 31 [fr a b, fr c d] (fe' (divF a b c d)) := by
  refine FnOK.walk (orc := orcS addF subF mulF divF (fun _ => (0,0,0)) (fun _ => 0) cmpF ok) (keep := []) follows Tryd.func31 rfl Tryd.call31 ?_
  refine of_eqH (b :=
    ((FnOK Tryd.prog G ((16 : Nat)) [(.agg [(.con (.int .i64 a)), (.con (.int .i64 b))])] (.con (.bool (ok a b))) ∧
    (((!!ok a b) = true) →
    FnOK Tryd.prog G ((16 : Nat)) [(.agg [(.con (.int .i64 c)), (.con (.int .i64 d))])] (.con (.bool (ok c d))))) ∧
    ((((!ok a b || !ok c d) = true) →
    (((.tup [(.agg [(.con (.int .i64 ((0 : Int)))), (.con (.int .i64 ((0 : Int))))]), (.con (.int .i64 ((1 : Int))))]) : DV) = (fe' (divF a b c d)))) ∧
    (((!ok a b || !ok c d) = false) →
    ((((c == (0 : Int)) = true) →
    (((.tup [(.agg [(.con (.int .i64 ((0 : Int)))), (.con (.int .i64 ((0 : Int))))]), (.con (.int .i64 ((2 : Int))))]) : DV) = (fe' (divF a b c d)))) ∧
    (((c == (0 : Int)) = false) →
    (((I64 (a * d)) ∧
    ((I64 (b * c)) ∧
    FnOK Tryd.prog G ((43 : Nat)) [(.con (.int .i64 (a * d))), (.con (.int .i64 (b * c)))] (.tup [(.agg [(.con (.int .i64 (Prod.fst (red (a * d) (b * c))))), (.con (.int .i64 (Prod.fst (Prod.snd (red (a * d) (b * c))))))]), (.con (.int .i64 (Prod.snd (Prod.snd (red (a * d) (b * c))))))]))) ∧
    (((.tup [(.agg [(.con (.int .i64 (Prod.fst (red (a * d) (b * c))))), (.con (.int .i64 (Prod.fst (Prod.snd (red (a * d) (b * c))))))]), (.con (.int .i64 (Prod.snd (Prod.snd (red (a * d) (b * c))))))]) : DV) = (fe' (divF a b c d)))))))))) (by kernel_rfl) ?_
  simp only [f16]
  cases h1 : ok a b with
  | false => simp [divF, opr, h1]
  | true => cases h2 : ok c d with
    | false => simp [divF, opr, h1, h2]
    | true =>
      have r := opR55 h1 h2
      simp only [opF] at r
      have r1 := r.1
      have r2 := r.2
      simp only [R64] at r1 r2
      by_cases hc0 : c = 0
      · subst hc0
        simp [divF, opr, h1, h2, opF]
      · have hbc : b * c ≠ 0 := Int.mul_ne_zero (den_ne h1) hc0
        have hc := f43 (G := G) (a * d) (b * c) hbc r.1 r.2
        simp only [divF, opr, h1, h2, opF, hbc]
        exact ⟨by simp, by simp, fun _ => ⟨fun h => absurd (by simpa using h) hc0, fun _ => ⟨⟨⟨by omega, by omega⟩, ⟨by omega, by omega⟩, hc⟩, rfl⟩⟩⟩
def S59 (L : PL) (k : Nat) : AS := ⟨regs 15 [(0, .d (ls L)), (2, vb false), (5, .d (ls L)), (6, vi L.length), (7, vi k)], []⟩
theorem allOk_take {L : PL} {k : Nat} (hk : k < L.length) (h : allOk (L.take k) = true) : allOk (L.take (k + 1)) = ok (pg L k).1 (pg L k).2 := by
  unfold allOk at *
  rw [List.take_add_one, List.all_append, h]
  simp [List.getElem?_eq_getElem hk]
theorem allOk_bad {L : PL} {k : Nat} (hk : k < L.length) (h : ok (pg L k).1 (pg L k).2 = false) : allOk L = false := by
  cases ha : allOk L with
  | false => rfl
  | true =>
    have := List.all_eq_true.1 ha _ (List.getElem_mem hk)
    simp [List.getElem?_eq_getElem hk] at h
    rw [h] at this; cases this
theorem f59 (L : PL) (hL : L.length ≤ 1000000) : FnOK Tryd.prog G 59 [ls L] (db (allOk L)) := by
  refine FnOK.walk (orc := orcL L) (keep := []) follows Tryd.func59 rfl Tryd.call59 ?_
  refine of_eqH (b :=
    AWP Tryd.prog G [.code (cAt (bodyOf Tryd.f59) [1, 0, 1, 0]), (.blk ((0 : Nat))), .code (cAt (bodyOf Tryd.f59) [1, 1])] ⟨[(.d (.slc ((2 : Nat)) (List.length L) (fun i => fr (Prod.fst (pg L i)) (Prod.snd (pg L i))))), .any, (.d (.con (.bool false))), .any, .any, (.d (.slc ((2 : Nat)) (List.length L) (fun i => fr (Prod.fst (pg L i)) (Prod.snd (pg L i))))), (.d (.con (.int .i64 ((↑(List.length L) : Int))))), (.d (.con (.int .i64 ((0 : Int))))), .any, .any, .any, .any, .any, .any, .any], []⟩ (Ret Tryd.prog Tryd.f59 (db (allOk L)))) (by kernel_rfl) ?_
  refine AWP.loop (c := cAt (bodyOf Tryd.f59) [1, 0, 1, 0, 0]) (by kernel_rfl) (S59 L) (fun k => k ≤ L.length ∧ allOk (L.take k) = true) (fun k => L.length - k) 0 ?_ ⟨Nat.zero_le _, rfl⟩ ?_
  · refine of_eq (b :=
    (((((.d (.slc ((2 : Nat)) (List.length L) (fun i => fr (Prod.fst (pg L i)) (Prod.snd (pg L i))))) : AV) = (.d (.slc ((2 : Nat)) (List.length L) (fun i => fr (Prod.fst (pg L i)) (Prod.snd (pg L i)))))) ∧
    ((((.d (.con (.bool false))) : AV) = (.d (.con (.bool false)))) ∧
    ((((.d (.slc ((2 : Nat)) (List.length L) (fun i => fr (Prod.fst (pg L i)) (Prod.snd (pg L i))))) : AV) = (.d (.slc ((2 : Nat)) (List.length L) (fun i => fr (Prod.fst (pg L i)) (Prod.snd (pg L i)))))) ∧
    ((((.d (.con (.int .i64 ((↑(List.length L) : Int))))) : AV) = (.d (.con (.int .i64 ((↑(List.length L) : Int)))))) ∧
    ((((.d (.con (.int .i64 ((0 : Int))))) : AV) = (.d (.con (.int .i64 ((0 : Int)))))) ∧
    True))))) ∧
    True)) (by kernel_rfl) ?_
    exact ⟨⟨rfl, rfl, rfl, rfl, rfl, trivial⟩, trivial⟩
  · rintro k ⟨hk, hI⟩
    refine walk (orc := orcL L) (keep := []) (cuts := []) (n := 1000) follows ?_
    refine of_eqH (b :=
      ((((decide ((↑k : Int) < (↑(List.length L) : Int))) = true) →
      ((((0 : Int) ≤ (↑k : Int)) ∧
      ((↑k : Int) < (↑(List.length L) : Int))) ∧
      (FnOK Tryd.prog G ((15 : Nat)) [(.agg [(.con (.int .i64 (Prod.fst (pg L (Int.toNat (↑k : Int)))))), (.con (.int .i64 (Prod.snd (pg L (Int.toNat (↑k : Int))))))])] (.con (.bool (ok (Prod.fst (pg L (Int.toNat (↑k : Int)))) (Prod.snd (pg L (Int.toNat (↑k : Int))))))) ∧
      ((((!ok (Prod.fst (pg L (Int.toNat (↑k : Int)))) (Prod.snd (pg L (Int.toNat (↑k : Int))))) = true) →
      (((.con (.bool false)) : DV) = (db (allOk L)))) ∧
      (((!ok (Prod.fst (pg L (Int.toNat (↑k : Int)))) (Prod.snd (pg L (Int.toNat (↑k : Int))))) = false) →
      ((I64 ((↑k : Int) + (1 : Int))) ∧
      Again (S59 L) (fun k => k ≤ List.length L ∧ allOk (List.take k L) = true) (fun k => List.length L - k) k ⟨[(.d (.slc ((2 : Nat)) (List.length L) (fun i => fr (Prod.fst (pg L i)) (Prod.snd (pg L i))))), .any, (.d (.con (.bool false))), .any, (.box ((4 : Nat)) ((0 : Nat))), (.d (.slc ((2 : Nat)) (List.length L) (fun i => fr (Prod.fst (pg L i)) (Prod.snd (pg L i))))), (.d (.con (.int .i64 ((↑(List.length L) : Int))))), (.d (.con (.int .i64 ((↑k : Int) + (1 : Int))))), (.d (.con (.bool (decide ((↑k : Int) < (↑(List.length L) : Int)))))), (.d (.ptr [(.con (.int .i64 (Prod.fst (pg L (Int.toNat (↑k : Int)))))), (.con (.int .i64 (Prod.snd (pg L (Int.toNat (↑k : Int))))))])), (.d (.agg [(.con (.int .i64 (Prod.fst (pg L (Int.toNat (↑k : Int)))))), (.con (.int .i64 (Prod.snd (pg L (Int.toNat (↑k : Int))))))])), (.d (.agg [(.con (.int .i64 (Prod.fst (pg L (Int.toNat (↑k : Int)))))), (.con (.int .i64 (Prod.snd (pg L (Int.toNat (↑k : Int))))))])), (.d (.con (.bool (ok (Prod.fst (pg L (Int.toNat (↑k : Int)))) (Prod.snd (pg L (Int.toNat (↑k : Int)))))))), (.d (.con (.bool (!ok (Prod.fst (pg L (Int.toNat (↑k : Int)))) (Prod.snd (pg L (Int.toNat (↑k : Int)))))))), (.d (.con (.int .i64 ((↑k : Int) + (1 : Int)))))], [(((4 : Nat)), [(.d (.con (.int .i64 (Prod.fst (pg L (Int.toNat (↑k : Int))))))), (.d (.con (.int .i64 (Prod.snd (pg L (Int.toNat (↑k : Int)))))))])]⟩)))))) ∧
      (((decide ((↑k : Int) < (↑(List.length L) : Int))) = false) →
      AWP Tryd.prog G [.code (cAt (bodyOf Tryd.f59) [1, 1])] ⟨[(.d (.slc ((2 : Nat)) (List.length L) (fun i => fr (Prod.fst (pg L i)) (Prod.snd (pg L i))))), .any, (.d (.con (.bool false))), .any, .any, (.d (.slc ((2 : Nat)) (List.length L) (fun i => fr (Prod.fst (pg L i)) (Prod.snd (pg L i))))), (.d (.con (.int .i64 ((↑(List.length L) : Int))))), (.d (.con (.int .i64 ((↑k : Int))))), (.d (.con (.bool (decide ((↑k : Int) < (↑(List.length L) : Int)))))), .any, .any, .any, .any, .any, .any], []⟩ (Ret Tryd.prog Tryd.f59 (db (allOk L)))))) (by kernel_rfl) ?_
    refine ⟨fun h => ⟨⟨by omega, by simpa using h⟩, f15 _ _, fun h2 => ?_, fun h2 => ⟨⟨by omega, by omega⟩, Again.mk (k + 1) ?_ ⟨?_, ?_⟩ ?_⟩⟩, fun h => ?_⟩
    · rw [allOk_bad (k := k) (by simpa using h) (by simpa using h2)]
    · refine of_eq (b :=
      (((((.d (.slc ((2 : Nat)) (List.length L) (fun i => fr (Prod.fst (pg L i)) (Prod.snd (pg L i))))) : AV) = (.d (.slc ((2 : Nat)) (List.length L) (fun i => fr (Prod.fst (pg L i)) (Prod.snd (pg L i)))))) ∧
      ((((.d (.con (.bool false))) : AV) = (.d (.con (.bool false)))) ∧
      ((((.d (.slc ((2 : Nat)) (List.length L) (fun i => fr (Prod.fst (pg L i)) (Prod.snd (pg L i))))) : AV) = (.d (.slc ((2 : Nat)) (List.length L) (fun i => fr (Prod.fst (pg L i)) (Prod.snd (pg L i)))))) ∧
      ((((.d (.con (.int .i64 ((↑(List.length L) : Int))))) : AV) = (.d (.con (.int .i64 ((↑(List.length L) : Int)))))) ∧
      ((((.d (.con (.int .i64 ((↑k : Int) + (1 : Int))))) : AV) = (.d (.con (.int .i64 ((↑(k + (1 : Nat)) : Int)))))) ∧
      True))))) ∧
      True)) (by kernel_rfl) ?_
      exact ⟨⟨rfl, rfl, rfl, rfl, rfl, trivial⟩, trivial⟩
    · simp at h; omega
    · rw [allOk_take (by simpa using h) hI]; simpa using h2
    · simp at h; omega
    · have : k = L.length := by simp at h; omega
      subst this
      rw [List.take_length] at hI
      refine walk (orc := orcL L) (keep := []) (cuts := []) (n := 1000) follows ?_
      refine of_eqH (b :=
        (((.con (.bool true)) : DV) = (db (allOk L)))) (by kernel_rfl) ?_
      rw [hI]
end Go.Proofs
