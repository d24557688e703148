import Derived.Test.YtldfegcegedkjaaGreatDoorAcC
import Derived.Test.YtldfegcegedkjaaGreatDoorAcD
import Derived.Test.YtldfegcegedkjaaGreatDoorYA
set_option autoImplicit false
namespace Go.Proofs
open Go Go.Ab Go.RowKit
set_option maxHeartbeats 2000000
set_option maxRecDepth 100000
variable {G : IH}
abbrev lnK : RK := ⟨true, 34, false, none⟩
theorem f19 (L : List Ln) (h0 : 0 < L.length) (hL : L.length ≤ 100000) : FnM Tryz.prog G 19 [.d (lnsD L)] [] (.vec 900 7 0 L.length) [(900, [.arr lnK 7 (lnsF L)])] := by
  refine FnM.walk (orc := orcQ) (keep := []) [(7, 900)] follows (by kernel_rfl) Tryz.func19 rfl Tryz.call19 ?_
  refine of_eqH (b :=
    (((0 : Nat) < List.length L) ∧
    (((false = true) →
    ((((.d (.con (.slice none 0 0))) : AV) = (.vec 900 7 0 (List.length L))) ∧
    (((none : (Option (List AV))) = (some [(.arr ⟨true, 34, false, none⟩ 7 (lnsF L))])) ∧
    True))) ∧
    ((false = false) →
    ((((((0 : Nat) + List.length L) * (72 : Nat) ≤ (1099511627776 : Nat)) ∧
    ((0 : Nat) + List.length L ≤ (1099511627776 : Nat))) ∧
    (∀ (i : Nat), i < List.length L → elemOK true (7 : Nat) (lnsF L i) = true)) ∧
    ((((.vec 900 7 0 ((0 : Nat) + List.length L)) : AV) = (.vec 900 7 0 (List.length L))) ∧
    ((((some [(.arr ⟨true, 34, false, none⟩ 7 (fun i => bif Nat.blt i (0 : Nat) then DV.con undef else lnsF L (i - (0 : Nat))))]) : (Option (List AV))) = (some [(.arr ⟨true, 34, false, none⟩ 7 (lnsF L))])) ∧
    True))))))) (by kernel_rfl) ?_
  exact ⟨h0, fun h => (by cases h), fun _ => ⟨⟨⟨by omega, by omega⟩, fun i _ => rfl⟩, by rw [Nat.zero_add], rfl, trivial⟩⟩
/-- Lines with two of them exchanged. -/
def swapL (L : List Ln) (x y : Nat) : List Ln := (L.set x (L.getD y ln0)).set y (L.getD x ln0)
theorem swap_perm {L : List Ln} {x y : Nat} (hx : x < L.length) (hy : y < L.length) : L.Perm (swapL L x y) := by
  unfold swapL
  rw [getD_eq hx, getD_eq hy]
  exact (List.set_set_perm hx hy).symm
theorem swapF {L : List Ln} {x y : Nat} (hx : x < L.length) (hy : y < L.length) : lnsF (swapL L x y) = fun j => bif Nat.beq j y then lnD (L.getD x ln0) else bif Nat.beq j x then lnD (L.getD y ln0) else lnsF L j := by
  funext j
  unfold lnsF swapL
  cases h1 : Nat.beq j y with
  | true =>
    rw [Nat.beq_eq] at h1
    subst h1
    simp only [cond_true]
    rw [List.getD, List.getElem?_set_self (by simpa using hy), Option.getD_some]
  | false =>
    have h1 : j ≠ y := fun e => by rw [e, Nat.beq_refl] at h1; cases h1
    simp only [cond_false]
    rw [List.getD, List.getElem?_set_ne (fun h => h1 h.symm)]
    cases h2 : Nat.beq j x with
    | true =>
      rw [Nat.beq_eq] at h2
      subst h2
      simp only [cond_true]
      rw [List.getElem?_set_self hx, Option.getD_some]
    | false =>
      have h2 : j ≠ x := fun e => by rw [e, Nat.beq_refl] at h2; cases h2
      simp only [cond_false]
      rw [List.getElem?_set_ne (fun h => h2 h.symm)]; rfl
theorem wrap8 {i : Int} (hi : 0 ≤ i ∧ i < 256) : IntKind.wrap IntKind.i64 i = i := by
  obtain ⟨h1, h2⟩ := hi
  exact wrap_I64 ⟨by omega, by omega⟩
theorem tmod8 {i : Int} {n : Nat} (hi : 0 ≤ i ∧ i < 256) (hn : 0 < n) : 0 ≤ Int.tmod i n ∧ Int.tmod i n < n :=
  ⟨Int.tmod_nonneg _ hi.1, Int.tmod_lt_of_pos _ (by omega)⟩
theorem swap_len (L : List Ln) (x y : Nat) : (swapL L x y).length = L.length := by unfold swapL; simp
theorem badL_perm {L M : List Ln} (h : L.Perm M) : badL L = badL M := by
  unfold badL
  rw [h.length_eq]
  congr 1
  rw [Bool.eq_iff_iff, List.any_eq_true, List.any_eq_true]
  constructor
  · rintro ⟨x, h1, h2⟩; exact ⟨x, h.mem_iff.1 h1, h2⟩
  · rintro ⟨x, h1, h2⟩; exact ⟨x, h.mem_iff.2 h1, h2⟩
theorem cE_arg (L : List Ln) : (cE L == 1) = badL L := by
  unfold cE
  cases badL L with
  | true => rfl
  | false => cases badT (combT L) <;> rfl
theorem order_law {L M : List Ln} (h : L.Perm M) : ((cE L == 1) == (cE M == 1)) = true ∧ (cE L = 0 → cE M = 0 → cP L = cP M ∧ cQ L = cQ M ∧ cH L = cH M ∧ (cPs L).length = (cPs M).length) := by
  refine ⟨by rw [cE_arg, cE_arg, badL_perm h]; simp, fun h1 h2 => ?_⟩
  have g1 := goodC h1
  have g2 := goodC h2
  obtain ⟨e1, e2⟩ := comb_eq g1.app g2.app g1.wr g2.wr (fin_perm h)
  refine ⟨by rw [g1.p, g2.p, e1], by rw [g1.q, g2.q, e2], by rw [g1.h, g2.h, e1, e2], by rw [g1.len, g2.len, parts_perm h]⟩
def orcOd (N : List Ln) : Oracle := fun f a => match f, a with
  | 10, [] => some (db true)
  | 11, [_] => some (db (fewB N))
  | 12, [.slc _ _ _] => some (.tup [crV (cPs N) (cP N) (cQ N) (cH N), di (cE N)])
  | _, _ => none
def orcOm (L : List Ln) (f : FuncId) (a : List AV) (pre : List (Nat × List AV)) : Option (AV × List (Nat × List AV)) := match f with
  | 19 => some (.vec 900 7 0 L.length, [(900, [.arr lnK 7 (lnsF L)])])
  | _ => none
def orcO (N : List Ln) : Orc := { d := orcOd N, m := orcOm N }
theorem f5 (hZ : Glob G 0 zeroL) (hT : Tab G) (L : List Ln) (i k : Int) (hi : 0 ≤ i ∧ i < 256) (hk : 0 ≤ k ∧ k < 256) (hL : L.length ≤ maxLen) : FnOK Tryz.prog G 5 [lnsD L, b8 i, b8 k] (db true) := by
  refine FnOK.of_body (show Tryz.prog.funcs[5]? = some Tryz.f5 from Tryz.func5) rfl Tryz.call5 ?_
  refine walk (orc := orcO L) (keep := []) (cuts := [9]) (n := 1000) follows ?_
  refine of_eqH (b :=
    (FnOK Tryz.prog G 10 [] (db true) ∧
    (((false = true) →
    (((db false) : DV) = (db true))) ∧
    ((false = false) →
    (FnOK Tryz.prog G 11 [(.slc 7 (List.length L) (lnsF L))] (db (fewB L)) ∧
    ((((!fewB L || (↑(List.length L) : Int) == (0 : Int)) = true) →
    (((db true) : DV) = (db true))) ∧
    (((!fewB L || (↑(List.length L) : Int) == (0 : Int)) = false) →
    (FnM Tryz.prog G 19 [(.d (.slc 7 (List.length L) (lnsF L)))] [] (.vec 900 7 0 (List.length L)) [(900, [(.arr ⟨true, 34, false, none⟩ 7 (lnsF L))])] ∧
    ((((↑(List.length L) : Int) ≠ (0 : Int)) ∧
    ((↑(List.length L) : Int) ≠ (0 : Int))) ∧
    (((((0 : Int) ≤ Int.tmod (IntKind.wrap IntKind.i64 k) (↑(List.length L) : Int)) ∧
    (Int.tmod (IntKind.wrap IntKind.i64 k) (↑(List.length L) : Int) < (↑(List.length L) : Int))) ∧
    ((((0 : Int) ≤ Int.tmod (IntKind.wrap IntKind.i64 i) (↑(List.length L) : Int)) ∧
    (Int.tmod (IntKind.wrap IntKind.i64 i) (↑(List.length L) : Int) < (↑(List.length L) : Int))) ∧
    ((((0 : Int) ≤ Int.tmod (IntKind.wrap IntKind.i64 i) (↑(List.length L) : Int)) ∧
    (Int.tmod (IntKind.wrap IntKind.i64 i) (↑(List.length L) : Int) < (↑(List.length L) : Int))) ∧
    (((0 : Int) ≤ Int.tmod (IntKind.wrap IntKind.i64 k) (↑(List.length L) : Int)) ∧
    (Int.tmod (IntKind.wrap IntKind.i64 k) (↑(List.length L) : Int) < (↑(List.length L) : Int)))))) ∧
    (FnOK Tryz.prog G 12 [(.slc 7 (List.length L) (lnsF L))] (.tup [(.agg [(.slc 3 (List.length (cPs L)) (ptF (cPs L))), (di (cP L)), (di (cQ L)), (di (cH L))]), (di (cE L))]) ∧
    AWP Tryz.prog G [.code (cAt (bodyOf Tryz.f5) [1, 1, 1, 1, 1, 1, 1])] ⟨regs 96 [(0, (.d (.slc 7 (List.length L) (lnsF L)))), (1, (.d (.con (.int .u8 i)))), (2, (.d (.con (.int .u8 k)))), (6, (vb false)), (7, (.vec 26900 7 0 (List.length L))), (8, (vi (Int.tmod (IntKind.wrap IntKind.i64 i) (↑(List.length L) : Int)))), (9, (vi (Int.tmod (IntKind.wrap IntKind.i64 k) (↑(List.length L) : Int)))), (10, (.box 10 0)), (11, (vi (cE L))), (14, (vb true)), (15, (vb false)), (16, (.d (.slc 7 (List.length L) (lnsF L)))), (17, (vb (fewB L))), (18, (vb (!fewB L))), (19, (vb (!fewB L))), (23, (vb (!fewB L || (↑(List.length L) : Int) == (0 : Int)))), (24, (.d (.slc 7 (List.length L) (lnsF L)))), (25, (.vec 26900 7 0 (List.length L))), (26, (.d (.con (.int .u8 i)))), (27, (vi (IntKind.wrap IntKind.i64 i))), (28, (.d (.slc 7 (List.length L) (lnsF L)))), (29, (vi ((↑(List.length L) : Int)))), (30, (vi (Int.tmod (IntKind.wrap IntKind.i64 i) (↑(List.length L) : Int)))), (31, (.d (.con (.int .u8 k)))), (32, (vi (IntKind.wrap IntKind.i64 k))), (33, (.d (.slc 7 (List.length L) (lnsF L)))), (34, (vi ((↑(List.length L) : Int)))), (35, (vi (Int.tmod (IntKind.wrap IntKind.i64 k) (↑(List.length L) : Int)))), (36, (.vec 26900 7 0 (List.length L))), (37, (vi (Int.tmod (IntKind.wrap IntKind.i64 i) (↑(List.length L) : Int)))), (38, (.vec 26900 7 0 (List.length L))), (39, (vi (Int.tmod (IntKind.wrap IntKind.i64 k) (↑(List.length L) : Int)))), (40, (.vec 26900 7 0 (List.length L))), (41, (vi (Int.tmod (IntKind.wrap IntKind.i64 k) (↑(List.length L) : Int)))), (42, (.elem 26900 7 ((0 : Nat) + Int.toNat (Int.tmod (IntKind.wrap IntKind.i64 k) (↑(List.length L) : Int))) 0)), (43, (.d (.agg [(ds (Ln.name (List.getD L ((0 : Nat) + Int.toNat (Int.tmod (IntKind.wrap IntKind.i64 k) (↑(List.length L) : Int))) ln0))), (ds (Ln.group (List.getD L ((0 : Nat) + Int.toNat (Int.tmod (IntKind.wrap IntKind.i64 k) (↑(List.length L) : Int))) ln0))), (di (Ln.kind (List.getD L ((0 : Nat) + Int.toNat (Int.tmod (IntKind.wrap IntKind.i64 k) (↑(List.length L) : Int))) ln0))), (db (Ln.app (List.getD L ((0 : Nat) + Int.toNat (Int.tmod (IntKind.wrap IntKind.i64 k) (↑(List.length L) : Int))) ln0))), (di (Ln.n (List.getD L ((0 : Nat) + Int.toNat (Int.tmod (IntKind.wrap IntKind.i64 k) (↑(List.length L) : Int))) ln0))), (di (Ln.d (List.getD L ((0 : Nat) + Int.toNat (Int.tmod (IntKind.wrap IntKind.i64 k) (↑(List.length L) : Int))) ln0))), (di (Ln.err (List.getD L ((0 : Nat) + Int.toNat (Int.tmod (IntKind.wrap IntKind.i64 k) (↑(List.length L) : Int))) ln0)))]))), (44, (.vec 26900 7 0 (List.length L))), (45, (vi (Int.tmod (IntKind.wrap IntKind.i64 i) (↑(List.length L) : Int)))), (46, (.elem 26900 7 ((0 : Nat) + Int.toNat (Int.tmod (IntKind.wrap IntKind.i64 i) (↑(List.length L) : Int))) 0)), (47, (.d (.agg [(ds (Ln.name (List.getD L ((0 : Nat) + Int.toNat (Int.tmod (IntKind.wrap IntKind.i64 i) (↑(List.length L) : Int))) ln0))), (ds (Ln.group (List.getD L ((0 : Nat) + Int.toNat (Int.tmod (IntKind.wrap IntKind.i64 i) (↑(List.length L) : Int))) ln0))), (di (Ln.kind (List.getD L ((0 : Nat) + Int.toNat (Int.tmod (IntKind.wrap IntKind.i64 i) (↑(List.length L) : Int))) ln0))), (db (Ln.app (List.getD L ((0 : Nat) + Int.toNat (Int.tmod (IntKind.wrap IntKind.i64 i) (↑(List.length L) : Int))) ln0))), (di (Ln.n (List.getD L ((0 : Nat) + Int.toNat (Int.tmod (IntKind.wrap IntKind.i64 i) (↑(List.length L) : Int))) ln0))), (di (Ln.d (List.getD L ((0 : Nat) + Int.toNat (Int.tmod (IntKind.wrap IntKind.i64 i) (↑(List.length L) : Int))) ln0))), (di (Ln.err (List.getD L ((0 : Nat) + Int.toNat (Int.tmod (IntKind.wrap IntKind.i64 i) (↑(List.length L) : Int))) ln0)))]))), (48, (.elem 26900 7 ((0 : Nat) + Int.toNat (Int.tmod (IntKind.wrap IntKind.i64 i) (↑(List.length L) : Int))) 0)), (49, (.elem 26900 7 ((0 : Nat) + Int.toNat (Int.tmod (IntKind.wrap IntKind.i64 k) (↑(List.length L) : Int))) 0)), (50, (.d (.tup [(.agg [(.slc 3 (List.length (cPs L)) (ptF (cPs L))), (di (cP L)), (di (cQ L)), (di (cH L))]), (di (cE L))]))), (51, (.d (.slc 7 (List.length L) (lnsF L)))), (52, (.d (.tup [(.agg [(.slc 3 (List.length (cPs L)) (ptF (cPs L))), (di (cP L)), (di (cQ L)), (di (cH L))]), (di (cE L))]))), (53, (.d (.agg [(.slc 3 (List.length (cPs L)) (ptF (cPs L))), (di (cP L)), (di (cQ L)), (di (cH L))]))), (54, (vi (cE L)))], [(10, [(.d (.slc 3 (List.length (cPs L)) (ptF (cPs L)))), (vi (cP L)), (vi (cQ L)), (vi (cH L))]), (26900, [(.arr ⟨true, 34, false, none⟩ 7 (fun j => bif Nat.beq j ((0 : Nat) + Int.toNat (Int.tmod (IntKind.wrap IntKind.i64 k) (↑(List.length L) : Int))) then DV.agg [DV.con (Value.string (Ln.name (List.getD L ((0 : Nat) + Int.toNat (Int.tmod (IntKind.wrap IntKind.i64 i) (↑(List.length L) : Int))) ln0))), DV.con (Value.string (Ln.group (List.getD L ((0 : Nat) + Int.toNat (Int.tmod (IntKind.wrap IntKind.i64 i) (↑(List.length L) : Int))) ln0))), DV.con (Value.int IntKind.i64 (Ln.kind (List.getD L ((0 : Nat) + Int.toNat (Int.tmod (IntKind.wrap IntKind.i64 i) (↑(List.length L) : Int))) ln0))), DV.con (Value.bool (Ln.app (List.getD L ((0 : Nat) + Int.toNat (Int.tmod (IntKind.wrap IntKind.i64 i) (↑(List.length L) : Int))) ln0))), DV.con (Value.int IntKind.i64 (Ln.n (List.getD L ((0 : Nat) + Int.toNat (Int.tmod (IntKind.wrap IntKind.i64 i) (↑(List.length L) : Int))) ln0))), DV.con (Value.int IntKind.i64 (Ln.d (List.getD L ((0 : Nat) + Int.toNat (Int.tmod (IntKind.wrap IntKind.i64 i) (↑(List.length L) : Int))) ln0))), DV.con (Value.int IntKind.i64 (Ln.err (List.getD L ((0 : Nat) + Int.toNat (Int.tmod (IntKind.wrap IntKind.i64 i) (↑(List.length L) : Int))) ln0)))] else bif Nat.beq j ((0 : Nat) + Int.toNat (Int.tmod (IntKind.wrap IntKind.i64 i) (↑(List.length L) : Int))) then DV.agg [DV.con (Value.string (Ln.name (List.getD L ((0 : Nat) + Int.toNat (Int.tmod (IntKind.wrap IntKind.i64 k) (↑(List.length L) : Int))) ln0))), DV.con (Value.string (Ln.group (List.getD L ((0 : Nat) + Int.toNat (Int.tmod (IntKind.wrap IntKind.i64 k) (↑(List.length L) : Int))) ln0))), DV.con (Value.int IntKind.i64 (Ln.kind (List.getD L ((0 : Nat) + Int.toNat (Int.tmod (IntKind.wrap IntKind.i64 k) (↑(List.length L) : Int))) ln0))), DV.con (Value.bool (Ln.app (List.getD L ((0 : Nat) + Int.toNat (Int.tmod (IntKind.wrap IntKind.i64 k) (↑(List.length L) : Int))) ln0))), DV.con (Value.int IntKind.i64 (Ln.n (List.getD L ((0 : Nat) + Int.toNat (Int.tmod (IntKind.wrap IntKind.i64 k) (↑(List.length L) : Int))) ln0))), DV.con (Value.int IntKind.i64 (Ln.d (List.getD L ((0 : Nat) + Int.toNat (Int.tmod (IntKind.wrap IntKind.i64 k) (↑(List.length L) : Int))) ln0))), DV.con (Value.int IntKind.i64 (Ln.err (List.getD L ((0 : Nat) + Int.toNat (Int.tmod (IntKind.wrap IntKind.i64 k) (↑(List.length L) : Int))) ln0)))] else lnsF L j))])]⟩ (Ret Tryz.prog Tryz.f5 (db true))))))))))))) (by kernel_rfl) ?_
  refine ⟨f10 hZ hT, fun h => (by cases h), fun _ => ⟨f11 L hL, fun _ => rfl, fun hf => ?_⟩⟩
  simp only [Bool.or_eq_false_iff, Bool.not_eq_false', beq_eq_false_iff_ne, ne_eq] at hf
  obtain ⟨hS, hlen⟩ := few_short (L := L) hf.1
  have h0 : 0 < L.length := by omega
  simp only [wrap8 hi, wrap8 hk]
  have b1 := tmod8 hi h0
  have b2 := tmod8 hk h0
  generalize Int.tmod i (↑L.length : Int) = X at *
  generalize Int.tmod k (↑L.length : Int) = Y at *
  obtain ⟨x, rfl⟩ : ∃ x : Nat, X = x := ⟨X.toNat, by omega⟩
  obtain ⟨y, rfl⟩ : ∃ y : Nat, Y = y := ⟨Y.toNat, by omega⟩
  simp only [Int.toNat_natCast, Nat.zero_add]
  have hx : x < L.length := by omega
  have hy : y < L.length := by omega
  refine ⟨f19 L h0 (by omega), ⟨by omega, by omega⟩, ⟨⟨by omega, by omega⟩, ⟨by omega, by omega⟩, ⟨by omega, by omega⟩, ⟨by omega, by omega⟩⟩, f12c hZ L hS (by omega), ?_⟩
  refine AWP.freeze (agg := lnK) (sz := 7) (f := lnsF (swapL L x y)) 26900 (by rw [swapF hx hy]; kernel_rfl) ?_
  refine walk (orc := orcO (swapL L x y)) (keep := []) (cuts := []) (n := 1000) follows ?_
  refine of_eqH (b :=
    (FnOK Tryz.prog G 12 [(.slc 7 (List.length L) (fun i => lnsF (swapL L x y) ((0 : Nat) + i)))] (.tup [(.agg [(.slc 3 (List.length (cPs (swapL L x y))) (ptF (cPs (swapL L x y)))), (di (cP (swapL L x y))), (di (cQ (swapL L x y))), (di (cH (swapL L x y)))]), (di (cE (swapL L x y)))]) ∧
    (((db ((cE L == (1 : Int)) == (cE (swapL L x y) == (1 : Int)) && (cE L != (0 : Int) || cE (swapL L x y) != (0 : Int) || Bool.rec false (cQ L == cQ (swapL L x y)) (cP L == cP (swapL L x y)) && cH L == cH (swapL L x y) && (↑(List.length (cPs L)) : Int) == (↑(List.length (cPs (swapL L x y))) : Int)))) : DV) = (db true)))) (by kernel_rfl) ?_
  have hSM : Short (swapL L x y) := fun z hz => hS z ((swap_perm hx hy).mem_iff.2 hz)
  have h12 : FnOK Tryz.prog G 12 [.slc 7 (swapL L x y).length (lnsF (swapL L x y))] _ := f12c hZ (swapL L x y) hSM (by rw [swap_len]; omega)
  rw [swap_len] at h12
  obtain ⟨o1, o2⟩ := order_law (swap_perm hx hy)
  refine ⟨FnOK.args h12 fun k us hr => DV.rels_cons (fun v hv => DV.rel_slc_congr (fun j _ => by rw [Nat.zero_add]) hv) (fun _ h => h) us hr, ?_⟩
  rw [o1, Bool.true_and]
  refine congrArg db ?_
  by_cases e1 : cE L = 0
  · by_cases e2 : cE (swapL L x y) = 0
    · obtain ⟨p1, p2, p3, p4⟩ := o2 e1 e2
      rw [p1, p2, p3, p4]
      simp
    · simp [e2]
  · simp [e1]
end Go.Proofs
