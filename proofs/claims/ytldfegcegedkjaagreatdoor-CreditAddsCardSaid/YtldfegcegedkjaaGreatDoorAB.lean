import Derived.Test.YtldfegcegedkjaaGreatDoorAcC
import Derived.Test.YtldfegcegedkjaaGreatDoorAA
set_option autoImplicit false
namespace Go.Proofs
open Go Go.Ab Go.RowKit
set_option maxHeartbeats 2000000
set_option maxRecDepth 100000
variable {G : IH}
def late : ByteArray := ⟨#[108, 97, 116, 101]⟩
def orcAd (L : List Ln) (n d : Int) : Oracle := fun f a => match f, a with
  | 10, [] => some (db true)
  | 11, [_] => some (db (fewB L))
  | 12, [_] => some (.tup [crV (cPs L) (cP L) (cQ L) (cH L), di (cE L)])
  | 28, [fr a b, fr c d] => some (.tup [fr (add1 a b c d) (add2 a b c d), di (add3 a b c d)])
  | 24, [.agg [.slc _ _ _, .con (.int .i64 p), .con (.int .i64 q), .con (.int .i64 h)]] => some (db true)
  | 22, [_, _, .agg [.con (.int .i64 a), .con (.int .i64 b)]] => some (scV (cPs L) (cP L) (cQ L) (cH L) late a b)
  | 13, [fr a b, fr c d] => some (.tup [di (cmpF a b c d), db (ok2 a b c d)])
  | _, _ => none
noncomputable def S9 (L : List Ln) (n d : Int) (x : Nat × Int × Int) : AS := ⟨regs Tryz.f9.ntmps [(0, .d (lnsD L)), (3, .box 3 0), (5, .box 5 0), (7, .box 7 0), (43, .d (.slc 3 (cPs L).length (ptF (cPs L)))), (44, vi (cPs L).length), (45, vi x.1)], [(3, [vi n, vi d]), (5, [.d (.slc 3 (cPs L).length (ptF (cPs L))), vi (cP L), vi (cQ L), vi (cH L)]), (7, [vi x.2.1, vi x.2.2])]⟩
theorem f9 (hZ : Glob G 0 zeroL) (hT : Tab G) (L : List Ln) (hL : L.length ≤ maxLen) (n d : Int) : FnOK Tryz.prog G 9 [lnsD L, fr n d] (db true) := by
  refine FnOK.walk (orc := orcAd L n d) (keep := []) follows Tryz.func9 rfl Tryz.call9 ?_
  refine of_eqH (b :=
    (FnOK Tryz.prog G 10 [] (db true) ∧
    (((false = true) →
    (((db false) : DV) = (db true))) ∧
    ((false = false) →
    (FnOK Tryz.prog G 11 [(.slc 7 (List.length L) (lnsF L))] (db (fewB L)) ∧
    ((((!fewB L) = true) →
    (((db true) : DV) = (db true))) ∧
    (((!fewB L) = false) →
    (FnOK Tryz.prog G 12 [(.slc 7 (List.length L) (lnsF L))] (.tup [(.agg [(.slc 3 (List.length (cPs L)) (ptF (cPs L))), (di (cP L)), (di (cQ L)), (di (cH L))]), (di (cE L))]) ∧
    ((((cE L != (0 : Int)) = true) →
    (((db ((↑(List.length (cPs L)) : Int) == (0 : Int) && Bool.rec false (cQ L == (0 : Int)) (cP L == (0 : Int)))) : DV) = (db true))) ∧
    (((cE L != (0 : Int)) = false) →
    AWP Tryz.prog G [.code (cAt (bodyOf Tryz.f9) [1, 1, 1, 1, 1, 1, 0, 1, 0]), (.blk 0), .code (cAt (bodyOf Tryz.f9) [1, 1, 1, 1, 1, 1, 1])] ⟨regs 155 [(0, (.d (.slc 7 (List.length L) (lnsF L)))), (1, (.d (.agg [(di n), (di d)]))), (3, (.box 3 0)), (4, (vb false)), (5, (.box 5 0)), (6, (vi (cE L))), (7, (.box 7 0)), (19, (vb true)), (20, (vb false)), (21, (.d (.slc 7 (List.length L) (lnsF L)))), (22, (vb (fewB L))), (23, (vb (!fewB L))), (24, (.d (.tup [(.agg [(.slc 3 (List.length (cPs L)) (ptF (cPs L))), (di (cP L)), (di (cQ L)), (di (cH L))]), (di (cE L))]))), (25, (.d (.slc 7 (List.length L) (lnsF L)))), (26, (.d (.tup [(.agg [(.slc 3 (List.length (cPs L)) (ptF (cPs L))), (di (cP L)), (di (cQ L)), (di (cH L))]), (di (cE L))]))), (27, (.d (.agg [(.slc 3 (List.length (cPs L)) (ptF (cPs L))), (di (cP L)), (di (cQ L)), (di (cH L))]))), (28, (vi (cE L))), (29, (vi (cE L))), (30, (vb (cE L != (0 : Int)))), (41, (.d (.agg [(di 0), (di 1)]))), (42, (.box 5 0)), (43, (.d (.slc 3 (List.length (cPs L)) (ptF (cPs L))))), (44, (vi ((↑(List.length (cPs L)) : Int)))), (45, (vi 0))], [(7, [(vi 0), (vi 1)]), (5, [(.d (.slc 3 (List.length (cPs L)) (ptF (cPs L)))), (vi (cP L)), (vi (cQ L)), (vi (cH L))]), (3, [(vi n), (vi d)])]⟩ (Ret Tryz.prog Tryz.f9 (db true)))))))))))) (by kernel_rfl) ?_
  refine ⟨f10 hZ hT, fun h => (by cases h), fun _ => ⟨f11 L hL, fun _ => rfl, fun hf => ?_⟩⟩
  obtain ⟨hS, hlen⟩ := few_short (L := L) (by simpa using hf)
  refine ⟨f12c hZ L hS (by omega), fun he => ?_, fun he => ?_⟩
  · have he : cE L ≠ 0 := by simpa using he
    have e : cPs L = [] ∧ cP L = 0 ∧ cQ L = 0 := by
      unfold cE at he
      unfold cPs cP cQ
      split
      · exact ⟨rfl, rfl, rfl⟩
      · rename_i h1
        rw [if_neg h1] at he
        split
        · exact ⟨rfl, rfl, rfl⟩
        · rename_i h2
          rw [if_neg h2] at he
          exact absurd rfl he
    rw [e.1, e.2.1, e.2.2]; rfl
  have he : cE L = 0 := by simpa using he
  have g := gc hlen he
  have hsm := g.small
  have hfin := g.sum
  refine AWP.loop (c := cAt (bodyOf Tryz.f9) [1, 1, 1, 1, 1, 1, 0, 1, 0, 0]) (by kernel_rfl) (S9 L n d) (fun x => x.1 ≤ (cPs L).length ∧ sumL addF (effs ((cPs L).take x.1)) (0, 1) = (x.2.1, x.2.2, 0)) (fun x => (cPs L).length - x.1) (0, 0, 1) ?_ ⟨Nat.zero_le _, rfl⟩ ?_
  · refine of_eq (b :=
    (((((.d (.slc 7 (List.length L) (lnsF L))) : AV) = (.d (.slc 7 (List.length L) (lnsF L)))) ∧
    ((((.box 3 0) : AV) = (.box 3 0)) ∧
    ((((.box 5 0) : AV) = (.box 5 0)) ∧
    ((((.box 7 0) : AV) = (.box 7 0)) ∧
    ((((.d (.slc 3 (List.length (cPs L)) (ptF (cPs L)))) : AV) = (.d (.slc 3 (List.length (cPs L)) (ptF (cPs L))))) ∧
    ((((vi ((↑(List.length (cPs L)) : Int))) : AV) = (vi ((↑(List.length (cPs L)) : Int)))) ∧
    ((((vi 0) : AV) = (vi 0)) ∧
    True))))))) ∧
    ((((some [(vi n), (vi d)]) : (Option (List AV))) = (some [(vi n), (vi d)])) ∧
    ((((some [(.d (.slc 3 (List.length (cPs L)) (ptF (cPs L)))), (vi (cP L)), (vi (cQ L)), (vi (cH L))]) : (Option (List AV))) = (some [(.d (.slc 3 (List.length (cPs L)) (ptF (cPs L)))), (vi (cP L)), (vi (cQ L)), (vi (cH L))])) ∧
    ((((some [(vi 0), (vi 1)]) : (Option (List AV))) = (some [(vi 0), (vi 1)])) ∧
    True))))) (by kernel_rfl) ?_
    exact ⟨⟨rfl, rfl, rfl, rfl, rfl, rfl, rfl, trivial⟩, rfl, rfl, rfl, trivial⟩
  · rintro ⟨k, a, b⟩ ⟨hk, hs⟩
    simp only at hk hs
    refine walk (orc := orcAd L n d) (keep := []) (cuts := []) (n := 1000) follows ?_
    refine of_eqH (b :=
      ((((decide ((↑k : Int) < (↑(List.length (cPs L)) : Int))) = true) →
      ((((0 : Int) ≤ (↑k : Int)) ∧
      ((↑k : Int) < (↑(List.length (cPs L)) : Int))) ∧
      (FnOK Tryz.prog G 28 [(.agg [(di a), (di b)]), (.agg [(di (Prod.fst (Prod.snd (List.getD (cPs L) (Int.toNat (↑k : Int)) (ByteArray.empty, (0 : Int), (0 : Int)))))), (di (Prod.snd (Prod.snd (List.getD (cPs L) (Int.toNat (↑k : Int)) (ByteArray.empty, (0 : Int), (0 : Int))))))])] (.tup [(.agg [(di (add1 a b (Prod.fst (Prod.snd (List.getD (cPs L) (Int.toNat (↑k : Int)) (ByteArray.empty, (0 : Int), (0 : Int))))) (Prod.snd (Prod.snd (List.getD (cPs L) (Int.toNat (↑k : Int)) (ByteArray.empty, (0 : Int), (0 : Int))))))), (di (add2 a b (Prod.fst (Prod.snd (List.getD (cPs L) (Int.toNat (↑k : Int)) (ByteArray.empty, (0 : Int), (0 : Int))))) (Prod.snd (Prod.snd (List.getD (cPs L) (Int.toNat (↑k : Int)) (ByteArray.empty, (0 : Int), (0 : Int)))))))]), (di (add3 a b (Prod.fst (Prod.snd (List.getD (cPs L) (Int.toNat (↑k : Int)) (ByteArray.empty, (0 : Int), (0 : Int))))) (Prod.snd (Prod.snd (List.getD (cPs L) (Int.toNat (↑k : Int)) (ByteArray.empty, (0 : Int), (0 : Int)))))))]) ∧
      ((((add3 a b (Prod.fst (Prod.snd (List.getD (cPs L) (Int.toNat (↑k : Int)) (ByteArray.empty, (0 : Int), (0 : Int))))) (Prod.snd (Prod.snd (List.getD (cPs L) (Int.toNat (↑k : Int)) (ByteArray.empty, (0 : Int), (0 : Int))))) != (0 : Int)) = true) →
      (((db false) : DV) = (db true))) ∧
      (((add3 a b (Prod.fst (Prod.snd (List.getD (cPs L) (Int.toNat (↑k : Int)) (ByteArray.empty, (0 : Int), (0 : Int))))) (Prod.snd (Prod.snd (List.getD (cPs L) (Int.toNat (↑k : Int)) (ByteArray.empty, (0 : Int), (0 : Int))))) != (0 : Int)) = false) →
      ((I64 ((↑k : Int) + (1 : Int))) ∧
      Again (S9 L n d) (fun x => Prod.fst x ≤ List.length (cPs L) ∧ sumL addF (effs (List.take (Prod.fst x) (cPs L))) ((0 : Int), (1 : Int)) = (Prod.fst (Prod.snd x), Prod.snd (Prod.snd x), (0 : Int))) (fun x => List.length (cPs L) - Prod.fst x) ((k, a, b)) ⟨regs 155 [(0, (.d (.slc 7 (List.length L) (lnsF L)))), (3, (.box 3 0)), (5, (.box 5 0)), (7, (.box 7 0)), (9, (.box 9 0)), (10, (.box 10 0)), (11, (vi (add3 a b (Prod.fst (Prod.snd (List.getD (cPs L) (Int.toNat (↑k : Int)) (ByteArray.empty, (0 : Int), (0 : Int))))) (Prod.snd (Prod.snd (List.getD (cPs L) (Int.toNat (↑k : Int)) (ByteArray.empty, (0 : Int), (0 : Int)))))))), (43, (.d (.slc 3 (List.length (cPs L)) (ptF (cPs L))))), (44, (vi ((↑(List.length (cPs L)) : Int)))), (45, (vi ((↑k : Int) + (1 : Int)))), (46, (vb (decide ((↑k : Int) < (↑(List.length (cPs L)) : Int))))), (47, (.d (.ptr [(ds (Prod.fst (List.getD (cPs L) (Int.toNat (↑k : Int)) (ByteArray.empty, (0 : Int), (0 : Int))))), (di (Prod.fst (Prod.snd (List.getD (cPs L) (Int.toNat (↑k : Int)) (ByteArray.empty, (0 : Int), (0 : Int)))))), (di (Prod.snd (Prod.snd (List.getD (cPs L) (Int.toNat (↑k : Int)) (ByteArray.empty, (0 : Int), (0 : Int))))))]))), (48, (.d (.agg [(ds (Prod.fst (List.getD (cPs L) (Int.toNat (↑k : Int)) (ByteArray.empty, (0 : Int), (0 : Int))))), (di (Prod.fst (Prod.snd (List.getD (cPs L) (Int.toNat (↑k : Int)) (ByteArray.empty, (0 : Int), (0 : Int)))))), (di (Prod.snd (Prod.snd (List.getD (cPs L) (Int.toNat (↑k : Int)) (ByteArray.empty, (0 : Int), (0 : Int))))))]))), (49, (.d (.tup [(.agg [(di (add1 a b (Prod.fst (Prod.snd (List.getD (cPs L) (Int.toNat (↑k : Int)) (ByteArray.empty, (0 : Int), (0 : Int))))) (Prod.snd (Prod.snd (List.getD (cPs L) (Int.toNat (↑k : Int)) (ByteArray.empty, (0 : Int), (0 : Int))))))), (di (add2 a b (Prod.fst (Prod.snd (List.getD (cPs L) (Int.toNat (↑k : Int)) (ByteArray.empty, (0 : Int), (0 : Int))))) (Prod.snd (Prod.snd (List.getD (cPs L) (Int.toNat (↑k : Int)) (ByteArray.empty, (0 : Int), (0 : Int)))))))]), (di (add3 a b (Prod.fst (Prod.snd (List.getD (cPs L) (Int.toNat (↑k : Int)) (ByteArray.empty, (0 : Int), (0 : Int))))) (Prod.snd (Prod.snd (List.getD (cPs L) (Int.toNat (↑k : Int)) (ByteArray.empty, (0 : Int), (0 : Int)))))))]))), (50, (.d (.agg [(di a), (di b)]))), (51, (.box 9 1)), (52, (.d (.agg [(di (Prod.fst (Prod.snd (List.getD (cPs L) (Int.toNat (↑k : Int)) (ByteArray.empty, (0 : Int), (0 : Int)))))), (di (Prod.snd (Prod.snd (List.getD (cPs L) (Int.toNat (↑k : Int)) (ByteArray.empty, (0 : Int), (0 : Int))))))]))), (53, (.d (.tup [(.agg [(di (add1 a b (Prod.fst (Prod.snd (List.getD (cPs L) (Int.toNat (↑k : Int)) (ByteArray.empty, (0 : Int), (0 : Int))))) (Prod.snd (Prod.snd (List.getD (cPs L) (Int.toNat (↑k : Int)) (ByteArray.empty, (0 : Int), (0 : Int))))))), (di (add2 a b (Prod.fst (Prod.snd (List.getD (cPs L) (Int.toNat (↑k : Int)) (ByteArray.empty, (0 : Int), (0 : Int))))) (Prod.snd (Prod.snd (List.getD (cPs L) (Int.toNat (↑k : Int)) (ByteArray.empty, (0 : Int), (0 : Int)))))))]), (di (add3 a b (Prod.fst (Prod.snd (List.getD (cPs L) (Int.toNat (↑k : Int)) (ByteArray.empty, (0 : Int), (0 : Int))))) (Prod.snd (Prod.snd (List.getD (cPs L) (Int.toNat (↑k : Int)) (ByteArray.empty, (0 : Int), (0 : Int)))))))]))), (54, (.d (.agg [(di (add1 a b (Prod.fst (Prod.snd (List.getD (cPs L) (Int.toNat (↑k : Int)) (ByteArray.empty, (0 : Int), (0 : Int))))) (Prod.snd (Prod.snd (List.getD (cPs L) (Int.toNat (↑k : Int)) (ByteArray.empty, (0 : Int), (0 : Int))))))), (di (add2 a b (Prod.fst (Prod.snd (List.getD (cPs L) (Int.toNat (↑k : Int)) (ByteArray.empty, (0 : Int), (0 : Int))))) (Prod.snd (Prod.snd (List.getD (cPs L) (Int.toNat (↑k : Int)) (ByteArray.empty, (0 : Int), (0 : Int)))))))]))), (55, (vi (add3 a b (Prod.fst (Prod.snd (List.getD (cPs L) (Int.toNat (↑k : Int)) (ByteArray.empty, (0 : Int), (0 : Int))))) (Prod.snd (Prod.snd (List.getD (cPs L) (Int.toNat (↑k : Int)) (ByteArray.empty, (0 : Int), (0 : Int)))))))), (56, (vi (add3 a b (Prod.fst (Prod.snd (List.getD (cPs L) (Int.toNat (↑k : Int)) (ByteArray.empty, (0 : Int), (0 : Int))))) (Prod.snd (Prod.snd (List.getD (cPs L) (Int.toNat (↑k : Int)) (ByteArray.empty, (0 : Int), (0 : Int)))))))), (57, (vb (add3 a b (Prod.fst (Prod.snd (List.getD (cPs L) (Int.toNat (↑k : Int)) (ByteArray.empty, (0 : Int), (0 : Int))))) (Prod.snd (Prod.snd (List.getD (cPs L) (Int.toNat (↑k : Int)) (ByteArray.empty, (0 : Int), (0 : Int))))) != (0 : Int)))), (58, (.d (.agg [(di (add1 a b (Prod.fst (Prod.snd (List.getD (cPs L) (Int.toNat (↑k : Int)) (ByteArray.empty, (0 : Int), (0 : Int))))) (Prod.snd (Prod.snd (List.getD (cPs L) (Int.toNat (↑k : Int)) (ByteArray.empty, (0 : Int), (0 : Int))))))), (di (add2 a b (Prod.fst (Prod.snd (List.getD (cPs L) (Int.toNat (↑k : Int)) (ByteArray.empty, (0 : Int), (0 : Int))))) (Prod.snd (Prod.snd (List.getD (cPs L) (Int.toNat (↑k : Int)) (ByteArray.empty, (0 : Int), (0 : Int)))))))]))), (59, (vi ((↑k : Int) + (1 : Int))))], [(10, [(vi (add1 a b (Prod.fst (Prod.snd (List.getD (cPs L) (Int.toNat (↑k : Int)) (ByteArray.empty, (0 : Int), (0 : Int))))) (Prod.snd (Prod.snd (List.getD (cPs L) (Int.toNat (↑k : Int)) (ByteArray.empty, (0 : Int), (0 : Int))))))), (vi (add2 a b (Prod.fst (Prod.snd (List.getD (cPs L) (Int.toNat (↑k : Int)) (ByteArray.empty, (0 : Int), (0 : Int))))) (Prod.snd (Prod.snd (List.getD (cPs L) (Int.toNat (↑k : Int)) (ByteArray.empty, (0 : Int), (0 : Int)))))))]), (9, [(vs (Prod.fst (List.getD (cPs L) (Int.toNat (↑k : Int)) (ByteArray.empty, (0 : Int), (0 : Int))))), (vi (Prod.fst (Prod.snd (List.getD (cPs L) (Int.toNat (↑k : Int)) (ByteArray.empty, (0 : Int), (0 : Int)))))), (vi (Prod.snd (Prod.snd (List.getD (cPs L) (Int.toNat (↑k : Int)) (ByteArray.empty, (0 : Int), (0 : Int))))))]), (3, [(vi n), (vi d)]), (5, [(.d (.slc 3 (List.length (cPs L)) (ptF (cPs L)))), (vi (cP L)), (vi (cQ L)), (vi (cH L))]), (7, [(vi (add1 a b (Prod.fst (Prod.snd (List.getD (cPs L) (Int.toNat (↑k : Int)) (ByteArray.empty, (0 : Int), (0 : Int))))) (Prod.snd (Prod.snd (List.getD (cPs L) (Int.toNat (↑k : Int)) (ByteArray.empty, (0 : Int), (0 : Int))))))), (vi (add2 a b (Prod.fst (Prod.snd (List.getD (cPs L) (Int.toNat (↑k : Int)) (ByteArray.empty, (0 : Int), (0 : Int))))) (Prod.snd (Prod.snd (List.getD (cPs L) (Int.toNat (↑k : Int)) (ByteArray.empty, (0 : Int), (0 : Int)))))))])]⟩)))))) ∧
      (((decide ((↑k : Int) < (↑(List.length (cPs L)) : Int))) = false) →
      AWP Tryz.prog G [.code (cAt (bodyOf Tryz.f9) [1, 1, 1, 1, 1, 1, 1])] ⟨regs 155 [(0, (.d (.slc 7 (List.length L) (lnsF L)))), (3, (.box 3 0)), (5, (.box 5 0)), (7, (.box 7 0)), (43, (.d (.slc 3 (List.length (cPs L)) (ptF (cPs L))))), (44, (vi ((↑(List.length (cPs L)) : Int)))), (45, (vi ((↑k : Int)))), (46, (vb (decide ((↑k : Int) < (↑(List.length (cPs L)) : Int)))))], [(3, [(vi n), (vi d)]), (5, [(.d (.slc 3 (List.length (cPs L)) (ptF (cPs L)))), (vi (cP L)), (vi (cQ L)), (vi (cH L))]), (7, [(vi a), (vi b)])]⟩ (Ret Tryz.prog Tryz.f9 (db true))))) (by kernel_rfl) ?_
    simp only [Int.toNat_natCast]
    refine ⟨fun h1 => ?_, fun h1 => ?_⟩
    · have hk2 : k < (cPs L).length := by have := of_decide_eq_true h1; omega
      obtain ⟨p1, p2⟩ := prefix_sum hk2 hfin hs
      refine ⟨⟨by omega, by omega⟩, f28 _ _ _ _, fun h2 => ?_, fun h2 => ⟨⟨by omega, by omega⟩, Again.mk (k + 1, add1 a b ((cPs L).getD k (.empty, 0, 0)).2.1 ((cPs L).getD k (.empty, 0, 0)).2.2, add2 a b ((cPs L).getD k (.empty, 0, 0)).2.1 ((cPs L).getD k (.empty, 0, 0)).2.2) ?_ ⟨hk2, ?_⟩ (by simp only; omega)⟩⟩
      · simp only [bne_iff_ne, ne_eq] at h2
        exact absurd p1 h2
      · refine of_eq (b :=
        (((((.d (.slc 7 (List.length L) (lnsF L))) : AV) = (.d (.slc 7 (List.length L) (lnsF L)))) ∧
        ((((.box 3 0) : AV) = (.box 3 0)) ∧
        ((((.box 5 0) : AV) = (.box 5 0)) ∧
        ((((.box 7 0) : AV) = (.box 7 0)) ∧
        ((((.d (.slc 3 (List.length (cPs L)) (ptF (cPs L)))) : AV) = (.d (.slc 3 (List.length (cPs L)) (ptF (cPs L))))) ∧
        ((((vi ((↑(List.length (cPs L)) : Int))) : AV) = (vi ((↑(List.length (cPs L)) : Int)))) ∧
        ((((vi ((↑k : Int) + (1 : Int))) : AV) = (vi ((↑(k + (1 : Nat)) : Int)))) ∧
        True))))))) ∧
        ((((some [(vi n), (vi d)]) : (Option (List AV))) = (some [(vi n), (vi d)])) ∧
        ((((some [(.d (.slc 3 (List.length (cPs L)) (ptF (cPs L)))), (vi (cP L)), (vi (cQ L)), (vi (cH L))]) : (Option (List AV))) = (some [(.d (.slc 3 (List.length (cPs L)) (ptF (cPs L)))), (vi (cP L)), (vi (cQ L)), (vi (cH L))])) ∧
        ((((some [(vi (add1 a b (Prod.fst (Prod.snd (List.getD (cPs L) k (ByteArray.empty, (0 : Int), (0 : Int))))) (Prod.snd (Prod.snd (List.getD (cPs L) k (ByteArray.empty, (0 : Int), (0 : Int))))))), (vi (add2 a b (Prod.fst (Prod.snd (List.getD (cPs L) k (ByteArray.empty, (0 : Int), (0 : Int))))) (Prod.snd (Prod.snd (List.getD (cPs L) k (ByteArray.empty, (0 : Int), (0 : Int)))))))]) : (Option (List AV))) = (some [(vi (add1 a b (Prod.fst (Prod.snd (List.getD (cPs L) k (ByteArray.empty, (0 : Int), (0 : Int))))) (Prod.snd (Prod.snd (List.getD (cPs L) k (ByteArray.empty, (0 : Int), (0 : Int))))))), (vi (add2 a b (Prod.fst (Prod.snd (List.getD (cPs L) k (ByteArray.empty, (0 : Int), (0 : Int))))) (Prod.snd (Prod.snd (List.getD (cPs L) k (ByteArray.empty, (0 : Int), (0 : Int)))))))])) ∧
        True))))) (by kernel_rfl) ?_
        exact ⟨⟨rfl, rfl, rfl, rfl, rfl, rfl, rfl, trivial⟩, rfl, rfl, rfl, trivial⟩
      · rw [p2]
        exact Prod.ext rfl (Prod.ext rfl p1)
    · simp only [decide_eq_false_iff_not] at h1
      have hk2 : k = (cPs L).length := by omega
      subst hk2
      rw [List.take_length, hfin] at hs
      injection hs with e1 hs
      injection hs with e2 hs
      subst e1; subst e2
      have hnl : nameB late = true := by decide
      have hv1 : vB (cPs L) (cP L) (cQ L) (cH L) = true := g.valid
      have hSP : ShortP (cPs L) := fun x hx => by
        have := (vB_of hv1).names x hx
        unfold nameB at this
        simp only [Bool.and_eq_true, decide_eq_true_eq] at this
        omega
      have h24 : FnOK Tryz.prog G 24 [crV (cPs L) (cP L) (cQ L) (cH L)] (db true) := by
        have := f24 (G := G) hZ (cPs L) (cP L) (cQ L) (cH L) hSP (by omega)
        rwa [hv1] at this
      have h22 : ∀ a b : Int, FnOK Tryz.prog G 22 [crV (cPs L) (cP L) (cQ L) (cH L), ds late, fr a b] (scV (cPs L) (cP L) (cQ L) (cH L) late a b) := fun a b => f22c hZ _ _ _ _ hSP (by omega) late (by decide) a b
      obtain ⟨z1, z2, z3, z4⟩ := scale_zero (nm := late) hv1 (by omega) hnl
      obtain ⟨o1, o2, o3⟩ := scale_one (nm := late) hv1 (by omega) hnl
      refine walk (orc := orcAd L n d) (keep := []) (cuts := []) (n := 1000) follows ?_
      refine of_eqH (b :=
        ((((!(!Bool.rec false (cQ L == cQ L) (cP L == cP L) || decide (cP L < (0 : Int)))) = true) →
        FnOK Tryz.prog G 24 [(.agg [(.slc 3 (List.length (cPs L)) (ptF (cPs L))), (di (cP L)), (di (cQ L)), (di (cH L))])] (db true)) ∧
        ((((!Bool.rec false (cQ L == cQ L) (cP L == cP L) || decide (cP L < (0 : Int)) || !true) = true) →
        (((db false) : DV) = (db true))) ∧
        (((!Bool.rec false (cQ L == cQ L) (cP L == cP L) || decide (cP L < (0 : Int)) || !true) = false) →
        (FnOK Tryz.prog G 22 [(.agg [(.slc 3 (List.length (cPs L)) (ptF (cPs L))), (di (cP L)), (di (cQ L)), (di (cH L))]), (ds ({ data := #[(108 : UInt8), (97 : UInt8), (116 : UInt8), (101 : UInt8)] })), (.agg [(di n), (di d)])] (.tup [(.agg [(.slc 3 (List.length (scPs (cPs L) (cP L) (cQ L) (cH L) late n d)) (ptF (scPs (cPs L) (cP L) (cQ L) (cH L) late n d))), (di (scP (cPs L) (cP L) (cQ L) (cH L) late n d)), (di (scQ (cPs L) (cP L) (cQ L) (cH L) late n d)), (di (scH (cPs L) (cP L) (cQ L) (cH L) late n d))]), (di (scE (cPs L) (cP L) (cQ L) (cH L) late n d))]) ∧
        ((((scE (cPs L) (cP L) (cQ L) (cH L) late n d == (0 : Int)) = true) →
        (FnOK Tryz.prog G 13 [(.agg [(di (scP (cPs L) (cP L) (cQ L) (cH L) late n d)), (di (scQ (cPs L) (cP L) (cQ L) (cH L) late n d))]), (.agg [(di (cP L)), (di (cQ L))])] (.tup [(di (cmpF (scP (cPs L) (cP L) (cQ L) (cH L) late n d) (scQ (cPs L) (cP L) (cQ L) (cH L) late n d) (cP L) (cQ L))), (db (ok2 (scP (cPs L) (cP L) (cQ L) (cH L) late n d) (scQ (cPs L) (cP L) (cQ L) (cH L) late n d) (cP L) (cQ L)))]) ∧
        ((FnOK Tryz.prog G 24 [(.agg [(.slc 3 (List.length (scPs (cPs L) (cP L) (cQ L) (cH L) late n d)) (ptF (scPs (cPs L) (cP L) (cQ L) (cH L) late n d))), (di (scP (cPs L) (cP L) (cQ L) (cH L) late n d)), (di (scQ (cPs L) (cP L) (cQ L) (cH L) late n d)), (di (scH (cPs L) (cP L) (cQ L) (cH L) late n d))])] (db true) ∧
        (((!(!true || !ok2 (scP (cPs L) (cP L) (cQ L) (cH L) late n d) (scQ (cPs L) (cP L) (cQ L) (cH L) late n d) (cP L) (cQ L) || decide (cmpF (scP (cPs L) (cP L) (cQ L) (cH L) late n d) (scQ (cPs L) (cP L) (cQ L) (cH L) late n d) (cP L) (cQ L) > (0 : Int)))) = true) →
        (I64 ((↑(List.length (cPs L)) : Int) + (1 : Int))))) ∧
        ((((!true || !ok2 (scP (cPs L) (cP L) (cQ L) (cH L) late n d) (scQ (cPs L) (cP L) (cQ L) (cH L) late n d) (cP L) (cQ L) || decide (cmpF (scP (cPs L) (cP L) (cQ L) (cH L) late n d) (scQ (cPs L) (cP L) (cQ L) (cH L) late n d) (cP L) (cQ L) > (0 : Int)) || (↑(List.length (scPs (cPs L) (cP L) (cQ L) (cH L) late n d)) : Int) != (↑(List.length (cPs L)) : Int) + (1 : Int) || decide (scH (cPs L) (cP L) (cQ L) (cH L) late n d > cH L)) = true) →
        (((db false) : DV) = (db true))) ∧
        (((!true || !ok2 (scP (cPs L) (cP L) (cQ L) (cH L) late n d) (scQ (cPs L) (cP L) (cQ L) (cH L) late n d) (cP L) (cQ L) || decide (cmpF (scP (cPs L) (cP L) (cQ L) (cH L) late n d) (scQ (cPs L) (cP L) (cQ L) (cH L) late n d) (cP L) (cQ L) > (0 : Int)) || (↑(List.length (scPs (cPs L) (cP L) (cQ L) (cH L) late n d)) : Int) != (↑(List.length (cPs L)) : Int) + (1 : Int) || decide (scH (cPs L) (cP L) (cQ L) (cH L) late n d > cH L)) = false) →
        (FnOK Tryz.prog G 22 [(.agg [(.slc 3 (List.length (cPs L)) (ptF (cPs L))), (di (cP L)), (di (cQ L)), (di (cH L))]), (ds ({ data := #[(108 : UInt8), (97 : UInt8), (116 : UInt8), (101 : UInt8)] })), (.agg [(di 0), (di 1)])] (.tup [(.agg [(.slc 3 (List.length (scPs (cPs L) (cP L) (cQ L) (cH L) late (0 : Int) (1 : Int))) (ptF (scPs (cPs L) (cP L) (cQ L) (cH L) late (0 : Int) (1 : Int)))), (di (scP (cPs L) (cP L) (cQ L) (cH L) late (0 : Int) (1 : Int))), (di (scQ (cPs L) (cP L) (cQ L) (cH L) late (0 : Int) (1 : Int))), (di (scH (cPs L) (cP L) (cQ L) (cH L) late (0 : Int) (1 : Int)))]), (di (scE (cPs L) (cP L) (cQ L) (cH L) late (0 : Int) (1 : Int)))]) ∧
        (FnOK Tryz.prog G 22 [(.agg [(.slc 3 (List.length (cPs L)) (ptF (cPs L))), (di (cP L)), (di (cQ L)), (di (cH L))]), (ds ({ data := #[(108 : UInt8), (97 : UInt8), (116 : UInt8), (101 : UInt8)] })), (.agg [(di 1), (di 1)])] (.tup [(.agg [(.slc 3 (List.length (scPs (cPs L) (cP L) (cQ L) (cH L) late (1 : Int) (1 : Int))) (ptF (scPs (cPs L) (cP L) (cQ L) (cH L) late (1 : Int) (1 : Int)))), (di (scP (cPs L) (cP L) (cQ L) (cH L) late (1 : Int) (1 : Int))), (di (scQ (cPs L) (cP L) (cQ L) (cH L) late (1 : Int) (1 : Int))), (di (scH (cPs L) (cP L) (cQ L) (cH L) late (1 : Int) (1 : Int)))]), (di (scE (cPs L) (cP L) (cQ L) (cH L) late (1 : Int) (1 : Int)))]) ∧
        (((db (scE (cPs L) (cP L) (cQ L) (cH L) late (0 : Int) (1 : Int) == (0 : Int) && Bool.rec false (scQ (cPs L) (cP L) (cQ L) (cH L) late (0 : Int) (1 : Int) == (1 : Int)) (scP (cPs L) (cP L) (cQ L) (cH L) late (0 : Int) (1 : Int) == (0 : Int)) && scH (cPs L) (cP L) (cQ L) (cH L) late (0 : Int) (1 : Int) == (0 : Int) && scE (cPs L) (cP L) (cQ L) (cH L) late (1 : Int) (1 : Int) == (0 : Int) && Bool.rec false (scQ (cPs L) (cP L) (cQ L) (cH L) late (1 : Int) (1 : Int) == cQ L) (scP (cPs L) (cP L) (cQ L) (cH L) late (1 : Int) (1 : Int) == cP L))) : DV) = (db true))))))))) ∧
        (((scE (cPs L) (cP L) (cQ L) (cH L) late n d == (0 : Int)) = false) →
        (FnOK Tryz.prog G 22 [(.agg [(.slc 3 (List.length (cPs L)) (ptF (cPs L))), (di (cP L)), (di (cQ L)), (di (cH L))]), (ds ({ data := #[(108 : UInt8), (97 : UInt8), (116 : UInt8), (101 : UInt8)] })), (.agg [(di 0), (di 1)])] (.tup [(.agg [(.slc 3 (List.length (scPs (cPs L) (cP L) (cQ L) (cH L) late (0 : Int) (1 : Int))) (ptF (scPs (cPs L) (cP L) (cQ L) (cH L) late (0 : Int) (1 : Int)))), (di (scP (cPs L) (cP L) (cQ L) (cH L) late (0 : Int) (1 : Int))), (di (scQ (cPs L) (cP L) (cQ L) (cH L) late (0 : Int) (1 : Int))), (di (scH (cPs L) (cP L) (cQ L) (cH L) late (0 : Int) (1 : Int)))]), (di (scE (cPs L) (cP L) (cQ L) (cH L) late (0 : Int) (1 : Int)))]) ∧
        (FnOK Tryz.prog G 22 [(.agg [(.slc 3 (List.length (cPs L)) (ptF (cPs L))), (di (cP L)), (di (cQ L)), (di (cH L))]), (ds ({ data := #[(108 : UInt8), (97 : UInt8), (116 : UInt8), (101 : UInt8)] })), (.agg [(di 1), (di 1)])] (.tup [(.agg [(.slc 3 (List.length (scPs (cPs L) (cP L) (cQ L) (cH L) late (1 : Int) (1 : Int))) (ptF (scPs (cPs L) (cP L) (cQ L) (cH L) late (1 : Int) (1 : Int)))), (di (scP (cPs L) (cP L) (cQ L) (cH L) late (1 : Int) (1 : Int))), (di (scQ (cPs L) (cP L) (cQ L) (cH L) late (1 : Int) (1 : Int))), (di (scH (cPs L) (cP L) (cQ L) (cH L) late (1 : Int) (1 : Int)))]), (di (scE (cPs L) (cP L) (cQ L) (cH L) late (1 : Int) (1 : Int)))]) ∧
        (((db (scE (cPs L) (cP L) (cQ L) (cH L) late (0 : Int) (1 : Int) == (0 : Int) && Bool.rec false (scQ (cPs L) (cP L) (cQ L) (cH L) late (0 : Int) (1 : Int) == (1 : Int)) (scP (cPs L) (cP L) (cQ L) (cH L) late (0 : Int) (1 : Int) == (0 : Int)) && scH (cPs L) (cP L) (cQ L) (cH L) late (0 : Int) (1 : Int) == (0 : Int) && scE (cPs L) (cP L) (cQ L) (cH L) late (1 : Int) (1 : Int) == (0 : Int) && Bool.rec false (scQ (cPs L) (cP L) (cQ L) (cH L) late (1 : Int) (1 : Int) == cQ L) (scP (cPs L) (cP L) (cQ L) (cH L) late (1 : Int) (1 : Int) == cP L))) : DV) = (db true))))))))))) (by kernel_rfl) ?_
      have hn0 : decide (cP L < 0) = false := decide_eq_false (by have := g.num; omega)
      refine ⟨fun _ => h24, fun h => ?_, fun h => ⟨h22 n d, fun he2 => ?_, fun he2 => ⟨h22 0 1, h22 1 1, ?_⟩⟩⟩
      · exfalso
        rw [hn0] at h
        simp at h
      · obtain ⟨_, l1, l2, l3, l4, l5⟩ := scale_law (by simpa using he2)
        have hl4 : (scPs (cPs L) (cP L) (cQ L) (cH L) late n d).length ≤ 100000 := by omega
        have hSd : ShortP (scPs (cPs L) (cP L) (cQ L) (cH L) late n d) := fun x hx => by
          have := (vB_of l1).names x hx
          unfold nameB at this
          simp only [Bool.and_eq_true, decide_eq_true_eq] at this
          omega
        have h24d := f24 (G := G) hZ _ (scP (cPs L) (cP L) (cQ L) (cH L) late n d) (scQ (cPs L) (cP L) (cQ L) (cH L) late n d) (scH (cPs L) (cP L) (cQ L) (cH L) late n d) hSd (by omega)
        rw [l1] at h24d
        refine ⟨f13 _ _ _ _, ⟨h24d, fun _ => ⟨by omega, by omega⟩⟩, fun hh => ?_, fun _ => ⟨h22 0 1, h22 1 1, ?_⟩⟩
        · exfalso
          rw [l2, decide_eq_false (by omega), decide_eq_false (by omega), l4] at hh
          simp at hh
        · refine congrArg db ?_
          rw [z1, z2, z3, z4, o1, o2, o3]
          simp
      · refine congrArg db ?_
        rw [z1, z2, z3, z4, o1, o2, o3]
        simp
end Go.Proofs
