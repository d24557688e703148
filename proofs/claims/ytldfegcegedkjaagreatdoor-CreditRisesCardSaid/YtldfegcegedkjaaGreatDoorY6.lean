import Derived.Test.YtldfegcegedkjaaGreatDoorAcC
import Derived.Test.YtldfegcegedkjaaGreatDoorY5
set_option autoImplicit false
namespace Go.Proofs
open Go Go.Ab Go.RowKit
set_option maxHeartbeats 2000000
set_option maxRecDepth 100000
variable {G : IH}
/-- A line with another amount. -/
def amt (x : Ln) (a b : Int) : Ln := ⟨x.name, x.group, x.kind, x.app, a, b, x.err⟩
def riseL (L : List Ln) (k : Nat) (a b : Int) : List Ln := L.set k (amt (L.getD k ln0) a b)
theorem rise_len (L : List Ln) (k : Nat) (a b : Int) : (riseL L k a b).length = L.length := by unfold riseL; simp
theorem riseF {L : List Ln} {x : Nat} (hx : x < L.length) (a b : Int) : lnsF (riseL L x a b) = fun j => bif Nat.beq j x then lnD (amt (L.getD x ln0) a b) else lnsF L j := by
  funext j
  unfold lnsF riseL
  cases h2 : Nat.beq j x with
  | true =>
    rw [Nat.beq_eq] at h2
    subst h2
    simp only [cond_true]
    rw [List.getD, List.getElem?_set_self hx, Option.getD_some]
  | false =>
    have h2 : j ≠ x := fun e => by rw [e, Nat.beq_refl] at h2; cases h2
    simp only [cond_false]
    rw [List.getD, List.getElem?_set_ne (fun h => h2 h.symm)]; rfl
theorem rise_short {L : List Ln} (h : Short L) {x : Nat} (hx : x < L.length) (a b : Int) : Short (riseL L x a b) := by
  intro z hz
  rcases List.mem_or_eq_of_mem_set hz with h1 | rfl
  · exact h z h1
  · exact h (L.getD x ln0) (by rw [getD_eq hx]; exact List.getElem_mem hx)
theorem wv_mono {x y : Ln} (h : qv x.n x.d ≤ qv y.n y.d) : wv x ≤ wv y := by unfold wv; grind
theorem hun_le {a b c d : Int} (h1 : ok a b = true) (h2 : ok c d = true) (h : qv a b ≤ qv c d) : hunF a b ≤ hunF c d := by
  unfold hunF
  rw [if_pos h1, if_pos h2]
  refine hun_mono (ok_pos h1) (ok_pos h2) ?_
  have h3 := qv_lt (a := c) (b := d) (c := a) (d := b) (ok_pos h2) (ok_pos h1)
  refine Int.not_lt.1 fun hl => ?_
  have := h3.2 hl
  grind
theorem cmp_le {a b c d : Int} (h1 : ok a b = true) (h2 : ok c d = true) : cmpF a b c d ≤ 0 ↔ qv a b ≤ qv c d := by
  rw [cmpF_eq h1 h2]; unfold cmpR; grind
theorem cmp_ge {a b c d : Int} (h1 : ok a b = true) (h2 : ok c d = true) : cmpF a b c d ≥ 0 ↔ qv c d ≤ qv a b := by
  rw [cmpF_eq h1 h2]; unfold cmpR; grind
theorem rise_law {L : List Ln} {k : Nat} (hk : k < L.length) {a b : Int} (h1 : ok (L.getD k ln0).n (L.getD k ln0).d = true) (h2 : ok a b = true) (hle : qv (L.getD k ln0).n (L.getD k ln0).d ≤ qv a b)
    (e1 : cE L = 0) (e2 : cE (riseL L k a b) = 0) :
    ok2 (cP L) (cQ L) (cP (riseL L k a b)) (cQ (riseL L k a b)) = true ∧
    ((L.getD k ln0).kind = 1 → cmpF (cP L) (cQ L) (cP (riseL L k a b)) (cQ (riseL L k a b)) ≥ 0 ∧ cH L ≥ cH (riseL L k a b)) ∧
    ((L.getD k ln0).kind ≠ 1 → cmpF (cP L) (cQ L) (cP (riseL L k a b)) (cQ (riseL L k a b)) ≤ 0 ∧ cH L ≤ cH (riseL L k a b)) := by
  have g1 := goodC e1
  have g2 := goodC e2
  have hw : wv (L.getD k ln0) ≤ wv (amt (L.getD k ln0) a b) := wv_mono hle
  have hH1 : cH L = hunF (cP L) (cQ L) := by rw [g1.h, g1.p, g1.q]
  have hH2 : cH (riseL L k a b) = hunF (cP (riseL L k a b)) (cQ (riseL L k a b)) := by rw [g2.h, g2.p, g2.q]
  refine ⟨by unfold ok2; rw [g1.okk, g2.okk]; rfl, fun hkd => ?_, fun hkd => ?_⟩
  · have hu : Up (amt (L.getD k ln0) a b) L[k] := by
      rw [← getD_eq hk]
      refine ⟨rfl, rfl, rfl, fun _ => hw, fun j hj hi => ?_⟩
      unfold isK amt at hi
      simp only [Bool.and_eq_true, beq_iff_eq] at hi
      omega
    have hf : fin (riseL L k a b) ≤ fin L := fin_up (Ups.set' hk hu)
    rw [← g1.val, ← g2.val] at hf
    exact ⟨(cmp_ge g1.okk g2.okk).2 hf, by rw [hH1, hH2]; exact hun_le g2.okk g1.okk hf⟩
  · have hu : Up L[k] (amt (L.getD k ln0) a b) := by
      rw [← getD_eq hk]
      refine ⟨rfl, rfl, rfl, fun hi => ?_, fun _ _ _ => hw⟩
      unfold isK at hi
      simp only [Bool.and_eq_true, beq_iff_eq] at hi
      exact absurd hi.2 hkd
    have hf : fin L ≤ fin (riseL L k a b) := fin_up (Ups.set hk hu)
    rw [← g1.val, ← g2.val] at hf
    exact ⟨(cmp_le g1.okk g2.okk).2 hf, by rw [hH1, hH2]; exact hun_le g1.okk g2.okk hf⟩
def orcRd (N : List Ln) : Oracle := fun f a => match f, a with
  | 10, [] => some (db true)
  | 11, [_] => some (db (fewB N))
  | 12, [.slc _ _ _] => some (.tup [crV (cPs N) (cP N) (cQ N) (cH N), di (cE N)])
  | 13, [fr a b, fr c d] => some (.tup [di (cmpF a b c d), db (ok2 a b c d)])
  | _, _ => none
def orcRs (N : List Ln) : Orc := { d := orcRd N, m := orcOm N }
theorem f6 (hZ : Glob G 0 zeroL) (hT : Tab G) (L : List Ln) (i : Int) (a b : Int) (hi : 0 ≤ i ∧ i < 256) (hL : L.length ≤ maxLen) : FnOK Tryz.prog G 6 [lnsD L, b8 i, fr a b] (db true) := by
  refine FnOK.of_body (show Tryz.prog.funcs[6]? = some Tryz.f6 from Tryz.func6) rfl Tryz.call6 ?_
  refine walk (orc := orcRs L) (keep := []) (cuts := [12]) (n := 1000) follows ?_
  refine of_eqH (b :=
    (FnOK Tryz.prog G ((10 : Nat)) [] (.con (.bool true)) ∧
    (((false = true) →
    (((.con (.bool false)) : DV) = (db true))) ∧
    ((false = false) →
    (FnOK Tryz.prog G ((11 : Nat)) [(.slc ((7 : Nat)) (List.length L) (lnsF L))] (.con (.bool (fewB L))) ∧
    ((((!fewB L || (↑(List.length L) : Int) == (0 : Int)) = true) →
    (((.con (.bool true)) : DV) = (db true))) ∧
    (((!fewB L || (↑(List.length L) : Int) == (0 : Int)) = false) →
    (((↑(List.length L) : Int) ≠ (0 : Int)) ∧
    (FnM Tryz.prog G ((19 : Nat)) [(.d (.slc ((7 : Nat)) (List.length L) (lnsF L)))] [] (.vec ((900 : Nat)) ((7 : Nat)) ((0 : Nat)) (List.length L)) [(((900 : Nat)), [(.arr ⟨true, ((34 : Nat)), false, none⟩ ((7 : Nat)) (lnsF L))])] ∧
    ((((0 : Int) ≤ Int.tmod (IntKind.wrap IntKind.i64 i) (↑(List.length L) : Int)) ∧
    (Int.tmod (IntKind.wrap IntKind.i64 i) (↑(List.length L) : Int) < (↑(List.length L) : Int))) ∧
    (((((0 : Int) ≤ Int.tmod (IntKind.wrap IntKind.i64 i) (↑(List.length L) : Int)) ∧
    (Int.tmod (IntKind.wrap IntKind.i64 i) (↑(List.length L) : Int) < (↑(List.length L) : Int))) ∧
    FnOK Tryz.prog G ((13 : Nat)) [(.agg [(.con (.int .i64 (Ln.n (List.getD L (Int.toNat (Int.tmod (IntKind.wrap IntKind.i64 i) (↑(List.length L) : Int))) ln0)))), (.con (.int .i64 (Ln.d (List.getD L (Int.toNat (Int.tmod (IntKind.wrap IntKind.i64 i) (↑(List.length L) : Int))) ln0))))]), (.agg [(.con (.int .i64 a)), (.con (.int .i64 b))])] (.tup [(.con (.int .i64 (cmpF (Ln.n (List.getD L (Int.toNat (Int.tmod (IntKind.wrap IntKind.i64 i) (↑(List.length L) : Int))) ln0)) (Ln.d (List.getD L (Int.toNat (Int.tmod (IntKind.wrap IntKind.i64 i) (↑(List.length L) : Int))) ln0)) a b))), (.con (.bool (ok2 (Ln.n (List.getD L (Int.toNat (Int.tmod (IntKind.wrap IntKind.i64 i) (↑(List.length L) : Int))) ln0)) (Ln.d (List.getD L (Int.toNat (Int.tmod (IntKind.wrap IntKind.i64 i) (↑(List.length L) : Int))) ln0)) a b)))])) ∧
    ((((!ok2 (Ln.n (List.getD L (Int.toNat (Int.tmod (IntKind.wrap IntKind.i64 i) (↑(List.length L) : Int))) ln0)) (Ln.d (List.getD L (Int.toNat (Int.tmod (IntKind.wrap IntKind.i64 i) (↑(List.length L) : Int))) ln0)) a b || decide (cmpF (Ln.n (List.getD L (Int.toNat (Int.tmod (IntKind.wrap IntKind.i64 i) (↑(List.length L) : Int))) ln0)) (Ln.d (List.getD L (Int.toNat (Int.tmod (IntKind.wrap IntKind.i64 i) (↑(List.length L) : Int))) ln0)) a b > (0 : Int))) = true) →
    (((.con (.bool true)) : DV) = (db true))) ∧
    (((!ok2 (Ln.n (List.getD L (Int.toNat (Int.tmod (IntKind.wrap IntKind.i64 i) (↑(List.length L) : Int))) ln0)) (Ln.d (List.getD L (Int.toNat (Int.tmod (IntKind.wrap IntKind.i64 i) (↑(List.length L) : Int))) ln0)) a b || decide (cmpF (Ln.n (List.getD L (Int.toNat (Int.tmod (IntKind.wrap IntKind.i64 i) (↑(List.length L) : Int))) ln0)) (Ln.d (List.getD L (Int.toNat (Int.tmod (IntKind.wrap IntKind.i64 i) (↑(List.length L) : Int))) ln0)) a b > (0 : Int))) = false) →
    (FnOK Tryz.prog G ((12 : Nat)) [(.slc ((7 : Nat)) (List.length L) (lnsF L))] (.tup [(.agg [(.slc ((3 : Nat)) (List.length (cPs L)) (ptF (cPs L))), (.con (.int .i64 (cP L))), (.con (.int .i64 (cQ L))), (.con (.int .i64 (cH L)))]), (.con (.int .i64 (cE L)))]) ∧
    AWP Tryz.prog G [.code (cAt (bodyOf Tryz.f6) [1, 1, 1, 1, 1, 1, 1, 1])] ⟨[(.d (.slc ((7 : Nat)) (List.length L) (lnsF L))), (.d (.con (.int .u8 i))), (.d (.agg [(.con (.int .i64 a)), (.con (.int .i64 b))])), .any, .any, (.box ((5 : Nat)) ((0 : Nat))), (.d (.con (.bool false))), (.d (.con (.int .i64 (Int.tmod (IntKind.wrap IntKind.i64 i) (↑(List.length L) : Int))))), (.vec ((34900 : Nat)) ((7 : Nat)) ((0 : Nat)) (List.length L)), (.d (.con (.int .i64 (cmpF (Ln.n (List.getD L (Int.toNat (Int.tmod (IntKind.wrap IntKind.i64 i) (↑(List.length L) : Int))) ln0)) (Ln.d (List.getD L (Int.toNat (Int.tmod (IntKind.wrap IntKind.i64 i) (↑(List.length L) : Int))) ln0)) a b)))), (.d (.con (.bool (ok2 (Ln.n (List.getD L (Int.toNat (Int.tmod (IntKind.wrap IntKind.i64 i) (↑(List.length L) : Int))) ln0)) (Ln.d (List.getD L (Int.toNat (Int.tmod (IntKind.wrap IntKind.i64 i) (↑(List.length L) : Int))) ln0)) a b)))), (.box ((11 : Nat)) ((0 : Nat))), (.d (.con (.int .i64 (cE L)))), .any, .any, .any, .any, (.d (.con (.bool true))), (.d (.con (.bool false))), (.d (.slc ((7 : Nat)) (List.length L) (lnsF L))), (.d (.con (.bool (fewB L)))), (.d (.con (.bool (!fewB L)))), (.d (.con (.bool (!fewB L)))), .any, .any, .any, (.d (.con (.bool (!fewB L || (↑(List.length L) : Int) == (0 : Int))))), (.d (.con (.int .u8 i))), (.d (.con (.int .i64 (IntKind.wrap IntKind.i64 i)))), (.d (.slc ((7 : Nat)) (List.length L) (lnsF L))), (.d (.con (.int .i64 ((↑(List.length L) : Int))))), (.d (.con (.int .i64 (Int.tmod (IntKind.wrap IntKind.i64 i) (↑(List.length L) : Int))))), (.d (.slc ((7 : Nat)) (List.length L) (lnsF L))), (.vec ((34900 : Nat)) ((7 : Nat)) ((0 : Nat)) (List.length L)), (.vec ((34900 : Nat)) ((7 : Nat)) ((0 : Nat)) (List.length L)), (.d (.con (.int .i64 (Int.tmod (IntKind.wrap IntKind.i64 i) (↑(List.length L) : Int))))), (.d (.agg [(.con (.int .i64 a)), (.con (.int .i64 b))])), (.elem ((34900 : Nat)) ((7 : Nat)) ((0 : Nat) + Int.toNat (Int.tmod (IntKind.wrap IntKind.i64 i) (↑(List.length L) : Int))) ((0 : Nat))), (.elem ((34900 : Nat)) ((7 : Nat)) ((0 : Nat) + Int.toNat (Int.tmod (IntKind.wrap IntKind.i64 i) (↑(List.length L) : Int))) ((4 : Nat))), (.d (.tup [(.con (.int .i64 (cmpF (Ln.n (List.getD L (Int.toNat (Int.tmod (IntKind.wrap IntKind.i64 i) (↑(List.length L) : Int))) ln0)) (Ln.d (List.getD L (Int.toNat (Int.tmod (IntKind.wrap IntKind.i64 i) (↑(List.length L) : Int))) ln0)) a b))), (.con (.bool (ok2 (Ln.n (List.getD L (Int.toNat (Int.tmod (IntKind.wrap IntKind.i64 i) (↑(List.length L) : Int))) ln0)) (Ln.d (List.getD L (Int.toNat (Int.tmod (IntKind.wrap IntKind.i64 i) (↑(List.length L) : Int))) ln0)) a b)))])), (.d (.slc ((7 : Nat)) (List.length L) (lnsF L))), (.d (.con (.int .i64 (Int.tmod (IntKind.wrap IntKind.i64 i) (↑(List.length L) : Int))))), (.d (.ptr [(.con (.string (Ln.name (List.getD L (Int.toNat (Int.tmod (IntKind.wrap IntKind.i64 i) (↑(List.length L) : Int))) ln0)))), (.con (.string (Ln.group (List.getD L (Int.toNat (Int.tmod (IntKind.wrap IntKind.i64 i) (↑(List.length L) : Int))) ln0)))), (.con (.int .i64 (Ln.kind (List.getD L (Int.toNat (Int.tmod (IntKind.wrap IntKind.i64 i) (↑(List.length L) : Int))) ln0)))), (.con (.bool (Ln.app (List.getD L (Int.toNat (Int.tmod (IntKind.wrap IntKind.i64 i) (↑(List.length L) : Int))) ln0)))), (.con (.int .i64 (Ln.n (List.getD L (Int.toNat (Int.tmod (IntKind.wrap IntKind.i64 i) (↑(List.length L) : Int))) ln0)))), (.con (.int .i64 (Ln.d (List.getD L (Int.toNat (Int.tmod (IntKind.wrap IntKind.i64 i) (↑(List.length L) : Int))) ln0)))), (.con (.int .i64 (Ln.err (List.getD L (Int.toNat (Int.tmod (IntKind.wrap IntKind.i64 i) (↑(List.length L) : Int))) ln0))))])), (.d (.ptr [(.con (.int .i64 (Ln.n (List.getD L (Int.toNat (Int.tmod (IntKind.wrap IntKind.i64 i) (↑(List.length L) : Int))) ln0)))), (.con (.int .i64 (Ln.d (List.getD L (Int.toNat (Int.tmod (IntKind.wrap IntKind.i64 i) (↑(List.length L) : Int))) ln0)))), (.con (.int .i64 (Ln.err (List.getD L (Int.toNat (Int.tmod (IntKind.wrap IntKind.i64 i) (↑(List.length L) : Int))) ln0))))])), (.d (.agg [(.con (.int .i64 (Ln.n (List.getD L (Int.toNat (Int.tmod (IntKind.wrap IntKind.i64 i) (↑(List.length L) : Int))) ln0)))), (.con (.int .i64 (Ln.d (List.getD L (Int.toNat (Int.tmod (IntKind.wrap IntKind.i64 i) (↑(List.length L) : Int))) ln0))))])), (.d (.agg [(.con (.int .i64 a)), (.con (.int .i64 b))])), (.d (.tup [(.con (.int .i64 (cmpF (Ln.n (List.getD L (Int.toNat (Int.tmod (IntKind.wrap IntKind.i64 i) (↑(List.length L) : Int))) ln0)) (Ln.d (List.getD L (Int.toNat (Int.tmod (IntKind.wrap IntKind.i64 i) (↑(List.length L) : Int))) ln0)) a b))), (.con (.bool (ok2 (Ln.n (List.getD L (Int.toNat (Int.tmod (IntKind.wrap IntKind.i64 i) (↑(List.length L) : Int))) ln0)) (Ln.d (List.getD L (Int.toNat (Int.tmod (IntKind.wrap IntKind.i64 i) (↑(List.length L) : Int))) ln0)) a b)))])), (.d (.con (.int .i64 (cmpF (Ln.n (List.getD L (Int.toNat (Int.tmod (IntKind.wrap IntKind.i64 i) (↑(List.length L) : Int))) ln0)) (Ln.d (List.getD L (Int.toNat (Int.tmod (IntKind.wrap IntKind.i64 i) (↑(List.length L) : Int))) ln0)) a b)))), (.d (.con (.bool (ok2 (Ln.n (List.getD L (Int.toNat (Int.tmod (IntKind.wrap IntKind.i64 i) (↑(List.length L) : Int))) ln0)) (Ln.d (List.getD L (Int.toNat (Int.tmod (IntKind.wrap IntKind.i64 i) (↑(List.length L) : Int))) ln0)) a b)))), (.d (.con (.bool (ok2 (Ln.n (List.getD L (Int.toNat (Int.tmod (IntKind.wrap IntKind.i64 i) (↑(List.length L) : Int))) ln0)) (Ln.d (List.getD L (Int.toNat (Int.tmod (IntKind.wrap IntKind.i64 i) (↑(List.length L) : Int))) ln0)) a b)))), (.d (.con (.bool (!ok2 (Ln.n (List.getD L (Int.toNat (Int.tmod (IntKind.wrap IntKind.i64 i) (↑(List.length L) : Int))) ln0)) (Ln.d (List.getD L (Int.toNat (Int.tmod (IntKind.wrap IntKind.i64 i) (↑(List.length L) : Int))) ln0)) a b)))), (.d (.con (.bool (!ok2 (Ln.n (List.getD L (Int.toNat (Int.tmod (IntKind.wrap IntKind.i64 i) (↑(List.length L) : Int))) ln0)) (Ln.d (List.getD L (Int.toNat (Int.tmod (IntKind.wrap IntKind.i64 i) (↑(List.length L) : Int))) ln0)) a b)))), .any, .any, (.d (.con (.bool (!ok2 (Ln.n (List.getD L (Int.toNat (Int.tmod (IntKind.wrap IntKind.i64 i) (↑(List.length L) : Int))) ln0)) (Ln.d (List.getD L (Int.toNat (Int.tmod (IntKind.wrap IntKind.i64 i) (↑(List.length L) : Int))) ln0)) a b || decide (cmpF (Ln.n (List.getD L (Int.toNat (Int.tmod (IntKind.wrap IntKind.i64 i) (↑(List.length L) : Int))) ln0)) (Ln.d (List.getD L (Int.toNat (Int.tmod (IntKind.wrap IntKind.i64 i) (↑(List.length L) : Int))) ln0)) a b > (0 : Int)))))), (.d (.tup [(.agg [(.slc ((3 : Nat)) (List.length (cPs L)) (ptF (cPs L))), (.con (.int .i64 (cP L))), (.con (.int .i64 (cQ L))), (.con (.int .i64 (cH L)))]), (.con (.int .i64 (cE L)))])), (.d (.slc ((7 : Nat)) (List.length L) (lnsF L))), (.d (.tup [(.agg [(.slc ((3 : Nat)) (List.length (cPs L)) (ptF (cPs L))), (.con (.int .i64 (cP L))), (.con (.int .i64 (cQ L))), (.con (.int .i64 (cH L)))]), (.con (.int .i64 (cE L)))])), (.d (.agg [(.slc ((3 : Nat)) (List.length (cPs L)) (ptF (cPs L))), (.con (.int .i64 (cP L))), (.con (.int .i64 (cQ L))), (.con (.int .i64 (cH L)))])), (.d (.con (.int .i64 (cE L)))), .any, .any, .any, .any, .any, .any, .any, .any, .any, .any, .any, .any, .any, .any, .any, .any, .any, .any, .any, .any, .any, .any, .any, .any, .any, .any, .any, .any, .any, .any, .any, .any, .any, .any, .any, .any, .any, .any, .any, .any, .any, .any, .any, .any, .any, .any, .any, .any, .any], [(((11 : Nat)), [(.d (.slc ((3 : Nat)) (List.length (cPs L)) (ptF (cPs L)))), (.d (.con (.int .i64 (cP L)))), (.d (.con (.int .i64 (cQ L)))), (.d (.con (.int .i64 (cH L))))]), (((34900 : Nat)), [(.arr ⟨true, ((34 : Nat)), false, none⟩ ((7 : Nat)) (fun j => bif Nat.beq j ((0 : Nat) + Int.toNat (Int.tmod (IntKind.wrap IntKind.i64 i) (↑(List.length L) : Int))) then DV.agg (List.take ((0 : Nat) + (4 : Nat)) [DV.con (Value.string (Ln.name (List.getD L ((0 : Nat) + Int.toNat (Int.tmod (IntKind.wrap IntKind.i64 i) (↑(List.length L) : Int))) ln0))), DV.con (Value.string (Ln.group (List.getD L ((0 : Nat) + Int.toNat (Int.tmod (IntKind.wrap IntKind.i64 i) (↑(List.length L) : Int))) ln0))), DV.con (Value.int IntKind.i64 (Ln.kind (List.getD L ((0 : Nat) + Int.toNat (Int.tmod (IntKind.wrap IntKind.i64 i) (↑(List.length L) : Int))) ln0))), DV.con (Value.bool (Ln.app (List.getD L ((0 : Nat) + Int.toNat (Int.tmod (IntKind.wrap IntKind.i64 i) (↑(List.length L) : Int))) ln0))), DV.con (Value.int IntKind.i64 (Ln.n (List.getD L ((0 : Nat) + Int.toNat (Int.tmod (IntKind.wrap IntKind.i64 i) (↑(List.length L) : Int))) ln0))), DV.con (Value.int IntKind.i64 (Ln.d (List.getD L ((0 : Nat) + Int.toNat (Int.tmod (IntKind.wrap IntKind.i64 i) (↑(List.length L) : Int))) ln0))), DV.con (Value.int IntKind.i64 (Ln.err (List.getD L ((0 : Nat) + Int.toNat (Int.tmod (IntKind.wrap IntKind.i64 i) (↑(List.length L) : Int))) ln0)))] ++ [DV.con (Value.int IntKind.i64 a), DV.con (Value.int IntKind.i64 b)] ++ List.drop ((0 : Nat) + (4 : Nat) + (2 : Nat)) [DV.con (Value.string (Ln.name (List.getD L ((0 : Nat) + Int.toNat (Int.tmod (IntKind.wrap IntKind.i64 i) (↑(List.length L) : Int))) ln0))), DV.con (Value.string (Ln.group (List.getD L ((0 : Nat) + Int.toNat (Int.tmod (IntKind.wrap IntKind.i64 i) (↑(List.length L) : Int))) ln0))), DV.con (Value.int IntKind.i64 (Ln.kind (List.getD L ((0 : Nat) + Int.toNat (Int.tmod (IntKind.wrap IntKind.i64 i) (↑(List.length L) : Int))) ln0))), DV.con (Value.bool (Ln.app (List.getD L ((0 : Nat) + Int.toNat (Int.tmod (IntKind.wrap IntKind.i64 i) (↑(List.length L) : Int))) ln0))), DV.con (Value.int IntKind.i64 (Ln.n (List.getD L ((0 : Nat) + Int.toNat (Int.tmod (IntKind.wrap IntKind.i64 i) (↑(List.length L) : Int))) ln0))), DV.con (Value.int IntKind.i64 (Ln.d (List.getD L ((0 : Nat) + Int.toNat (Int.tmod (IntKind.wrap IntKind.i64 i) (↑(List.length L) : Int))) ln0))), DV.con (Value.int IntKind.i64 (Ln.err (List.getD L ((0 : Nat) + Int.toNat (Int.tmod (IntKind.wrap IntKind.i64 i) (↑(List.length L) : Int))) ln0)))]) else lnsF L j))]), (((5 : Nat)), [(.d (.con (.int .i64 a))), (.d (.con (.int .i64 b)))])]⟩ (Ret Tryz.prog Tryz.f6 (db true)))))))))))))))) (by kernel_rfl) ?_
  refine ⟨f10 hZ hT, fun h => (by cases h), fun _ => ⟨f11 L hL, fun _ => rfl, fun hf => ?_⟩⟩
  simp only [Bool.or_eq_false_iff, Bool.not_eq_false', beq_eq_false_iff_ne, ne_eq] at hf
  obtain ⟨hS, hlen⟩ := few_short (L := L) hf.1
  have h0 : 0 < L.length := by omega
  simp only [wrap8 hi]
  have b1 := tmod8 hi h0
  generalize Int.tmod i (↑L.length : Int) = X at *
  obtain ⟨x, rfl⟩ : ∃ x : Nat, X = x := ⟨X.toNat, by omega⟩
  simp only [Int.toNat_natCast, Nat.zero_add]
  have hx : x < L.length := by omega
  refine ⟨by omega, f19 L h0 (by omega), ⟨by omega, by omega⟩, ⟨⟨by omega, by omega⟩, f13 _ _ _ _⟩, fun _ => trivial, fun hc => ⟨f12c hZ L hS (by omega), ?_⟩⟩
  refine AWP.freeze (agg := lnK) (sz := 7) (f := lnsF (riseL L x a b)) 34900 (by rw [riseF hx]; kernel_rfl) ?_
  refine walk (orc := orcRs (riseL L x a b)) (keep := []) (cuts := []) (n := 1000) follows ?_
  refine of_eqH (b :=
    (FnOK Tryz.prog G ((12 : Nat)) [(.slc ((7 : Nat)) (List.length L) (fun i => lnsF (riseL L x a b) ((0 : Nat) + i)))] (.tup [(.agg [(.slc ((3 : Nat)) (List.length (cPs (riseL L x a b))) (ptF (cPs (riseL L x a b)))), (.con (.int .i64 (cP (riseL L x a b)))), (.con (.int .i64 (cQ (riseL L x a b)))), (.con (.int .i64 (cH (riseL L x a b))))]), (.con (.int .i64 (cE (riseL L x a b))))]) ∧
    ((((cE L != (0 : Int) || cE (riseL L x a b) != (0 : Int)) = true) →
    (((.con (.bool true)) : DV) = (db true))) ∧
    (((cE L != (0 : Int) || cE (riseL L x a b) != (0 : Int)) = false) →
    (FnOK Tryz.prog G ((13 : Nat)) [(.agg [(.con (.int .i64 (cP L))), (.con (.int .i64 (cQ L)))]), (.agg [(.con (.int .i64 (cP (riseL L x a b)))), (.con (.int .i64 (cQ (riseL L x a b))))])] (.tup [(.con (.int .i64 (cmpF (cP L) (cQ L) (cP (riseL L x a b)) (cQ (riseL L x a b))))), (.con (.bool (ok2 (cP L) (cQ L) (cP (riseL L x a b)) (cQ (riseL L x a b)))))]) ∧
    ((((0 : Int) ≤ (↑x : Int)) ∧
    ((↑x : Int) < (↑(List.length L) : Int))) ∧
    ((((Ln.kind (List.getD L (Int.toNat (↑x : Int)) ln0) == (1 : Int)) = true) →
    (((.con (.bool (ok2 (cP L) (cQ L) (cP (riseL L x a b)) (cQ (riseL L x a b)) && decide (cmpF (cP L) (cQ L) (cP (riseL L x a b)) (cQ (riseL L x a b)) ≥ (0 : Int)) && decide (cH L ≥ cH (riseL L x a b))))) : DV) = (db true))) ∧
    (((Ln.kind (List.getD L (Int.toNat (↑x : Int)) ln0) == (1 : Int)) = false) →
    (((.con (.bool (ok2 (cP L) (cQ L) (cP (riseL L x a b)) (cQ (riseL L x a b)) && decide (cmpF (cP L) (cQ L) (cP (riseL L x a b)) (cQ (riseL L x a b)) ≤ (0 : Int)) && decide (cH L ≤ cH (riseL L x a b))))) : DV) = (db true)))))))))) (by kernel_rfl) ?_
  have h12 : FnOK Tryz.prog G 12 [.slc 7 (riseL L x a b).length (lnsF (riseL L x a b))] _ := f12c hZ (riseL L x a b) (rise_short hS hx a b) (by rw [rise_len]; omega)
  rw [rise_len] at h12
  simp only [Bool.or_eq_false_iff, Bool.not_eq_false', decide_eq_false_iff_not] at hc
  obtain ⟨hok, hcmp⟩ := hc
  unfold ok2 at hok
  rw [Bool.and_eq_true] at hok
  have hle : qv (L.getD x ln0).n (L.getD x ln0).d ≤ qv a b := (cmp_le hok.1 hok.2).1 (by omega)
  refine ⟨FnOK.args h12 fun k us hr => DV.rels_cons (fun v hv => DV.rel_slc_congr (fun j _ => by rw [Nat.zero_add]) hv) (fun _ h => h) us hr, fun _ => rfl, fun he => ?_⟩
  simp only [Bool.or_eq_false_iff, bne_eq_false_iff_eq] at he
  obtain ⟨r1, r2, r3⟩ := rise_law hx hok.1 hok.2 hle he.1 he.2
  simp only [Int.toNat_natCast]
  refine ⟨f13 _ _ _ _, ⟨by omega, by omega⟩, fun hk => ?_, fun hk => ?_⟩
  · obtain ⟨k1, k2⟩ := r2 (by simpa using hk)
    rw [r1, decide_eq_true k1, decide_eq_true k2]; rfl
  · obtain ⟨k1, k2⟩ := r3 (by simpa using hk)
    rw [r1, decide_eq_true k1, decide_eq_true k2]; rfl
end Go.Proofs
