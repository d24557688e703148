import Derived.Test.YtldfegcegedkjaaGreatDoorAcC
import Derived.Test.YtldfegcegedkjaaGreatDoorAcD
import Derived.Test.YtldfegcegedkjaaGreatDoorYA
set_option autoImplicit false
namespace Go.Proofs
open Go Go.Ab Go.RowKit
set_option maxHeartbeats 2000000
set_option maxRecDepth 100000
variable {G : IH}
/-- A contract's result seen as something weaker. -/
theorem FnM.res {f : FuncId} {args : List AV} {pre post post' : List (Nat × List AV)} {r r' : AV} (hle : AS.leX ⟨[r], post⟩ ⟨[r'], post'⟩) (h : FnM Tryz.prog G f args pre r post) : FnM Tryz.prog G f args pre r' post' :=
  ⟨h.1, fun F w h0 β us g => (h.2 F w h0 β us g).mono fun e w' ⟨v, β', h', e1, g1⟩ =>
    let ⟨β2, g2⟩ := hle G F w h0 β' h' #[v] w' g1
    ⟨v, β2, h', e1, g2⟩⟩
/-- A contract for each value that the first argument may be. -/
theorem FnM.con0 {f : FuncId} {x : DV} {rest : List AV} {pre post : List (Nat × List AV)} {r : AV} (hcall : ∀ (us : Array Value) (w : World), (callFunc f us).run Tryz.prog w = .ok (.enter f us) w) (h : ∀ k v, DV.rel k x v → FnM Tryz.prog G f (.d (.con v) :: rest) pre r post) : FnM Tryz.prog G f (.d x :: rest) pre r post :=
  ⟨hcall, fun F w h0 β us g => by
    obtain ⟨v, hv, hr⟩ := g.regs 0 (.d x) rfl
    exact (h h0 v hr).2 F w h0 β us ⟨g.glob, g.holds, g.ext, g.old, g.kept, g.fix, by simpa using g.size, fun j z hz => by
      cases j with
      | zero =>
        simp only [List.getElem?_cons_zero, Option.some.injEq] at hz
        subst hz
        exact ⟨v, hv, rfl⟩
      | succ j => exact g.regs (j + 1) z (by simpa using hz), g.box, g.inj⟩⟩
/-- What the maker's block holds, whatever its hundredths. -/
abbrev mH (x : DV) (t : T) (row : Nat) (h : Int) : List AV := [.d x, .vec row 3 0 t.ps.length, vi t.p, vi t.q, vi h, vb t.wr]
/-- The row behind a further part. -/
def rowN (f : Nat → DV) (n : Nat) (nm : ByteArray) (a b : Int) : Nat → DV := fun i => bif Nat.blt i n then f i else elemF true 3 [ds nm, di a, di b] (i - n)
abbrev mRw (f : Nat → DV) : List AV := [.arr ptK 3 f]
theorem f47h_ok (x : DV) (t : T) (f : Nat → DV) (h : Int) (nm : ByteArray) (a b e : Int) (hl : t.ps.length ≤ 1000000) (hg : t.wr = false ∧ e = 0 ∧ (subF a b t.p t.q).2.2 = 0) :
    FnM Tryz.prog G 47 [bn, vs nm, .d (fr a b), vi e] [(1000000, mH x t 1000001 h), (1000001, mRw f)] (.d unitV) [(1000000, mH x (become t nm a b e) 900 h), (900, mRw (rowN f t.ps.length nm (sub1 a b t.p t.q) (sub2 a b t.p t.q)))] := by
  refine FnM.walk (orc := orcM1) (keep := []) [(45, 900)] follows (by kernel_rfl) Tryz.func47 rfl Tryz.call47 ?_
  refine of_eqH (b :=
    (FnOK Tryz.prog G 62 [(.agg [(di a), (di b)]), (.agg [(di (T.p t)), (di (T.q t))])] (.tup [(.agg [(di (sub1 a b (T.p t) (T.q t))), (di (sub2 a b (T.p t) (T.q t)))]), (di (sub3 a b (T.p t) (T.q t)))]) ∧
    ((((T.wr t || e != (0 : Int) || sub3 a b (T.p t) (T.q t) != (0 : Int)) = true) →
    ((((.d (.tup [])) : AV) = (.d (.tup []))) ∧
    ((((some [(.d x), (.vec 1000001 3 0 (List.length (T.ps t))), (vi (T.p t)), (vi (T.q t)), (vi h), (vb true)]) : (Option (List AV))) = (some [(.d x), (.vec 900 3 0 (List.length (T.ps (become t nm a b e)))), (vi (T.p (become t nm a b e))), (vi (T.q (become t nm a b e))), (vi h), (vb (T.wr (become t nm a b e)))])) ∧
    (((none : (Option (List AV))) = (some [(.arr ⟨true, 50, false, none⟩ 3 (rowN f (List.length (T.ps t)) nm (sub1 a b (T.p t) (T.q t)) (sub2 a b (T.p t) (T.q t))))])) ∧
    True)))) ∧
    (((T.wr t || e != (0 : Int) || sub3 a b (T.p t) (T.q t) != (0 : Int)) = false) →
    (((((List.length (T.ps t) + (1 : Nat)) * (32 : Nat) ≤ (1099511627776 : Nat)) ∧
    (List.length (T.ps t) + (1 : Nat) ≤ (1099511627776 : Nat))) ∧
    (∀ (i : Nat), i < (1 : Nat) → elemOK true (3 : Nat) (elemF true (3 : Nat) [DV.con (Value.string nm), DV.con (Value.int IntKind.i64 (sub1 a b (T.p t) (T.q t))), DV.con (Value.int IntKind.i64 (sub2 a b (T.p t) (T.q t)))] i) = true)) ∧
    ((((.d (.tup [])) : AV) = (.d (.tup []))) ∧
    ((((some [(.d x), (.vec 900 3 0 (List.length (T.ps t) + (1 : Nat))), (vi a), (vi b), (vi h), (vb (T.wr t))]) : (Option (List AV))) = (some [(.d x), (.vec 900 3 0 (List.length (T.ps (become t nm a b e)))), (vi (T.p (become t nm a b e))), (vi (T.q (become t nm a b e))), (vi h), (vb (T.wr (become t nm a b e)))])) ∧
    ((((some [(.arr ⟨true, 50, false, none⟩ 3 (fun i => bif Nat.blt i (List.length (T.ps t)) then f i else elemF true (3 : Nat) [DV.con (Value.string nm), DV.con (Value.int IntKind.i64 (sub1 a b (T.p t) (T.q t))), DV.con (Value.int IntKind.i64 (sub2 a b (T.p t) (T.q t)))] (i - List.length (T.ps t))))]) : (Option (List AV))) = (some [(.arr ⟨true, 50, false, none⟩ 3 (rowN f (List.length (T.ps t)) nm (sub1 a b (T.p t) (T.q t)) (sub2 a b (T.p t) (T.q t))))])) ∧
    True)))))))) (by kernel_rfl) ?_
  obtain ⟨h1, h2, h3⟩ := hg
  have q : become t nm a b e = ⟨t.ps ++ [(nm, sub1 a b t.p t.q, sub2 a b t.p t.q)], a, b, false⟩ := by unfold become; rw [if_pos ⟨h1, h2, h3⟩]; rfl
  have hc : (t.wr || e != (0 : Int) || sub3 a b t.p t.q != (0 : Int)) = false := by
    rw [h1, h2]
    unfold sub3
    rw [h3]; rfl
  refine ⟨f62s _ _ _ _, fun h => ?_, fun _ => ⟨⟨⟨by omega, by omega⟩, fun i hi => ?_⟩, rfl, ?_, rfl, trivial⟩⟩
  · rw [hc] at h; cases h
  · obtain rfl : i = 0 := by omega
    rfl
  · rw [q, h1]
    simp only [List.length_append, List.length_cons, List.length_nil]
theorem f47h_no (x : DV) (t : T) (f : Nat → DV) (h : Int) (nm : ByteArray) (a b e : Int) (hl : t.ps.length ≤ 1000000) (hg : ¬ (t.wr = false ∧ e = 0 ∧ (subF a b t.p t.q).2.2 = 0)) :
    FnM Tryz.prog G 47 [bn, vs nm, .d (fr a b), vi e] [(1000000, mH x t 1000001 h), (1000001, mRw f)] (.d unitV) [(1000000, mH x (become t nm a b e) 900 h), (900, mRw f)] := by
  refine FnM.walk (orc := orcM1) (keep := []) [(1000001, 900)] follows (by kernel_rfl) Tryz.func47 rfl Tryz.call47 ?_
  refine of_eqH (b :=
    (FnOK Tryz.prog G 62 [(.agg [(di a), (di b)]), (.agg [(di (T.p t)), (di (T.q t))])] (.tup [(.agg [(di (sub1 a b (T.p t) (T.q t))), (di (sub2 a b (T.p t) (T.q t)))]), (di (sub3 a b (T.p t) (T.q t)))]) ∧
    ((((T.wr t || e != (0 : Int) || sub3 a b (T.p t) (T.q t) != (0 : Int)) = true) →
    ((((.d (.tup [])) : AV) = (.d (.tup []))) ∧
    ((((some [(.d x), (.vec 900 3 0 (List.length (T.ps t))), (vi (T.p t)), (vi (T.q t)), (vi h), (vb true)]) : (Option (List AV))) = (some [(.d x), (.vec 900 3 0 (List.length (T.ps (become t nm a b e)))), (vi (T.p (become t nm a b e))), (vi (T.q (become t nm a b e))), (vi h), (vb (T.wr (become t nm a b e)))])) ∧
    ((((some [(.arr ⟨true, 50, false, none⟩ 3 f)]) : (Option (List AV))) = (some [(.arr ⟨true, 50, false, none⟩ 3 f)])) ∧
    True)))) ∧
    (((T.wr t || e != (0 : Int) || sub3 a b (T.p t) (T.q t) != (0 : Int)) = false) →
    (((((List.length (T.ps t) + (1 : Nat)) * (32 : Nat) ≤ (1099511627776 : Nat)) ∧
    (List.length (T.ps t) + (1 : Nat) ≤ (1099511627776 : Nat))) ∧
    (∀ (i : Nat), i < (1 : Nat) → elemOK true (3 : Nat) (elemF true (3 : Nat) [DV.con (Value.string nm), DV.con (Value.int IntKind.i64 (sub1 a b (T.p t) (T.q t))), DV.con (Value.int IntKind.i64 (sub2 a b (T.p t) (T.q t)))] i) = true)) ∧
    ((((.d (.tup [])) : AV) = (.d (.tup []))) ∧
    ((((some [(.d x), (.vec 45 3 0 (List.length (T.ps t) + (1 : Nat))), (vi a), (vi b), (vi h), (vb (T.wr t))]) : (Option (List AV))) = (some [(.d x), (.vec 900 3 0 (List.length (T.ps (become t nm a b e)))), (vi (T.p (become t nm a b e))), (vi (T.q (become t nm a b e))), (vi h), (vb (T.wr (become t nm a b e)))])) ∧
    ((((some [.dead]) : (Option (List AV))) = (some [(.arr ⟨true, 50, false, none⟩ 3 f)])) ∧
    True)))))))) (by kernel_rfl) ?_
  have e' : become t nm a b e = { t with wr := true } := by unfold become; rw [if_neg hg]
  refine ⟨f62s _ _ _ _, fun _ => ⟨rfl, ?_, rfl, trivial⟩, fun h => ?_⟩
  · rw [e']
  · exfalso
    simp only [Bool.or_eq_false_iff, bne_eq_false_iff_eq] at h
    exact hg ⟨h.1.1, h.1.2, h.2⟩
theorem f35h_bad (x : DV) (t : T) (f : Nat → DV) (h : Int) (hb : badT t = true) :
    FnM Tryz.prog G 35 [bn] [(1000000, mH x t 1000001 h), (1000001, mRw f)] (.d (.tup [.agg [.con (.slice none 0 0), di 0, di 0, di 0], di 2])) [(1000000, mH x t 1000001 h), (1000001, mRw f)] := by
  refine FnM.walk (orc := orcFin) (keep := []) [] follows (by kernel_rfl) Tryz.func35 rfl Tryz.call35 ?_
  refine of_eqH (b :=
    (FnOK Tryz.prog G 51 [(.agg [(di (T.p t)), (di (T.q t))])] (.tup [(di (hunF (T.p t) (T.q t))), (db (ok (T.p t) (T.q t)))]) ∧
    ((((T.wr t || !ok (T.p t) (T.q t) || decide (hunF (T.p t) (T.q t) > (100000000 : Int))) = true) →
    ((((.d (.tup [(.agg [(.con (.slice none 0 0)), (di 0), (di 0), (di 0)]), (di 2)])) : AV) = (.d (.tup [(.agg [(.con (.slice none 0 0)), (di 0), (di 0), (di 0)]), (di 2)]))) ∧
    ((((some [(.d x), (.vec 1000001 3 0 (List.length (T.ps t))), (vi (T.p t)), (vi (T.q t)), (vi h), (vb (T.wr t))]) : (Option (List AV))) = (some [(.d x), (.vec 1000001 3 0 (List.length (T.ps t))), (vi (T.p t)), (vi (T.q t)), (vi h), (vb (T.wr t))])) ∧
    ((((some [(.arr ⟨true, 50, false, none⟩ 3 f)]) : (Option (List AV))) = (some [(.arr ⟨true, 50, false, none⟩ 3 f)])) ∧
    True)))) ∧
    (((T.wr t || !ok (T.p t) (T.q t) || decide (hunF (T.p t) (T.q t) > (100000000 : Int))) = false) →
    ((((.tup [(.agg [(.vec 1000001 3 0 (List.length (T.ps t))), (vi (T.p t)), (vi (T.q t)), (vi (hunF (T.p t) (T.q t)))]), (vi 0)]) : AV) = (.d (.tup [(.agg [(.con (.slice none 0 0)), (di 0), (di 0), (di 0)]), (di 2)]))) ∧
    ((((some [(.d x), (.vec 1000001 3 0 (List.length (T.ps t))), (vi (T.p t)), (vi (T.q t)), (vi (hunF (T.p t) (T.q t))), (vb (T.wr t))]) : (Option (List AV))) = (some [(.d x), (.vec 1000001 3 0 (List.length (T.ps t))), (vi (T.p t)), (vi (T.q t)), (vi h), (vb (T.wr t))])) ∧
    ((((some [(.arr ⟨true, 50, false, none⟩ 3 f)]) : (Option (List AV))) = (some [(.arr ⟨true, 50, false, none⟩ 3 f)])) ∧
    True))))))) (by kernel_rfl) ?_
  refine ⟨f51' _ _, fun _ => ⟨rfl, rfl, rfl, trivial⟩, fun h => ?_⟩
  have h : badT t = false := h
  rw [hb] at h; cases h
theorem f35h_good (x : DV) (t : T) (f : Nat → DV) (h : Int) (hb : badT t = false) :
    FnM Tryz.prog G 35 [bn] [(1000000, mH x t 1000001 h), (1000001, mRw f)] (.tup [.agg [.vec 1000001 3 0 t.ps.length, vi t.p, vi t.q, vi (hunF t.p t.q)], vi 0]) [(1000000, mH x t 1000001 (hunF t.p t.q)), (1000001, mRw f)] := by
  refine FnM.walk (orc := orcFin) (keep := []) [] follows (by kernel_rfl) Tryz.func35 rfl Tryz.call35 ?_
  refine of_eqH (b :=
    (FnOK Tryz.prog G 51 [(.agg [(di (T.p t)), (di (T.q t))])] (.tup [(di (hunF (T.p t) (T.q t))), (db (ok (T.p t) (T.q t)))]) ∧
    ((((T.wr t || !ok (T.p t) (T.q t) || decide (hunF (T.p t) (T.q t) > (100000000 : Int))) = true) →
    ((((.d (.tup [(.agg [(.con (.slice none 0 0)), (di 0), (di 0), (di 0)]), (di 2)])) : AV) = (.tup [(.agg [(.vec 1000001 3 0 (List.length (T.ps t))), (vi (T.p t)), (vi (T.q t)), (vi (hunF (T.p t) (T.q t)))]), (vi 0)])) ∧
    ((((some [(.d x), (.vec 1000001 3 0 (List.length (T.ps t))), (vi (T.p t)), (vi (T.q t)), (vi h), (vb (T.wr t))]) : (Option (List AV))) = (some [(.d x), (.vec 1000001 3 0 (List.length (T.ps t))), (vi (T.p t)), (vi (T.q t)), (vi (hunF (T.p t) (T.q t))), (vb (T.wr t))])) ∧
    ((((some [(.arr ⟨true, 50, false, none⟩ 3 f)]) : (Option (List AV))) = (some [(.arr ⟨true, 50, false, none⟩ 3 f)])) ∧
    True)))) ∧
    (((T.wr t || !ok (T.p t) (T.q t) || decide (hunF (T.p t) (T.q t) > (100000000 : Int))) = false) →
    ((((.tup [(.agg [(.vec 1000001 3 0 (List.length (T.ps t))), (vi (T.p t)), (vi (T.q t)), (vi (hunF (T.p t) (T.q t)))]), (vi 0)]) : AV) = (.tup [(.agg [(.vec 1000001 3 0 (List.length (T.ps t))), (vi (T.p t)), (vi (T.q t)), (vi (hunF (T.p t) (T.q t)))]), (vi 0)])) ∧
    ((((some [(.d x), (.vec 1000001 3 0 (List.length (T.ps t))), (vi (T.p t)), (vi (T.q t)), (vi (hunF (T.p t) (T.q t))), (vb (T.wr t))]) : (Option (List AV))) = (some [(.d x), (.vec 1000001 3 0 (List.length (T.ps t))), (vi (T.p t)), (vi (T.q t)), (vi (hunF (T.p t) (T.q t))), (vb (T.wr t))])) ∧
    ((((some [(.arr ⟨true, 50, false, none⟩ 3 f)]) : (Option (List AV))) = (some [(.arr ⟨true, 50, false, none⟩ 3 f)])) ∧
    True))))))) (by kernel_rfl) ?_
  refine ⟨f51' _ _, fun h => ?_, fun _ => ⟨rfl, rfl, rfl, trivial⟩⟩
  have h : badT t = true := h
  rw [hb] at h; cases h
theorem f45 (L : List Pt) (hL : L.length ≤ 100000) : ∃ f : Nat → DV, (∀ i, i < L.length → f i = ptF L i) ∧ FnM Tryz.prog G 45 [.d (.slc 3 L.length (ptF L))] [] (.vec 900 3 0 L.length) [(900, mRw f)] := by
  rcases Nat.eq_zero_or_pos L.length with h0 | h0
  · have e : L = [] := List.eq_nil_of_length_eq_zero h0
    subst e
    refine ⟨fun i => bif Nat.blt i 0 then DV.con undef else DV.con undef, fun i hi => absurd hi (Nat.not_lt_zero _), ?_⟩
    refine FnM.con0 Tryz.call45 fun k v hv => ?_
    obtain ⟨p, cap, rfl, hc, _⟩ := hv
    cases p with
    | none =>
      refine FnM.res (.nilRow _ 0 900 3 ptK _ (by kernel_rfl) (by kernel_rfl)) (r := .d (.con (.slice none 0 0))) (post := []) ?_
      refine FnM.walk (orc := orcQ) (keep := []) [] follows (by kernel_rfl) Tryz.func45 rfl Tryz.call45 ?_
      refine of_eqH (b :=
        (((true = true) →
        ((((.d (.con (.slice none 0 0))) : AV) = (.d (.con (.slice none 0 0)))) ∧
        True)) ∧
        ((true = false) →
        (((((0 : Nat) + (0 : Nat)) * (32 : Nat) ≤ (1099511627776 : Nat)) ∧
        ((0 : Nat) + (0 : Nat) ≤ (1099511627776 : Nat))) ∧
        ((((.vec 7 3 0 0) : AV) = (.d (.con (.slice none 0 0)))) ∧
        True))))) (by kernel_rfl) ?_
      exact ⟨fun _ => ⟨rfl, trivial⟩, fun h => by cases h⟩
    | some a =>
      refine FnM.walk (orc := orcQ) (keep := []) [(7, 900)] follows (by kernel_rfl) Tryz.func45 rfl Tryz.call45 ?_
      refine of_eqH (b :=
        (((false = true) →
        ((((.d (.con (.slice none 0 0))) : AV) = (.vec 900 3 0 0)) ∧
        (((none : (Option (List AV))) = (some [(.arr ⟨true, 50, false, none⟩ 3 (fun i => bif Nat.blt i (0 : Nat) then DV.con undef else DV.con undef))])) ∧
        True))) ∧
        ((false = false) →
        (((((0 : Nat) + (0 : Nat)) * (32 : Nat) ≤ (1099511627776 : Nat)) ∧
        ((0 : Nat) + (0 : Nat) ≤ (1099511627776 : Nat))) ∧
        ((((.vec 900 3 0 0) : AV) = (.vec 900 3 0 0)) ∧
        ((((some [(.arr ⟨true, 50, false, none⟩ 3 (fun i => bif Nat.blt i (0 : Nat) then DV.con undef else DV.con undef))]) : (Option (List AV))) = (some [(.arr ⟨true, 50, false, none⟩ 3 (fun i => bif Nat.blt i (0 : Nat) then DV.con undef else DV.con undef))])) ∧
        True)))))) (by kernel_rfl) ?_
      exact ⟨fun h => (by cases h), fun _ => ⟨⟨by omega, by omega⟩, rfl, rfl, trivial⟩⟩
  · refine ⟨fun i => bif Nat.blt i 0 then DV.con undef else ptF L (i - 0), fun i hi => rfl, ?_⟩
    refine FnM.walk (orc := orcQ) (keep := []) [(7, 900)] follows (by kernel_rfl) Tryz.func45 rfl Tryz.call45 ?_
    refine of_eqH (b :=
      (((0 : Nat) < List.length L) ∧
      (((false = true) →
      ((((.d (.con (.slice none 0 0))) : AV) = (.vec 900 3 0 (List.length L))) ∧
      (((none : (Option (List AV))) = (some [(.arr ⟨true, 50, false, none⟩ 3 (fun i => bif Nat.blt i (0 : Nat) then DV.con undef else ptF L (i - (0 : Nat))))])) ∧
      True))) ∧
      ((false = false) →
      ((((((0 : Nat) + List.length L) * (32 : Nat) ≤ (1099511627776 : Nat)) ∧
      ((0 : Nat) + List.length L ≤ (1099511627776 : Nat))) ∧
      (∀ (i : Nat), i < List.length L → elemOK true (3 : Nat) (ptF L i) = true)) ∧
      ((((.vec 900 3 0 ((0 : Nat) + List.length L)) : AV) = (.vec 900 3 0 (List.length L))) ∧
      ((((some [(.arr ⟨true, 50, false, none⟩ 3 (fun i => bif Nat.blt i (0 : Nat) then DV.con undef else ptF L (i - (0 : Nat))))]) : (Option (List AV))) = (some [(.arr ⟨true, 50, false, none⟩ 3 (fun i => bif Nat.blt i (0 : Nat) then DV.con undef else ptF L (i - (0 : Nat))))])) ∧
      True))))))) (by kernel_rfl) ?_
    exact ⟨h0, fun h => (by cases h), fun _ => ⟨⟨⟨by omega, by omega⟩, fun i _ => rfl⟩, by rw [Nat.zero_add], rfl, trivial⟩⟩
end Go.Proofs

set_option autoImplicit false
namespace Go.Proofs
open Go Go.Ab Go.RowKit
set_option maxHeartbeats 2000000
set_option maxRecDepth 100000
variable {G : IH}
def mul1 (a b c d : Int) : Int := (mulF a b c d).1
def mul2 (a b c d : Int) : Int := (mulF a b c d).2.1
def mul3 (a b c d : Int) : Int := (mulF a b c d).2.2
def sT (PS : List Pt) (p q : Int) : T := ⟨PS, p, q, false⟩
/-- The points behind the further part. -/
def sN (PS : List Pt) (p q : Int) (nm : ByteArray) (n d : Int) : T := become (sT PS p q) nm (mul1 p q n d) (mul2 p q n d) (mul3 p q n d)
def orcScad (PS : List Pt) (p q h : Int) : Oracle := fun f a => match f, a with
  | 24, [_] => some (db (vB PS p q h))
  | 42, [.con (.string s)] => some (db (nameB s))
  | 43, [fr a b] => some (db (ok a b))
  | 44, [fr a b, fr c d] => some (db (lessB a b c d))
  | 46, [fr a b, fr c d] => some (.tup [fr (mul1 a b c d) (mul2 a b c d), di (mul3 a b c d)])
  | _, _ => none
def orcScam (PS : List Pt) (p q h : Int) (nm : ByteArray) (n d : Int) (f0 f1 : Nat → DV) (b : Bool) (f : FuncId) (a : List AV) (pre : List (Nat × List AV)) : Option (AV × List (Nat × List AV)) := match f, b with
  | 45, _ => some (.vec 900 3 0 PS.length, [(900, mRw f0)])
  | 47, _ => some (.d unitV, [(1000000, mH (.con (.slice none 0 0)) (sN PS p q nm n d) 900 h), (900, mRw f1)])
  | 35, true => some (.d (.tup [nilC, di 2]), [(1000000, mH (.con (.slice none 0 0)) (sN PS p q nm n d) 1000001 h), (1000001, mRw f1)])
  | 35, false => some (.tup [.agg [.vec 1000001 3 0 (sN PS p q nm n d).ps.length, vi (sN PS p q nm n d).p, vi (sN PS p q nm n d).q, vi (hunF (sN PS p q nm n d).p (sN PS p q nm n d).q)], vi 0], [(1000000, mH (.con (.slice none 0 0)) (sN PS p q nm n d) 1000001 (hunF (sN PS p q nm n d).p (sN PS p q nm n d).q)), (1000001, mRw f1)])
  | _, _ => none
def orcSca (PS : List Pt) (p q h : Int) (nm : ByteArray) (n d : Int) (f0 f1 : Nat → DV) (b : Bool) : Orc := { d := orcScad PS p q h, m := orcScam PS p q h nm n d f0 f1 b, gl := glZ }
/-- Scale is asked for something else. -/
def argS (PS : List Pt) (p q h : Int) (nm : ByteArray) (n d : Int) : Bool := !vB PS p q h || decide ((PS.length : Int) ≥ 1024) || !nameB nm || !ok n d || lessB n d 0 1 || lessB 1 1 n d
def goodS (PS : List Pt) (p q n d : Int) : Prop := mul3 p q n d = 0 ∧ (subF (mul1 p q n d) (mul2 p q n d) p q).2.2 = 0
instance (PS : List Pt) (p q n d : Int) : Decidable (goodS PS p q n d) := by unfold goodS; infer_instance
def rowS (PS : List Pt) (p q : Int) (nm : ByteArray) (n d : Int) (f0 : Nat → DV) : Nat → DV :=
  if goodS PS p q n d then rowN f0 PS.length nm (sub1 (mul1 p q n d) (mul2 p q n d) p q) (sub2 (mul1 p q n d) (mul2 p q n d) p q) else f0
theorem f47s (PS : List Pt) (p q h : Int) (hl : PS.length ≤ 100000) (nm : ByteArray) (n d : Int) (f0 : Nat → DV) :
    FnM Tryz.prog G 47 [bn, vs nm, .d (fr (mul1 p q n d) (mul2 p q n d)), vi (mul3 p q n d)] [(1000000, mH (.con (.slice none 0 0)) (sT PS p q) 1000001 h), (1000001, mRw f0)] (.d unitV)
      [(1000000, mH (.con (.slice none 0 0)) (sN PS p q nm n d) 900 h), (900, mRw (rowS PS p q nm n d f0))] := by
  have hl' : (sT PS p q).ps.length ≤ 1000000 := by show PS.length ≤ _; omega
  unfold rowS
  split
  · rename_i hg
    exact f47h_ok (.con (.slice none 0 0)) (sT PS p q) f0 h nm _ _ _ hl' ⟨rfl, hg⟩
  · rename_i hg
    exact f47h_no (.con (.slice none 0 0)) (sT PS p q) f0 h nm _ _ _ hl' (fun hh => hg hh.2)
theorem rowS_F {PS : List Pt} {p q : Int} {nm : ByteArray} {n d : Int} {f0 : Nat → DV} (hf : ∀ i, i < PS.length → f0 i = ptF PS i) (hw : (sN PS p q nm n d).wr = false) {i : Nat} (hi : i < (sN PS p q nm n d).ps.length) : rowS PS p q nm n d f0 i = ptF (sN PS p q nm n d).ps i := by
  have hg : goodS PS p q n d := by
    refine Classical.byContradiction fun hg => ?_
    unfold sN become at hw
    rw [if_neg (fun hh => hg hh.2)] at hw
    cases hw
  have e : (sN PS p q nm n d).ps = PS ++ [(nm, sub1 (mul1 p q n d) (mul2 p q n d) p q, sub2 (mul1 p q n d) (mul2 p q n d) p q)] := by
    unfold sN become
    rw [if_pos ⟨rfl, hg⟩]; rfl
  rw [e] at hi ⊢
  unfold rowS
  rw [if_pos hg]
  unfold rowN
  rw [← ptR_F hi, ptR_snoc]
  cases hb : Nat.blt i PS.length with
  | true =>
    rw [Nat.blt_eq] at hb
    simp only [cond_true]
    rw [hf i hb, ptR_F hb]
  | false => rfl
theorem f22 (hZ : Glob G 0 zeroL) (PS : List Pt) (p q h : Int) (hS : ShortP PS) (hl : PS.length ≤ 100000) (nm : ByteArray) (hnm : nm.size ≤ 1000000) (n d : Int) (r : DV)
    (hr1 : argS PS p q h nm n d = true → r = .tup [nilC, di 1]) (hr2 : argS PS p q h nm n d = false → badT (sN PS p q nm n d) = true → r = .tup [nilC, di 2])
    (hr3 : argS PS p q h nm n d = false → badT (sN PS p q nm n d) = false → ∀ f : Nat → DV, (∀ i, i < (sN PS p q nm n d).ps.length → f i = ptF (sN PS p q nm n d).ps i) → ∀ k v, DV.rel k (.tup [.agg [.slc 3 (sN PS p q nm n d).ps.length f, di (sN PS p q nm n d).p, di (sN PS p q nm n d).q, di (hunF (sN PS p q nm n d).p (sN PS p q nm n d).q)], di 0]) v → DV.rel k r v) :
    FnOK Tryz.prog G 22 [crV PS p q h, ds nm, fr n d] r := by
  obtain ⟨f0, hf0, h45⟩ := f45 (G := G) PS hl
  cases hb : badT (sN PS p q nm n d) with
  | true =>
    refine FnOK.walk (orc := orcSca PS p q h nm n d f0 (rowS PS p q nm n d f0) true) (keep := []) follows Tryz.func22 rfl Tryz.call22 ?_
    refine of_eqH (b :=
      ((FnOK Tryz.prog G 24 [(.agg [(.slc 3 (List.length PS) (ptF PS)), (di p), (di q), (di h)])] (db (vB PS p q h)) ∧
      ((((!(!vB PS p q h || decide ((↑(List.length PS) : Int) ≥ (1024 : Int)))) = true) →
      FnOK Tryz.prog G 42 [(ds nm)] (db (nameB nm))) ∧
      ((((!(!vB PS p q h || decide ((↑(List.length PS) : Int) ≥ (1024 : Int)) || !nameB nm)) = true) →
      FnOK Tryz.prog G 43 [(.agg [(di n), (di d)])] (db (ok n d))) ∧
      ((((!(!vB PS p q h || decide ((↑(List.length PS) : Int) ≥ (1024 : Int)) || !nameB nm || !ok n d)) = true) →
      (∃ vs, (∃ v vs', vs = v :: vs' ∧ v = Value.int IntKind.i64 (0 : Int) ∧ ∃ v vs'_1, vs' = v :: vs'_1 ∧ v = Value.int IntKind.i64 (1 : Int) ∧ vs'_1 = []) ∧ ∀ (i : Nat), i < List.length vs → IH.cell G (0 : Nat) i = vs[i]?)) ∧
      ((((!(!vB PS p q h || decide ((↑(List.length PS) : Int) ≥ (1024 : Int)) || !nameB nm || !ok n d)) = true) →
      FnOK Tryz.prog G 44 [(.agg [(di n), (di d)]), (.agg [(di 0), (di 1)])] (db (lessB n d (0 : Int) (1 : Int)))) ∧
      (((!(!vB PS p q h || decide ((↑(List.length PS) : Int) ≥ (1024 : Int)) || !nameB nm || !ok n d || lessB n d (0 : Int) (1 : Int))) = true) →
      FnOK Tryz.prog G 44 [(.agg [(di 1), (di 1)]), (.agg [(di n), (di d)])] (db (lessB (1 : Int) (1 : Int) n d)))))))) ∧
      ((((!vB PS p q h || decide ((↑(List.length PS) : Int) ≥ (1024 : Int)) || !nameB nm || !ok n d || lessB n d (0 : Int) (1 : Int) || lessB (1 : Int) (1 : Int) n d) = true) →
      (((.tup [(.agg [(.con (.slice none 0 0)), (di 0), (di 0), (di 0)]), (di 1)]) : DV) = r)) ∧
      (((!vB PS p q h || decide ((↑(List.length PS) : Int) ≥ (1024 : Int)) || !nameB nm || !ok n d || lessB n d (0 : Int) (1 : Int) || lessB (1 : Int) (1 : Int) n d) = false) →
      (FnM Tryz.prog G 45 [(.d (.slc 3 (List.length PS) (ptF PS)))] [] (.vec 900 3 0 (List.length PS)) [(900, [(.arr ⟨true, 50, false, none⟩ 3 f0)])] ∧
      (FnOK Tryz.prog G 46 [(.agg [(di p), (di q)]), (.agg [(di n), (di d)])] (.tup [(.agg [(di (mul1 p q n d)), (di (mul2 p q n d))]), (di (mul3 p q n d))]) ∧
      (FnM Tryz.prog G 47 [(.box 1000000 0), (vs nm), (.d (.agg [(di (mul1 p q n d)), (di (mul2 p q n d))])), (vi (mul3 p q n d))] [(1000000, [(.d (.con (.slice none 0 0))), (.vec 1000001 3 0 (List.length PS)), (vi p), (vi q), (vi h), (vb false)]), (1000001, [(.arr ⟨true, 50, false, none⟩ 3 f0)])] (.d (.tup [])) [(1000000, [(.d (.con (.slice none 0 0))), (.vec 900 3 0 (List.length (T.ps (sN PS p q nm n d)))), (vi (T.p (sN PS p q nm n d))), (vi (T.q (sN PS p q nm n d))), (vi h), (vb (T.wr (sN PS p q nm n d)))]), (900, [(.arr ⟨true, 50, false, none⟩ 3 (rowS PS p q nm n d f0))])] ∧
      (FnM Tryz.prog G 35 [(.box 1000000 0)] [(1000000, [(.d (.con (.slice none 0 0))), (.vec 1000001 3 0 (List.length (T.ps (sN PS p q nm n d)))), (vi (T.p (sN PS p q nm n d))), (vi (T.q (sN PS p q nm n d))), (vi h), (vb (T.wr (sN PS p q nm n d)))]), (1000001, [(.arr ⟨true, 50, false, none⟩ 3 (rowS PS p q nm n d f0))])] (.d (.tup [(.agg [(.con (.slice none 0 0)), (di 0), (di 0), (di 0)]), (di 2)])) [(1000000, [(.d (.con (.slice none 0 0))), (.vec 1000001 3 0 (List.length (T.ps (sN PS p q nm n d)))), (vi (T.p (sN PS p q nm n d))), (vi (T.q (sN PS p q nm n d))), (vi h), (vb (T.wr (sN PS p q nm n d)))]), (1000001, [(.arr ⟨true, 50, false, none⟩ 3 (rowS PS p q nm n d f0))])] ∧
      (((.tup [(.agg [(.con (.slice none 0 0)), (di 0), (di 0), (di 0)]), (di 2)]) : DV) = r))))))))) (by kernel_rfl) ?_
    refine ⟨⟨f24 hZ PS p q h hS (by omega), fun _ => f42 _ hnm, fun _ => f43 _ _, fun _ => hZ, fun _ => f44 _ _ _ _, fun _ => f44 _ _ _ _⟩, fun h1 => ?_, fun h1 => ⟨h45, f46' _ _ _ _, f47s PS p q h hl nm n d f0, f35h_bad _ _ _ _ hb, ?_⟩⟩
    · exact (hr1 h1).symm
    · exact (hr2 h1 hb).symm
  | false =>
    cases ha : argS PS p q h nm n d with
    | true =>
      refine FnOK.walk (orc := orcSca PS p q h nm n d f0 (rowS PS p q nm n d f0) true) (keep := []) follows Tryz.func22 rfl Tryz.call22 ?_
      refine of_eqH (b :=
        ((FnOK Tryz.prog G 24 [(.agg [(.slc 3 (List.length PS) (ptF PS)), (di p), (di q), (di h)])] (db (vB PS p q h)) ∧
        ((((!(!vB PS p q h || decide ((↑(List.length PS) : Int) ≥ (1024 : Int)))) = true) →
        FnOK Tryz.prog G 42 [(ds nm)] (db (nameB nm))) ∧
        ((((!(!vB PS p q h || decide ((↑(List.length PS) : Int) ≥ (1024 : Int)) || !nameB nm)) = true) →
        FnOK Tryz.prog G 43 [(.agg [(di n), (di d)])] (db (ok n d))) ∧
        ((((!(!vB PS p q h || decide ((↑(List.length PS) : Int) ≥ (1024 : Int)) || !nameB nm || !ok n d)) = true) →
        (∃ vs, (∃ v vs', vs = v :: vs' ∧ v = Value.int IntKind.i64 (0 : Int) ∧ ∃ v vs'_1, vs' = v :: vs'_1 ∧ v = Value.int IntKind.i64 (1 : Int) ∧ vs'_1 = []) ∧ ∀ (i : Nat), i < List.length vs → IH.cell G (0 : Nat) i = vs[i]?)) ∧
        ((((!(!vB PS p q h || decide ((↑(List.length PS) : Int) ≥ (1024 : Int)) || !nameB nm || !ok n d)) = true) →
        FnOK Tryz.prog G 44 [(.agg [(di n), (di d)]), (.agg [(di 0), (di 1)])] (db (lessB n d (0 : Int) (1 : Int)))) ∧
        (((!(!vB PS p q h || decide ((↑(List.length PS) : Int) ≥ (1024 : Int)) || !nameB nm || !ok n d || lessB n d (0 : Int) (1 : Int))) = true) →
        FnOK Tryz.prog G 44 [(.agg [(di 1), (di 1)]), (.agg [(di n), (di d)])] (db (lessB (1 : Int) (1 : Int) n d)))))))) ∧
        ((((!vB PS p q h || decide ((↑(List.length PS) : Int) ≥ (1024 : Int)) || !nameB nm || !ok n d || lessB n d (0 : Int) (1 : Int) || lessB (1 : Int) (1 : Int) n d) = true) →
        (((.tup [(.agg [(.con (.slice none 0 0)), (di 0), (di 0), (di 0)]), (di 1)]) : DV) = r)) ∧
        (((!vB PS p q h || decide ((↑(List.length PS) : Int) ≥ (1024 : Int)) || !nameB nm || !ok n d || lessB n d (0 : Int) (1 : Int) || lessB (1 : Int) (1 : Int) n d) = false) →
        (FnM Tryz.prog G 45 [(.d (.slc 3 (List.length PS) (ptF PS)))] [] (.vec 900 3 0 (List.length PS)) [(900, [(.arr ⟨true, 50, false, none⟩ 3 f0)])] ∧
        (FnOK Tryz.prog G 46 [(.agg [(di p), (di q)]), (.agg [(di n), (di d)])] (.tup [(.agg [(di (mul1 p q n d)), (di (mul2 p q n d))]), (di (mul3 p q n d))]) ∧
        (FnM Tryz.prog G 47 [(.box 1000000 0), (vs nm), (.d (.agg [(di (mul1 p q n d)), (di (mul2 p q n d))])), (vi (mul3 p q n d))] [(1000000, [(.d (.con (.slice none 0 0))), (.vec 1000001 3 0 (List.length PS)), (vi p), (vi q), (vi h), (vb false)]), (1000001, [(.arr ⟨true, 50, false, none⟩ 3 f0)])] (.d (.tup [])) [(1000000, [(.d (.con (.slice none 0 0))), (.vec 900 3 0 (List.length (T.ps (sN PS p q nm n d)))), (vi (T.p (sN PS p q nm n d))), (vi (T.q (sN PS p q nm n d))), (vi h), (vb (T.wr (sN PS p q nm n d)))]), (900, [(.arr ⟨true, 50, false, none⟩ 3 (rowS PS p q nm n d f0))])] ∧
        (FnM Tryz.prog G 35 [(.box 1000000 0)] [(1000000, [(.d (.con (.slice none 0 0))), (.vec 1000001 3 0 (List.length (T.ps (sN PS p q nm n d)))), (vi (T.p (sN PS p q nm n d))), (vi (T.q (sN PS p q nm n d))), (vi h), (vb (T.wr (sN PS p q nm n d)))]), (1000001, [(.arr ⟨true, 50, false, none⟩ 3 (rowS PS p q nm n d f0))])] (.d (.tup [(.agg [(.con (.slice none 0 0)), (di 0), (di 0), (di 0)]), (di 2)])) [(1000000, [(.d (.con (.slice none 0 0))), (.vec 1000001 3 0 (List.length (T.ps (sN PS p q nm n d)))), (vi (T.p (sN PS p q nm n d))), (vi (T.q (sN PS p q nm n d))), (vi h), (vb (T.wr (sN PS p q nm n d)))]), (1000001, [(.arr ⟨true, 50, false, none⟩ 3 (rowS PS p q nm n d f0))])] ∧
        (((.tup [(.agg [(.con (.slice none 0 0)), (di 0), (di 0), (di 0)]), (di 2)]) : DV) = r))))))))) (by kernel_rfl) ?_
      refine ⟨⟨f24 hZ PS p q h hS (by omega), fun _ => f42 _ hnm, fun _ => f43 _ _, fun _ => hZ, fun _ => f44 _ _ _ _, fun _ => f44 _ _ _ _⟩, fun h1 => ?_, fun h1 => ?_⟩
      · exact (hr1 h1).symm
      · have h1 : argS PS p q h nm n d = false := h1
        rw [ha] at h1; cases h1
    | false =>
      refine FnOK.res (r := .tup [.agg [.slc 3 (sN PS p q nm n d).ps.length (fun i => rowS PS p q nm n d f0 (0 + i)), di (sN PS p q nm n d).p, di (sN PS p q nm n d).q, di (hunF (sN PS p q nm n d).p (sN PS p q nm n d).q)], di 0]) ?_ (hr3 ha hb _ fun i hi => by
        rw [Nat.zero_add]
        unfold badT at hb
        simp only [Bool.or_eq_false_iff] at hb
        exact rowS_F hf0 hb.1.1 hi)
      refine FnOK.walk (orc := orcSca PS p q h nm n d f0 (rowS PS p q nm n d f0) false) (keep := []) follows Tryz.func22 rfl Tryz.call22 ?_
      refine of_eqH (b :=
        ((FnOK Tryz.prog G 24 [(.agg [(.slc 3 (List.length PS) (ptF PS)), (di p), (di q), (di h)])] (db (vB PS p q h)) ∧
        ((((!(!vB PS p q h || decide ((↑(List.length PS) : Int) ≥ (1024 : Int)))) = true) →
        FnOK Tryz.prog G 42 [(ds nm)] (db (nameB nm))) ∧
        ((((!(!vB PS p q h || decide ((↑(List.length PS) : Int) ≥ (1024 : Int)) || !nameB nm)) = true) →
        FnOK Tryz.prog G 43 [(.agg [(di n), (di d)])] (db (ok n d))) ∧
        ((((!(!vB PS p q h || decide ((↑(List.length PS) : Int) ≥ (1024 : Int)) || !nameB nm || !ok n d)) = true) →
        (∃ vs, (∃ v vs', vs = v :: vs' ∧ v = Value.int IntKind.i64 (0 : Int) ∧ ∃ v vs'_1, vs' = v :: vs'_1 ∧ v = Value.int IntKind.i64 (1 : Int) ∧ vs'_1 = []) ∧ ∀ (i : Nat), i < List.length vs → IH.cell G (0 : Nat) i = vs[i]?)) ∧
        ((((!(!vB PS p q h || decide ((↑(List.length PS) : Int) ≥ (1024 : Int)) || !nameB nm || !ok n d)) = true) →
        FnOK Tryz.prog G 44 [(.agg [(di n), (di d)]), (.agg [(di 0), (di 1)])] (db (lessB n d (0 : Int) (1 : Int)))) ∧
        (((!(!vB PS p q h || decide ((↑(List.length PS) : Int) ≥ (1024 : Int)) || !nameB nm || !ok n d || lessB n d (0 : Int) (1 : Int))) = true) →
        FnOK Tryz.prog G 44 [(.agg [(di 1), (di 1)]), (.agg [(di n), (di d)])] (db (lessB (1 : Int) (1 : Int) n d)))))))) ∧
        ((((!vB PS p q h || decide ((↑(List.length PS) : Int) ≥ (1024 : Int)) || !nameB nm || !ok n d || lessB n d (0 : Int) (1 : Int) || lessB (1 : Int) (1 : Int) n d) = true) →
        (((.tup [(.agg [(.con (.slice none 0 0)), (di 0), (di 0), (di 0)]), (di 1)]) : DV) = (.tup [(.agg [(.slc 3 (List.length (T.ps (sN PS p q nm n d))) (fun i => rowS PS p q nm n d f0 ((0 : Nat) + i))), (di (T.p (sN PS p q nm n d))), (di (T.q (sN PS p q nm n d))), (di (hunF (T.p (sN PS p q nm n d)) (T.q (sN PS p q nm n d))))]), (di (0 : Int))]))) ∧
        (((!vB PS p q h || decide ((↑(List.length PS) : Int) ≥ (1024 : Int)) || !nameB nm || !ok n d || lessB n d (0 : Int) (1 : Int) || lessB (1 : Int) (1 : Int) n d) = false) →
        (FnM Tryz.prog G 45 [(.d (.slc 3 (List.length PS) (ptF PS)))] [] (.vec 900 3 0 (List.length PS)) [(900, [(.arr ⟨true, 50, false, none⟩ 3 f0)])] ∧
        (FnOK Tryz.prog G 46 [(.agg [(di p), (di q)]), (.agg [(di n), (di d)])] (.tup [(.agg [(di (mul1 p q n d)), (di (mul2 p q n d))]), (di (mul3 p q n d))]) ∧
        (FnM Tryz.prog G 47 [(.box 1000000 0), (vs nm), (.d (.agg [(di (mul1 p q n d)), (di (mul2 p q n d))])), (vi (mul3 p q n d))] [(1000000, [(.d (.con (.slice none 0 0))), (.vec 1000001 3 0 (List.length PS)), (vi p), (vi q), (vi h), (vb false)]), (1000001, [(.arr ⟨true, 50, false, none⟩ 3 f0)])] (.d (.tup [])) [(1000000, [(.d (.con (.slice none 0 0))), (.vec 900 3 0 (List.length (T.ps (sN PS p q nm n d)))), (vi (T.p (sN PS p q nm n d))), (vi (T.q (sN PS p q nm n d))), (vi h), (vb (T.wr (sN PS p q nm n d)))]), (900, [(.arr ⟨true, 50, false, none⟩ 3 (rowS PS p q nm n d f0))])] ∧
        (FnM Tryz.prog G 35 [(.box 1000000 0)] [(1000000, [(.d (.con (.slice none 0 0))), (.vec 1000001 3 0 (List.length (T.ps (sN PS p q nm n d)))), (vi (T.p (sN PS p q nm n d))), (vi (T.q (sN PS p q nm n d))), (vi h), (vb (T.wr (sN PS p q nm n d)))]), (1000001, [(.arr ⟨true, 50, false, none⟩ 3 (rowS PS p q nm n d f0))])] (.tup [(.agg [(.vec 1000001 3 0 (List.length (T.ps (sN PS p q nm n d)))), (vi (T.p (sN PS p q nm n d))), (vi (T.q (sN PS p q nm n d))), (vi (hunF (T.p (sN PS p q nm n d)) (T.q (sN PS p q nm n d))))]), (vi 0)]) [(1000000, [(.d (.con (.slice none 0 0))), (.vec 1000001 3 0 (List.length (T.ps (sN PS p q nm n d)))), (vi (T.p (sN PS p q nm n d))), (vi (T.q (sN PS p q nm n d))), (vi (hunF (T.p (sN PS p q nm n d)) (T.q (sN PS p q nm n d)))), (vb (T.wr (sN PS p q nm n d)))]), (1000001, [(.arr ⟨true, 50, false, none⟩ 3 (rowS PS p q nm n d f0))])] ∧
        (((.tup [(.agg [(.slc 3 (List.length (T.ps (sN PS p q nm n d))) (fun i => rowS PS p q nm n d f0 ((0 : Nat) + i))), (di (T.p (sN PS p q nm n d))), (di (T.q (sN PS p q nm n d))), (di (hunF (T.p (sN PS p q nm n d)) (T.q (sN PS p q nm n d))))]), (di 0)]) : DV) = (.tup [(.agg [(.slc 3 (List.length (T.ps (sN PS p q nm n d))) (fun i => rowS PS p q nm n d f0 ((0 : Nat) + i))), (di (T.p (sN PS p q nm n d))), (di (T.q (sN PS p q nm n d))), (di (hunF (T.p (sN PS p q nm n d)) (T.q (sN PS p q nm n d))))]), (di (0 : Int))])))))))))) (by kernel_rfl) ?_
      refine ⟨⟨f24 hZ PS p q h hS (by omega), fun _ => f42 _ hnm, fun _ => f43 _ _, fun _ => hZ, fun _ => f44 _ _ _ _, fun _ => f44 _ _ _ _⟩, fun h1 => ?_, fun h1 => ⟨h45, f46' _ _ _ _, f47s PS p q h hl nm n d f0, f35h_good _ _ _ _ hb, rfl⟩⟩
      have h1 : argS PS p q h nm n d = true := h1
      rw [ha] at h1; cases h1
/-- What Scale answers. -/
def scPs (PS : List Pt) (p q h : Int) (nm : ByteArray) (n d : Int) : List Pt := if argS PS p q h nm n d then [] else if badT (sN PS p q nm n d) then [] else (sN PS p q nm n d).ps
def scP (PS : List Pt) (p q h : Int) (nm : ByteArray) (n d : Int) : Int := if argS PS p q h nm n d then 0 else if badT (sN PS p q nm n d) then 0 else (sN PS p q nm n d).p
def scQ (PS : List Pt) (p q h : Int) (nm : ByteArray) (n d : Int) : Int := if argS PS p q h nm n d then 0 else if badT (sN PS p q nm n d) then 0 else (sN PS p q nm n d).q
def scH (PS : List Pt) (p q h : Int) (nm : ByteArray) (n d : Int) : Int := if argS PS p q h nm n d then 0 else if badT (sN PS p q nm n d) then 0 else hunF (sN PS p q nm n d).p (sN PS p q nm n d).q
def scE (PS : List Pt) (p q h : Int) (nm : ByteArray) (n d : Int) : Int := if argS PS p q h nm n d then 1 else if badT (sN PS p q nm n d) then 2 else 0
abbrev scV (PS : List Pt) (p q h : Int) (nm : ByteArray) (n d : Int) : DV := .tup [crV (scPs PS p q h nm n d) (scP PS p q h nm n d) (scQ PS p q h nm n d) (scH PS p q h nm n d), di (scE PS p q h nm n d)]
theorem nil_crV (e : Int) (k : IH) (v : Value) (hv : DV.rel k (.tup [nilC, di e]) v) : DV.rel k (.tup [crV [] 0 0 0, di e]) v := by
  obtain ⟨vs, rfl, v1, vs1, rfl, ⟨us, rfl, w1, us1, rfl, h1, h2⟩, h3⟩ := hv
  exact ⟨_, rfl, _, _, rfl, ⟨_, rfl, _, _, rfl, nil_slc h1, h2⟩, h3⟩
theorem sc_arg {PS : List Pt} {p q h : Int} {nm : ByteArray} {n d : Int} (ha : argS PS p q h nm n d = true) : scV PS p q h nm n d = .tup [crV [] 0 0 0, di 1] := by
  unfold scV scPs scP scQ scH scE; simp only [ha, if_true]
theorem sc_bad {PS : List Pt} {p q h : Int} {nm : ByteArray} {n d : Int} (ha : argS PS p q h nm n d = false) (hb : badT (sN PS p q nm n d) = true) : scV PS p q h nm n d = .tup [crV [] 0 0 0, di 2] := by
  unfold scV scPs scP scQ scH scE; simp only [ha, hb, if_true, Bool.false_eq_true, if_false]
theorem sc_good {PS : List Pt} {p q h : Int} {nm : ByteArray} {n d : Int} (ha : argS PS p q h nm n d = false) (hb : badT (sN PS p q nm n d) = false) : scV PS p q h nm n d = .tup [crV (sN PS p q nm n d).ps (sN PS p q nm n d).p (sN PS p q nm n d).q (hunF (sN PS p q nm n d).p (sN PS p q nm n d).q), di 0] := by
  unfold scV scPs scP scQ scH scE; simp only [ha, hb, Bool.false_eq_true, if_false]
theorem f22c (hZ : Glob G 0 zeroL) (PS : List Pt) (p q h : Int) (hS : ShortP PS) (hl : PS.length ≤ 100000) (nm : ByteArray) (hnm : nm.size ≤ 1000000) (n d : Int) :
    FnOK Tryz.prog G 22 [crV PS p q h, ds nm, fr n d] (scV PS p q h nm n d) := by
  cases ha : argS PS p q h nm n d with
  | true =>
    rw [sc_arg ha]
    exact FnOK.res (f22 hZ PS p q h hS hl nm hnm n d _ (fun _ => rfl) (fun h => by rw [ha] at h; cases h) (fun h => by rw [ha] at h; cases h)) (nil_crV 1)
  | false =>
    cases hb : badT (sN PS p q nm n d) with
    | true =>
      rw [sc_bad ha hb]
      exact FnOK.res (f22 hZ PS p q h hS hl nm hnm n d _ (fun h => by rw [ha] at h; cases h) (fun _ _ => rfl) (fun _ h => by rw [hb] at h; cases h)) (nil_crV 2)
    | false =>
      rw [sc_good ha hb]
      refine f22 hZ PS p q h hS hl nm hnm n d _ (fun h => by rw [ha] at h; cases h) (fun _ h => by rw [hb] at h; cases h) (fun _ _ f hf k v hv => ?_)
      obtain ⟨vs, rfl, v1, vs1, rfl, ⟨us, rfl, w1, us1, rfl, h1, h2⟩, h3⟩ := hv
      exact ⟨_, rfl, _, _, rfl, ⟨_, rfl, _, _, rfl, DV.rel_slc_congr hf h1, h2⟩, h3⟩
end Go.Proofs

/- Credits, plain: what is known of a valid credit, and of a scaled one. -/
set_option autoImplicit false
namespace Go.Proofs
open Go Go.Ab
theorem hun_le {a b c d : Int} (h1 : ok a b = true) (h2 : ok c d = true) (h : qv a b ≤ qv c d) : hunF a b ≤ hunF c d := by
  unfold hunF
  rw [if_pos h1, if_pos h2]
  refine hun_mono (ok_pos h1) (ok_pos h2) ?_
  have h3 := qv_lt (a := c) (b := d) (c := a) (d := b) (ok_pos h2) (ok_pos h1)
  refine Int.not_lt.1 fun hl => ?_
  have := h3.2 hl
  grind
theorem cmp_le {a b c d : Int} (h1 : ok a b = true) (h2 : ok c d = true) : cmpF a b c d ≤ 0 ↔ qv a b ≤ qv c d := by
  rw [cmpF_eq h1 h2]; unfold cmpR; grind
theorem cmp_ge {a b c d : Int} (h1 : ok a b = true) (h2 : ok c d = true) : cmpF a b c d ≥ 0 ↔ qv c d ≤ qv a b := by
  rw [cmpF_eq h1 h2]; unfold cmpR; grind
theorem vB_long {PS : List Pt} {p q h : Int} (hl : 1024 < PS.length) : vB PS p q h = false := by
  have e : sm3 (effs PS) = 1 := by
    unfold sm3 sumS
    rw [if_neg (fun hh => by have := hh.1; unfold effs at this; rw [List.length_map] at this; omega)]
  unfold vB
  rw [e]
  simp
/-- What is known of a credit that is valid. -/
structure VB (PS : List Pt) (p q h : Int) : Prop where
  names : ∀ x ∈ PS, nameB x.1 = true
  s3 : sm3 (effs PS) = 0
  s1 : sm1 (effs PS) = p
  s2 : sm2 (effs PS) = q
  okk : ok p q = true
  pos : 0 ≤ qv p q
  hun : hunF p q = h
  most : hunF p q ≤ 100000000
  len : PS.length ≤ 1024
theorem vB_of {PS : List Pt} {p q h : Int} (hv : vB PS p q h = true) : VB PS p q h := by
  have hl : PS.length ≤ 1024 := by
    refine Classical.byContradiction fun hh => ?_
    rw [vB_long (by omega)] at hv; cases hv
  unfold vB at hv
  simp only [Bool.and_eq_true, beq_iff_eq, decide_eq_true_eq, Bool.not_eq_true'] at hv
  obtain ⟨h1, ⟨⟨⟨⟨h2, h3, h4⟩, h5⟩, h6⟩, h7⟩, h8⟩ := hv
  have := (less_false h5 ok01).1 h6
  rw [qv01] at this
  exact ⟨fun x hx => List.all_eq_true.1 h1 x hx, h2, h3, h4, h5, by grind, h7, h8, hl⟩
theorem argS_false {PS : List Pt} {p q h : Int} {nm : ByteArray} {n d : Int} (ha : argS PS p q h nm n d = false) : VB PS p q h ∧ PS.length < 1024 ∧ nameB nm = true ∧ ok n d = true ∧ 0 ≤ qv n d ∧ qv n d ≤ 1 := by
  unfold argS at ha
  simp only [Bool.or_eq_false_iff, Bool.not_eq_false', decide_eq_false_iff_not] at ha
  obtain ⟨⟨⟨⟨⟨h1, h2⟩, h3⟩, h4⟩, h5⟩, h6⟩ := ha
  have a1 := (less_false h4 ok01).1 h5
  have a2 := (less_false (by decide) h4).1 h6
  rw [qv01] at a1
  have : qv 1 1 = 1 := by unfold qv; grind
  rw [this] at a2
  exact ⟨vB_of h1, by omega, h3, h4, by grind, by grind⟩
theorem sN_good {PS : List Pt} {p q : Int} {nm : ByteArray} {n d : Int} (hg : goodS PS p q n d) : sN PS p q nm n d = ⟨PS ++ [(nm, sub1 (mul1 p q n d) (mul2 p q n d) p q, sub2 (mul1 p q n d) (mul2 p q n d) p q)], mul1 p q n d, mul2 p q n d, false⟩ := by
  unfold sN become
  rw [if_pos ⟨rfl, hg⟩]; rfl
theorem mul_le {a b : Rat} (h0 : 0 ≤ a) (h1 : b ≤ 1) : a * b ≤ a := by
  have := Rat.mul_le_mul_of_nonneg_left h1 h0
  rwa [Rat.mul_one] at this
theorem sc_fine {PS : List Pt} {p q h : Int} {nm : ByteArray} {n d : Int} (ha : argS PS p q h nm n d = false) : badT (sN PS p q nm n d) = !decide (goodS PS p q n d) := by
  obtain ⟨hv, _, _, h4, h5, h6⟩ := argS_false ha
  by_cases hg : goodS PS p q n d
  · rw [sN_good hg, decide_eq_true hg]
    obtain ⟨k1, k2⟩ := (mulF_is hv.okk h4).val hg.1
    have hle : qv (mul1 p q n d) (mul2 p q n d) ≤ qv p q := by
      show qv (mulF p q n d).1 (mulF p q n d).2.1 ≤ _
      rw [k2]; exact mul_le hv.pos h6
    have := hun_le k1 hv.okk hle
    have := hv.most
    have k3 : ok (mul1 p q n d) (mul2 p q n d) = true := k1
    unfold badT
    simp only [k3, Bool.not_true, Bool.or_false, Bool.false_or]
    exact decide_eq_false (by
      show ¬ hunF (mulF p q n d).1 (mulF p q n d).2.1 > 100000000
      omega)
  · have : sN PS p q nm n d = { sT PS p q with wr := true } := by
      unfold sN become
      rw [if_neg (fun hh => hg hh.2)]
    rw [this, decide_eq_false hg]
    rfl
end Go.Proofs
