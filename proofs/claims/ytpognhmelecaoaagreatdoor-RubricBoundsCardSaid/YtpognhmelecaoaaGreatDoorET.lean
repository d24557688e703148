import Derived.Test.YtpognhmelecaoaaGreatDoorAcD
import Derived.Test.YtpognhmelecaoaaGreatDoorEP
import Derived.Test.YtpognhmelecaoaaGreatDoorES
import Derived.Test.YtpognhmelecaoaaGreatDoorEN
set_option autoImplicit false
namespace Go.Proofs
open Go Go.Ab Go.RowKit
set_option maxHeartbeats 4000000
set_option maxRecDepth 100000
variable {G : IH}
/-! The reference's extremes. -/
noncomputable def orcXt : Oracle := fun f a => match f, a with
  | 19, [fr a b, fr c d] => some (.tup [di (cmpO a b c d), db (ok2O a b c d)])
  | _, _ => none
def xsA (l : List Fr2) (k : Nat) : Int := (exS l k).a
def xsB (l : List Fr2) (k : Nat) : Int := (exS l k).b
def xsC (l : List Fr2) (k : Nat) : Int := (exS l k).c
def xsD (l : List Fr2) (k : Nat) : Int := (exS l k).d
noncomputable def S103 (l : List Fr2) (k : Nat) : AS := ⟨regs Tryz.f103.ntmps [(0, .d (fr2D l)), (4, .box 4 0), (5, .box 5 0), (7, .box 7 0), (8, .box 8 0), (9, vi ((k : Int) + 1))], [(4, [vi 0, vi 0]), (5, [vi 0, vi 0]), (7, [vi (xsA l k), vi (xsB l k)]), (8, [vi (xsC l k), vi (xsD l k)])]⟩
theorem f103 (l : List Fr2) (b : Bool) (hl : l.length ≤ 100000) (h0 : b = true → 0 < l.length) : FnOK Tryz.prog G 103 [fr2D l, db b] (.tup [fr (xtR l b).1.a (xtR l b).1.b, fr (xtR l b).1.c (xtR l b).1.d, db (xtR l b).2]) := by
  refine FnOK.walkK (orc := orcXt) (keep := []) follows Tryz.func103 rfl Tryz.call103 ?_
  refine of_tr (fun ZT ZW ZQ _ => ((((!b) = true) → (((.tup [(.agg [(di 0), (di 0)]), (.agg [(di 0), (di 0)]), (db false)]) : DV) = (.tup [(fr (xtR l b).fst.a (xtR l b).fst.b), (fr (xtR l b).fst.c (xtR l b).fst.d), (db (xtR l b).snd)]))) ∧ (((!b) = false) → (((((0 : Int) ≤ (0 : Int)) ∧ (0 < (↑l.length : Int))) ∧ ((0 : Int) ≤ (0 : Int)) ∧ (0 < (↑l.length : Int))) ∧ ZW [cd Tryz.f103 [1, 1, 1, 0, 1, 0], (.blk 0), cd Tryz.f103 [1, 1, 1, 1]] (stS ZT [1]) ZQ)))) (by kernel_rfl) ?_
  have hnil : b = false → xtR l b = (bd0, false) := fun h => by subst h; rfl
  refine ⟨fun h => ?_, fun h => ?_⟩
  · rw [hnil (by simpa using h)]
  have hb : b = true := by simpa using h
  have h0 := h0 hb
  have hx : xtR l b = (exS l (l.length - 1), true) := by subst hb; rfl
  rw [hx]
  refine ⟨⟨⟨by omega, by omega⟩, ⟨by omega, by omega⟩⟩, ?_⟩
  clear hx hnil
  refine AWP.loop (c := cAt (bodyOf Tryz.f103) [1, 1, 1, 0, 1, 0, 0]) (by kernel_rfl) (S103 l) (fun k => k + 1 ≤ l.length) (fun k => l.length - k) 0 ?_ (by omega) ?_
  · refine AS.leZ [] [2, 3] (b := ((T0 ∧ T0 ∧ T0 ∧ T0 ∧ T0 ∧ T0 ∧ True) ∧ T0 ∧ T0 ∧ ((some [(vi (l.getD (Int.toNat 0) (0, 0)).fst), (vi (l.getD (Int.toNat 0) (0, 0)).snd)]) : (Option (List AV))) = (some [(vi (xsA l 0)), (vi (xsB l 0))]) ∧ ((some [(vi (l.getD (Int.toNat 0) (0, 0)).fst), (vi (l.getD (Int.toNat 0) (0, 0)).snd)]) : (Option (List AV))) = (some [(vi (xsC l 0)), (vi (xsD l 0))]) ∧ True)) (by kernel_rfl) (by kernel_rfl) ?_
    exact ⟨⟨rfl, rfl, rfl, rfl, rfl, rfl, trivial⟩, rfl, rfl, rfl, rfl, trivial⟩
  · intro k hk
    have t1 : ((k : Int) + 1).toNat = k + 1 := by omega
    have eA : xsA l (k + 1) = leN (xsA l k) (xsB l k) (g2 l (k + 1)).1 (g2 l (k + 1)).2 := rfl
    have eB : xsB l (k + 1) = leD (xsA l k) (xsB l k) (g2 l (k + 1)).1 (g2 l (k + 1)).2 := rfl
    have eC : xsC l (k + 1) = grN (xsC l k) (xsD l k) (g2 l (k + 1)).1 (g2 l (k + 1)).2 := rfl
    have eD : xsD l (k + 1) = grD (xsC l k) (xsD l k) (g2 l (k + 1)).1 (g2 l (k + 1)).2 := rfl
    have a1 := cmpF_anti (xsA l k) (xsB l k) (g2 l (k + 1)).1 (g2 l (k + 1)).2
    have a2 := cmpF_anti (xsC l k) (xsD l k) (g2 l (k + 1)).1 (g2 l (k + 1)).2
    refine walkK (orc := orcXt) (keep := []) (cuts := []) (n := 1000) follows ?_
    refine of_rd (fun ZT ZW ZQ ZK ZA _ => (fun Za => ((((decide ((↑k : Int) + 1 < ↑l.length)) = true) → ((((0 ≤ (↑k : Int) + 1) ∧ ((↑k : Int) + 1 < ↑l.length)) ∧ ZK 19 [(.agg [(di Za.fst), (di Za.snd)]), (.agg [(di (xsA l k)), (di (xsB l k))])] (.tup [(di (cmpO Za.fst Za.snd (xsA l k) (xsB l k))), (db (ok2O Za.fst Za.snd (xsA l k) (xsB l k)))])) ∧ (((decide (cmpO Za.fst Za.snd (xsA l k) (xsB l k) < 0)) = true) → (((0 ≤ (↑k : Int) + 1) ∧ ((↑k : Int) + 1 < ↑l.length)) ∧ (((0 ≤ (↑k : Int) + 1) ∧ ((↑k : Int) + 1 < ↑l.length)) ∧ ZK 19 [(.agg [(di Za.fst), (di Za.snd)]), (.agg [(di (xsC l k)), (di (xsD l k))])] (.tup [(di (cmpO Za.fst Za.snd (xsC l k) (xsD l k))), (db (ok2O Za.fst Za.snd (xsC l k) (xsD l k)))])) ∧ (((decide (cmpO Za.fst Za.snd (xsC l k) (xsD l k) > 0)) = true) → (((0 ≤ (↑k : Int) + 1) ∧ ((↑k : Int) + 1 < ↑l.length)) ∧ (I64 (↑k + 1 + 1)) ∧ (ZA (stS ZT [0, 0, 0])))) ∧ (((decide (cmpO Za.fst Za.snd (xsC l k) (xsD l k) > 0)) = false) → ((I64 (↑k + 1 + 1)) ∧ (ZA (stS ZT [0, 0, 1])))))) ∧ (((decide (cmpO Za.fst Za.snd (xsA l k) (xsB l k) < 0)) = false) → ((((0 ≤ (↑k : Int) + 1) ∧ ((↑k : Int) + 1 < ↑l.length)) ∧ ZK 19 [(.agg [(di Za.fst), (di Za.snd)]), (.agg [(di (xsC l k)), (di (xsD l k))])] (.tup [(di (cmpO Za.fst Za.snd (xsC l k) (xsD l k))), (db (ok2O Za.fst Za.snd (xsC l k) (xsD l k)))])) ∧ (((decide (cmpO Za.fst Za.snd (xsC l k) (xsD l k) > 0)) = true) → (((0 ≤ (↑k : Int) + 1) ∧ ((↑k : Int) + 1 < ↑l.length)) ∧ (I64 (↑k + 1 + 1)) ∧ (ZA (stS ZT [0, 1, 0])))) ∧ (((decide (cmpO Za.fst Za.snd (xsC l k) (xsD l k) > 0)) = false) → ((I64 (↑k + 1 + 1)) ∧ (ZA (stS ZT [0, 1, 1])))))))) ∧ (((decide ((↑k : Int) + 1 < ↑l.length)) = false) → ZW [cd Tryz.f103 [1, 1, 1, 1]] (stS ZT [1]) ZQ))) (l.getD ((↑k : Int) + 1).toNat (0, 0))) (by kernel_rfl) ?_
    simp only [t1]
    refine ⟨fun h1 => ?_, fun h1 => ?_⟩
    · have hk2 : k + 1 < l.length := by have := of_decide_eq_true h1; omega
      have e2 : l.getD (k + 1) (0, 0) = g2 l (k + 1) := rfl
      simp only [e2]
      have p1 : ∀ c : Bool, decide (cmpO (g2 l (k + 1)).1 (g2 l (k + 1)).2 (xsA l k) (xsB l k) < 0) = c → (xsA l (k + 1), xsB l (k + 1)) = if c then g2 l (k + 1) else (xsA l k, xsB l k) := fun c hc => by
        rw [eA, eB]
        unfold leN leD
        cases c with
        | true => have hc := of_decide_eq_true hc; unfold cmpO at hc ⊢; rw [if_pos (by omega), if_pos (by omega)]; rfl
        | false => have hc := of_decide_eq_false hc; unfold cmpO at hc ⊢; rw [if_neg (by omega), if_neg (by omega)]; rfl
      have p2 : ∀ c : Bool, decide (cmpO (g2 l (k + 1)).1 (g2 l (k + 1)).2 (xsC l k) (xsD l k) > 0) = c → (xsC l (k + 1), xsD l (k + 1)) = if c then g2 l (k + 1) else (xsC l k, xsD l k) := fun c hc => by
        rw [eC, eD]
        unfold grN grD
        cases c with
        | true => have hc := of_decide_eq_true hc; unfold cmpO at hc ⊢; rw [if_pos (by omega), if_pos (by omega)]; rfl
        | false => have hc := of_decide_eq_false hc; unfold cmpO at hc ⊢; rw [if_neg (by omega), if_neg (by omega)]; rfl
      refine ⟨⟨⟨by omega, by omega⟩, f19 _ _ _ _⟩, fun c1 => ⟨⟨by omega, by omega⟩, ⟨⟨by omega, by omega⟩, f19 _ _ _ _⟩, fun c2 => ⟨⟨by omega, by omega⟩, ⟨by omega, by omega⟩, Again.mk (k + 1) ?_ (by omega) (by omega)⟩, fun c2 => ⟨⟨by omega, by omega⟩, Again.mk (k + 1) ?_ (by omega) (by omega)⟩⟩, fun c1 => ⟨⟨⟨by omega, by omega⟩, f19 _ _ _ _⟩, fun c2 => ⟨⟨by omega, by omega⟩, ⟨by omega, by omega⟩, Again.mk (k + 1) ?_ (by omega) (by omega)⟩, fun c2 => ⟨⟨by omega, by omega⟩, Again.mk (k + 1) ?_ (by omega) (by omega)⟩⟩⟩
      · have qa : xsA l (k + 1) = (g2 l (k + 1)).1 := congrArg Prod.fst (p1 true c1)
        have qb : xsB l (k + 1) = (g2 l (k + 1)).2 := congrArg Prod.snd (p1 true c1)
        have qc : xsC l (k + 1) = (g2 l (k + 1)).1 := congrArg Prod.fst (p2 true c2)
        have qd : xsD l (k + 1) = (g2 l (k + 1)).2 := congrArg Prod.snd (p2 true c2)
        refine AS.leZ [5] [2, 3] (b := ((T0 ∧ T0 ∧ T0 ∧ T0 ∧ T0 ∧ ((vi (↑k + 1 + 1)) : AV) = (vi (↑(k + 1) + 1)) ∧ True) ∧ T0 ∧ T0 ∧ ((some [(vi (l.getD ((↑k : Int) + 1).toNat (0, 0)).fst), (vi (l.getD ((↑k : Int) + 1).toNat (0, 0)).snd)]) : (Option (List AV))) = (some [(vi (xsA l (k + 1))), (vi (xsB l (k + 1)))]) ∧ ((some [(vi (l.getD ((↑k : Int) + 1).toNat (0, 0)).fst), (vi (l.getD ((↑k : Int) + 1).toNat (0, 0)).snd)]) : (Option (List AV))) = (some [(vi (xsC l (k + 1))), (vi (xsD l (k + 1)))]) ∧ True)) (by kernel_rfl) (by kernel_rfl) ?_
        rw [qa, qb, qc, qd]
        exact ⟨⟨rfl, rfl, rfl, rfl, rfl, by rw [show ((k : Int) + 1 + 1) = ((k + 1 : Nat) : Int) + 1 by omega], trivial⟩, rfl, rfl, rfl, rfl, trivial⟩
      · have qa : xsA l (k + 1) = (g2 l (k + 1)).1 := congrArg Prod.fst (p1 true c1)
        have qb : xsB l (k + 1) = (g2 l (k + 1)).2 := congrArg Prod.snd (p1 true c1)
        have qc : xsC l (k + 1) = xsC l k := congrArg Prod.fst (p2 false c2)
        have qd : xsD l (k + 1) = xsD l k := congrArg Prod.snd (p2 false c2)
        refine AS.leZ [5] [2, 3] (b := ((T0 ∧ T0 ∧ T0 ∧ T0 ∧ T0 ∧ ((vi (↑k + 1 + 1)) : AV) = (vi (↑(k + 1) + 1)) ∧ True) ∧ T0 ∧ T0 ∧ ((some [(vi (l.getD ((↑k : Int) + 1).toNat (0, 0)).fst), (vi (l.getD ((↑k : Int) + 1).toNat (0, 0)).snd)]) : (Option (List AV))) = (some [(vi (xsA l (k + 1))), (vi (xsB l (k + 1)))]) ∧ ((some [(vi (xsC l k)), (vi (xsD l k))]) : (Option (List AV))) = (some [(vi (xsC l (k + 1))), (vi (xsD l (k + 1)))]) ∧ True)) (by kernel_rfl) (by kernel_rfl) ?_
        rw [qa, qb, qc, qd]
        exact ⟨⟨rfl, rfl, rfl, rfl, rfl, by rw [show ((k : Int) + 1 + 1) = ((k + 1 : Nat) : Int) + 1 by omega], trivial⟩, rfl, rfl, rfl, rfl, trivial⟩
      · have qa : xsA l (k + 1) = xsA l k := congrArg Prod.fst (p1 false c1)
        have qb : xsB l (k + 1) = xsB l k := congrArg Prod.snd (p1 false c1)
        have qc : xsC l (k + 1) = (g2 l (k + 1)).1 := congrArg Prod.fst (p2 true c2)
        have qd : xsD l (k + 1) = (g2 l (k + 1)).2 := congrArg Prod.snd (p2 true c2)
        refine AS.leZ [5] [2, 3] (b := ((T0 ∧ T0 ∧ T0 ∧ T0 ∧ T0 ∧ ((vi (↑k + 1 + 1)) : AV) = (vi (↑(k + 1) + 1)) ∧ True) ∧ T0 ∧ T0 ∧ ((some [(vi (xsA l k)), (vi (xsB l k))]) : (Option (List AV))) = (some [(vi (xsA l (k + 1))), (vi (xsB l (k + 1)))]) ∧ ((some [(vi (l.getD ((↑k : Int) + 1).toNat (0, 0)).fst), (vi (l.getD ((↑k : Int) + 1).toNat (0, 0)).snd)]) : (Option (List AV))) = (some [(vi (xsC l (k + 1))), (vi (xsD l (k + 1)))]) ∧ True)) (by kernel_rfl) (by kernel_rfl) ?_
        rw [qa, qb, qc, qd]
        exact ⟨⟨rfl, rfl, rfl, rfl, rfl, by rw [show ((k : Int) + 1 + 1) = ((k + 1 : Nat) : Int) + 1 by omega], trivial⟩, rfl, rfl, rfl, rfl, trivial⟩
      · have qa : xsA l (k + 1) = xsA l k := congrArg Prod.fst (p1 false c1)
        have qb : xsB l (k + 1) = xsB l k := congrArg Prod.snd (p1 false c1)
        have qc : xsC l (k + 1) = xsC l k := congrArg Prod.fst (p2 false c2)
        have qd : xsD l (k + 1) = xsD l k := congrArg Prod.snd (p2 false c2)
        refine AS.leZ [5] [2, 3] (b := ((T0 ∧ T0 ∧ T0 ∧ T0 ∧ T0 ∧ ((vi (↑k + 1 + 1)) : AV) = (vi (↑(k + 1) + 1)) ∧ True) ∧ T0 ∧ T0 ∧ ((some [(vi (xsA l k)), (vi (xsB l k))]) : (Option (List AV))) = (some [(vi (xsA l (k + 1))), (vi (xsB l (k + 1)))]) ∧ ((some [(vi (xsC l k)), (vi (xsD l k))]) : (Option (List AV))) = (some [(vi (xsC l (k + 1))), (vi (xsD l (k + 1)))]) ∧ True)) (by kernel_rfl) (by kernel_rfl) ?_
        rw [qa, qb, qc, qd]
        exact ⟨⟨rfl, rfl, rfl, rfl, rfl, by rw [show ((k : Int) + 1 + 1) = ((k + 1 : Nat) : Int) + 1 by omega], trivial⟩, rfl, rfl, rfl, rfl, trivial⟩
    · have h1 := of_decide_eq_false h1
      obtain rfl : k = l.length - 1 := by omega
      refine walkK (orc := orcXt) (keep := []) (cuts := []) (n := 1000) follows ?_
      refine of_tr (fun _ _ _ _ => (((.tup [(.agg [(di (xsA l (l.length - 1))), (di (xsB l (l.length - 1)))]), (.agg [(di (xsC l (l.length - 1))), (di (xsD l (l.length - 1)))]), (db true)]) : DV) = (.tup [(fr (exS l (l.length - 1)).a (exS l (l.length - 1)).b), (fr (exS l (l.length - 1)).c (exS l (l.length - 1)).d), (db true)]))) (by kernel_rfl) ?_
      rfl
end Go.Proofs
set_option autoImplicit false
namespace Go.Proofs
open Go Go.Ab Go.RowKit
set_option maxHeartbeats 4000000
set_option maxRecDepth 100000
variable {G : IH}
/-! The reference's bounds. -/
def rdP (d : DV) : Fr2 := match d with | .agg [.con (.int _ a), .con (.int _ b)] => (a, b) | _ => (0, 0)
def rd2 (d : DV) : List Fr2 := match d with | .slc _ n f => (List.range n).map fun i => rdP (f i) | _ => []
theorem rd2_eq (l : List Fr2) : rd2 (.slc 2 l.length (fr2 l)) = l := by
  show (List.range l.length).map (fun i => rdP (fr2 l i)) = l
  refine List.ext_getElem (by simp) fun i h1 h2 => ?_
  simp only [List.getElem_map, List.getElem_range]
  unfold fr2 rdP
  rw [List.getD, List.getElem?_eq_getElem h2]; rfl
noncomputable def orcRbd (L : List Fc) : Oracle := fun f a => match f, a with
  | 59, [e, _] => some (.tup [fr (brE L (rdE e)).1.a (brE L (rdE e)).1.b, fr (brE L (rdE e)).1.c (brE L (rdE e)).1.d, db (brE L (rdE e)).2])
  | 55, [_, .con (.string s)] => some (di (fndI L s))
  | 17, [fr a b] => some (fr (neN a b) b)
  | 102, [fr a b, fr c d] => some (fe' (addF a b c d))
  | 104, [fr a b, fr c d] => some (fe' (subF a b c d))
  | 105, [fr a b, fr c d] => some (fe' (mulF a b c d))
  | 106, [fr a b, fr c d] => some (fe' (divF a b c d))
  | 103, [w, .con (.bool b)] => some (.tup [fr (xtR (rd2 w) b).1.a (xtR (rd2 w) b).1.b, fr (xtR (rd2 w) b).1.c (xtR (rd2 w) b).1.d, db (xtR (rd2 w) b).2])
  | _, _ => none
noncomputable def orcRb (L : List Fc) : Orc := { d := orcRbd L, rows := fun n => Nat.beq n 41 || Nat.beq n 42 || Nat.beq n 197 }
def rowLo (L : List Fc) (x : Ex) : Nat → Nat → DV := rowRec (fun _ => DV.con undef) true 2 fun j => [di (brE L (x.kids.getD j ex0)).1.a, di (brE L (x.kids.getD j ex0)).1.b]
def rowHi (L : List Fc) (x : Ex) : Nat → Nat → DV := rowRec (fun _ => DV.con undef) true 2 fun j => [di (brE L (x.kids.getD j ex0)).1.c, di (brE L (x.kids.getD j ex0)).1.d]
theorem rowLo_next {L : List Fc} {x : Ex} (k : Nat) {p q : Int} (hp : p = (brE L (x.kids.getD k ex0)).1.a) (hq : q = (brE L (x.kids.getD k ex0)).1.b) : (fun i => bif Nat.blt i k then rowLo L x k i else elemF true 2 [di p, di q] (i - k)) = rowLo L x (k + 1) := by
  subst hp; subst hq; rfl
theorem rowHi_next {L : List Fc} {x : Ex} (k : Nat) {p q : Int} (hp : p = (brE L (x.kids.getD k ex0)).1.c) (hq : q = (brE L (x.kids.getD k ex0)).1.d) : (fun i => bif Nat.blt i k then rowHi L x k i else elemF true 2 [di p, di q] (i - k)) = rowHi L x (k + 1) := by
  subst hp; subst hq; rfl
noncomputable def S59 (L : List Fc) (m : Nat) (x : Ex) (k : Nat) : AS := ⟨regs Tryz.f59.ntmps [(1, .d (fcsD L)), (2, .box 2 0), (4, .box 4 0), (5, .box 5 0), (7, .vec 900 2 0 k), (8, .vec 901 2 0 k), (9, vi k)], [(2, exC m x), (4, [vi 0, vi 0]), (5, [vi 0, vi 0]), (900, [.arr frK 2 (rowLo L x k)]), (901, [.arr frK 2 (rowHi L x k)])]⟩
theorem f103t (p q : Fr2) (b : Bool) : FnOK Tryz.prog G 103 [.slc 2 2 (elemF true 2 [di p.1, di p.2, di q.1, di q.2]), db b] (.tup [fr (xtR [p, q] b).1.a (xtR [p, q] b).1.b, fr (xtR [p, q] b).1.c (xtR [p, q] b).1.d, db (xtR [p, q] b).2]) :=
  (f103 [p, q] b (by simp) (fun _ => by simp)).args fun k us h => DV.rels_cons (fun v hv => two_rel hv) (fun _ h => h) us h
def rowX (op : Int → Int → Int → Int → FE) (p q : Bd) : Nat → Nat → DV := rowRec (fun _ => DV.con undef) true 2 fun n => [di (rcR op p q n).1, di (rcR op p q n).2.1]
def okS (op : Int → Int → Int → Int → FE) (st : Bool) (p q : Bd) (i : Nat) : Bool := st && !((List.range i).any fun n => (rcR op p q n).2.2 != 0)
theorem rowX_next {op : Int → Int → Int → Int → FE} {p q : Bd} (k : Nat) {a b : Int} (ha : a = (rcR op p q k).1) (hb : b = (rcR op p q k).2.1) : (fun i => bif Nat.blt i k then rowX op p q k i else elemF true 2 [di a, di b] (i - k)) = rowX op p q (k + 1) := by
  subst ha; subst hb; rfl
theorem rowX_get {op : Int → Int → Int → Int → FE} {p q : Bd} {k i : Nat} (h : i < k) : rowX op p q k (0 + i) = fr2 (rcL op p q k) i := by
  rw [Nat.zero_add]
  have e : (rcL op p q k).getD i (0, 0) = _ := rcL_get op p q h
  unfold rowX fr2
  rw [rowRec_get h, e]; rfl
theorem ok_step {op : Int → Int → Int → Int → FE} {st : Bool} {p q : Bd} {i : Nat} (h : okS op st p q i = true) : okS op st p q (i + 1) = ((rcR op p q i).2.2 == 0) := by
  unfold okS at h ⊢
  rw [List.range_succ, List.any_append]
  simp only [Bool.and_eq_true, Bool.not_eq_true'] at h
  rw [h.1, h.2]
  simp only [List.any_cons, List.any_nil, Bool.or_false, Bool.false_or, Bool.true_and, bne, Bool.not_not]
theorem ok_end {op : Int → Int → Int → Int → FE} {st : Bool} {p q : Bd} {i : Nat} (hi : i ≤ 4) (h : (decide ((i : Int) < 4) && okS op st p q i) = false) : (okS op st p q i = true → i = 4) ∧ xtR (rcL op p q i) (okS op st p q i) = xtR (rcL op p q 4) (st && !rcBad op p q) := by
  cases hk : okS op st p q i with
  | true =>
    rw [hk, Bool.and_true, decide_eq_false_iff_not] at h
    obtain rfl : i = 4 := by omega
    refine ⟨fun _ => rfl, ?_⟩
    rw [← hk]; rfl
  | false =>
    refine ⟨fun h => (by cases h), ?_⟩
    have : (st && !rcBad op p q) = false := by
      unfold okS at hk
      unfold rcBad
      rw [Bool.and_eq_false_iff] at hk ⊢
      refine hk.imp id fun h2 => ?_
      rw [Bool.not_eq_false'] at h2 ⊢
      rw [List.any_eq_true] at h2 ⊢
      obtain ⟨n, hn, h3⟩ := h2
      exact ⟨n, List.mem_range.2 (by have := List.mem_range.1 hn; omega), h3⟩
    rw [this]; rfl
section
variable {op : Int → Int → Int → Int → FE} {p q : Bd} {i : Nat}
theorem rcR_ll (h1 : i % 2 = 0) (h2 : i / 2 = 0) : rcR op p q i = op p.a p.b q.a q.b := by unfold rcR; rw [h1, h2]; rfl
theorem rcR_hl (h1 : i % 2 = 1) (h2 : i / 2 = 0) : rcR op p q i = op p.c p.d q.a q.b := by unfold rcR; rw [h1, h2]; rfl
theorem rcR_lh (h1 : i % 2 = 0) (h2 : i / 2 = 1) : rcR op p q i = op p.a p.b q.c q.d := by unfold rcR; rw [h1, h2]; rfl
theorem rcR_hh (h1 : i % 2 = 1) (h2 : i / 2 = 1) : rcR op p q i = op p.c p.d q.c q.d := by unfold rcR; rw [h1, h2]; rfl
end
noncomputable def S59c (op : Int → Int → Int → Int → FE) (st : Bool) (R : List BR) (p q : Bd) (m : Nat) (x : Ex) (i : Nat) : AS := ⟨regs Tryz.f59.ntmps [(2, .box 2 0), (4, .box 4 0), (5, .box 5 0), (7, .d (fr2D (lows R))), (8, .d (fr2D (highs R))), (22, vb (okS op st p q i)), (23, .vec 902 2 0 i), (24, vi i)], [(2, exC m x), (4, [vi 0, vi 0]), (5, [vi 0, vi 0]), (902, [.arr frK 2 (rowX op p q i)])]⟩
theorem f59 (L : List Fc) (hv : VF L) (hl : L.length ≤ 1000) (m : Nat) : ∀ (x : Ex), ht x ≤ m → Sm x → sndE x = true → (tyW L x).2.2 = 0 → (tyW L x).1 = 0 →
    FnOK Tryz.prog G 59 [exD m x, fcsD L] (.tup [fr (brE L x).1.a (brE L x).1.b, fr (brE L x).1.c (brE L x).1.d, db (brE L x).2]) := by
  induction m using Nat.strongRecOn with
  | _ m ih =>
  intro x hx hs hsn hty hty0
  have hlen := hs.len.1
  have hnum := num_of _ _ (Nat.le_refl _) hsn hty hty0
  have hkn := numE_k hnum
  have hkid : ∀ i, i < x.kids.length → (tyW L (x.kids.getD i ex0)).2.2 = 0 ∧ (tyW L (x.kids.getD i ex0)).1 = 0 := fun i hi => ⟨(tyE_fine hty).1 i hi, (ty_kids hty).1 (.inl (by
    refine Classical.byContradiction fun hn => ?_
    have := @snd_leaf x hsn (by omega)
    rw [this] at hi; simp at hi)) i hi⟩
  have h59 : ∀ i, i < x.kids.length → FnOK Tryz.prog G 59 [kidA m x i, fcsD L] (.tup [fr (brE L (x.kids.getD i ex0)).1.a (brE L (x.kids.getD i ex0)).1.b, fr (brE L (x.kids.getD i ex0)).1.c (brE L (x.kids.getD i ex0)).1.d, db (brE L (x.kids.getD i ex0)).2]) := fun i hi =>
    kidOK (Q := fun d => FnOK Tryz.prog G 59 [d, fcsD L] _) hx hi fun m' h1 h2 => ih m' h1 _ h2 (hs.kid hi) (snd_kid hsn hi) (hkid i hi).1 (hkid i hi).2
  have hfn : x.k = 2 → fndI L x.s ≥ 0 := fun h => by
    have hh := ((ty_node hsn hty).2.2 h).1
    rw [fnd_fH]
    cases hc : fH (revF L L.length) (.string x.s) with
    | true => rfl
    | false =>
      exfalso
      have hh : (tyE (revF L L.length) (revW L L.length) x).1 = _ := hh
      have h0 : (tyE (revF L L.length) (revW L L.length) x).1 = 0 := hty0
      have h2 := ((ty_node hsn hty).2.2 h).2
      rw [h0] at hh
      unfold nmK at hh h2
      rw [if_neg (by rw [hc]; decide)] at hh h2
      split at hh
      · simp at hh
      · rename_i hw
        rw [if_neg hw] at h2
        simp at h2
  have eb := brE_eq L x
  refine FnOK.walkK (orc := orcRb L) (keep := []) follows Tryz.func59 rfl Tryz.call59 ?_
  refine of_tr (fun ZT ZW ZQ _ => ZW [cd Tryz.f59 [1, 1, 0, 1, 0], (.blk 0), cd Tryz.f59 [1, 1, 1]] (stS ZT []) ZQ) (by kernel_rfl) ?_
  refine AWP.pre (.moves [(41, 900), (42, 901)] _ rfl) ?_
  refine AWP.loop (c := cAt (bodyOf Tryz.f59) [1, 1, 0, 1, 0, 0]) (by kernel_rfl) (S59 L m x) (fun k => k ≤ x.kids.length ∧ ∀ i, i < k → (brE L (x.kids.getD i ex0)).2 = true) (fun k => x.kids.length - k) 0 ?_ ⟨Nat.zero_le _, fun i hi => absurd hi (Nat.not_lt_zero _)⟩ ?_
  · refine AS.leZ [] [3, 4] (b := ((T0 ∧ T0 ∧ T0 ∧ T0 ∧ T0 ∧ T0 ∧ T0 ∧ True) ∧ T0 ∧ T0 ∧ T0 ∧ ((some [(.arr ⟨true, 23, false, none⟩ 2 (fun x => DV.con undef))]) : (Option (List AV))) = (some [(.arr ⟨true, 23, false, none⟩ 2 (rowLo L x 0))]) ∧ ((some [(.arr ⟨true, 23, false, none⟩ 2 (fun x => DV.con undef))]) : (Option (List AV))) = (some [(.arr ⟨true, 23, false, none⟩ 2 (rowHi L x 0))]) ∧ True)) (by kernel_rfl) (by kernel_rfl) ?_
    exact ⟨⟨rfl, rfl, rfl, rfl, rfl, rfl, rfl, trivial⟩, rfl, rfl, rfl, rfl, rfl, trivial⟩
  · rintro k ⟨hk, hkd⟩
    refine walkK (orc := orcRb L) (keep := []) (cuts := []) (n := 1000) follows ?_
    refine of_rd (fun ZT ZW ZQ ZK ZA _ => (fun Za => ((((decide ((↑k : Int) < ↑x.kids.length)) = true) → ((((0 ≤ (↑k : Int)) ∧ ((↑k : Int) < ↑x.kids.length)) ∧ ZK 59 [(ndA m (x.kids.getD (↑k : Int).toNat ex0)), (.slc 7 L.length (fcF L))] (.tup [(.agg [(di Za.fst.a), (di Za.fst.b)]), (.agg [(di Za.fst.c), (di Za.fst.d)]), (db Za.snd)])) ∧ (((!Za.snd) = true) → (((.tup [(.agg [(di 0), (di 0)]), (.agg [(di 0), (di 0)]), (db false)]) : DV) = (.tup [(fr (brE L x).fst.a (brE L x).fst.b), (fr (brE L x).fst.c (brE L x).fst.d), (db (brE L x).snd)]))) ∧ (((!Za.snd) = false) → (((((k + 1) * 16 ≤ 1099511627776) ∧ (k + 1 ≤ 1099511627776)) ∧ (∀ (i : Nat), i < 1 → elemOK true 2 (elemF true 2 [DV.con (Value.int IntKind.i64 Za.fst.a), DV.con (Value.int IntKind.i64 Za.fst.b)] i) = true) ∧ (((k + 1) * 16 ≤ 1099511627776) ∧ (k + 1 ≤ 1099511627776)) ∧ (∀ (i : Nat), i < 1 → elemOK true 2 (elemF true 2 [DV.con (Value.int IntKind.i64 Za.fst.c), DV.con (Value.int IntKind.i64 Za.fst.d)] i) = true)) ∧ (I64 (↑k + 1)) ∧ (ZA (stS ZT [0, 1])))))) ∧ (((decide ((↑k : Int) < ↑x.kids.length)) = false) → ZW [cd Tryz.f59 [1, 1, 1]] (stS ZT [1]) ZQ))) (brE L (rdE (ndA m (x.kids.getD (↑k : Int).toNat ex0))))) (by kernel_rfl) ?_
    simp only [Int.toNat_natCast]
    refine ⟨fun h => ?_, fun h => ?_⟩
    · have hk2 : k < x.kids.length := by have := of_decide_eq_true h; omega
      have er : rdE (kidA m x k) = x.kids.getD k ex0 := kid_rd hx hk2
      have hh := h59 k hk2
      have hx1 : ¬ x.k = 1 ∧ ¬ x.k = 2 := by
        refine Classical.byContradiction fun hn => ?_
        have := @snd_leaf x hsn (by omega)
        rw [this] at hk2; simp at hk2
      simp only [er]
      refine ⟨⟨⟨by omega, by omega⟩, hh⟩, fun h2 => ?_, fun h2 => ⟨⟨⟨by omega, by omega⟩, fun i hi => (by obtain rfl : i = 0 := (by omega); rfl), ⟨by omega, by omega⟩, fun i hi => (by obtain rfl : i = 0 := (by omega); rfl)⟩, ⟨by omega, by omega⟩, Again.mkR [(68, 900), (72, 901)] rfl (k + 1) ?_ ⟨hk2, fun i hi => ?_⟩ (by omega)⟩⟩
      · rw [Bool.not_eq_true'] at h2
        have : ((brL L x.kids).any fun r => !r.2) = true := by
          rw [List.any_eq_true, brL_map]
          exact ⟨brE L (x.kids.getD k ex0), List.mem_map.2 ⟨_, kid_mem hk2, rfl⟩, by rw [h2]; rfl⟩
        rw [eb, if_neg hx1.1, if_neg hx1.2, if_pos this]
      · refine AS.leZ [] [3, 4] (b := ((T0 ∧ T0 ∧ T0 ∧ T0 ∧ T0 ∧ T0 ∧ T0 ∧ True) ∧ T0 ∧ T0 ∧ T0 ∧ ((some [(.arr ⟨true, 23, false, none⟩ 2 (fun i => bif i.blt k then rowLo L x k i else elemF true 2 [DV.con (Value.int IntKind.i64 (brE L (rdE (ndA m (x.kids.getD (↑k : Int).toNat ex0)))).fst.a), DV.con (Value.int IntKind.i64 (brE L (rdE (ndA m (x.kids.getD (↑k : Int).toNat ex0)))).fst.b)] (i - k)))]) : (Option (List AV))) = (some [(.arr ⟨true, 23, false, none⟩ 2 (rowLo L x (k + 1)))]) ∧ ((some [(.arr ⟨true, 23, false, none⟩ 2 (fun i => bif i.blt k then rowHi L x k i else elemF true 2 [DV.con (Value.int IntKind.i64 (brE L (rdE (ndA m (x.kids.getD (↑k : Int).toNat ex0)))).fst.c), DV.con (Value.int IntKind.i64 (brE L (rdE (ndA m (x.kids.getD (↑k : Int).toNat ex0)))).fst.d)] (i - k)))]) : (Option (List AV))) = (some [(.arr ⟨true, 23, false, none⟩ 2 (rowHi L x (k + 1)))]) ∧ True)) (by kernel_rfl) (by kernel_rfl) ?_
        refine ⟨⟨rfl, rfl, rfl, rfl, rfl, rfl, rfl, trivial⟩, rfl, rfl, rfl, ?_, ?_, trivial⟩
        · exact congrArg (fun f => some [AV.arr frK 2 f]) (rowLo_next k (congrArg (fun y => (brE L y).1.a) er) (congrArg (fun y => (brE L y).1.b) er))
        · exact congrArg (fun f => some [AV.arr frK 2 f]) (rowHi_next k (congrArg (fun y => (brE L y).1.c) er) (congrArg (fun y => (brE L y).1.d) er))
      · rcases Nat.lt_or_ge i k with h4 | h4
        · exact hkd i h4
        · obtain rfl : i = k := by omega
          simpa using h2
    · have h := of_decide_eq_false h
      obtain rfl : k = x.kids.length := by omega
      have hany : ((brL L x.kids).any fun r => !r.2) = false := by
        rw [List.any_eq_false, brL_map]
        intro r hr
        obtain ⟨y, hy, rfl⟩ := List.mem_map.1 hr
        obtain ⟨i, hi, rfl⟩ := List.getElem_of_mem hy
        have := hkd i hi
        rw [List.getD, List.getElem?_eq_getElem hi] at this
        rw [show (brE L x.kids[i]).2 = true from this]; decide
      rw [hany] at eb
      have hRl : (brL L x.kids).length = x.kids.length := by rw [brL_map, List.length_map]
      have hlo : (lows (brL L x.kids)).length = x.kids.length := by unfold lows; rw [List.length_map, hRl]
      have hhi : (highs (brL L x.kids)).length = x.kids.length := by unfold highs; rw [List.length_map, hRl]
      refine AWP.freeze (agg := frK) (sz := 2) (f := rowLo L x x.kids.length) 900 (by kernel_rfl) ?_
      refine AWP.freeze (agg := frK) (sz := 2) (f := rowHi L x x.kids.length) 901 (by kernel_rfl) ?_
      refine AWP.pre (.regD _ 7 (.slc 2 x.kids.length fun i => rowLo L x x.kids.length (0 + i)) (fr2D (lows (brL L x.kids))) (by kernel_rfl) fun h v hv => ?_) ?_
      · show DV.rel h (.slc 2 (lows (brL L x.kids)).length _) v
        rw [hlo]
        refine DV.rel_slc_congr (fun i hi => ?_) hv
        rw [Nat.zero_add]
        unfold rowLo fr2
        rw [rowRec_get hi, lows_get, brL_get hi]; rfl
      refine AWP.pre (.regD _ 8 (.slc 2 x.kids.length fun i => rowHi L x x.kids.length (0 + i)) (fr2D (highs (brL L x.kids))) (by kernel_rfl) fun h v hv => ?_) ?_
      · show DV.rel h (.slc 2 (highs (brL L x.kids)).length _) v
        rw [hhi]
        refine DV.rel_slc_congr (fun i hi => ?_) hv
        rw [Nat.zero_add]
        unfold rowHi fr2
        rw [rowRec_get hi, highs_get, brL_get hi]; rfl
      have hone := @snd_one x hsn
      have htwo := @snd_two x hsn
      have hmany := @snd_many x hsn
      have k1 : x.k = 5 → 1 ≤ x.kids.length := fun h => by have := hone (.inl h); omega
      have k2 : x.k = 6 ∨ x.k = 7 ∨ x.k = 8 ∨ x.k = 9 → 2 ≤ x.kids.length := fun h => by have := (htwo (by omega)).1; omega
      have k10 : x.k = 10 ∨ x.k = 11 → 1 ≤ x.kids.length := hmany
      have t0 : Int.toNat 0 = 0 := rfl
      have t1 : Int.toNat 1 = 1 := rfl
      have r4 : ∀ a b c d : Int, rd2 (.slc 2 2 (elemF true 2 [di a, di b, di c, di d])) = [(a, b), (c, d)] := fun _ _ _ _ => rfl
      generalize brL L x.kids = R at *
      have ebk : ¬ x.k = 1 → ¬ x.k = 2 → brE L x = brC x.k R := fun h1 h2 => by rw [eb, if_neg h1, if_neg h2, if_neg (by decide)]
      clear ih h59 hkd hk hany
      refine walkK (orc := orcRb L) (keep := []) (cuts := []) (n := 1000) follows ?_
      refine of_tr (fun ZT ZW ZQ ZK => (fun Za Zb Zc Zd Ze Zf Zg Zh Zi => ((((x.k == 1) = true) → (((.tup [(.agg [(di x.n), (di x.d)]), (.agg [(di x.n), (di x.d)]), (db true)]) : DV) = Zi)) ∧ (((x.k == 1) = false) → ((((x.k == 2) = true) → (ZK 55 [(.slc 7 L.length (fcF L)), (ds x.s)] (di (fndI L x.s)) ∧ (((0 ≤ fndI L x.s) ∧ (fndI L x.s < ↑L.length)) ∧ (0 ≤ fndI L x.s) ∧ (fndI L x.s < ↑L.length)) ∧ ((.tup [(.agg [(di (L.getD (fndI L x.s).toNat fc0).ln), (di (L.getD (fndI L x.s).toNat fc0).ld)]), (.agg [(di (L.getD (fndI L x.s).toNat fc0).hn), (di (L.getD (fndI L x.s).toNat fc0).hd)]), (db true)]) : DV) = Zi)) ∧ (((x.k == 2) = false) → ((((x.k == 5) = true) → (((((0 : Int) ≤ (0 : Int)) ∧ (0 < (↑(highs R).length : Int))) ∧ ZK 17 [(.agg [(di Ze.fst), (di Ze.snd)])] (.agg [(di (neN Ze.fst Ze.snd)), (di Ze.snd)]) ∧ (((0 : Int) ≤ (0 : Int)) ∧ (0 < (↑(lows R).length : Int))) ∧ ZK 17 [(.agg [(di Zf.fst), (di Zf.snd)])] (.agg [(di (neN Zf.fst Zf.snd)), (di Zf.snd)])) ∧ ((.tup [(.agg [(di (neN Ze.fst Ze.snd)), (di Ze.snd)]), (.agg [(di (neN Zf.fst Zf.snd)), (di Zf.snd)]), (db true)]) : DV) = Zi)) ∧ (((x.k == 5) = false) → ((((x.k == 6) = true) → (((((0 : Int) ≤ (0 : Int)) ∧ (0 < (↑(lows R).length : Int))) ∧ (((0 : Int) ≤ (1 : Int)) ∧ (1 < (↑(lows R).length : Int))) ∧ ZK 102 [(.agg [(di Zf.fst), (di Zf.snd)]), (.agg [(di Zg.fst), (di Zg.snd)])] (.tup [(.agg [(di (addF Zf.fst Zf.snd Zg.fst Zg.snd).fst), (di (addF Zf.fst Zf.snd Zg.fst Zg.snd).snd.fst)]), (di (addF Zf.fst Zf.snd Zg.fst Zg.snd).snd.snd)])) ∧ ((((0 : Int) ≤ (0 : Int)) ∧ (0 < (↑(highs R).length : Int))) ∧ (((0 : Int) ≤ (1 : Int)) ∧ (1 < (↑(highs R).length : Int))) ∧ ZK 102 [(.agg [(di Ze.fst), (di Ze.snd)]), (.agg [(di Zh.fst), (di Zh.snd)])] (.tup [(.agg [(di (addF Ze.fst Ze.snd Zh.fst Zh.snd).fst), (di (addF Ze.fst Ze.snd Zh.fst Zh.snd).snd.fst)]), (di (addF Ze.fst Ze.snd Zh.fst Zh.snd).snd.snd)])) ∧ ZK 103 [(.slc 2 2 (elemF true 2 [(di (addF Zf.fst Zf.snd Zg.fst Zg.snd).fst), (di (addF Zf.fst Zf.snd Zg.fst Zg.snd).snd.fst), (di (addF Ze.fst Ze.snd Zh.fst Zh.snd).fst), (di (addF Ze.fst Ze.snd Zh.fst Zh.snd).snd.fst)])), (db ((addF Zf.fst Zf.snd Zg.fst Zg.snd).snd.snd == 0 && (addF Ze.fst Ze.snd Zh.fst Zh.snd).snd.snd == 0))] (.tup [(.agg [(di Za.fst.a), (di Za.fst.b)]), (.agg [(di Za.fst.c), (di Za.fst.d)]), (db Za.snd)]) ∧ ((.tup [(.agg [(di Za.fst.a), (di Za.fst.b)]), (.agg [(di Za.fst.c), (di Za.fst.d)]), (db Za.snd)]) : DV) = Zi)) ∧ (((x.k == 6) = false) → ((((x.k == 7) = true) → (((((0 : Int) ≤ (0 : Int)) ∧ (0 < (↑(lows R).length : Int))) ∧ (((0 : Int) ≤ (1 : Int)) ∧ (1 < (↑(highs R).length : Int))) ∧ ZK 104 [(.agg [(di Zf.fst), (di Zf.snd)]), (.agg [(di Zh.fst), (di Zh.snd)])] (.tup [(.agg [(di (subF Zf.fst Zf.snd Zh.fst Zh.snd).fst), (di (subF Zf.fst Zf.snd Zh.fst Zh.snd).snd.fst)]), (di (subF Zf.fst Zf.snd Zh.fst Zh.snd).snd.snd)])) ∧ ((((0 : Int) ≤ (0 : Int)) ∧ (0 < (↑(highs R).length : Int))) ∧ (((0 : Int) ≤ (1 : Int)) ∧ (1 < (↑(lows R).length : Int))) ∧ ZK 104 [(.agg [(di Ze.fst), (di Ze.snd)]), (.agg [(di Zg.fst), (di Zg.snd)])] (.tup [(.agg [(di (subF Ze.fst Ze.snd Zg.fst Zg.snd).fst), (di (subF Ze.fst Ze.snd Zg.fst Zg.snd).snd.fst)]), (di (subF Ze.fst Ze.snd Zg.fst Zg.snd).snd.snd)])) ∧ ZK 103 [(.slc 2 2 (elemF true 2 [(di (subF Zf.fst Zf.snd Zh.fst Zh.snd).fst), (di (subF Zf.fst Zf.snd Zh.fst Zh.snd).snd.fst), (di (subF Ze.fst Ze.snd Zg.fst Zg.snd).fst), (di (subF Ze.fst Ze.snd Zg.fst Zg.snd).snd.fst)])), (db ((subF Zf.fst Zf.snd Zh.fst Zh.snd).snd.snd == 0 && (subF Ze.fst Ze.snd Zg.fst Zg.snd).snd.snd == 0))] (.tup [(.agg [(di Zb.fst.a), (di Zb.fst.b)]), (.agg [(di Zb.fst.c), (di Zb.fst.d)]), (db Zb.snd)]) ∧ ((.tup [(.agg [(di Zb.fst.a), (di Zb.fst.b)]), (.agg [(di Zb.fst.c), (di Zb.fst.d)]), (db Zb.snd)]) : DV) = Zi)) ∧ (((x.k == 7) = false) → ((((x.k == 8) = true) → (((((!x.k == 8) = true) → (((0 : Int) ≤ (1 : Int)) ∧ (1 < (↑(lows R).length : Int)))) ∧ (((!(x.k == 8 || decide (Zg.fst > 0))) = true) → (((0 : Int) ≤ (1 : Int)) ∧ (1 < (↑(highs R).length : Int))))) ∧ ZW [cd Tryz.f59 [1, 1, 1, 0, 1, 0, 1, 1, 1, 1, 1, 1, 1, 1, 1, 1, 1, 0, 1, 1, 0, 1, 0], (.blk 3), cd Tryz.f59 [1, 1, 1, 0, 1, 0, 1, 1, 1, 1, 1, 1, 1, 1, 1, 1, 1, 0, 1, 1, 1], (.blk 2), cd Tryz.f59 [1, 1, 1, 1]] (stS ZT [1, 1, 1, 1, 1, 0]) ZQ)) ∧ (((x.k == 8) = false) → ((((x.k == 9) = true) → (((((!x.k == 8) = true) → (((0 : Int) ≤ (1 : Int)) ∧ (1 < (↑(lows R).length : Int)))) ∧ (((!(x.k == 8 || decide (Zg.fst > 0))) = true) → (((0 : Int) ≤ (1 : Int)) ∧ (1 < (↑(highs R).length : Int))))) ∧ ZW [cd Tryz.f59 [1, 1, 1, 0, 1, 0, 1, 1, 1, 1, 1, 1, 1, 1, 1, 1, 1, 0, 1, 1, 0, 1, 0], (.blk 3), cd Tryz.f59 [1, 1, 1, 0, 1, 0, 1, 1, 1, 1, 1, 1, 1, 1, 1, 1, 1, 0, 1, 1, 1], (.blk 2), cd Tryz.f59 [1, 1, 1, 1]] (stS ZT [1, 1, 1, 1, 1, 1, 0]) ZQ)) ∧ (((x.k == 9) = false) → ((((x.k == 10) = true) → (ZK 103 [(.slc 2 (lows R).length (fr2 (lows R))), (db true)] (.tup [(.agg [(di Zd.a), (di Zd.b)]), (.agg [(di Zd.c), (di Zd.d)]), (db true)]) ∧ ZK 103 [(.slc 2 (highs R).length (fr2 (highs R))), (db true)] (.tup [(.agg [(di Zc.a), (di Zc.b)]), (.agg [(di Zc.c), (di Zc.d)]), (db true)]) ∧ ((.tup [(.agg [(di Zd.a), (di Zd.b)]), (.agg [(di Zc.a), (di Zc.b)]), (db true)]) : DV) = Zi)) ∧ (((x.k == 10) = false) → (ZK 103 [(.slc 2 (lows R).length (fr2 (lows R))), (db true)] (.tup [(.agg [(di Zd.a), (di Zd.b)]), (.agg [(di Zd.c), (di Zd.d)]), (db true)]) ∧ ZK 103 [(.slc 2 (highs R).length (fr2 (highs R))), (db true)] (.tup [(.agg [(di Zc.a), (di Zc.b)]), (.agg [(di Zc.c), (di Zc.d)]), (db true)]) ∧ ((.tup [(.agg [(di Zd.c), (di Zd.d)]), (.agg [(di Zc.c), (di Zc.d)]), (db true)]) : DV) = Zi)))))))))))))))))) (xtR (rd2 (DV.slc 2 2 (elemF true 2 [DV.con (Value.int IntKind.i64 (addF ((lows R).getD (Int.toNat 0) (0, 0)).fst ((lows R).getD (Int.toNat 0) (0, 0)).snd ((lows R).getD (Int.toNat 1) (0, 0)).fst ((lows R).getD (Int.toNat 1) (0, 0)).snd).fst), DV.con (Value.int IntKind.i64 (addF ((lows R).getD (Int.toNat 0) (0, 0)).fst ((lows R).getD (Int.toNat 0) (0, 0)).snd ((lows R).getD (Int.toNat 1) (0, 0)).fst ((lows R).getD (Int.toNat 1) (0, 0)).snd).snd.fst), DV.con (Value.int IntKind.i64 (addF ((highs R).getD (Int.toNat 0) (0, 0)).fst ((highs R).getD (Int.toNat 0) (0, 0)).snd ((highs R).getD (Int.toNat 1) (0, 0)).fst ((highs R).getD (Int.toNat 1) (0, 0)).snd).fst), DV.con (Value.int IntKind.i64 (addF ((highs R).getD (Int.toNat 0) (0, 0)).fst ((highs R).getD (Int.toNat 0) (0, 0)).snd ((highs R).getD (Int.toNat 1) (0, 0)).fst ((highs R).getD (Int.toNat 1) (0, 0)).snd).snd.fst)]))) ((addF ((lows R).getD (Int.toNat 0) (0, 0)).fst ((lows R).getD (Int.toNat 0) (0, 0)).snd ((lows R).getD (Int.toNat 1) (0, 0)).fst ((lows R).getD (Int.toNat 1) (0, 0)).snd).snd.snd == 0 && (addF ((highs R).getD (Int.toNat 0) (0, 0)).fst ((highs R).getD (Int.toNat 0) (0, 0)).snd ((highs R).getD (Int.toNat 1) (0, 0)).fst ((highs R).getD (Int.toNat 1) (0, 0)).snd).snd.snd == 0)) (xtR (rd2 (DV.slc 2 2 (elemF true 2 [DV.con (Value.int IntKind.i64 (subF ((lows R).getD (Int.toNat 0) (0, 0)).fst ((lows R).getD (Int.toNat 0) (0, 0)).snd ((highs R).getD (Int.toNat 1) (0, 0)).fst ((highs R).getD (Int.toNat 1) (0, 0)).snd).fst), DV.con (Value.int IntKind.i64 (subF ((lows R).getD (Int.toNat 0) (0, 0)).fst ((lows R).getD (Int.toNat 0) (0, 0)).snd ((highs R).getD (Int.toNat 1) (0, 0)).fst ((highs R).getD (Int.toNat 1) (0, 0)).snd).snd.fst), DV.con (Value.int IntKind.i64 (subF ((highs R).getD (Int.toNat 0) (0, 0)).fst ((highs R).getD (Int.toNat 0) (0, 0)).snd ((lows R).getD (Int.toNat 1) (0, 0)).fst ((lows R).getD (Int.toNat 1) (0, 0)).snd).fst), DV.con (Value.int IntKind.i64 (subF ((highs R).getD (Int.toNat 0) (0, 0)).fst ((highs R).getD (Int.toNat 0) (0, 0)).snd ((lows R).getD (Int.toNat 1) (0, 0)).fst ((lows R).getD (Int.toNat 1) (0, 0)).snd).snd.fst)]))) ((subF ((lows R).getD (Int.toNat 0) (0, 0)).fst ((lows R).getD (Int.toNat 0) (0, 0)).snd ((highs R).getD (Int.toNat 1) (0, 0)).fst ((highs R).getD (Int.toNat 1) (0, 0)).snd).snd.snd == 0 && (subF ((highs R).getD (Int.toNat 0) (0, 0)).fst ((highs R).getD (Int.toNat 0) (0, 0)).snd ((lows R).getD (Int.toNat 1) (0, 0)).fst ((lows R).getD (Int.toNat 1) (0, 0)).snd).snd.snd == 0)) (exS (rd2 (DV.slc 2 (highs R).length (fr2 (highs R)))) ((rd2 (DV.slc 2 (highs R).length (fr2 (highs R)))).length - 1)) (exS (rd2 (DV.slc 2 (lows R).length (fr2 (lows R)))) ((rd2 (DV.slc 2 (lows R).length (fr2 (lows R)))).length - 1)) ((highs R).getD (Int.toNat 0) (0, 0)) ((lows R).getD (Int.toNat 0) (0, 0)) ((lows R).getD (Int.toNat 1) (0, 0)) ((highs R).getD (Int.toNat 1) (0, 0)) ((.tup [(fr (brE L x).fst.a (brE L x).fst.b), (fr (brE L x).fst.c (brE L x).fst.d), (db (brE L x).snd)]) : DV)) (by kernel_rfl) ?_
      simp only [rd2_eq, r4, beq_iff_eq, beq_eq_false_iff_ne, ne_eq, t0, t1, lows_get, highs_get]
      repeat' (first | (with_reducible refine And.intro ?_ ?_) | (with_reducible intro _))
      all_goals first
        | contradiction
        | (exfalso; omega)
        | exact f55 L x.s (by omega)
        | (show (0:Int) ≤ _; omega)
        | (show (0:Int) < _; omega)
        | (show (1:Int) < _; omega)
        | (have h1 := hfn (by omega); have h2 := (fnd_hit h1).1; show fndI L x.s < _; omega)
        | exact hfn (by omega)
        | exact f17 _ _
        | exact f102 _ _ _ _
        | exact f104 _ _ _ _
        | exact f103t (_, _) (_, _) _
        | exact f103 _ true (by omega) (fun _ => by omega)
        | (rw [eb, if_pos (by assumption)])
        | (rw [eb, if_neg (by omega), if_pos (by assumption)])
        | (rw [ebk (by omega) (by omega), brC_5 (by assumption)])
        | (rw [ebk (by omega) (by omega), brC_6 (by assumption)]; rfl)
        | (rw [ebk (by omega) (by omega), brC_7 (by assumption)]; rfl)
        | (rw [ebk (by omega) (by omega), brC_10 (by assumption), hlo.trans hRl.symm, hhi.trans hRl.symm])
        | (rw [ebk (by omega) (by omega), brC_11 (by omega), hlo.trans hRl.symm, hhi.trans hRl.symm])
        | skip
      · have hk8 : x.k = 8 := by omega
        refine AWP.pre (.moves [(197, 902)] _ rfl) ?_
        refine AWP.loop (c := cAt (bodyOf Tryz.f59) [1, 1, 1, 0, 1, 0, 1, 1, 1, 1, 1, 1, 1, 1, 1, 1, 1, 0, 1, 1, 0, 1, 0, 0]) (by kernel_rfl) (S59c mulF true R (R.getD 0 (bd0, true)).1 (R.getD 1 (bd0, true)).1 m x) (fun i => i ≤ 4) (fun i => 4 - i) 0 ?_ (by omega) ?_
        · refine AS.leZ [5] [3] (b := ((T0 ∧ T0 ∧ T0 ∧ T0 ∧ T0 ∧ ((vb (x.k == 8 || decide (((lows R).getD (Int.toNat 1) (0, 0)).fst > 0) || decide (((highs R).getD (Int.toNat 1) (0, 0)).fst < 0))) : AV) = (vb (okS mulF true (R.getD 0 (bd0, true)).fst (R.getD 1 (bd0, true)).fst 0)) ∧ T0 ∧ T0 ∧ True) ∧ T0 ∧ T0 ∧ T0 ∧ ((some [(.arr ⟨true, 23, false, none⟩ 2 (fun x => DV.con undef))]) : (Option (List AV))) = (some [(.arr ⟨true, 23, false, none⟩ 2 (rowX mulF (R.getD 0 (bd0, true)).fst (R.getD 1 (bd0, true)).fst 0))]) ∧ True)) (by kernel_rfl) (by kernel_rfl) ?_
          refine ⟨⟨rfl, rfl, rfl, rfl, rfl, ?_, rfl, rfl, trivial⟩, rfl, rfl, rfl, rfl, trivial⟩
          refine congrArg vb ?_
          rw [hk8]
          unfold okS
          simp
        · intro i hi
          have em : Int.tmod (i : Int) 2 = ((i % 2 : Nat) : Int) := rfl
          have ed : Int.tdiv (i : Int) 2 = ((i / 2 : Nat) : Int) := rfl
          refine walkK (orc := orcRb L) (keep := []) (cuts := []) (n := 1000) follows ?_
          refine of_rd (fun ZT ZW ZQ ZK ZA _ => (fun Za Zb Zc Zd Ze => (((Ze = true) → (((((0 : Int) ≤ (0 : Int)) ∧ (0 < (↑(lows R).length : Int))) ∧ ((0 : Int) ≤ (1 : Int)) ∧ (1 < (↑(lows R).length : Int))) ∧ (((((↑i : Int)).tmod 2 == 1) = true) → ((((0 : Int) ≤ (0 : Int)) ∧ (0 < (↑(highs R).length : Int))) ∧ (R64 ↑i) ∧ (((((↑i : Int)).tdiv 2 == 1) = true) → ((((0 : Int) ≤ (1 : Int)) ∧ (1 < (↑(highs R).length : Int))) ∧ ZK 105 [(.agg [(di Za.fst), (di Za.snd)]), (.agg [(di Zb.fst), (di Zb.snd)])] (.tup [(.agg [(di (mulF Za.fst Za.snd Zb.fst Zb.snd).fst), (di (mulF Za.fst Za.snd Zb.fst Zb.snd).snd.fst)]), (di (mulF Za.fst Za.snd Zb.fst Zb.snd).snd.snd)]) ∧ (((x.k == 9) = true) → (ZK 106 [(.agg [(di Za.fst), (di Za.snd)]), (.agg [(di Zb.fst), (di Zb.snd)])] (.tup [(.agg [(di (divF Za.fst Za.snd Zb.fst Zb.snd).fst), (di (divF Za.fst Za.snd Zb.fst Zb.snd).snd.fst)]), (di (divF Za.fst Za.snd Zb.fst Zb.snd).snd.snd)]) ∧ ((((i + 1) * 16 ≤ 1099511627776) ∧ (i + 1 ≤ 1099511627776)) ∧ (∀ (i : Nat), i < 1 → elemOK true 2 (elemF true 2 [DV.con (Value.int IntKind.i64 (divF Za.fst Za.snd Zb.fst Zb.snd).fst), DV.con (Value.int IntKind.i64 (divF Za.fst Za.snd Zb.fst Zb.snd).snd.fst)] i) = true)) ∧ (I64 (↑i + 1)) ∧ (ZA (stS ZT [0, 0, 0, 0])))) ∧ (((x.k == 9) = false) → (((((i + 1) * 16 ≤ 1099511627776) ∧ (i + 1 ≤ 1099511627776)) ∧ (∀ (i : Nat), i < 1 → elemOK true 2 (elemF true 2 [DV.con (Value.int IntKind.i64 (mulF Za.fst Za.snd Zb.fst Zb.snd).fst), DV.con (Value.int IntKind.i64 (mulF Za.fst Za.snd Zb.fst Zb.snd).snd.fst)] i) = true)) ∧ (I64 (↑i + 1)) ∧ (ZA (stS ZT [0, 0, 0, 1])))))) ∧ (((((↑i : Int)).tdiv 2 == 1) = false) → (ZK 105 [(.agg [(di Za.fst), (di Za.snd)]), (.agg [(di Zc.fst), (di Zc.snd)])] (.tup [(.agg [(di (mulF Za.fst Za.snd Zc.fst Zc.snd).fst), (di (mulF Za.fst Za.snd Zc.fst Zc.snd).snd.fst)]), (di (mulF Za.fst Za.snd Zc.fst Zc.snd).snd.snd)]) ∧ (((x.k == 9) = true) → (ZK 106 [(.agg [(di Za.fst), (di Za.snd)]), (.agg [(di Zc.fst), (di Zc.snd)])] (.tup [(.agg [(di (divF Za.fst Za.snd Zc.fst Zc.snd).fst), (di (divF Za.fst Za.snd Zc.fst Zc.snd).snd.fst)]), (di (divF Za.fst Za.snd Zc.fst Zc.snd).snd.snd)]) ∧ ((((i + 1) * 16 ≤ 1099511627776) ∧ (i + 1 ≤ 1099511627776)) ∧ (∀ (i : Nat), i < 1 → elemOK true 2 (elemF true 2 [DV.con (Value.int IntKind.i64 (divF Za.fst Za.snd Zc.fst Zc.snd).fst), DV.con (Value.int IntKind.i64 (divF Za.fst Za.snd Zc.fst Zc.snd).snd.fst)] i) = true)) ∧ (I64 (↑i + 1)) ∧ (ZA (stS ZT [0, 0, 1, 0])))) ∧ (((x.k == 9) = false) → (((((i + 1) * 16 ≤ 1099511627776) ∧ (i + 1 ≤ 1099511627776)) ∧ (∀ (i : Nat), i < 1 → elemOK true 2 (elemF true 2 [DV.con (Value.int IntKind.i64 (mulF Za.fst Za.snd Zc.fst Zc.snd).fst), DV.con (Value.int IntKind.i64 (mulF Za.fst Za.snd Zc.fst Zc.snd).snd.fst)] i) = true)) ∧ (I64 (↑i + 1)) ∧ (ZA (stS ZT [0, 0, 1, 1])))))))) ∧ (((((↑i : Int)).tmod 2 == 1) = false) → ((R64 ↑i) ∧ (((((↑i : Int)).tdiv 2 == 1) = true) → ((((0 : Int) ≤ (1 : Int)) ∧ (1 < (↑(highs R).length : Int))) ∧ ZK 105 [(.agg [(di Zd.fst), (di Zd.snd)]), (.agg [(di Zb.fst), (di Zb.snd)])] (.tup [(.agg [(di (mulF Zd.fst Zd.snd Zb.fst Zb.snd).fst), (di (mulF Zd.fst Zd.snd Zb.fst Zb.snd).snd.fst)]), (di (mulF Zd.fst Zd.snd Zb.fst Zb.snd).snd.snd)]) ∧ (((x.k == 9) = true) → (ZK 106 [(.agg [(di Zd.fst), (di Zd.snd)]), (.agg [(di Zb.fst), (di Zb.snd)])] (.tup [(.agg [(di (divF Zd.fst Zd.snd Zb.fst Zb.snd).fst), (di (divF Zd.fst Zd.snd Zb.fst Zb.snd).snd.fst)]), (di (divF Zd.fst Zd.snd Zb.fst Zb.snd).snd.snd)]) ∧ ((((i + 1) * 16 ≤ 1099511627776) ∧ (i + 1 ≤ 1099511627776)) ∧ (∀ (i : Nat), i < 1 → elemOK true 2 (elemF true 2 [DV.con (Value.int IntKind.i64 (divF Zd.fst Zd.snd Zb.fst Zb.snd).fst), DV.con (Value.int IntKind.i64 (divF Zd.fst Zd.snd Zb.fst Zb.snd).snd.fst)] i) = true)) ∧ (I64 (↑i + 1)) ∧ (ZA (stS ZT [0, 1, 0, 0])))) ∧ (((x.k == 9) = false) → (((((i + 1) * 16 ≤ 1099511627776) ∧ (i + 1 ≤ 1099511627776)) ∧ (∀ (i : Nat), i < 1 → elemOK true 2 (elemF true 2 [DV.con (Value.int IntKind.i64 (mulF Zd.fst Zd.snd Zb.fst Zb.snd).fst), DV.con (Value.int IntKind.i64 (mulF Zd.fst Zd.snd Zb.fst Zb.snd).snd.fst)] i) = true)) ∧ (I64 (↑i + 1)) ∧ (ZA (stS ZT [0, 1, 0, 1])))))) ∧ (((((↑i : Int)).tdiv 2 == 1) = false) → (ZK 105 [(.agg [(di Zd.fst), (di Zd.snd)]), (.agg [(di Zc.fst), (di Zc.snd)])] (.tup [(.agg [(di (mulF Zd.fst Zd.snd Zc.fst Zc.snd).fst), (di (mulF Zd.fst Zd.snd Zc.fst Zc.snd).snd.fst)]), (di (mulF Zd.fst Zd.snd Zc.fst Zc.snd).snd.snd)]) ∧ (((x.k == 9) = true) → (ZK 106 [(.agg [(di Zd.fst), (di Zd.snd)]), (.agg [(di Zc.fst), (di Zc.snd)])] (.tup [(.agg [(di (divF Zd.fst Zd.snd Zc.fst Zc.snd).fst), (di (divF Zd.fst Zd.snd Zc.fst Zc.snd).snd.fst)]), (di (divF Zd.fst Zd.snd Zc.fst Zc.snd).snd.snd)]) ∧ ((((i + 1) * 16 ≤ 1099511627776) ∧ (i + 1 ≤ 1099511627776)) ∧ (∀ (i : Nat), i < 1 → elemOK true 2 (elemF true 2 [DV.con (Value.int IntKind.i64 (divF Zd.fst Zd.snd Zc.fst Zc.snd).fst), DV.con (Value.int IntKind.i64 (divF Zd.fst Zd.snd Zc.fst Zc.snd).snd.fst)] i) = true)) ∧ (I64 (↑i + 1)) ∧ (ZA (stS ZT [0, 1, 1, 0])))) ∧ (((x.k == 9) = false) → (((((i + 1) * 16 ≤ 1099511627776) ∧ (i + 1 ≤ 1099511627776)) ∧ (∀ (i : Nat), i < 1 → elemOK true 2 (elemF true 2 [DV.con (Value.int IntKind.i64 (mulF Zd.fst Zd.snd Zc.fst Zc.snd).fst), DV.con (Value.int IntKind.i64 (mulF Zd.fst Zd.snd Zc.fst Zc.snd).snd.fst)] i) = true)) ∧ (I64 (↑i + 1)) ∧ (ZA (stS ZT [0, 1, 1, 1])))))))))) ∧ ((Ze = false) → ZW [cd Tryz.f59 [1, 1, 1, 0, 1, 0, 1, 1, 1, 1, 1, 1, 1, 1, 1, 1, 1, 0, 1, 1, 1], (.blk 2), cd Tryz.f59 [1, 1, 1, 1]] (stS ZT [1]) ZQ))) ((highs R).getD (Int.toNat 0) (0, 0)) ((highs R).getD (Int.toNat 1) (0, 0)) ((lows R).getD (Int.toNat 1) (0, 0)) ((lows R).getD (Int.toNat 0) (0, 0)) (decide ((↑i : Int) < 4) && okS mulF true (R.getD 0 (bd0, true)).fst (R.getD 1 (bd0, true)).fst i)) (by kernel_rfl) ?_
          simp only [lows_get, highs_get, t0, t1, em, ed, beq_iff_eq, beq_eq_false_iff_ne, ne_eq]
          refine ⟨fun h => ?_, fun h => ?_⟩
          · have hc : i < 4 ∧ okS mulF true (R.getD 0 (bd0, true)).1 (R.getD 1 (bd0, true)).1 i = true := by
              simp only [Bool.and_eq_true, decide_eq_true_eq] at h
              exact ⟨by omega, h.2⟩
            have hst := ok_step hc.2
            have hi4 := hc.1
            clear h hc
            repeat' (first | (with_reducible refine And.intro ?_ ?_) | (with_reducible intro _))
            all_goals first
              | (exfalso; omega)
              | omega
              | (show (0:Int) ≤ _; omega)
              | (show (0:Int) < _; omega)
              | (show (1:Int) < _; omega)
              | exact ⟨by omega, by omega⟩
              | exact f105 _ _ _ _
              | exact f106 _ _ _ _
              | (rename_i i1 h1; obtain rfl : i1 = 0 := (by omega); rfl)
              | skip
            · have hrc := rcR_hh (op := mulF) (p := (R.getD 0 (bd0, true)).1) (q := (R.getD 1 (bd0, true)).1) (i := i) (by omega) (by omega)
              refine Again.mkR [(241, 902)] rfl (i + 1) ?_ (by omega) (by omega)
              refine AS.leZ [5] [3] (b := ((T0 ∧ T0 ∧ T0 ∧ T0 ∧ T0 ∧ ((vb ((mulF ((highs R).getD (Int.toNat 0) (0, 0)).fst ((highs R).getD (Int.toNat 0) (0, 0)).snd ((highs R).getD (Int.toNat 1) (0, 0)).fst ((highs R).getD (Int.toNat 1) (0, 0)).snd).snd.snd == 0)) : AV) = (vb (okS mulF true (R.getD 0 (bd0, true)).fst (R.getD 1 (bd0, true)).fst (i + 1))) ∧ T0 ∧ T0 ∧ True) ∧ T0 ∧ T0 ∧ T0 ∧ ((some [(.arr ⟨true, 23, false, none⟩ 2 (fun i_1 => bif i_1.blt i then rowX mulF (R.getD 0 (bd0, true)).fst (R.getD 1 (bd0, true)).fst i i_1 else elemF true 2 [DV.con (Value.int IntKind.i64 (mulF ((highs R).getD (Int.toNat 0) (0, 0)).fst ((highs R).getD (Int.toNat 0) (0, 0)).snd ((highs R).getD (Int.toNat 1) (0, 0)).fst ((highs R).getD (Int.toNat 1) (0, 0)).snd).fst), DV.con (Value.int IntKind.i64 (mulF ((highs R).getD (Int.toNat 0) (0, 0)).fst ((highs R).getD (Int.toNat 0) (0, 0)).snd ((highs R).getD (Int.toNat 1) (0, 0)).fst ((highs R).getD (Int.toNat 1) (0, 0)).snd).snd.fst)] (i_1 - i)))]) : (Option (List AV))) = (some [(.arr ⟨true, 23, false, none⟩ 2 (rowX mulF (R.getD 0 (bd0, true)).fst (R.getD 1 (bd0, true)).fst (i + 1)))]) ∧ True)) (by kernel_rfl) (by kernel_rfl) ?_
              simp only [lows_get, highs_get, t0, t1, em, ed]
              refine ⟨⟨trivial, trivial, trivial, trivial, trivial, by rw [hst, hrc], trivial, trivial, trivial⟩, trivial, trivial, trivial, ?_, trivial⟩
              exact congrArg (fun f => some [AV.arr frK 2 f]) (rowX_next i (by rw [hrc]) (by rw [hrc]))
            · have hrc := rcR_hl (op := mulF) (p := (R.getD 0 (bd0, true)).1) (q := (R.getD 1 (bd0, true)).1) (i := i) (by omega) (by omega)
              refine Again.mkR [(241, 902)] rfl (i + 1) ?_ (by omega) (by omega)
              refine AS.leZ [5] [3] (b := ((T0 ∧ T0 ∧ T0 ∧ T0 ∧ T0 ∧ ((vb ((mulF ((highs R).getD (Int.toNat 0) (0, 0)).fst ((highs R).getD (Int.toNat 0) (0, 0)).snd ((lows R).getD (Int.toNat 1) (0, 0)).fst ((lows R).getD (Int.toNat 1) (0, 0)).snd).snd.snd == 0)) : AV) = (vb (okS mulF true (R.getD 0 (bd0, true)).fst (R.getD 1 (bd0, true)).fst (i + 1))) ∧ T0 ∧ T0 ∧ True) ∧ T0 ∧ T0 ∧ T0 ∧ ((some [(.arr ⟨true, 23, false, none⟩ 2 (fun i_1 => bif i_1.blt i then rowX mulF (R.getD 0 (bd0, true)).fst (R.getD 1 (bd0, true)).fst i i_1 else elemF true 2 [DV.con (Value.int IntKind.i64 (mulF ((highs R).getD (Int.toNat 0) (0, 0)).fst ((highs R).getD (Int.toNat 0) (0, 0)).snd ((lows R).getD (Int.toNat 1) (0, 0)).fst ((lows R).getD (Int.toNat 1) (0, 0)).snd).fst), DV.con (Value.int IntKind.i64 (mulF ((highs R).getD (Int.toNat 0) (0, 0)).fst ((highs R).getD (Int.toNat 0) (0, 0)).snd ((lows R).getD (Int.toNat 1) (0, 0)).fst ((lows R).getD (Int.toNat 1) (0, 0)).snd).snd.fst)] (i_1 - i)))]) : (Option (List AV))) = (some [(.arr ⟨true, 23, false, none⟩ 2 (rowX mulF (R.getD 0 (bd0, true)).fst (R.getD 1 (bd0, true)).fst (i + 1)))]) ∧ True)) (by kernel_rfl) (by kernel_rfl) ?_
              simp only [lows_get, highs_get, t0, t1, em, ed]
              refine ⟨⟨trivial, trivial, trivial, trivial, trivial, by rw [hst, hrc], trivial, trivial, trivial⟩, trivial, trivial, trivial, ?_, trivial⟩
              exact congrArg (fun f => some [AV.arr frK 2 f]) (rowX_next i (by rw [hrc]) (by rw [hrc]))
            · have hrc := rcR_lh (op := mulF) (p := (R.getD 0 (bd0, true)).1) (q := (R.getD 1 (bd0, true)).1) (i := i) (by omega) (by omega)
              refine Again.mkR [(241, 902)] rfl (i + 1) ?_ (by omega) (by omega)
              refine AS.leZ [5] [3] (b := ((T0 ∧ T0 ∧ T0 ∧ T0 ∧ T0 ∧ ((vb ((mulF ((lows R).getD (Int.toNat 0) (0, 0)).fst ((lows R).getD (Int.toNat 0) (0, 0)).snd ((highs R).getD (Int.toNat 1) (0, 0)).fst ((highs R).getD (Int.toNat 1) (0, 0)).snd).snd.snd == 0)) : AV) = (vb (okS mulF true (R.getD 0 (bd0, true)).fst (R.getD 1 (bd0, true)).fst (i + 1))) ∧ T0 ∧ T0 ∧ True) ∧ T0 ∧ T0 ∧ T0 ∧ ((some [(.arr ⟨true, 23, false, none⟩ 2 (fun i_1 => bif i_1.blt i then rowX mulF (R.getD 0 (bd0, true)).fst (R.getD 1 (bd0, true)).fst i i_1 else elemF true 2 [DV.con (Value.int IntKind.i64 (mulF ((lows R).getD (Int.toNat 0) (0, 0)).fst ((lows R).getD (Int.toNat 0) (0, 0)).snd ((highs R).getD (Int.toNat 1) (0, 0)).fst ((highs R).getD (Int.toNat 1) (0, 0)).snd).fst), DV.con (Value.int IntKind.i64 (mulF ((lows R).getD (Int.toNat 0) (0, 0)).fst ((lows R).getD (Int.toNat 0) (0, 0)).snd ((highs R).getD (Int.toNat 1) (0, 0)).fst ((highs R).getD (Int.toNat 1) (0, 0)).snd).snd.fst)] (i_1 - i)))]) : (Option (List AV))) = (some [(.arr ⟨true, 23, false, none⟩ 2 (rowX mulF (R.getD 0 (bd0, true)).fst (R.getD 1 (bd0, true)).fst (i + 1)))]) ∧ True)) (by kernel_rfl) (by kernel_rfl) ?_
              simp only [lows_get, highs_get, t0, t1, em, ed]
              refine ⟨⟨trivial, trivial, trivial, trivial, trivial, by rw [hst, hrc], trivial, trivial, trivial⟩, trivial, trivial, trivial, ?_, trivial⟩
              exact congrArg (fun f => some [AV.arr frK 2 f]) (rowX_next i (by rw [hrc]) (by rw [hrc]))
            · have hrc := rcR_ll (op := mulF) (p := (R.getD 0 (bd0, true)).1) (q := (R.getD 1 (bd0, true)).1) (i := i) (by omega) (by omega)
              refine Again.mkR [(241, 902)] rfl (i + 1) ?_ (by omega) (by omega)
              refine AS.leZ [5] [3] (b := ((T0 ∧ T0 ∧ T0 ∧ T0 ∧ T0 ∧ ((vb ((mulF ((lows R).getD (Int.toNat 0) (0, 0)).fst ((lows R).getD (Int.toNat 0) (0, 0)).snd ((lows R).getD (Int.toNat 1) (0, 0)).fst ((lows R).getD (Int.toNat 1) (0, 0)).snd).snd.snd == 0)) : AV) = (vb (okS mulF true (R.getD 0 (bd0, true)).fst (R.getD 1 (bd0, true)).fst (i + 1))) ∧ T0 ∧ T0 ∧ True) ∧ T0 ∧ T0 ∧ T0 ∧ ((some [(.arr ⟨true, 23, false, none⟩ 2 (fun i_1 => bif i_1.blt i then rowX mulF (R.getD 0 (bd0, true)).fst (R.getD 1 (bd0, true)).fst i i_1 else elemF true 2 [DV.con (Value.int IntKind.i64 (mulF ((lows R).getD (Int.toNat 0) (0, 0)).fst ((lows R).getD (Int.toNat 0) (0, 0)).snd ((lows R).getD (Int.toNat 1) (0, 0)).fst ((lows R).getD (Int.toNat 1) (0, 0)).snd).fst), DV.con (Value.int IntKind.i64 (mulF ((lows R).getD (Int.toNat 0) (0, 0)).fst ((lows R).getD (Int.toNat 0) (0, 0)).snd ((lows R).getD (Int.toNat 1) (0, 0)).fst ((lows R).getD (Int.toNat 1) (0, 0)).snd).snd.fst)] (i_1 - i)))]) : (Option (List AV))) = (some [(.arr ⟨true, 23, false, none⟩ 2 (rowX mulF (R.getD 0 (bd0, true)).fst (R.getD 1 (bd0, true)).fst (i + 1)))]) ∧ True)) (by kernel_rfl) (by kernel_rfl) ?_
              simp only [lows_get, highs_get, t0, t1, em, ed]
              refine ⟨⟨trivial, trivial, trivial, trivial, trivial, by rw [hst, hrc], trivial, trivial, trivial⟩, trivial, trivial, trivial, ?_, trivial⟩
              exact congrArg (fun f => some [AV.arr frK 2 f]) (rowX_next i (by rw [hrc]) (by rw [hrc]))
          · obtain ⟨hend, hxt⟩ := ok_end hi h
            refine AWP.freeze (agg := frK) (sz := 2) (f := rowX mulF (R.getD 0 (bd0, true)).1 (R.getD 1 (bd0, true)).1 i) 902 (by kernel_rfl) ?_
            refine AWP.pre (.regD _ 23 (.slc 2 i fun n => rowX mulF (R.getD 0 (bd0, true)).1 (R.getD 1 (bd0, true)).1 i (0 + n)) (fr2D (rcL mulF (R.getD 0 (bd0, true)).1 (R.getD 1 (bd0, true)).1 i)) (by kernel_rfl) fun h v hv => ?_) ?_
            · show DV.rel h (.slc 2 (rcL mulF (R.getD 0 (bd0, true)).1 (R.getD 1 (bd0, true)).1 i).length _) v
              rw [rcL_len]
              exact DV.rel_slc_congr (fun n hn => rowX_get hn) hv
            refine walkK (orc := orcRb L) (keep := []) (cuts := []) (n := 1000) follows ?_
            refine of_tr (fun _ _ _ ZK => (fun Za => (ZK 103 [(.slc 2 (rcL mulF (R.getD 0 (bd0, true)).fst (R.getD 1 (bd0, true)).fst i).length (fr2 (rcL mulF (R.getD 0 (bd0, true)).fst (R.getD 1 (bd0, true)).fst i))), (db (okS mulF true (R.getD 0 (bd0, true)).fst (R.getD 1 (bd0, true)).fst i))] (.tup [(.agg [(di Za.fst.a), (di Za.fst.b)]), (.agg [(di Za.fst.c), (di Za.fst.d)]), (db Za.snd)]) ∧ ((.tup [(.agg [(di Za.fst.a), (di Za.fst.b)]), (.agg [(di Za.fst.c), (di Za.fst.d)]), (db Za.snd)]) : DV) = (.tup [(fr (brE L x).fst.a (brE L x).fst.b), (fr (brE L x).fst.c (brE L x).fst.d), (db (brE L x).snd)]))) (xtR (rd2 (DV.slc 2 (rcL mulF (R.getD 0 (bd0, true)).fst (R.getD 1 (bd0, true)).fst i).length (fr2 (rcL mulF (R.getD 0 (bd0, true)).fst (R.getD 1 (bd0, true)).fst i)))) (okS mulF true (R.getD 0 (bd0, true)).fst (R.getD 1 (bd0, true)).fst i))) (by kernel_rfl) ?_
            simp only [rd2_eq]
            refine ⟨f103 (rcL mulF (R.getD 0 (bd0, true)).1 (R.getD 1 (bd0, true)).1 i) _ (by rw [rcL_len]; omega) (fun hb => by rw [rcL_len, hend hb]; omega), ?_⟩
            rw [ebk (by omega) (by omega), brC_8 hk8, hxt, Bool.true_and]
      · have hk9 : x.k = 9 := by omega
        refine AWP.pre (.moves [(197, 902)] _ rfl) ?_
        refine AWP.loop (c := cAt (bodyOf Tryz.f59) [1, 1, 1, 0, 1, 0, 1, 1, 1, 1, 1, 1, 1, 1, 1, 1, 1, 0, 1, 1, 0, 1, 0, 0]) (by kernel_rfl) (S59c divF (decide ((R.getD 1 (bd0, true)).1.a > 0) || decide ((R.getD 1 (bd0, true)).1.c < 0)) R (R.getD 0 (bd0, true)).1 (R.getD 1 (bd0, true)).1 m x) (fun i => i ≤ 4) (fun i => 4 - i) 0 ?_ (by omega) ?_
        · refine AS.leZ [5] [3] (b := ((T0 ∧ T0 ∧ T0 ∧ T0 ∧ T0 ∧ ((vb (x.k == 8 || decide (((lows R).getD (Int.toNat 1) (0, 0)).fst > 0) || decide (((highs R).getD (Int.toNat 1) (0, 0)).fst < 0))) : AV) = (vb (okS divF (decide ((R.getD 1 (bd0, true)).fst.a > 0) || decide ((R.getD 1 (bd0, true)).fst.c < 0)) (R.getD 0 (bd0, true)).fst (R.getD 1 (bd0, true)).fst 0)) ∧ T0 ∧ T0 ∧ True) ∧ T0 ∧ T0 ∧ T0 ∧ ((some [(.arr ⟨true, 23, false, none⟩ 2 (fun x => DV.con undef))]) : (Option (List AV))) = (some [(.arr ⟨true, 23, false, none⟩ 2 (rowX divF (R.getD 0 (bd0, true)).fst (R.getD 1 (bd0, true)).fst 0))]) ∧ True)) (by kernel_rfl) (by kernel_rfl) ?_
          refine ⟨⟨rfl, rfl, rfl, rfl, rfl, ?_, rfl, rfl, trivial⟩, rfl, rfl, rfl, rfl, trivial⟩
          refine congrArg vb ?_
          rw [hk9]
          unfold okS
          simp only [lows_get, highs_get, t0, t1]
          simp
        · intro i hi
          have em : Int.tmod (i : Int) 2 = ((i % 2 : Nat) : Int) := rfl
          have ed : Int.tdiv (i : Int) 2 = ((i / 2 : Nat) : Int) := rfl
          refine walkK (orc := orcRb L) (keep := []) (cuts := []) (n := 1000) follows ?_
          refine of_rd (fun ZT ZW ZQ ZK ZA _ => (fun Za Zb Zc Zd Ze => (((Ze = true) → (((((0 : Int) ≤ (0 : Int)) ∧ (0 < (↑(lows R).length : Int))) ∧ ((0 : Int) ≤ (1 : Int)) ∧ (1 < (↑(lows R).length : Int))) ∧ (((((↑i : Int)).tmod 2 == 1) = true) → ((((0 : Int) ≤ (0 : Int)) ∧ (0 < (↑(highs R).length : Int))) ∧ (R64 ↑i) ∧ (((((↑i : Int)).tdiv 2 == 1) = true) → ((((0 : Int) ≤ (1 : Int)) ∧ (1 < (↑(highs R).length : Int))) ∧ ZK 105 [(.agg [(di Za.fst), (di Za.snd)]), (.agg [(di Zb.fst), (di Zb.snd)])] (.tup [(.agg [(di (mulF Za.fst Za.snd Zb.fst Zb.snd).fst), (di (mulF Za.fst Za.snd Zb.fst Zb.snd).snd.fst)]), (di (mulF Za.fst Za.snd Zb.fst Zb.snd).snd.snd)]) ∧ (((x.k == 9) = true) → (ZK 106 [(.agg [(di Za.fst), (di Za.snd)]), (.agg [(di Zb.fst), (di Zb.snd)])] (.tup [(.agg [(di (divF Za.fst Za.snd Zb.fst Zb.snd).fst), (di (divF Za.fst Za.snd Zb.fst Zb.snd).snd.fst)]), (di (divF Za.fst Za.snd Zb.fst Zb.snd).snd.snd)]) ∧ ((((i + 1) * 16 ≤ 1099511627776) ∧ (i + 1 ≤ 1099511627776)) ∧ (∀ (i : Nat), i < 1 → elemOK true 2 (elemF true 2 [DV.con (Value.int IntKind.i64 (divF Za.fst Za.snd Zb.fst Zb.snd).fst), DV.con (Value.int IntKind.i64 (divF Za.fst Za.snd Zb.fst Zb.snd).snd.fst)] i) = true)) ∧ (I64 (↑i + 1)) ∧ (ZA (stS ZT [0, 0, 0, 0])))) ∧ (((x.k == 9) = false) → (((((i + 1) * 16 ≤ 1099511627776) ∧ (i + 1 ≤ 1099511627776)) ∧ (∀ (i : Nat), i < 1 → elemOK true 2 (elemF true 2 [DV.con (Value.int IntKind.i64 (mulF Za.fst Za.snd Zb.fst Zb.snd).fst), DV.con (Value.int IntKind.i64 (mulF Za.fst Za.snd Zb.fst Zb.snd).snd.fst)] i) = true)) ∧ (I64 (↑i + 1)) ∧ (ZA (stS ZT [0, 0, 0, 1])))))) ∧ (((((↑i : Int)).tdiv 2 == 1) = false) → (ZK 105 [(.agg [(di Za.fst), (di Za.snd)]), (.agg [(di Zc.fst), (di Zc.snd)])] (.tup [(.agg [(di (mulF Za.fst Za.snd Zc.fst Zc.snd).fst), (di (mulF Za.fst Za.snd Zc.fst Zc.snd).snd.fst)]), (di (mulF Za.fst Za.snd Zc.fst Zc.snd).snd.snd)]) ∧ (((x.k == 9) = true) → (ZK 106 [(.agg [(di Za.fst), (di Za.snd)]), (.agg [(di Zc.fst), (di Zc.snd)])] (.tup [(.agg [(di (divF Za.fst Za.snd Zc.fst Zc.snd).fst), (di (divF Za.fst Za.snd Zc.fst Zc.snd).snd.fst)]), (di (divF Za.fst Za.snd Zc.fst Zc.snd).snd.snd)]) ∧ ((((i + 1) * 16 ≤ 1099511627776) ∧ (i + 1 ≤ 1099511627776)) ∧ (∀ (i : Nat), i < 1 → elemOK true 2 (elemF true 2 [DV.con (Value.int IntKind.i64 (divF Za.fst Za.snd Zc.fst Zc.snd).fst), DV.con (Value.int IntKind.i64 (divF Za.fst Za.snd Zc.fst Zc.snd).snd.fst)] i) = true)) ∧ (I64 (↑i + 1)) ∧ (ZA (stS ZT [0, 0, 1, 0])))) ∧ (((x.k == 9) = false) → (((((i + 1) * 16 ≤ 1099511627776) ∧ (i + 1 ≤ 1099511627776)) ∧ (∀ (i : Nat), i < 1 → elemOK true 2 (elemF true 2 [DV.con (Value.int IntKind.i64 (mulF Za.fst Za.snd Zc.fst Zc.snd).fst), DV.con (Value.int IntKind.i64 (mulF Za.fst Za.snd Zc.fst Zc.snd).snd.fst)] i) = true)) ∧ (I64 (↑i + 1)) ∧ (ZA (stS ZT [0, 0, 1, 1])))))))) ∧ (((((↑i : Int)).tmod 2 == 1) = false) → ((R64 ↑i) ∧ (((((↑i : Int)).tdiv 2 == 1) = true) → ((((0 : Int) ≤ (1 : Int)) ∧ (1 < (↑(highs R).length : Int))) ∧ ZK 105 [(.agg [(di Zd.fst), (di Zd.snd)]), (.agg [(di Zb.fst), (di Zb.snd)])] (.tup [(.agg [(di (mulF Zd.fst Zd.snd Zb.fst Zb.snd).fst), (di (mulF Zd.fst Zd.snd Zb.fst Zb.snd).snd.fst)]), (di (mulF Zd.fst Zd.snd Zb.fst Zb.snd).snd.snd)]) ∧ (((x.k == 9) = true) → (ZK 106 [(.agg [(di Zd.fst), (di Zd.snd)]), (.agg [(di Zb.fst), (di Zb.snd)])] (.tup [(.agg [(di (divF Zd.fst Zd.snd Zb.fst Zb.snd).fst), (di (divF Zd.fst Zd.snd Zb.fst Zb.snd).snd.fst)]), (di (divF Zd.fst Zd.snd Zb.fst Zb.snd).snd.snd)]) ∧ ((((i + 1) * 16 ≤ 1099511627776) ∧ (i + 1 ≤ 1099511627776)) ∧ (∀ (i : Nat), i < 1 → elemOK true 2 (elemF true 2 [DV.con (Value.int IntKind.i64 (divF Zd.fst Zd.snd Zb.fst Zb.snd).fst), DV.con (Value.int IntKind.i64 (divF Zd.fst Zd.snd Zb.fst Zb.snd).snd.fst)] i) = true)) ∧ (I64 (↑i + 1)) ∧ (ZA (stS ZT [0, 1, 0, 0])))) ∧ (((x.k == 9) = false) → (((((i + 1) * 16 ≤ 1099511627776) ∧ (i + 1 ≤ 1099511627776)) ∧ (∀ (i : Nat), i < 1 → elemOK true 2 (elemF true 2 [DV.con (Value.int IntKind.i64 (mulF Zd.fst Zd.snd Zb.fst Zb.snd).fst), DV.con (Value.int IntKind.i64 (mulF Zd.fst Zd.snd Zb.fst Zb.snd).snd.fst)] i) = true)) ∧ (I64 (↑i + 1)) ∧ (ZA (stS ZT [0, 1, 0, 1])))))) ∧ (((((↑i : Int)).tdiv 2 == 1) = false) → (ZK 105 [(.agg [(di Zd.fst), (di Zd.snd)]), (.agg [(di Zc.fst), (di Zc.snd)])] (.tup [(.agg [(di (mulF Zd.fst Zd.snd Zc.fst Zc.snd).fst), (di (mulF Zd.fst Zd.snd Zc.fst Zc.snd).snd.fst)]), (di (mulF Zd.fst Zd.snd Zc.fst Zc.snd).snd.snd)]) ∧ (((x.k == 9) = true) → (ZK 106 [(.agg [(di Zd.fst), (di Zd.snd)]), (.agg [(di Zc.fst), (di Zc.snd)])] (.tup [(.agg [(di (divF Zd.fst Zd.snd Zc.fst Zc.snd).fst), (di (divF Zd.fst Zd.snd Zc.fst Zc.snd).snd.fst)]), (di (divF Zd.fst Zd.snd Zc.fst Zc.snd).snd.snd)]) ∧ ((((i + 1) * 16 ≤ 1099511627776) ∧ (i + 1 ≤ 1099511627776)) ∧ (∀ (i : Nat), i < 1 → elemOK true 2 (elemF true 2 [DV.con (Value.int IntKind.i64 (divF Zd.fst Zd.snd Zc.fst Zc.snd).fst), DV.con (Value.int IntKind.i64 (divF Zd.fst Zd.snd Zc.fst Zc.snd).snd.fst)] i) = true)) ∧ (I64 (↑i + 1)) ∧ (ZA (stS ZT [0, 1, 1, 0])))) ∧ (((x.k == 9) = false) → (((((i + 1) * 16 ≤ 1099511627776) ∧ (i + 1 ≤ 1099511627776)) ∧ (∀ (i : Nat), i < 1 → elemOK true 2 (elemF true 2 [DV.con (Value.int IntKind.i64 (mulF Zd.fst Zd.snd Zc.fst Zc.snd).fst), DV.con (Value.int IntKind.i64 (mulF Zd.fst Zd.snd Zc.fst Zc.snd).snd.fst)] i) = true)) ∧ (I64 (↑i + 1)) ∧ (ZA (stS ZT [0, 1, 1, 1])))))))))) ∧ ((Ze = false) → ZW [cd Tryz.f59 [1, 1, 1, 0, 1, 0, 1, 1, 1, 1, 1, 1, 1, 1, 1, 1, 1, 0, 1, 1, 1], (.blk 2), cd Tryz.f59 [1, 1, 1, 1]] (stS ZT [1]) ZQ))) ((highs R).getD (Int.toNat 0) (0, 0)) ((highs R).getD (Int.toNat 1) (0, 0)) ((lows R).getD (Int.toNat 1) (0, 0)) ((lows R).getD (Int.toNat 0) (0, 0)) (decide ((↑i : Int) < 4) && okS divF (decide ((R.getD 1 (bd0, true)).fst.a > 0) || decide ((R.getD 1 (bd0, true)).fst.c < 0)) (R.getD 0 (bd0, true)).fst (R.getD 1 (bd0, true)).fst i)) (by kernel_rfl) ?_
          simp only [lows_get, highs_get, t0, t1, em, ed, beq_iff_eq, beq_eq_false_iff_ne, ne_eq]
          refine ⟨fun h => ?_, fun h => ?_⟩
          · have hc : i < 4 ∧ okS divF (decide ((R.getD 1 (bd0, true)).1.a > 0) || decide ((R.getD 1 (bd0, true)).1.c < 0)) (R.getD 0 (bd0, true)).1 (R.getD 1 (bd0, true)).1 i = true := by
              simp only [Bool.and_eq_true, decide_eq_true_eq] at h
              exact ⟨by omega, h.2⟩
            have hst := ok_step hc.2
            have hi4 := hc.1
            clear h hc
            repeat' (first | (with_reducible refine And.intro ?_ ?_) | (with_reducible intro _))
            all_goals first
              | (exfalso; omega)
              | omega
              | (show (0:Int) ≤ _; omega)
              | (show (0:Int) < _; omega)
              | (show (1:Int) < _; omega)
              | exact ⟨by omega, by omega⟩
              | exact f105 _ _ _ _
              | exact f106 _ _ _ _
              | (rename_i i1 h1; obtain rfl : i1 = 0 := (by omega); rfl)
              | skip
            · have hrc := rcR_hh (op := divF) (p := (R.getD 0 (bd0, true)).1) (q := (R.getD 1 (bd0, true)).1) (i := i) (by omega) (by omega)
              refine Again.mkR [(241, 902)] rfl (i + 1) ?_ (by omega) (by omega)
              refine AS.leZ [5] [3] (b := ((T0 ∧ T0 ∧ T0 ∧ T0 ∧ T0 ∧ ((vb ((divF ((highs R).getD (Int.toNat 0) (0, 0)).fst ((highs R).getD (Int.toNat 0) (0, 0)).snd ((highs R).getD (Int.toNat 1) (0, 0)).fst ((highs R).getD (Int.toNat 1) (0, 0)).snd).snd.snd == 0)) : AV) = (vb (okS divF (decide ((R.getD 1 (bd0, true)).fst.a > 0) || decide ((R.getD 1 (bd0, true)).fst.c < 0)) (R.getD 0 (bd0, true)).fst (R.getD 1 (bd0, true)).fst (i + 1))) ∧ T0 ∧ T0 ∧ True) ∧ T0 ∧ T0 ∧ T0 ∧ ((some [(.arr ⟨true, 23, false, none⟩ 2 (fun i_1 => bif i_1.blt i then rowX divF (R.getD 0 (bd0, true)).fst (R.getD 1 (bd0, true)).fst i i_1 else elemF true 2 [DV.con (Value.int IntKind.i64 (divF ((highs R).getD (Int.toNat 0) (0, 0)).fst ((highs R).getD (Int.toNat 0) (0, 0)).snd ((highs R).getD (Int.toNat 1) (0, 0)).fst ((highs R).getD (Int.toNat 1) (0, 0)).snd).fst), DV.con (Value.int IntKind.i64 (divF ((highs R).getD (Int.toNat 0) (0, 0)).fst ((highs R).getD (Int.toNat 0) (0, 0)).snd ((highs R).getD (Int.toNat 1) (0, 0)).fst ((highs R).getD (Int.toNat 1) (0, 0)).snd).snd.fst)] (i_1 - i)))]) : (Option (List AV))) = (some [(.arr ⟨true, 23, false, none⟩ 2 (rowX divF (R.getD 0 (bd0, true)).fst (R.getD 1 (bd0, true)).fst (i + 1)))]) ∧ True)) (by kernel_rfl) (by kernel_rfl) ?_
              simp only [lows_get, highs_get, t0, t1, em, ed]
              refine ⟨⟨trivial, trivial, trivial, trivial, trivial, by rw [hst, hrc], trivial, trivial, trivial⟩, trivial, trivial, trivial, ?_, trivial⟩
              exact congrArg (fun f => some [AV.arr frK 2 f]) (rowX_next i (by rw [hrc]) (by rw [hrc]))
            · have hrc := rcR_hl (op := divF) (p := (R.getD 0 (bd0, true)).1) (q := (R.getD 1 (bd0, true)).1) (i := i) (by omega) (by omega)
              refine Again.mkR [(241, 902)] rfl (i + 1) ?_ (by omega) (by omega)
              refine AS.leZ [5] [3] (b := ((T0 ∧ T0 ∧ T0 ∧ T0 ∧ T0 ∧ ((vb ((divF ((highs R).getD (Int.toNat 0) (0, 0)).fst ((highs R).getD (Int.toNat 0) (0, 0)).snd ((lows R).getD (Int.toNat 1) (0, 0)).fst ((lows R).getD (Int.toNat 1) (0, 0)).snd).snd.snd == 0)) : AV) = (vb (okS divF (decide ((R.getD 1 (bd0, true)).fst.a > 0) || decide ((R.getD 1 (bd0, true)).fst.c < 0)) (R.getD 0 (bd0, true)).fst (R.getD 1 (bd0, true)).fst (i + 1))) ∧ T0 ∧ T0 ∧ True) ∧ T0 ∧ T0 ∧ T0 ∧ ((some [(.arr ⟨true, 23, false, none⟩ 2 (fun i_1 => bif i_1.blt i then rowX divF (R.getD 0 (bd0, true)).fst (R.getD 1 (bd0, true)).fst i i_1 else elemF true 2 [DV.con (Value.int IntKind.i64 (divF ((highs R).getD (Int.toNat 0) (0, 0)).fst ((highs R).getD (Int.toNat 0) (0, 0)).snd ((lows R).getD (Int.toNat 1) (0, 0)).fst ((lows R).getD (Int.toNat 1) (0, 0)).snd).fst), DV.con (Value.int IntKind.i64 (divF ((highs R).getD (Int.toNat 0) (0, 0)).fst ((highs R).getD (Int.toNat 0) (0, 0)).snd ((lows R).getD (Int.toNat 1) (0, 0)).fst ((lows R).getD (Int.toNat 1) (0, 0)).snd).snd.fst)] (i_1 - i)))]) : (Option (List AV))) = (some [(.arr ⟨true, 23, false, none⟩ 2 (rowX divF (R.getD 0 (bd0, true)).fst (R.getD 1 (bd0, true)).fst (i + 1)))]) ∧ True)) (by kernel_rfl) (by kernel_rfl) ?_
              simp only [lows_get, highs_get, t0, t1, em, ed]
              refine ⟨⟨trivial, trivial, trivial, trivial, trivial, by rw [hst, hrc], trivial, trivial, trivial⟩, trivial, trivial, trivial, ?_, trivial⟩
              exact congrArg (fun f => some [AV.arr frK 2 f]) (rowX_next i (by rw [hrc]) (by rw [hrc]))
            · have hrc := rcR_lh (op := divF) (p := (R.getD 0 (bd0, true)).1) (q := (R.getD 1 (bd0, true)).1) (i := i) (by omega) (by omega)
              refine Again.mkR [(241, 902)] rfl (i + 1) ?_ (by omega) (by omega)
              refine AS.leZ [5] [3] (b := ((T0 ∧ T0 ∧ T0 ∧ T0 ∧ T0 ∧ ((vb ((divF ((lows R).getD (Int.toNat 0) (0, 0)).fst ((lows R).getD (Int.toNat 0) (0, 0)).snd ((highs R).getD (Int.toNat 1) (0, 0)).fst ((highs R).getD (Int.toNat 1) (0, 0)).snd).snd.snd == 0)) : AV) = (vb (okS divF (decide ((R.getD 1 (bd0, true)).fst.a > 0) || decide ((R.getD 1 (bd0, true)).fst.c < 0)) (R.getD 0 (bd0, true)).fst (R.getD 1 (bd0, true)).fst (i + 1))) ∧ T0 ∧ T0 ∧ True) ∧ T0 ∧ T0 ∧ T0 ∧ ((some [(.arr ⟨true, 23, false, none⟩ 2 (fun i_1 => bif i_1.blt i then rowX divF (R.getD 0 (bd0, true)).fst (R.getD 1 (bd0, true)).fst i i_1 else elemF true 2 [DV.con (Value.int IntKind.i64 (divF ((lows R).getD (Int.toNat 0) (0, 0)).fst ((lows R).getD (Int.toNat 0) (0, 0)).snd ((highs R).getD (Int.toNat 1) (0, 0)).fst ((highs R).getD (Int.toNat 1) (0, 0)).snd).fst), DV.con (Value.int IntKind.i64 (divF ((lows R).getD (Int.toNat 0) (0, 0)).fst ((lows R).getD (Int.toNat 0) (0, 0)).snd ((highs R).getD (Int.toNat 1) (0, 0)).fst ((highs R).getD (Int.toNat 1) (0, 0)).snd).snd.fst)] (i_1 - i)))]) : (Option (List AV))) = (some [(.arr ⟨true, 23, false, none⟩ 2 (rowX divF (R.getD 0 (bd0, true)).fst (R.getD 1 (bd0, true)).fst (i + 1)))]) ∧ True)) (by kernel_rfl) (by kernel_rfl) ?_
              simp only [lows_get, highs_get, t0, t1, em, ed]
              refine ⟨⟨trivial, trivial, trivial, trivial, trivial, by rw [hst, hrc], trivial, trivial, trivial⟩, trivial, trivial, trivial, ?_, trivial⟩
              exact congrArg (fun f => some [AV.arr frK 2 f]) (rowX_next i (by rw [hrc]) (by rw [hrc]))
            · have hrc := rcR_ll (op := divF) (p := (R.getD 0 (bd0, true)).1) (q := (R.getD 1 (bd0, true)).1) (i := i) (by omega) (by omega)
              refine Again.mkR [(241, 902)] rfl (i + 1) ?_ (by omega) (by omega)
              refine AS.leZ [5] [3] (b := ((T0 ∧ T0 ∧ T0 ∧ T0 ∧ T0 ∧ ((vb ((divF ((lows R).getD (Int.toNat 0) (0, 0)).fst ((lows R).getD (Int.toNat 0) (0, 0)).snd ((lows R).getD (Int.toNat 1) (0, 0)).fst ((lows R).getD (Int.toNat 1) (0, 0)).snd).snd.snd == 0)) : AV) = (vb (okS divF (decide ((R.getD 1 (bd0, true)).fst.a > 0) || decide ((R.getD 1 (bd0, true)).fst.c < 0)) (R.getD 0 (bd0, true)).fst (R.getD 1 (bd0, true)).fst (i + 1))) ∧ T0 ∧ T0 ∧ True) ∧ T0 ∧ T0 ∧ T0 ∧ ((some [(.arr ⟨true, 23, false, none⟩ 2 (fun i_1 => bif i_1.blt i then rowX divF (R.getD 0 (bd0, true)).fst (R.getD 1 (bd0, true)).fst i i_1 else elemF true 2 [DV.con (Value.int IntKind.i64 (divF ((lows R).getD (Int.toNat 0) (0, 0)).fst ((lows R).getD (Int.toNat 0) (0, 0)).snd ((lows R).getD (Int.toNat 1) (0, 0)).fst ((lows R).getD (Int.toNat 1) (0, 0)).snd).fst), DV.con (Value.int IntKind.i64 (divF ((lows R).getD (Int.toNat 0) (0, 0)).fst ((lows R).getD (Int.toNat 0) (0, 0)).snd ((lows R).getD (Int.toNat 1) (0, 0)).fst ((lows R).getD (Int.toNat 1) (0, 0)).snd).snd.fst)] (i_1 - i)))]) : (Option (List AV))) = (some [(.arr ⟨true, 23, false, none⟩ 2 (rowX divF (R.getD 0 (bd0, true)).fst (R.getD 1 (bd0, true)).fst (i + 1)))]) ∧ True)) (by kernel_rfl) (by kernel_rfl) ?_
              simp only [lows_get, highs_get, t0, t1, em, ed]
              refine ⟨⟨trivial, trivial, trivial, trivial, trivial, by rw [hst, hrc], trivial, trivial, trivial⟩, trivial, trivial, trivial, ?_, trivial⟩
              exact congrArg (fun f => some [AV.arr frK 2 f]) (rowX_next i (by rw [hrc]) (by rw [hrc]))
          · obtain ⟨hend, hxt⟩ := ok_end hi h
            refine AWP.freeze (agg := frK) (sz := 2) (f := rowX divF (R.getD 0 (bd0, true)).1 (R.getD 1 (bd0, true)).1 i) 902 (by kernel_rfl) ?_
            refine AWP.pre (.regD _ 23 (.slc 2 i fun n => rowX divF (R.getD 0 (bd0, true)).1 (R.getD 1 (bd0, true)).1 i (0 + n)) (fr2D (rcL divF (R.getD 0 (bd0, true)).1 (R.getD 1 (bd0, true)).1 i)) (by kernel_rfl) fun h v hv => ?_) ?_
            · show DV.rel h (.slc 2 (rcL divF (R.getD 0 (bd0, true)).1 (R.getD 1 (bd0, true)).1 i).length _) v
              rw [rcL_len]
              exact DV.rel_slc_congr (fun n hn => rowX_get hn) hv
            refine walkK (orc := orcRb L) (keep := []) (cuts := []) (n := 1000) follows ?_
            refine of_tr (fun _ _ _ ZK => (fun Za => (ZK 103 [(.slc 2 (rcL divF (R.getD 0 (bd0, true)).fst (R.getD 1 (bd0, true)).fst i).length (fr2 (rcL divF (R.getD 0 (bd0, true)).fst (R.getD 1 (bd0, true)).fst i))), (db (okS divF (decide ((R.getD 1 (bd0, true)).fst.a > 0) || decide ((R.getD 1 (bd0, true)).fst.c < 0)) (R.getD 0 (bd0, true)).fst (R.getD 1 (bd0, true)).fst i))] (.tup [(.agg [(di Za.fst.a), (di Za.fst.b)]), (.agg [(di Za.fst.c), (di Za.fst.d)]), (db Za.snd)]) ∧ ((.tup [(.agg [(di Za.fst.a), (di Za.fst.b)]), (.agg [(di Za.fst.c), (di Za.fst.d)]), (db Za.snd)]) : DV) = (.tup [(fr (brE L x).fst.a (brE L x).fst.b), (fr (brE L x).fst.c (brE L x).fst.d), (db (brE L x).snd)]))) (xtR (rd2 (DV.slc 2 (rcL divF (R.getD 0 (bd0, true)).fst (R.getD 1 (bd0, true)).fst i).length (fr2 (rcL divF (R.getD 0 (bd0, true)).fst (R.getD 1 (bd0, true)).fst i)))) (okS divF (decide ((R.getD 1 (bd0, true)).fst.a > 0) || decide ((R.getD 1 (bd0, true)).fst.c < 0)) (R.getD 0 (bd0, true)).fst (R.getD 1 (bd0, true)).fst i))) (by kernel_rfl) ?_
            simp only [rd2_eq]
            refine ⟨f103 (rcL divF (R.getD 0 (bd0, true)).1 (R.getD 1 (bd0, true)).1 i) _ (by rw [rcL_len]; omega) (fun hb => by rw [rcL_len, hend hb]; omega), ?_⟩
            rw [ebk (by omega) (by omega), brC_9 hk9, hxt]
end Go.Proofs
