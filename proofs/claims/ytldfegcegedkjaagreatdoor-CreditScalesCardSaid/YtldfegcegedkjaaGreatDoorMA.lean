import Derived.Test.YtldfegcegedkjaaGreatDoorAcC
import Derived.Test.YtldfegcegedkjaaGreatDoorNB
import Derived.Test.YtldfegcegedkjaaGreatDoorCA
import Derived.Test.YtldfegcegedkjaaGreatDoorFC
set_option autoImplicit false
namespace Go.Proofs
open Go Go.Ab Go.RowKit
set_option maxHeartbeats 1000000
set_option maxRecDepth 100000
variable {G : IH}
def rightB (x : Ln) : Bool := decide (0 ≤ x.kind) && (decide (x.kind ≤ 3) && (nameB x.name && ((decide (x.group.size = 0) || (x.kind == 0 && nameB x.group)) && (!x.app || (ok x.n x.d && x.err == 0)))))
def indP (p : Ln → Bool) (L : List Ln) : Int := if L.any p then ((L.takeWhile fun x => !p x).length : Nat) else -1
abbrev fnV (k : Nat) : DV := .con (.func (.func k) #[] #[])
def zeroL : List DV := [di 0, di 1]
def glZ (g : Nat) : Option (List DV) := match g with
  | 0 => some zeroL
  | _ => none
def orcCd (b : Bool) : Oracle := fun f a => match f, a with
  | 77, [fr a b, fr c d] => some (.tup [di (cmpF a b c d), db (ok2 a b c d)])
  | 44, [fr a b, fr c d] => some (db (lessB a b c d))
  | 61, [.agg [_, _, _, _, .con (.int .i64 n), .con (.int .i64 d), _]] => some (fr (wtN n d) (wtD n d))
  | 42, [.con (.string s)] => some (db (nameB s))
  | 43, [fr a b] => some (db (ok a b))
  | 33, [_] => some (db b)
  | _, _ => none
def orcC (b : Bool) : Orc := { d := orcCd b, gl := glZ }
theorem f44 (a b c d : Int) : FnOK Tryz.prog G 44 [fr a b, fr c d] (db (lessB a b c d)) := by
  refine FnOK.walk (orc := orcC true) (keep := []) follows Tryz.func44 rfl Tryz.call44 ?_
  refine of_eqH (b :=
    (FnOK Tryz.prog G 77 [(.agg [(di a), (di b)]), (.agg [(di c), (di d)])] (.tup [(di (cmpF a b c d)), (db (ok2 a b c d))]) ∧
    (((db (decide (cmpF a b c d < (0 : Int)))) : DV) = (db (lessB a b c d))))) (by kernel_rfl) ?_
  exact ⟨f77 a b c d, rfl⟩
theorem f61 (hZ : Glob G 0 zeroL) (nm gr : ByteArray) (k : Int) (ap : Bool) (n d e : Int) : FnOK Tryz.prog G 61 [lnV nm gr k ap n d e] (fr (wtN n d) (wtD n d)) := by
  refine FnOK.walk (orc := orcC true) (keep := []) follows Tryz.func61 rfl Tryz.call61 ?_
  refine of_eqH (b :=
    (((∃ vs, (∃ v vs', vs = v :: vs' ∧ v = Value.int IntKind.i64 (0 : Int) ∧ ∃ v vs'_1, vs' = v :: vs'_1 ∧ v = Value.int IntKind.i64 (1 : Int) ∧ vs'_1 = []) ∧ ∀ (i : Nat), i < List.length vs → IH.cell G (0 : Nat) i = vs[i]?) ∧
    FnOK Tryz.prog G 44 [(.agg [(di n), (di d)]), (.agg [(di 0), (di 1)])] (db (lessB n d (0 : Int) (1 : Int)))) ∧
    ((((lessB n d (0 : Int) (1 : Int)) = true) →
    ((∃ vs, (∃ v vs', vs = v :: vs' ∧ v = Value.int IntKind.i64 (0 : Int) ∧ ∃ v vs'_1, vs' = v :: vs'_1 ∧ v = Value.int IntKind.i64 (1 : Int) ∧ vs'_1 = []) ∧ ∀ (i : Nat), i < List.length vs → IH.cell G (0 : Nat) i = vs[i]?) ∧
    (((.agg [(di 0), (di 1)]) : DV) = (fr (wtN n d) (wtD n d))))) ∧
    (((lessB n d (0 : Int) (1 : Int)) = false) →
    (((.agg [(di n), (di d)]) : DV) = (fr (wtN n d) (wtD n d))))))) (by kernel_rfl) ?_
  refine ⟨⟨hZ, f44 _ _ _ _⟩, fun h => ⟨hZ, ?_⟩, fun h => ?_⟩
  · unfold wtN wtD; rw [h]; rfl
  · unfold wtN wtD; rw [h]; rfl
theorem f33 (x : Ln) (hs : x.name.size ≤ 1000000) (hg : x.group.size ≤ 1000000) : FnOK Tryz.prog G 33 [lnD x] (db (rightB x)) := by
  refine FnOK.walk (orc := orcC true) (keep := []) follows Tryz.func33 rfl Tryz.call33 ?_
  refine of_eqH (b :=
    ((((!(decide (Ln.kind x < (0 : Int)) || decide (Ln.kind x > (3 : Int)))) = true) →
    FnOK Tryz.prog G 42 [(ds (Ln.name x))] (db (nameB (Ln.name x)))) ∧
    ((((decide (Ln.kind x < (0 : Int)) || decide (Ln.kind x > (3 : Int)) || !nameB (Ln.name x)) = true) →
    (((db false) : DV) = (db (rightB x)))) ∧
    (((decide (Ln.kind x < (0 : Int)) || decide (Ln.kind x > (3 : Int)) || !nameB (Ln.name x)) = false) →
    ((((!ByteArray.toList (Ln.group x) == ByteArray.toList { data := #[] } && !Ln.kind x != (0 : Int)) = true) →
    FnOK Tryz.prog G 42 [(ds (Ln.group x))] (db (nameB (Ln.group x)))) ∧
    ((((!ByteArray.toList (Ln.group x) == ByteArray.toList { data := #[] } && (Ln.kind x != (0 : Int) || !nameB (Ln.group x))) = true) →
    (((db false) : DV) = (db (rightB x)))) ∧
    (((!ByteArray.toList (Ln.group x) == ByteArray.toList { data := #[] } && (Ln.kind x != (0 : Int) || !nameB (Ln.group x))) = false) →
    ((((!!Ln.app x) = true) →
    FnOK Tryz.prog G 43 [(.agg [(di (Ln.n x)), (di (Ln.d x))])] (db (ok (Ln.n x) (Ln.d x)))) ∧
    (((db (!Ln.app x || ok (Ln.n x) (Ln.d x) && Ln.err x == (0 : Int))) : DV) = (db (rightB x))))))))))) (by kernel_rfl) ?_
  simp only [emp_beq]
  have hk : (decide (x.kind < 0) || decide (x.kind > 3)) = !(decide (0 ≤ x.kind) && decide (x.kind ≤ 3)) := by
    by_cases h1 : 0 ≤ x.kind <;> by_cases h2 : x.kind ≤ 3 <;> simp [h1, h2] <;> omega
  have hR : rightB x = ((!(decide (x.kind < 0) || decide (x.kind > 3) || !nameB x.name)) && ((decide (x.group.size = 0) || (x.kind == 0 && nameB x.group)) && (!x.app || (ok x.n x.d && x.err == 0)))) := by
    unfold rightB
    rw [hk]
    cases decide (0 ≤ x.kind) <;> cases decide (x.kind ≤ 3) <;> cases nameB x.name <;> rfl
  refine ⟨fun _ => f42 _ hs, fun h => ?_, fun h => ⟨fun _ => f42 _ hg, fun h2 => ?_, fun h2 => ⟨fun _ => f43 _ _, ?_⟩⟩⟩
  · rw [hR, h]; rfl
  · rw [hR, h]
    have : (decide (x.group.size = 0) || (x.kind == 0 && nameB x.group)) = false := by
      have e : (x.kind != 0) = !(x.kind == 0) := rfl
      rw [e] at h2
      cases hd : decide (x.group.size = 0) <;> cases hk : (x.kind == 0) <;> cases hn : nameB x.group <;> simp_all
    rw [this]; rfl
  · rw [hR, h]
    have : (decide (x.group.size = 0) || (x.kind == 0 && nameB x.group)) = true := by
      have e : (x.kind != 0) = !(x.kind == 0) := rfl
      rw [e] at h2
      cases hd : decide (x.group.size = 0) <;> cases hk : (x.kind == 0) <;> cases hn : nameB x.group <;> simp_all
    rw [this]; rfl
theorem f32 (x : Ln) (hs : x.name.size ≤ 1000000) (hg : x.group.size ≤ 1000000) : FnOK Tryz.prog G 32 [lnD x] (db (!rightB x)) := by
  refine FnOK.walk (orc := orcC (rightB x)) (keep := []) follows Tryz.func32 rfl Tryz.call32 ?_
  refine of_eqH (b :=
    (FnOK Tryz.prog G 33 [(.agg [(ds (Ln.name x)), (ds (Ln.group x)), (di (Ln.kind x)), (db (Ln.app x)), (di (Ln.n x)), (di (Ln.d x)), (di (Ln.err x))])] (db (rightB x)) ∧
    (((db (!rightB x)) : DV) = (db !rightB x)))) (by kernel_rfl) ?_
  exact ⟨f33 x hs hg, rfl⟩
end Go.Proofs
set_option autoImplicit false
namespace Go.Proofs
open Go Go.Ab Go.RowKit
set_option maxHeartbeats 1000000
set_option maxRecDepth 100000
variable {G : IH}
def Short (L : List Ln) : Prop := ∀ x ∈ L, x.name.size ≤ 1000000 ∧ x.group.size ≤ 1000000
theorem Short.get {L : List Ln} (h : Short L) (i : Nat) : (L.getD i ln0).name.size ≤ 1000000 ∧ (L.getD i ln0).group.size ≤ 1000000 := by
  rcases Nat.lt_or_ge i L.length with h1 | h1
  · have e : L.getD i ln0 = L[i] := by rw [List.getD, List.getElem?_eq_getElem h1]; rfl
    rw [e]; exact h _ (List.getElem_mem h1)
  · have e : L.getD i ln0 = ln0 := by rw [List.getD, List.getElem?_eq_none h1]; rfl
    rw [e]; decide
theorem indP_hit {p : Ln → Bool} {L : List Ln} {k : Nat} (hk : k < L.length) (hno : ∀ i, i < k → p (L.getD i ln0) = false) (h : p (L.getD k ln0) = true) : L.any p = true ∧ indP p L = k := by
  have e : ∀ i (h : i < L.length), L.getD i ln0 = L[i] := fun i h => by rw [List.getD, List.getElem?_eq_getElem h]; rfl
  have h1 : L.any p = true := by
    rw [List.any_eq_true]
    exact ⟨L[k], List.getElem_mem hk, by rw [← e k hk]; exact h⟩
  refine ⟨h1, ?_⟩
  unfold indP
  rw [if_pos h1]
  have : ∀ (l : List Ln) (k : Nat) (hk : k < l.length), (∀ i (h : i < l.length), i < k → p l[i] = false) → p l[k] = true → (l.takeWhile fun x => !p x).length = k := by
    intro l
    induction l with
    | nil => intro k hk; simp at hk
    | cons x l ih =>
      intro k hk h2 h3
      cases k with
      | zero =>
        simp only [List.getElem_cons_zero] at h3
        rw [List.takeWhile_cons, h3]; simp
      | succ k =>
        have h4 := h2 0 (by simp) (by omega)
        simp only [List.getElem_cons_zero] at h4
        rw [List.takeWhile_cons]
        simp only [h4, Bool.not_false, if_true, List.length_cons]
        rw [ih k (by simpa using hk) (fun i h5 h6 => by
          have := h2 (i + 1) (by simpa using h5) (by omega)
          simpa using this) (by simpa using h3)]
  rw [this L k hk (fun i h5 h6 => by rw [← e i h5]; exact hno i h6) (by rw [← e k hk]; exact h)]
theorem indP_none {p : Ln → Bool} {L : List Ln} (hno : ∀ i, i < L.length → p (L.getD i ln0) = false) : L.any p = false ∧ indP p L = -1 := by
  have h1 : L.any p = false := by
    rw [Bool.eq_false_iff]
    intro h
    obtain ⟨x, hx, hd⟩ := List.any_eq_true.1 h
    obtain ⟨i, hi, rfl⟩ := List.getElem_of_mem hx
    have := hno i hi
    rw [List.getD, List.getElem?_eq_getElem hi] at this
    rw [show p L[i] = false from this] at hd
    cases hd
  refine ⟨h1, ?_⟩
  unfold indP
  rw [if_neg (by rw [h1]; simp)]
theorem indP_ge (p : Ln → Bool) (L : List Ln) : decide (indP p L ≥ 0) = L.any p := by
  unfold indP
  cases h : L.any p with
  | true => rw [if_pos rfl, decide_eq_true_eq]; omega
  | false => rfl
def orcW : Orc := { d := fun f a => match f, a with
  | 32, [lnV nm gr k ap n d e] => some (db (!rightB ⟨nm, gr, k, ap, n, d, e⟩))
  | _, _ => none }
noncomputable def S59 (L : List Ln) (k : Nat) : AS := ⟨regs Tryz.f59.ntmps [(0, .d (lnsD L)), (1, .d (fnV 32)), (7, vi L.length), (8, vi k)], []⟩
theorem f59 (L : List Ln) (hS : Short L) (hL : L.length ≤ 1000000) : FnOK Tryz.prog G 59 [lnsD L, fnV 32] (di (indP (fun x => !rightB x) L)) := by
  refine FnOK.walk (orc := orcW) (keep := []) follows Tryz.func59 rfl Tryz.call59 ?_
  refine of_eqH (b :=
    AWP Tryz.prog G [.code (cAt (bodyOf Tryz.f59) [1, 0, 1, 0]), (.blk 0), .code (cAt (bodyOf Tryz.f59) [1, 1])] ⟨regs 19 [(0, (.d (.slc 7 (List.length L) (lnsF L)))), (1, (.d (.con (.func (.func 32) ⟨[]⟩ ⟨[]⟩)))), (4, (vi 0)), (6, (.d (.slc 7 (List.length L) (lnsF L)))), (7, (vi ((↑(List.length L) : Int)))), (8, (vi 0))], []⟩ (Ret Tryz.prog Tryz.f59 (di (indP (fun x => !rightB x) L)))) (by kernel_rfl) ?_
  refine AWP.loop (c := cAt (bodyOf Tryz.f59) [1, 0, 1, 0, 0]) (by kernel_rfl) (S59 L) (fun k => k ≤ L.length ∧ ∀ i, i < k → (!rightB (L.getD i ln0)) = false) (fun k => L.length - k) 0 ?_ ⟨Nat.zero_le _, fun i hi => by omega⟩ ?_
  · refine of_eq (b :=
    (((((.d (.slc 7 (List.length L) (lnsF L))) : AV) = (.d (.slc 7 (List.length L) (lnsF L)))) ∧
    ((((.d (.con (.func (.func 32) ⟨[]⟩ ⟨[]⟩))) : AV) = (.d (.con (.func (.func 32) ⟨[]⟩ ⟨[]⟩)))) ∧
    ((((vi ((↑(List.length L) : Int))) : AV) = (vi ((↑(List.length L) : Int)))) ∧
    ((((vi 0) : AV) = (vi 0)) ∧
    True)))) ∧
    True)) (by kernel_rfl) ?_
    exact ⟨⟨rfl, rfl, rfl, rfl, trivial⟩, trivial⟩
  · rintro k ⟨hk, hkd⟩
    refine walk (orc := orcW) (keep := []) (cuts := []) (n := 1000) follows ?_
    refine of_eqH (b :=
      ((((decide ((↑k : Int) < (↑(List.length L) : Int))) = true) →
      (((((0 : Int) ≤ (↑k : Int)) ∧
      ((↑k : Int) < (↑(List.length L) : Int))) ∧
      FnOK Tryz.prog G 32 [(.agg [(ds (Ln.name (List.getD L (Int.toNat (↑k : Int)) ln0))), (ds (Ln.group (List.getD L (Int.toNat (↑k : Int)) ln0))), (di (Ln.kind (List.getD L (Int.toNat (↑k : Int)) ln0))), (db (Ln.app (List.getD L (Int.toNat (↑k : Int)) ln0))), (di (Ln.n (List.getD L (Int.toNat (↑k : Int)) ln0))), (di (Ln.d (List.getD L (Int.toNat (↑k : Int)) ln0))), (di (Ln.err (List.getD L (Int.toNat (↑k : Int)) ln0)))])] (db (!rightB { name := Ln.name (List.getD L (Int.toNat (↑k : Int)) ln0), group := Ln.group (List.getD L (Int.toNat (↑k : Int)) ln0), kind := Ln.kind (List.getD L (Int.toNat (↑k : Int)) ln0), app := Ln.app (List.getD L (Int.toNat (↑k : Int)) ln0), n := Ln.n (List.getD L (Int.toNat (↑k : Int)) ln0), d := Ln.d (List.getD L (Int.toNat (↑k : Int)) ln0), err := Ln.err (List.getD L (Int.toNat (↑k : Int)) ln0) }))) ∧
      ((((!rightB { name := Ln.name (List.getD L (Int.toNat (↑k : Int)) ln0), group := Ln.group (List.getD L (Int.toNat (↑k : Int)) ln0), kind := Ln.kind (List.getD L (Int.toNat (↑k : Int)) ln0), app := Ln.app (List.getD L (Int.toNat (↑k : Int)) ln0), n := Ln.n (List.getD L (Int.toNat (↑k : Int)) ln0), d := Ln.d (List.getD L (Int.toNat (↑k : Int)) ln0), err := Ln.err (List.getD L (Int.toNat (↑k : Int)) ln0) }) = true) →
      (((di ((↑k : Int))) : DV) = (di (indP (fun x => !rightB x) L)))) ∧
      (((!rightB { name := Ln.name (List.getD L (Int.toNat (↑k : Int)) ln0), group := Ln.group (List.getD L (Int.toNat (↑k : Int)) ln0), kind := Ln.kind (List.getD L (Int.toNat (↑k : Int)) ln0), app := Ln.app (List.getD L (Int.toNat (↑k : Int)) ln0), n := Ln.n (List.getD L (Int.toNat (↑k : Int)) ln0), d := Ln.d (List.getD L (Int.toNat (↑k : Int)) ln0), err := Ln.err (List.getD L (Int.toNat (↑k : Int)) ln0) }) = false) →
      ((I64 ((↑k : Int) + (1 : Int))) ∧
      Again (S59 L) (fun k => k ≤ List.length L ∧ ∀ (i : Nat), i < k → (!rightB (List.getD L i ln0)) = false) (fun k => List.length L - k) k ⟨[(.d (.slc 7 (List.length L) (lnsF L))), (.d (.con (.func (.func 32) ⟨[]⟩ ⟨[]⟩))), .any, .any, .any, (vi ((↑k : Int))), .any, (vi ((↑(List.length L) : Int))), (vi ((↑k : Int) + (1 : Int))), (vb (decide ((↑k : Int) < (↑(List.length L) : Int)))), (vi ((↑k : Int))), (.d (.con (.func (.func 32) ⟨[]⟩ ⟨[]⟩))), (.d (.slc 7 (List.length L) (lnsF L))), (vi ((↑k : Int))), (.d (.ptr [(ds (Ln.name (List.getD L (Int.toNat (↑k : Int)) ln0))), (ds (Ln.group (List.getD L (Int.toNat (↑k : Int)) ln0))), (di (Ln.kind (List.getD L (Int.toNat (↑k : Int)) ln0))), (db (Ln.app (List.getD L (Int.toNat (↑k : Int)) ln0))), (di (Ln.n (List.getD L (Int.toNat (↑k : Int)) ln0))), (di (Ln.d (List.getD L (Int.toNat (↑k : Int)) ln0))), (di (Ln.err (List.getD L (Int.toNat (↑k : Int)) ln0)))])), (.d (.agg [(ds (Ln.name (List.getD L (Int.toNat (↑k : Int)) ln0))), (ds (Ln.group (List.getD L (Int.toNat (↑k : Int)) ln0))), (di (Ln.kind (List.getD L (Int.toNat (↑k : Int)) ln0))), (db (Ln.app (List.getD L (Int.toNat (↑k : Int)) ln0))), (di (Ln.n (List.getD L (Int.toNat (↑k : Int)) ln0))), (di (Ln.d (List.getD L (Int.toNat (↑k : Int)) ln0))), (di (Ln.err (List.getD L (Int.toNat (↑k : Int)) ln0)))])), (vb (!rightB { name := Ln.name (List.getD L (Int.toNat (↑k : Int)) ln0), group := Ln.group (List.getD L (Int.toNat (↑k : Int)) ln0), kind := Ln.kind (List.getD L (Int.toNat (↑k : Int)) ln0), app := Ln.app (List.getD L (Int.toNat (↑k : Int)) ln0), n := Ln.n (List.getD L (Int.toNat (↑k : Int)) ln0), d := Ln.d (List.getD L (Int.toNat (↑k : Int)) ln0), err := Ln.err (List.getD L (Int.toNat (↑k : Int)) ln0) })), .any, (vi ((↑k : Int) + (1 : Int)))], []⟩))))) ∧
      (((decide ((↑k : Int) < (↑(List.length L) : Int))) = false) →
      AWP Tryz.prog G [.code (cAt (bodyOf Tryz.f59) [1, 1])] ⟨regs 19 [(0, (.d (.slc 7 (List.length L) (lnsF L)))), (1, (.d (.con (.func (.func 32) ⟨[]⟩ ⟨[]⟩)))), (7, (vi ((↑(List.length L) : Int)))), (8, (vi ((↑k : Int)))), (9, (vb (decide ((↑k : Int) < (↑(List.length L) : Int)))))], []⟩ (Ret Tryz.prog Tryz.f59 (di (indP (fun x => !rightB x) L)))))) (by kernel_rfl) ?_
    simp only [Int.toNat_natCast]
    refine ⟨fun h => ?_, fun h => ?_⟩
    · simp only [decide_eq_true_eq] at h
      obtain ⟨s1, s2⟩ := hS.get k
      refine ⟨⟨⟨by omega, by omega⟩, f32 (L.getD k ln0) s1 s2⟩, fun h2 => ?_, fun h2 => ?_⟩
      · rw [(indP_hit (p := fun x => !rightB x) (by omega) hkd h2).2]
      · refine ⟨⟨by omega, by omega⟩, Again.mk (k + 1) ?_ ⟨by omega, fun i hi => ?_⟩ (by omega)⟩
        · refine of_eq (b :=
          (((((.d (.slc 7 (List.length L) (lnsF L))) : AV) = (.d (.slc 7 (List.length L) (lnsF L)))) ∧
          ((((.d (.con (.func (.func 32) ⟨[]⟩ ⟨[]⟩))) : AV) = (.d (.con (.func (.func 32) ⟨[]⟩ ⟨[]⟩)))) ∧
          ((((vi ((↑(List.length L) : Int))) : AV) = (vi ((↑(List.length L) : Int)))) ∧
          ((((vi ((↑k : Int) + (1 : Int))) : AV) = (vi ((↑(k + (1 : Nat)) : Int)))) ∧
          True)))) ∧
          True)) (by kernel_rfl) ?_
          exact ⟨⟨rfl, rfl, rfl, rfl, trivial⟩, trivial⟩
        · rcases Nat.lt_or_ge i k with h1 | h1
          · exact hkd i h1
          · obtain rfl : i = k := by omega
            exact h2
    · simp only [decide_eq_false_iff_not] at h
      have hst := indP_none (p := fun x => !rightB x) (L := L) fun i hi => hkd i (by omega)
      refine walk (orc := orcW) (keep := []) (cuts := []) (n := 1000) follows ?_
      refine of_eqH (b :=
        (((di (-1)) : DV) = (di (indP (fun x => !rightB x) L)))) (by kernel_rfl) ?_
      rw [hst.2]
theorem FnM.mvs {f : FuncId} {args : List AV} {pre post post' : List (Nat × List AV)} {r r' : AV} (mv : List (Nat × Nat)) (hmv : (mv.all fun p => !(Nat.beq p.1 p.2) && Nat.blt p.2 K0) = true)
    (he : (AS.moves ⟨[r], post⟩ mv).le ⟨[r'], post'⟩) (h : FnM Tryz.prog G f args pre r post) : FnM Tryz.prog G f args pre r' post' :=
  ⟨h.1, fun F w h0 β us g => (h.2 F w h0 β us g).mono fun e w' ⟨v, β', h', e1, g'⟩ => by
    obtain ⟨β2, g2⟩ := AS.leX.moves mv _ hmv G F w h0 β' h' _ w' g'
    exact ⟨v, β2, h', e1, g2.weaken he⟩⟩
theorem f91 (g : ByteArray) (x : Ln) : FnM Tryz.prog G 91 [.d (lnD x), .box 1000000 0] [(1000000, [vs g])] (.d (db (memb g x))) [(1000000, [vs g])] := by
  refine FnM.walk (orc := orcC true) (keep := []) [] follows (by kernel_rfl) Tryz.func91 rfl Tryz.call91 ?_
  refine of_eqH (b :=
    ((((vb (Ln.kind x == (0 : Int) && Ln.app x && ByteArray.toList (Ln.group x) == ByteArray.toList g)) : AV) = (vb (memb g x))) ∧
    ((((some [(vs g)]) : (Option (List AV))) = (some [(vs g)])) ∧
    True))) (by kernel_rfl) ?_
  refine ⟨?_, rfl, trivial⟩
  rw [toList_beq, Bool.and_assoc]; rfl
def orcI2 (L : List Ln) : Orc := { d := fun f a => match f, a with
  | 59, [_, _] => some (di (indP (fun x => !rightB x) L))
  | _, _ => none }
theorem f31 (L : List Ln) (hS : Short L) (hL : L.length ≤ 1000000) : FnOK Tryz.prog G 31 [lnsD L, fnV 32] (db (L.any fun x => !rightB x)) := by
  refine FnOK.walk (orc := orcI2 L) (keep := []) follows Tryz.func31 rfl Tryz.call31 ?_
  refine of_eqH (b :=
    (FnOK Tryz.prog G 59 [(.slc 7 (List.length L) (lnsF L)), (.con (.func (.func 32) ⟨[]⟩ ⟨[]⟩))] (di (indP (fun x => !rightB x) L)) ∧
    (((db (decide (indP (fun x => !rightB x) L ≥ (0 : Int)))) : DV) = (db (List.any L fun x => !rightB x))))) (by kernel_rfl) ?_
  refine ⟨f59 L hS hL, ?_⟩
  rw [indP_ge]
abbrev bn : AV := .box 1000000 0
def mF (L : List Ln) (g : ByteArray) (f : FuncId) (a : List AV) (pre : List (Nat × List AV)) : Option (AV × List (Nat × List AV)) := match f, a with
  | 91, [.d (lnV nm gr k ap n d e), _] => some (.d (db (memb g ⟨nm, gr, k, ap, n, d, e⟩)), pre)
  | 59, [_, _] => some (.d (di (indP (memb g) L)), pre)
  | 31, [_, _] => some (.d (db (L.any (memb g))), pre)
  | _, _ => none
def orcG (L : List Ln) (g : ByteArray) : Orc := { d := fun _ _ => none, m := mF L g }
noncomputable def S59m (L : List Ln) (g : ByteArray) (k : Nat) : AS := ⟨regs Tryz.f59.ntmps [(0, .d (lnsD L)), (1, .clo (.func 91) [] [bn]), (7, vi L.length), (8, vi k)], [(1000000, [vs g])]⟩
theorem f59m (L : List Ln) (g : ByteArray) (hL : L.length ≤ 1000000) : FnM Tryz.prog G 59 [.d (lnsD L), .clo (.func 91) [] [bn]] [(1000000, [vs g])] (.d (di (indP (memb g) L))) [(1000000, [vs g])] := by
  refine FnM.walk (orc := orcG L g) (keep := []) [] follows (by kernel_rfl) Tryz.func59 rfl Tryz.call59 ?_
  refine of_eqH (b :=
    AWP Tryz.prog G [.code (cAt (bodyOf Tryz.f59) [1, 0, 1, 0]), (.blk 0), .code (cAt (bodyOf Tryz.f59) [1, 1])] ⟨regs 19 [(0, (.d (.slc 7 (List.length L) (lnsF L)))), (1, (.clo (.func 91) [] [(.box 1000000 0)])), (4, (vi 0)), (6, (.d (.slc 7 (List.length L) (lnsF L)))), (7, (vi ((↑(List.length L) : Int)))), (8, (vi 0))], [(1000000, [(vs g)])]⟩ (RetM Tryz.prog Tryz.f59 [] (AV.d (di (indP (memb g) L))) [((1000000 : Nat), [vs g])])) (by kernel_rfl) ?_
  refine AWP.loop (c := cAt (bodyOf Tryz.f59) [1, 0, 1, 0, 0]) (by kernel_rfl) (S59m L g) (fun k => k ≤ L.length ∧ ∀ i, i < k → memb g (L.getD i ln0) = false) (fun k => L.length - k) 0 ?_ ⟨Nat.zero_le _, fun i hi => by omega⟩ ?_
  · refine of_eq (b :=
    (((((.d (.slc 7 (List.length L) (lnsF L))) : AV) = (.d (.slc 7 (List.length L) (lnsF L)))) ∧
    ((((.clo (.func 91) [] [(.box 1000000 0)]) : AV) = (.clo (.func 91) [] [(.box 1000000 0)])) ∧
    ((((vi ((↑(List.length L) : Int))) : AV) = (vi ((↑(List.length L) : Int)))) ∧
    ((((vi 0) : AV) = (vi 0)) ∧
    True)))) ∧
    ((((some [(vs g)]) : (Option (List AV))) = (some [(vs g)])) ∧
    True))) (by kernel_rfl) ?_
    exact ⟨⟨rfl, rfl, rfl, rfl, trivial⟩, rfl, trivial⟩
  · rintro k ⟨hk, hkd⟩
    refine walk (orc := orcG L g) (keep := []) (cuts := []) (n := 1000) follows ?_
    refine of_eqH (b :=
      ((((decide ((↑k : Int) < (↑(List.length L) : Int))) = true) →
      (((((0 : Int) ≤ (↑k : Int)) ∧
      ((↑k : Int) < (↑(List.length L) : Int))) ∧
      FnM Tryz.prog G 91 [(.d (.agg [(ds (Ln.name (List.getD L (Int.toNat (↑k : Int)) ln0))), (ds (Ln.group (List.getD L (Int.toNat (↑k : Int)) ln0))), (di (Ln.kind (List.getD L (Int.toNat (↑k : Int)) ln0))), (db (Ln.app (List.getD L (Int.toNat (↑k : Int)) ln0))), (di (Ln.n (List.getD L (Int.toNat (↑k : Int)) ln0))), (di (Ln.d (List.getD L (Int.toNat (↑k : Int)) ln0))), (di (Ln.err (List.getD L (Int.toNat (↑k : Int)) ln0)))])), (.box 1000000 0)] [(1000000, [(vs g)])] (vb (memb g { name := Ln.name (List.getD L (Int.toNat (↑k : Int)) ln0), group := Ln.group (List.getD L (Int.toNat (↑k : Int)) ln0), kind := Ln.kind (List.getD L (Int.toNat (↑k : Int)) ln0), app := Ln.app (List.getD L (Int.toNat (↑k : Int)) ln0), n := Ln.n (List.getD L (Int.toNat (↑k : Int)) ln0), d := Ln.d (List.getD L (Int.toNat (↑k : Int)) ln0), err := Ln.err (List.getD L (Int.toNat (↑k : Int)) ln0) })) [(1000000, [(vs g)])]) ∧
      ((((memb g { name := Ln.name (List.getD L (Int.toNat (↑k : Int)) ln0), group := Ln.group (List.getD L (Int.toNat (↑k : Int)) ln0), kind := Ln.kind (List.getD L (Int.toNat (↑k : Int)) ln0), app := Ln.app (List.getD L (Int.toNat (↑k : Int)) ln0), n := Ln.n (List.getD L (Int.toNat (↑k : Int)) ln0), d := Ln.d (List.getD L (Int.toNat (↑k : Int)) ln0), err := Ln.err (List.getD L (Int.toNat (↑k : Int)) ln0) }) = true) →
      ((((vi ((↑k : Int))) : AV) = (vi (indP (memb g) L))) ∧
      ((((some [(vs g)]) : (Option (List AV))) = (some [(vs g)])) ∧
      True))) ∧
      (((memb g { name := Ln.name (List.getD L (Int.toNat (↑k : Int)) ln0), group := Ln.group (List.getD L (Int.toNat (↑k : Int)) ln0), kind := Ln.kind (List.getD L (Int.toNat (↑k : Int)) ln0), app := Ln.app (List.getD L (Int.toNat (↑k : Int)) ln0), n := Ln.n (List.getD L (Int.toNat (↑k : Int)) ln0), d := Ln.d (List.getD L (Int.toNat (↑k : Int)) ln0), err := Ln.err (List.getD L (Int.toNat (↑k : Int)) ln0) }) = false) →
      ((I64 ((↑k : Int) + (1 : Int))) ∧
      Again (S59m L g) (fun k => k ≤ List.length L ∧ ∀ (i : Nat), i < k → memb g (List.getD L i ln0) = false) (fun k => List.length L - k) k ⟨[(.d (.slc 7 (List.length L) (lnsF L))), (.clo (.func 91) [] [(.box 1000000 0)]), .any, .any, .any, (vi ((↑k : Int))), .any, (vi ((↑(List.length L) : Int))), (vi ((↑k : Int) + (1 : Int))), (vb (decide ((↑k : Int) < (↑(List.length L) : Int)))), (vi ((↑k : Int))), (.clo (.func 91) [] [(.box 1000000 0)]), (.d (.slc 7 (List.length L) (lnsF L))), (vi ((↑k : Int))), (.d (.ptr [(ds (Ln.name (List.getD L (Int.toNat (↑k : Int)) ln0))), (ds (Ln.group (List.getD L (Int.toNat (↑k : Int)) ln0))), (di (Ln.kind (List.getD L (Int.toNat (↑k : Int)) ln0))), (db (Ln.app (List.getD L (Int.toNat (↑k : Int)) ln0))), (di (Ln.n (List.getD L (Int.toNat (↑k : Int)) ln0))), (di (Ln.d (List.getD L (Int.toNat (↑k : Int)) ln0))), (di (Ln.err (List.getD L (Int.toNat (↑k : Int)) ln0)))])), (.d (.agg [(ds (Ln.name (List.getD L (Int.toNat (↑k : Int)) ln0))), (ds (Ln.group (List.getD L (Int.toNat (↑k : Int)) ln0))), (di (Ln.kind (List.getD L (Int.toNat (↑k : Int)) ln0))), (db (Ln.app (List.getD L (Int.toNat (↑k : Int)) ln0))), (di (Ln.n (List.getD L (Int.toNat (↑k : Int)) ln0))), (di (Ln.d (List.getD L (Int.toNat (↑k : Int)) ln0))), (di (Ln.err (List.getD L (Int.toNat (↑k : Int)) ln0)))])), (vb (memb g { name := Ln.name (List.getD L (Int.toNat (↑k : Int)) ln0), group := Ln.group (List.getD L (Int.toNat (↑k : Int)) ln0), kind := Ln.kind (List.getD L (Int.toNat (↑k : Int)) ln0), app := Ln.app (List.getD L (Int.toNat (↑k : Int)) ln0), n := Ln.n (List.getD L (Int.toNat (↑k : Int)) ln0), d := Ln.d (List.getD L (Int.toNat (↑k : Int)) ln0), err := Ln.err (List.getD L (Int.toNat (↑k : Int)) ln0) })), .any, (vi ((↑k : Int) + (1 : Int)))], [(1000000, [(vs g)])]⟩))))) ∧
      (((decide ((↑k : Int) < (↑(List.length L) : Int))) = false) →
      AWP Tryz.prog G [.code (cAt (bodyOf Tryz.f59) [1, 1])] ⟨regs 19 [(0, (.d (.slc 7 (List.length L) (lnsF L)))), (1, (.clo (.func 91) [] [(.box 1000000 0)])), (7, (vi ((↑(List.length L) : Int)))), (8, (vi ((↑k : Int)))), (9, (vb (decide ((↑k : Int) < (↑(List.length L) : Int)))))], [(1000000, [(vs g)])]⟩ (RetM Tryz.prog Tryz.f59 [] (AV.d (di (indP (memb g) L))) [((1000000 : Nat), [vs g])])))) (by kernel_rfl) ?_
    simp only [Int.toNat_natCast]
    refine ⟨fun h => ?_, fun h => ?_⟩
    · simp only [decide_eq_true_eq] at h
      refine ⟨⟨⟨by omega, by omega⟩, f91 g (L.getD k ln0)⟩, fun h2 => ?_, fun h2 => ?_⟩
      · rw [(indP_hit (p := memb g) (by omega) hkd h2).2]
        simp
      · refine ⟨⟨by omega, by omega⟩, Again.mk (k + 1) ?_ ⟨by omega, fun i hi => ?_⟩ (by omega)⟩
        · refine of_eq (b :=
          (((((.d (.slc 7 (List.length L) (lnsF L))) : AV) = (.d (.slc 7 (List.length L) (lnsF L)))) ∧
          ((((.clo (.func 91) [] [(.box 1000000 0)]) : AV) = (.clo (.func 91) [] [(.box 1000000 0)])) ∧
          ((((vi ((↑(List.length L) : Int))) : AV) = (vi ((↑(List.length L) : Int)))) ∧
          ((((vi ((↑k : Int) + (1 : Int))) : AV) = (vi ((↑(k + (1 : Nat)) : Int)))) ∧
          True)))) ∧
          ((((some [(vs g)]) : (Option (List AV))) = (some [(vs g)])) ∧
          True))) (by kernel_rfl) ?_
          exact ⟨⟨rfl, rfl, rfl, rfl, trivial⟩, rfl, trivial⟩
        · rcases Nat.lt_or_ge i k with h1 | h1
          · exact hkd i h1
          · obtain rfl : i = k := by omega
            exact h2
    · simp only [decide_eq_false_iff_not] at h
      have hst := indP_none (p := memb g) (L := L) fun i hi => hkd i (by omega)
      refine walk (orc := orcG L g) (keep := []) (cuts := []) (n := 1000) follows ?_
      refine of_eqH (b :=
        ((((vi (-1)) : AV) = (vi (indP (memb g) L))) ∧
        ((((some [(vs g)]) : (Option (List AV))) = (some [(vs g)])) ∧
        True))) (by kernel_rfl) ?_
      rw [hst.2]
      exact ⟨rfl, rfl, trivial⟩
theorem f31m (L : List Ln) (g : ByteArray) (hL : L.length ≤ 1000000) : FnM Tryz.prog G 31 [.d (lnsD L), .clo (.func 91) [] [bn]] [(1000000, [vs g])] (.d (db (L.any (memb g)))) [(1000000, [vs g])] := by
  refine FnM.walk (orc := orcG L g) (keep := []) [] follows (by kernel_rfl) Tryz.func31 rfl Tryz.call31 ?_
  refine of_eqH (b :=
    (FnM Tryz.prog G 59 [(.d (.slc 7 (List.length L) (lnsF L))), (.clo (.func 91) [] [(.box 1000000 0)])] [(1000000, [(vs g)])] (vi (indP (memb g) L)) [(1000000, [(vs g)])] ∧
    ((((vb (decide (indP (memb g) L ≥ (0 : Int)))) : AV) = (vb (List.any L (memb g)))) ∧
    ((((some [(vs g)]) : (Option (List AV))) = (some [(vs g)])) ∧
    True)))) (by kernel_rfl) ?_
  refine ⟨f59m L g hL, ?_, rfl, trivial⟩
  rw [indP_ge]
end Go.Proofs
set_option autoImplicit false
namespace Go.Proofs
open Go Go.Ab Go.RowKit
set_option maxHeartbeats 1000000
set_option maxRecDepth 100000
variable {G : IH}
def unitV : DV := .tup []
def ptR (L : List Pt) (i : Nat) : DV := match L[i]? with
  | some x => ptD x
  | none => .agg []
theorem ptR_F {L : List Pt} {i : Nat} (h : i < L.length) : ptR L i = ptF L i := by
  unfold ptR ptF
  rw [List.getD, List.getElem?_eq_getElem h]; rfl
abbrev ptK : RK := ⟨true, 50, false, none⟩
abbrev mB (L : List Ln) (t : T) (row : Nat) : List AV := [.d (lnsD L), .vec row 3 0 t.ps.length, vi t.p, vi t.q, vi 0, vb t.wr]
abbrev mR (t : T) : List AV := [.arr ptK 3 (ptR t.ps)]
def sub1 (a b c d : Int) : Int := (subF a b c d).1
def sub2 (a b c d : Int) : Int := (subF a b c d).2.1
def sub3 (a b c d : Int) : Int := (subF a b c d).2.2
def add1 (a b c d : Int) : Int := (addF a b c d).1
def add2 (a b c d : Int) : Int := (addF a b c d).2.1
def add3 (a b c d : Int) : Int := (addF a b c d).2.2
def orcM1 : Orc := { d := fun f a => match f, a with
  | 62, [fr a b, fr c d] => some (.tup [fr (sub1 a b c d) (sub2 a b c d), di (sub3 a b c d)])
  | _, _ => none }
theorem f62s (a b c d : Int) : FnOK Tryz.prog G 62 [fr a b, fr c d] (.tup [fr (sub1 a b c d) (sub2 a b c d), di (sub3 a b c d)]) := f62 a b c d
theorem f82s (a b c d : Int) : FnOK Tryz.prog G 82 [fr a b, fr c d] (.tup [fr (add1 a b c d) (add2 a b c d), di (add3 a b c d)]) := f82 a b c d
theorem ptR_snoc (L : List Pt) (x : Pt) (i : Nat) : ptR (L ++ [x]) i = bif Nat.blt i L.length then ptR L i else elemF true 3 [ds x.1, di x.2.1, di x.2.2] (i - L.length) := by
  cases h : Nat.blt i L.length with
  | true =>
    rw [Nat.blt_eq] at h
    simp only [cond_true]
    unfold ptR
    rw [List.getElem?_append_left h]
  | false =>
    have h : ¬ i < L.length := by rw [← Nat.blt_eq, h]; decide
    simp only [cond_false]
    unfold ptR
    rw [List.getElem?_append_right (by omega)]
    generalize i - L.length = j
    cases j with
    | zero => rfl
    | succ j =>
      rw [List.getElem?_cons_succ, List.getElem?_nil]
      unfold elemF
      rw [List.drop_eq_nil_of_le (by simp only [List.length_cons, List.length_nil]; omega)]; rfl
theorem f47_ok (L : List Ln) (t : T) (nm : ByteArray) (a b e : Int) (hl : t.ps.length ≤ 1000000) (hg : t.wr = false ∧ e = 0 ∧ (subF a b t.p t.q).2.2 = 0) :
    FnM Tryz.prog G 47 [bn, vs nm, .d (fr a b), vi e] [(1000000, mB L t 1000001), (1000001, mR t)] (.d unitV) [(1000000, mB L (become t nm a b e) 900), (900, mR (become t nm a b e))] := by
  refine FnM.walk (orc := orcM1) (keep := []) [(45, 900)] follows (by kernel_rfl) Tryz.func47 rfl Tryz.call47 ?_
  refine of_eqH (b :=
    (FnOK Tryz.prog G 62 [(.agg [(di a), (di b)]), (.agg [(di (T.p t)), (di (T.q t))])] (.tup [(.agg [(di (sub1 a b (T.p t) (T.q t))), (di (sub2 a b (T.p t) (T.q t)))]), (di (sub3 a b (T.p t) (T.q t)))]) ∧
    ((((T.wr t || e != (0 : Int) || sub3 a b (T.p t) (T.q t) != (0 : Int)) = true) →
    ((((.d (.tup [])) : AV) = (.d (.tup []))) ∧
    ((((some [(.d (.slc 7 (List.length L) (lnsF L))), (.vec 1000001 3 0 (List.length (T.ps t))), (vi (T.p t)), (vi (T.q t)), (vi 0), (vb true)]) : (Option (List AV))) = (some [(.d (.slc 7 (List.length L) (lnsF L))), (.vec 900 3 0 (List.length (T.ps (become t nm a b e)))), (vi (T.p (become t nm a b e))), (vi (T.q (become t nm a b e))), (vi 0), (vb (T.wr (become t nm a b e)))])) ∧
    (((none : (Option (List AV))) = (some [(.arr ⟨true, 50, false, none⟩ 3 (ptR (T.ps (become t nm a b e))))])) ∧
    True)))) ∧
    (((T.wr t || e != (0 : Int) || sub3 a b (T.p t) (T.q t) != (0 : Int)) = false) →
    (((((List.length (T.ps t) + (1 : Nat)) * (32 : Nat) ≤ (1099511627776 : Nat)) ∧
    (List.length (T.ps t) + (1 : Nat) ≤ (1099511627776 : Nat))) ∧
    (∀ (i : Nat), i < (1 : Nat) → elemOK true (3 : Nat) (elemF true (3 : Nat) [DV.con (Value.string nm), DV.con (Value.int IntKind.i64 (sub1 a b (T.p t) (T.q t))), DV.con (Value.int IntKind.i64 (sub2 a b (T.p t) (T.q t)))] i) = true)) ∧
    ((((.d (.tup [])) : AV) = (.d (.tup []))) ∧
    ((((some [(.d (.slc 7 (List.length L) (lnsF L))), (.vec 900 3 0 (List.length (T.ps t) + (1 : Nat))), (vi a), (vi b), (vi 0), (vb (T.wr t))]) : (Option (List AV))) = (some [(.d (.slc 7 (List.length L) (lnsF L))), (.vec 900 3 0 (List.length (T.ps (become t nm a b e)))), (vi (T.p (become t nm a b e))), (vi (T.q (become t nm a b e))), (vi 0), (vb (T.wr (become t nm a b e)))])) ∧
    ((((some [(.arr ⟨true, 50, false, none⟩ 3 (fun i => bif Nat.blt i (List.length (T.ps t)) then ptR (T.ps t) i else elemF true (3 : Nat) [DV.con (Value.string nm), DV.con (Value.int IntKind.i64 (sub1 a b (T.p t) (T.q t))), DV.con (Value.int IntKind.i64 (sub2 a b (T.p t) (T.q t)))] (i - List.length (T.ps t))))]) : (Option (List AV))) = (some [(.arr ⟨true, 50, false, none⟩ 3 (ptR (T.ps (become t nm a b e))))])) ∧
    True)))))))) (by kernel_rfl) ?_
  obtain ⟨h1, h2, h3⟩ := hg
  have q : become t nm a b e = ⟨t.ps ++ [(nm, sub1 a b t.p t.q, sub2 a b t.p t.q)], a, b, false⟩ := by unfold become; rw [if_pos ⟨h1, h2, h3⟩]; rfl
  have hc : (t.wr || e != (0 : Int) || sub3 a b t.p t.q != (0 : Int)) = false := by
    rw [h1, h2]
    unfold sub3
    rw [h3]; rfl
  refine ⟨f62s _ _ _ _, fun h => ?_, fun _ => ⟨⟨⟨by omega, by omega⟩, fun i hi => ?_⟩, rfl, ?_, ?_, trivial⟩⟩
  · rw [hc] at h; cases h
  · obtain rfl : i = 0 := by omega
    rfl
  · rw [q, h1]
    simp only [List.length_append, List.length_cons, List.length_nil]
  · rw [q]
    have hf : ∀ x : Pt, ptR (t.ps ++ [x]) = fun i => bif Nat.blt i t.ps.length then ptR t.ps i else elemF true 3 [ds x.1, di x.2.1, di x.2.2] (i - t.ps.length) := fun x => funext fun i => ptR_snoc _ _ _
    simp only [hf]
theorem f47_no (L : List Ln) (t : T) (nm : ByteArray) (a b e : Int) (hl : t.ps.length ≤ 1000000) (hg : ¬ (t.wr = false ∧ e = 0 ∧ (subF a b t.p t.q).2.2 = 0)) :
    FnM Tryz.prog G 47 [bn, vs nm, .d (fr a b), vi e] [(1000000, mB L t 1000001), (1000001, mR t)] (.d unitV) [(1000000, mB L (become t nm a b e) 900), (900, mR (become t nm a b e))] := by
  refine FnM.walk (orc := orcM1) (keep := []) [(1000001, 900)] follows (by kernel_rfl) Tryz.func47 rfl Tryz.call47 ?_
  refine of_eqH (b :=
    (FnOK Tryz.prog G 62 [(.agg [(di a), (di b)]), (.agg [(di (T.p t)), (di (T.q t))])] (.tup [(.agg [(di (sub1 a b (T.p t) (T.q t))), (di (sub2 a b (T.p t) (T.q t)))]), (di (sub3 a b (T.p t) (T.q t)))]) ∧
    ((((T.wr t || e != (0 : Int) || sub3 a b (T.p t) (T.q t) != (0 : Int)) = true) →
    ((((.d (.tup [])) : AV) = (.d (.tup []))) ∧
    ((((some [(.d (.slc 7 (List.length L) (lnsF L))), (.vec 900 3 0 (List.length (T.ps t))), (vi (T.p t)), (vi (T.q t)), (vi 0), (vb true)]) : (Option (List AV))) = (some [(.d (.slc 7 (List.length L) (lnsF L))), (.vec 900 3 0 (List.length (T.ps (become t nm a b e)))), (vi (T.p (become t nm a b e))), (vi (T.q (become t nm a b e))), (vi 0), (vb (T.wr (become t nm a b e)))])) ∧
    ((((some [(.arr ⟨true, 50, false, none⟩ 3 (ptR (T.ps t)))]) : (Option (List AV))) = (some [(.arr ⟨true, 50, false, none⟩ 3 (ptR (T.ps (become t nm a b e))))])) ∧
    True)))) ∧
    (((T.wr t || e != (0 : Int) || sub3 a b (T.p t) (T.q t) != (0 : Int)) = false) →
    (((((List.length (T.ps t) + (1 : Nat)) * (32 : Nat) ≤ (1099511627776 : Nat)) ∧
    (List.length (T.ps t) + (1 : Nat) ≤ (1099511627776 : Nat))) ∧
    (∀ (i : Nat), i < (1 : Nat) → elemOK true (3 : Nat) (elemF true (3 : Nat) [DV.con (Value.string nm), DV.con (Value.int IntKind.i64 (sub1 a b (T.p t) (T.q t))), DV.con (Value.int IntKind.i64 (sub2 a b (T.p t) (T.q t)))] i) = true)) ∧
    ((((.d (.tup [])) : AV) = (.d (.tup []))) ∧
    ((((some [(.d (.slc 7 (List.length L) (lnsF L))), (.vec 45 3 0 (List.length (T.ps t) + (1 : Nat))), (vi a), (vi b), (vi 0), (vb (T.wr t))]) : (Option (List AV))) = (some [(.d (.slc 7 (List.length L) (lnsF L))), (.vec 900 3 0 (List.length (T.ps (become t nm a b e)))), (vi (T.p (become t nm a b e))), (vi (T.q (become t nm a b e))), (vi 0), (vb (T.wr (become t nm a b e)))])) ∧
    ((((some [.dead]) : (Option (List AV))) = (some [(.arr ⟨true, 50, false, none⟩ 3 (ptR (T.ps (become t nm a b e))))])) ∧
    True)))))))) (by kernel_rfl) ?_
  have e' : become t nm a b e = { t with wr := true } := by unfold become; rw [if_neg hg]
  refine ⟨f62s _ _ _ _, fun _ => ⟨rfl, ?_, ?_, trivial⟩, fun h => ?_⟩
  · rw [e']
  · rw [e']
  · exfalso
    simp only [Bool.or_eq_false_iff, bne_eq_false_iff_eq] at h
    exact hg ⟨h.1.1, h.1.2, h.2⟩
theorem f47 (L : List Ln) (t : T) (nm : ByteArray) (a b e : Int) (hl : t.ps.length ≤ 1000000) :
    FnM Tryz.prog G 47 [bn, vs nm, .d (fr a b), vi e] [(1000000, mB L t 1000001), (1000001, mR t)] (.d unitV) [(1000000, mB L (become t nm a b e) 900), (900, mR (become t nm a b e))] := by
  by_cases hg : t.wr = false ∧ e = 0 ∧ (subF a b t.p t.q).2.2 = 0
  · exact f47_ok L t nm a b e hl hg
  · exact f47_no L t nm a b e hl hg
end Go.Proofs