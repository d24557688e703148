import Derived.Test.YtldfegcegedkjaaGreatDoorFC
set_option autoImplicit false
namespace Go.Proofs
open Go Go.Ab
theorem hun_spec {n d : Int} (hd : 0 < d) : 2 * (hun n d * d) ≤ 200 * n + d ∧ 200 * n + d < 2 * (hun n d * d) + 2 * d := by
  have h1 := Int.mul_ediv_self_le (x := 200 * n + d) (k := 2 * d) (by omega)
  have h2 := Int.lt_mul_ediv_self_add (x := 200 * n + d) (k := 2 * d) (by omega)
  have e : 2 * d * ((200 * n + d) / (2 * d)) = 2 * (hun n d * d) := by unfold hun; grind
  rw [e] at h1 h2
  exact ⟨h1, h2⟩
theorem fl_spec {n d : Int} (hd : 0 < d) : n / d * d ≤ n ∧ n < n / d * d + d := by
  have h1 := Int.mul_ediv_self_le (x := n) (k := d) (by omega)
  have h2 := Int.lt_mul_ediv_self_add (x := n) (k := d) (by omega)
  rw [Int.mul_comm] at h1 h2
  exact ⟨h1, h2⟩
theorem hun_mono {a b c d : Int} (hb : 0 < b) (hd : 0 < d) (h : a * d ≤ c * b) : hun a b ≤ hun c d := by
  obtain ⟨h1, -⟩ := hun_spec (n := a) hb
  obtain ⟨-, h2⟩ := hun_spec (n := c) hd
  rcases Int.lt_or_le (hun c d) (hun a b) with hlt | hle
  · exfalso
    have k1 := Int.mul_le_mul_of_nonneg_right h1 (Int.le_of_lt hd)
    have k2 := Int.mul_lt_mul_of_pos_right h2 hb
    have k3 : (hun c d + 1) * (b * d) ≤ hun a b * (b * d) := Int.mul_le_mul_of_nonneg_right hlt (Int.le_of_lt (Int.mul_pos hb hd))
    grind
  · exact hle
theorem qv_lt {a b c d : Int} (hb : 0 < b) (hd : 0 < d) : qv a b < qv c d ↔ a * d < c * b := by
  have hb' : (0 : Rat) < b := by exact_mod_cast hb
  have hd' : (0 : Rat) < d := by exact_mod_cast hd
  have hne : (d : Rat) ≠ 0 := cast_ne (by omega)
  unfold qv
  rw [Rat.div_lt_iff hb', show (c : Rat) / d * b = (c * b) / d by grind, Rat.lt_div_iff hd']
  exact_mod_cast Iff.rfl
theorem qv_pos {a b : Int} (hb : 0 < b) : 0 < qv a b ↔ 0 < a := by
  have hb' : (0 : Rat) < b := by exact_mod_cast hb
  unfold qv
  rw [Rat.lt_div_iff hb', Rat.zero_mul]
  exact_mod_cast Iff.rfl
def cmpR (x y : Rat) : Int := if x < y then -1 else if y < x then 1 else 0
theorem cmpF_eq {a b c d : Int} (h1 : ok a b = true) (h2 : ok c d = true) : cmpF a b c d = cmpR (qv a b) (qv c d) := by
  simp only [cmpF, h1, h2, Bool.and_self, if_true, cmpI, cmpR, qv_lt (ok_pos h1) (ok_pos h2), qv_lt (ok_pos h2) (ok_pos h1)]
theorem cmpF_anti (a b c d : Int) : cmpF c d a b = -cmpF a b c d := by
  simp only [cmpF, cmpI, Bool.and_comm (ok c d)]
  grind
theorem cmpF_bd (a b c d : Int) : -1 ≤ cmpF a b c d ∧ cmpF a b c d ≤ 1 := by
  simp only [cmpF, cmpI]
  grind
theorem cmp_zero {a b c d : Int} (h1 : ok a b = true) (h2 : ok c d = true) : cmpF a b c d = 0 ↔ a = c ∧ b = d := by
  rw [cmpF_eq h1 h2]
  constructor
  · intro h
    refine ok_uniq h1 h2 ?_
    unfold cmpR at h
    grind
  · rintro ⟨rfl, rfl⟩
    unfold cmpR; grind
theorem cmp_sub {a b c d : Int} (h1 : ok a b = true) (h2 : ok c d = true) (h : (subF a b c d).2.2 = 0) : (subF a b c d).1 > 0 ↔ cmpF a b c d > 0 := by
  obtain ⟨h3, h4⟩ := (subF_is h1 h2).val h
  rw [cmpF_eq h1 h2, gt_iff_lt, ← qv_pos (ok_pos h3), h4]
  unfold cmpR; grind
theorem cmp_trans {a b c d e f : Int} (h1 : ok a b = true) (h2 : ok c d = true) (h3 : ok e f = true) (k1 : cmpF a b c d ≤ 0) (k2 : cmpF c d e f ≤ 0) : cmpF a b e f ≤ 0 := by
  rw [cmpF_eq h1 h2] at k1
  rw [cmpF_eq h2 h3] at k2
  rw [cmpF_eq h1 h3]
  unfold cmpR at *; grind
end Go.Proofs

/- Credits, plain: what the lines of a submission make. Over the laws of fractions. -/
set_option autoImplicit false
namespace Go.Proofs
open Go Go.Ab
/-- A line. -/
structure Ln where
  name : ByteArray
  group : ByteArray
  kind : Int
  app : Bool
  n : Int
  d : Int
  err : Int
def ln0 : Ln := ⟨.empty, .empty, 0, false, 0, 0, 0⟩
@[match_pattern] abbrev lnV (nm gr : ByteArray) (k : Int) (ap : Bool) (n d e : Int) : DV := .agg [ds nm, ds gr, di k, db ap, di n, di d, di e]
def lnD (x : Ln) : DV := lnV x.name x.group x.kind x.app x.n x.d x.err
def lnsF (L : List Ln) (i : Nat) : DV := lnD (L.getD i ln0)
abbrev lnsD (L : List Ln) : DV := .slc 7 L.length (lnsF L)
/-- A part: a name, and an effect. -/
abbrev Pt := ByteArray × Int × Int
def ptD (x : Pt) : DV := .agg [ds x.1, di x.2.1, di x.2.2]
def ptF (L : List Pt) (i : Nat) : DV := ptD (L.getD i (.empty, 0, 0))
def lessB (a b c d : Int) : Bool := decide (cmpF a b c d < 0)
def wtN (n d : Int) : Int := if lessB n d 0 1 then 0 else n
def wtD (n d : Int) : Int := if lessB n d 0 1 then 1 else d
/-- The points so far. -/
structure T where
  ps : List Pt
  p : Int
  q : Int
  wr : Bool
def become (t : T) (nm : ByteArray) (a b e : Int) : T :=
  if t.wr = false ∧ e = 0 ∧ (subF a b t.p t.q).2.2 = 0 then ⟨t.ps ++ [(nm, (subF a b t.p t.q).1, (subF a b t.p t.q).2.1)], a, b, false⟩ else { t with wr := true }
def addT (t : T) (nm : ByteArray) (a b : Int) : T := become t nm (addF t.p t.q a b).1 (addF t.p t.q a b).2.1 (addF t.p t.q a b).2.2
def memb (g : ByteArray) (x : Ln) : Bool := x.kind == 0 && (x.app && decide (x.group = g))
def bestOf (g : ByteArray) (L : List Ln) (b : Ln) : Ln := L.foldl (fun b l => if memb g l && lessB (wtN b.n b.d) (wtD b.n b.d) (wtN l.n l.d) (wtD l.n l.d) then l else b) b
def pointsT (L : List Ln) (i : Nat) (t : T) : T :=
  if (L.getD i ln0).group.size = 0 then addT t (L.getD i ln0).name (wtN (L.getD i ln0).n (L.getD i ln0).d) (wtD (L.getD i ln0).n (L.getD i ln0).d)
  else if (L.take i).any (memb (L.getD i ln0).group) then t
  else addT t (bestOf (L.getD i ln0).group (L.drop i) (L.getD i ln0)).name (wtN (bestOf (L.getD i ln0).group (L.drop i) (L.getD i ln0)).n (bestOf (L.getD i ln0).group (L.drop i) (L.getD i ln0)).d)
    (wtD (bestOf (L.getD i ln0).group (L.drop i) (L.getD i ln0)).n (bestOf (L.getD i ln0).group (L.drop i) (L.getD i ln0)).d)
def wN (L : List Ln) (i : Nat) : Int := wtN (L.getD i ln0).n (L.getD i ln0).d
def wD (L : List Ln) (i : Nat) : Int := wtD (L.getD i ln0).n (L.getD i ln0).d
def penT (L : List Ln) (i : Nat) (t : T) : T :=
  if lessB t.p t.q (wN L i) (wD L i) then become t (L.getD i ln0).name (subF t.p t.q t.p t.q).1 (subF t.p t.q t.p t.q).2.1 (subF t.p t.q t.p t.q).2.2
  else become t (L.getD i ln0).name (subF t.p t.q (wN L i) (wD L i)).1 (subF t.p t.q (wN L i) (wD L i)).2.1 (subF t.p t.q (wN L i) (wD L i)).2.2
def floorT (L : List Ln) (i : Nat) (t : T) : T := if lessB t.p t.q (wN L i) (wD L i) then become t (L.getD i ln0).name (wN L i) (wD L i) 0 else become t (L.getD i ln0).name t.p t.q 0
def capT (L : List Ln) (i : Nat) (t : T) : T := if lessB (wN L i) (wD L i) t.p t.q then become t (L.getD i ln0).name (wN L i) (wD L i) 0 else become t (L.getD i ln0).name t.p t.q 0
def stepT (L : List Ln) (k : Int) (i : Nat) (t : T) : T := if k = 0 then pointsT L i t else if k = 1 then penT L i t else if k = 3 then floorT L i t else capT L i t
/-- The first lines of a kind. -/
def phase (L : List Ln) (k : Int) : Nat → T → T
  | 0, t => t
  | i + 1, t => if (L.getD i ln0).app = true ∧ (L.getD i ln0).kind = k then stepT L k i (phase L k i t) else phase L k i t
def combT (L : List Ln) : T := phase L 2 L.length (phase L 3 L.length (phase L 1 L.length (phase L 0 L.length ⟨[], 0, 1, false⟩)))
end Go.Proofs

/- Credits, plain: the value of the points. -/
set_option autoImplicit false
namespace Go.Proofs
open Go Go.Ab
theorem less_iff {a b c d : Int} (h1 : ok a b = true) (h2 : ok c d = true) : (lessB a b c d = true) ↔ qv a b < qv c d := by
  unfold lessB
  rw [decide_eq_true_iff, cmpF_eq h1 h2]
  unfold cmpR; grind
theorem less_false {a b c d : Int} (h1 : ok a b = true) (h2 : ok c d = true) : (lessB a b c d = false) ↔ ¬ qv a b < qv c d := by
  rw [← less_iff h1 h2, Bool.not_eq_true]
theorem ok01 : ok 0 1 = true := by decide
theorem qv01 : qv 0 1 = 0 := by unfold qv; grind
/-- The weight of a line. -/
def wv (x : Ln) : Rat := if qv x.n x.d < 0 then 0 else qv x.n x.d
theorem wv_nonneg (x : Ln) : 0 ≤ wv x := by unfold wv; grind
theorem wt_is {n d : Int} (h : ok n d = true) : ok (wtN n d) (wtD n d) = true ∧ qv (wtN n d) (wtD n d) = if qv n d < 0 then 0 else qv n d := by
  unfold wtN wtD
  cases hl : lessB n d 0 1 with
  | true =>
    rw [less_iff h ok01, qv01] at hl
    simp only [if_true, ok01, qv01, true_and]
    rw [if_pos hl]
  | false =>
    rw [less_false h ok01, qv01] at hl
    simp only [Bool.false_eq_true, if_false]
    exact ⟨h, by rw [if_neg hl]⟩
theorem wt_ln {x : Ln} (h : ok x.n x.d = true) : ok (wtN x.n x.d) (wtD x.n x.d) = true ∧ qv (wtN x.n x.d) (wtD x.n x.d) = wv x := wt_is h
def vT (t : T) : Rat := qv t.p t.q
def GoodT (t : T) : Prop := ok t.p t.q = true ∧ 0 ≤ vT t
theorem become_wr {t : T} {nm : ByteArray} {a b e : Int} (h : (become t nm a b e).wr = false) : t.wr = false ∧ e = 0 ∧ (subF a b t.p t.q).2.2 = 0 ∧ become t nm a b e = ⟨t.ps ++ [(nm, (subF a b t.p t.q).1, (subF a b t.p t.q).2.1)], a, b, false⟩ := by
  by_cases hc : t.wr = false ∧ e = 0 ∧ (subF a b t.p t.q).2.2 = 0
  · exact ⟨hc.1, hc.2.1, hc.2.2, by unfold become; rw [if_pos hc]⟩
  · unfold become at h; rw [if_neg hc] at h; cases h
theorem become_good {t : T} {nm : ByteArray} {a b e : Int} (h : GoodT t) (hv : e = 0 → ok a b = true ∧ 0 ≤ qv a b) : GoodT (become t nm a b e) := by
  unfold become
  split
  · rename_i hc; exact hv hc.2.1
  · exact h
/-- What a step did: the new value, and one part more. -/
def Did (t t' : T) (v : Rat) (k : Nat) : Prop := GoodT t' ∧ (t'.wr = false → t.wr = false ∧ vT t' = v ∧ t'.ps.length = t.ps.length + k)
theorem become_did {t : T} {nm : ByteArray} {a b e : Int} {v : Rat} (h : GoodT t) (hv : e = 0 → ok a b = true ∧ qv a b = v) (h0 : 0 ≤ v) : Did t (become t nm a b e) v 1 := by
  refine ⟨become_good h fun he => ⟨(hv he).1, by rw [(hv he).2]; exact h0⟩, fun hw => ?_⟩
  obtain ⟨h1, h2, h3, h4⟩ := become_wr hw
  rw [h4]
  exact ⟨h1, (hv h2).2, by simp⟩
theorem addT_did {t : T} {nm : ByteArray} {a b : Int} (h : GoodT t) (h1 : ok a b = true) (h0 : 0 ≤ qv a b) : Did t (addT t nm a b) (vT t + qv a b) 1 := by
  have hs := addF_is h.1 h1
  have h2 := h.2
  exact become_did h (fun he => hs.val he) (by unfold vT at *; grind)
def penV (v w : Rat) : Rat := if v < w then 0 else v - w
def floorV (v w : Rat) : Rat := if v < w then w else v
def capV (v w : Rat) : Rat := if w < v then w else v
theorem sub_self {a b : Int} (h : ok a b = true) : subF a b a b = (0, 1, 0) := by
  have := (subF_is h h).unq 0 1 ok01 (by rw [qv01]; grind)
  exact this
theorem wL {L : List Ln} {i : Nat} (h : ok (L.getD i ln0).n (L.getD i ln0).d = true) : ok (wN L i) (wD L i) = true ∧ qv (wN L i) (wD L i) = wv (L.getD i ln0) := wt_ln h
theorem penT_did {L : List Ln} {i : Nat} {t : T} (h : GoodT t) (hx : ok (L.getD i ln0).n (L.getD i ln0).d = true) : Did t (penT L i t) (penV (vT t) (wv (L.getD i ln0))) 1 := by
  obtain ⟨w1, w2⟩ := wL hx
  have h2 := h.2
  unfold penT penV
  cases hl : lessB t.p t.q (wN L i) (wD L i) with
  | true =>
    rw [less_iff h.1 w1, w2] at hl
    have hl : vT t < wv (L.getD i ln0) := hl
    rw [if_pos rfl, sub_self h.1]
    refine become_did h (fun _ => ⟨ok01, ?_⟩) ?_
    · rw [qv01, if_pos hl]
    · rw [if_pos hl]; grind
  | false =>
    rw [less_false h.1 w1, w2] at hl
    have hl : ¬ vT t < wv (L.getD i ln0) := hl
    have hs := subF_is h.1 w1
    rw [if_neg (by simp)]
    refine become_did h (fun he => ?_) ?_
    · obtain ⟨a1, a2⟩ := hs.val he
      refine ⟨a1, ?_⟩
      rw [a2, w2, if_neg hl]; rfl
    · rw [if_neg hl]; grind
theorem floorT_did {L : List Ln} {i : Nat} {t : T} (h : GoodT t) (hx : ok (L.getD i ln0).n (L.getD i ln0).d = true) : Did t (floorT L i t) (floorV (vT t) (wv (L.getD i ln0))) 1 := by
  obtain ⟨w1, w2⟩ := wL hx
  have h2 := h.2
  have h3 := wv_nonneg (L.getD i ln0)
  unfold floorT floorV
  cases hl : lessB t.p t.q (wN L i) (wD L i) with
  | true =>
    rw [less_iff h.1 w1, w2] at hl
    have hl : vT t < wv (L.getD i ln0) := hl
    rw [if_pos rfl, if_pos hl]
    exact become_did h (fun _ => ⟨w1, w2⟩) h3
  | false =>
    rw [less_false h.1 w1, w2] at hl
    have hl : ¬ vT t < wv (L.getD i ln0) := hl
    rw [if_neg (by simp), if_neg hl]
    exact become_did h (fun _ => ⟨h.1, rfl⟩) h2
theorem capT_did {L : List Ln} {i : Nat} {t : T} (h : GoodT t) (hx : ok (L.getD i ln0).n (L.getD i ln0).d = true) : Did t (capT L i t) (capV (vT t) (wv (L.getD i ln0))) 1 := by
  obtain ⟨w1, w2⟩ := wL hx
  have h2 := h.2
  have h3 := wv_nonneg (L.getD i ln0)
  unfold capT capV
  cases hl : lessB (wN L i) (wD L i) t.p t.q with
  | true =>
    rw [less_iff w1 h.1, w2] at hl
    have hl : wv (L.getD i ln0) < vT t := hl
    rw [if_pos rfl, if_pos hl]
    exact become_did h (fun _ => ⟨w1, w2⟩) h3
  | false =>
    rw [less_false w1 h.1, w2] at hl
    have hl : ¬ wv (L.getD i ln0) < vT t := hl
    rw [if_neg (by simp), if_neg hl]
    exact become_did h (fun _ => ⟨h.1, rfl⟩) h2
end Go.Proofs

/- Credits, plain: the value of the points is a formula that does not depend on the order of the lines. -/
set_option autoImplicit false
namespace Go.Proofs
open Go Go.Ab Classical
def isK (k : Int) (x : Ln) : Bool := x.app && x.kind == k
def foldK (k : Int) (f : Rat → Rat → Rat) (L : List Ln) (v : Rat) : Rat := L.foldl (fun v x => if isK k x then f v (wv x) else v) v
def cntK (k : Int) (L : List Ln) : Nat := L.foldl (fun n x => if isK k x then n + 1 else n) 0
theorem foldl_take {α β : Type} (f : β → α → β) (b : β) {L : List α} {i : Nat} (h : i < L.length) : (L.take (i + 1)).foldl f b = f ((L.take i).foldl f b) L[i] := by
  rw [List.take_succ_eq_append_getElem h, List.foldl_append]; rfl
theorem getD_eq {L : List Ln} {i : Nat} (h : i < L.length) : L.getD i ln0 = L[i] := by
  rw [List.getD, List.getElem?_eq_getElem h]; rfl
/-- All lines that apply have a valid amount. -/
def AppOk (L : List Ln) : Prop := ∀ x ∈ L, x.app = true → ok x.n x.d = true
theorem phase_did {L : List Ln} (hL : AppOk L) {k : Int} {f : Rat → Rat → Rat} (hf : ∀ i t, i < L.length → GoodT t → ok (L.getD i ln0).n (L.getD i ln0).d = true → Did t (stepT L k i t) (f (vT t) (wv (L.getD i ln0))) 1) :
    ∀ (i : Nat) (t : T), i ≤ L.length → GoodT t → Did t (phase L k i t) (foldK k f (L.take i) (vT t)) (cntK k (L.take i))
  | 0, t, _, h => ⟨h, fun hw => ⟨hw, rfl, rfl⟩⟩
  | i + 1, t, hi, h => by
    have hlt : i < L.length := hi
    obtain ⟨g, ih⟩ := phase_did hL hf i t (by omega) h
    have e1 : foldK k f (L.take (i + 1)) (vT t) = if isK k L[i] then f (foldK k f (L.take i) (vT t)) (wv L[i]) else foldK k f (L.take i) (vT t) := foldl_take _ _ hlt
    have e2 : cntK k (L.take (i + 1)) = if isK k L[i] then cntK k (L.take i) + 1 else cntK k (L.take i) := foldl_take _ _ hlt
    rw [phase, e1, e2]
    by_cases hk : (L.getD i ln0).app = true ∧ (L.getD i ln0).kind = k
    · have hk2 : isK k L[i] = true := by
        unfold isK
        rw [← getD_eq hlt, hk.1, hk.2]; simp
      rw [if_pos hk, if_pos hk2, if_pos hk2, ← getD_eq hlt]
      obtain ⟨g2, st⟩ := hf i _ hlt g (hL _ (by rw [getD_eq hlt]; exact List.getElem_mem hlt) hk.1)
      refine ⟨g2, fun hw => ?_⟩
      obtain ⟨s1, s2, s3⟩ := st hw
      obtain ⟨i1, i2, i3⟩ := ih s1
      exact ⟨i1, by rw [s2, i2], by rw [s3, i3]; omega⟩
    · have hk2 : ¬ isK k L[i] = true := by
        unfold isK
        rw [← getD_eq hlt]
        intro h2
        simp only [Bool.and_eq_true, beq_iff_eq] at h2
        exact hk h2
      rw [if_neg hk, if_neg hk2, if_neg hk2]
      exact ⟨g, ih⟩
theorem phase_pen {L : List Ln} (hL : AppOk L) (t : T) (h : GoodT t) : Did t (phase L 1 L.length t) (foldK 1 penV L (vT t)) (cntK 1 L) := by
  have := phase_did hL (k := 1) (f := penV) (fun i t _ h hx => by
    have := penT_did (L := L) (i := i) h hx
    simpa [stepT] using this) L.length t (Nat.le_refl _) h
  rwa [List.take_length] at this
theorem phase_floor {L : List Ln} (hL : AppOk L) (t : T) (h : GoodT t) : Did t (phase L 3 L.length t) (foldK 3 floorV L (vT t)) (cntK 3 L) := by
  have := phase_did hL (k := 3) (f := floorV) (fun i t _ h hx => by
    have := floorT_did (L := L) (i := i) h hx
    simpa [stepT] using this) L.length t (Nat.le_refl _) h
  rwa [List.take_length] at this
theorem phase_cap {L : List Ln} (hL : AppOk L) (t : T) (h : GoodT t) : Did t (phase L 2 L.length t) (foldK 2 capV L (vT t)) (cntK 2 L) := by
  have := phase_did hL (k := 2) (f := capV) (fun i t _ h hx => by
    have := capT_did (L := L) (i := i) h hx
    simpa [stepT] using this) L.length t (Nat.le_refl _) h
  rwa [List.take_length] at this
/-! points -/
def ug (x : Ln) : Bool := isK 0 x && x.group.size == 0
def gm (x : Ln) : Bool := isK 0 x && !(x.group.size == 0)
/-- The greatest weight of a group. -/
def gmaxS (g : ByteArray) (r : Rat) (x : Ln) : Rat := if memb g x = true ∧ r < wv x then wv x else r
def gmax (g : ByteArray) (L : List Ln) : Rat := L.foldl (gmaxS g) 0
noncomputable def keys (L : List Ln) : List ByteArray := L.foldl (fun ks x => if gm x = true ∧ x.group ∉ ks then ks ++ [x.group] else ks) []
def ugS (L : List Ln) : Rat := L.foldl (fun r x => if ug x then r + wv x else r) 0
def ugN (L : List Ln) : Nat := L.foldl (fun r x => if ug x then r + 1 else r) 0
def sumF (f : ByteArray → Rat) (ks : List ByteArray) : Rat := ks.foldl (fun r g => r + f g) 0
noncomputable def ptv (L : List Ln) : Rat := ugS L + sumF (fun g => gmax g L) (keys L)
theorem memb_gm {g : ByteArray} {x : Ln} (hg : g.size ≠ 0) : memb g x = true ↔ gm x = true ∧ x.group = g := by
  unfold memb gm isK
  simp only [Bool.and_eq_true, beq_iff_eq, decide_eq_true_eq, Bool.not_eq_true', beq_eq_false_iff_ne, ne_eq]
  constructor
  · rintro ⟨h1, h2, rfl⟩; exact ⟨⟨⟨h2, h1⟩, hg⟩, rfl⟩
  · rintro ⟨⟨⟨h1, h2⟩, _⟩, rfl⟩; exact ⟨h2, h1, rfl⟩
theorem bestOf_wv {g : ByteArray} : ∀ (M : List Ln) (b : Ln), (∀ x ∈ M, memb g x = true → ok x.n x.d = true) → ok b.n b.d = true →
    ok (bestOf g M b).n (bestOf g M b).d = true ∧ wv (bestOf g M b) = M.foldl (gmaxS g) (wv b)
  | [], b, _, hb => ⟨hb, rfl⟩
  | x :: M, b, hM, hb => by
    unfold bestOf
    rw [List.foldl_cons, List.foldl_cons]
    have ih := fun b' hb' => bestOf_wv (g := g) M b' (fun y hy => hM y (List.mem_cons_of_mem _ hy)) hb'
    unfold bestOf at ih
    obtain ⟨w1, w2⟩ := wt_ln hb
    by_cases hm : memb g x = true
    · have hx := hM x (List.mem_cons_self ..) hm
      obtain ⟨u1, u2⟩ := wt_ln hx
      unfold gmaxS
      cases hl : lessB (wtN b.n b.d) (wtD b.n b.d) (wtN x.n x.d) (wtD x.n x.d) with
      | true =>
        rw [less_iff w1 u1, w2, u2] at hl
        rw [if_pos (by rw [hm]; rfl), if_pos ⟨hm, hl⟩]
        exact ih x hx
      | false =>
        rw [less_false w1 u1, w2, u2] at hl
        rw [if_neg (by simp), if_neg (fun h => hl h.2)]
        exact ih b hb
    · unfold gmaxS
      rw [if_neg (by rw [Bool.and_eq_true]; exact fun h => hm h.1), if_neg (fun h => hm h.1)]
      exact ih b hb
theorem gmax_none {g : ByteArray} : ∀ (M : List Ln) (r : Rat), M.any (memb g) = false → M.foldl (gmaxS g) r = r
  | [], _, _ => rfl
  | x :: M, r, h => by
    simp only [List.any_cons, Bool.or_eq_false_iff] at h
    rw [List.foldl_cons]
    have : gmaxS g r x = r := by unfold gmaxS; rw [if_neg]; rw [h.1]; simp
    rw [this]
    exact gmax_none M r h.2
theorem best_gmax {L : List Ln} {i : Nat} (hi : i < L.length) (hL : AppOk L) (hg : (L[i]).group.size ≠ 0) (hm : gm L[i] = true) (hno : (L.take i).any (memb (L[i]).group) = false) :
    ok (bestOf (L[i]).group (L.drop i) L[i]).n (bestOf (L[i]).group (L.drop i) L[i]).d = true ∧ wv (bestOf (L[i]).group (L.drop i) L[i]) = gmax (L[i]).group L := by
  have hmem : memb (L[i]).group L[i] = true := (memb_gm hg).2 ⟨hm, rfl⟩
  have happ : ∀ x : Ln, ∀ g, memb g x = true → x.app = true := fun x g h => by
    unfold memb at h; simp only [Bool.and_eq_true] at h; exact h.2.1
  have hok : ok (L[i]).n (L[i]).d = true := hL _ (List.getElem_mem hi) (happ _ _ hmem)
  obtain ⟨h1, h2⟩ := bestOf_wv (g := (L[i]).group) (L.drop i) L[i] (fun x hx hm => hL x (List.mem_of_mem_drop hx) (happ _ _ hm)) hok
  refine ⟨h1, h2.trans ?_⟩
  have e2 : ∀ g, (L.take i).any (memb g) = false → gmax g L = (L.drop i).foldl (gmaxS g) 0 := by
    intro g h
    unfold gmax
    have : L.foldl (gmaxS g) 0 = (L.take i ++ L.drop i).foldl (gmaxS g) 0 := by rw [List.take_append_drop]
    rw [this, List.foldl_append, gmax_none _ _ h]
  rw [e2 _ hno, List.drop_eq_getElem_cons hi, List.foldl_cons, List.foldl_cons]
  congr 1
  unfold gmaxS
  have := wv_nonneg L[i]
  rw [if_neg (by grind)]
  split
  · rfl
  · rename_i hh
    have : ¬ 0 < wv L[i] := fun h => hh ⟨hmem, h⟩
    grind
end Go.Proofs

/- Credits, plain: the value of the points for points, and the whole formula. -/
set_option autoImplicit false
namespace Go.Proofs
open Go Go.Ab Classical
theorem keys_snoc {L : List Ln} {i : Nat} (hi : i < L.length) : keys (L.take (i + 1)) = if gm L[i] = true ∧ (L[i]).group ∉ keys (L.take i) then keys (L.take i) ++ [(L[i]).group] else keys (L.take i) := foldl_take _ _ hi
theorem keysG (g : ByteArray) : ∀ (L : List Ln) (ks : List ByteArray), g ∈ L.foldl (fun ks x => if gm x = true ∧ x.group ∉ ks then ks ++ [x.group] else ks) ks ↔ g ∈ ks ∨ ∃ x ∈ L, gm x = true ∧ x.group = g
  | [], ks => by simp
  | x :: L, ks => by
    rw [List.foldl_cons, keysG g L]
    by_cases h : gm x = true ∧ x.group ∉ ks
    · rw [if_pos h, List.mem_append, List.mem_singleton]
      constructor
      · rintro ((h1 | rfl) | ⟨y, h1, h2⟩)
        · exact .inl h1
        · exact .inr ⟨x, List.mem_cons_self .., h.1, rfl⟩
        · exact .inr ⟨y, List.mem_cons_of_mem _ h1, h2⟩
      · rintro (h1 | ⟨y, h1, h2, h3⟩)
        · exact .inl (.inl h1)
        · rcases List.mem_cons.1 h1 with rfl | h1
          · exact .inl (.inr h3.symm)
          · exact .inr ⟨y, h1, h2, h3⟩
    · rw [if_neg h]
      constructor
      · rintro (h1 | ⟨y, h1, h2⟩)
        · exact .inl h1
        · exact .inr ⟨y, List.mem_cons_of_mem _ h1, h2⟩
      · rintro (h1 | ⟨y, h1, h2, h3⟩)
        · exact .inl h1
        · rcases List.mem_cons.1 h1 with rfl | h1
          · by_cases h4 : y.group ∈ ks
            · exact .inl (h3 ▸ h4)
            · exact absurd ⟨h2, h4⟩ h
          · exact .inr ⟨y, h1, h2, h3⟩
theorem mem_keys {g : ByteArray} {L : List Ln} : g ∈ keys L ↔ ∃ x ∈ L, gm x = true ∧ x.group = g := by
  unfold keys; rw [keysG]; simp
theorem keysN : ∀ (L : List Ln) (ks : List ByteArray), ks.Nodup → (L.foldl (fun ks x => if gm x = true ∧ x.group ∉ ks then ks ++ [x.group] else ks) ks).Nodup
  | [], _, h => h
  | x :: L, ks, h => by
    rw [List.foldl_cons]
    refine keysN L _ ?_
    split
    · rename_i h2
      rw [List.nodup_append]
      exact ⟨h, by simp, fun a ha b hb => by
        rw [List.mem_singleton] at hb; subst hb
        rintro rfl; exact h2.2 ha⟩
    · exact h
theorem keys_nodup (L : List Ln) : (keys L).Nodup := keysN L [] (by simp)
theorem any_keys {g : ByteArray} {L : List Ln} (hg : g.size ≠ 0) : L.any (memb g) = true ↔ g ∈ keys L := by
  rw [mem_keys, List.any_eq_true]
  constructor
  · rintro ⟨x, h1, h2⟩; exact ⟨x, h1, (memb_gm hg).1 h2⟩
  · rintro ⟨x, h1, h2⟩; exact ⟨x, h1, (memb_gm hg).2 h2⟩
theorem sumF_snoc (f : ByteArray → Rat) (ks : List ByteArray) (g : ByteArray) : sumF f (ks ++ [g]) = sumF f ks + f g := by
  unfold sumF; rw [List.foldl_append]; rfl
theorem phase_pts {L : List Ln} (hL : AppOk L) : ∀ (i : Nat) (t : T), i ≤ L.length → GoodT t →
    Did t (phase L 0 i t) (vT t + (ugS (L.take i) + sumF (fun g => gmax g L) (keys (L.take i)))) (ugN (L.take i) + (keys (L.take i)).length)
  | 0, t, _, h => ⟨h, fun hw => ⟨hw, by
      show vT t = vT t + (0 + 0)
      grind, rfl⟩⟩
  | i + 1, t, hi, h => by
    have hlt : i < L.length := hi
    obtain ⟨g, ih⟩ := phase_pts hL i t (by omega) h
    have e1 : ugS (L.take (i + 1)) = if ug L[i] then ugS (L.take i) + wv L[i] else ugS (L.take i) := foldl_take _ _ hlt
    have e2 : ugN (L.take (i + 1)) = if ug L[i] then ugN (L.take i) + 1 else ugN (L.take i) := foldl_take _ _ hlt
    rw [phase, e1, e2, keys_snoc hlt]
    by_cases hk : (L.getD i ln0).app = true ∧ (L.getD i ln0).kind = 0
    · rw [if_pos hk]
      have hk2 : isK 0 L[i] = true := by
        unfold isK
        rw [← getD_eq hlt, hk.1, hk.2]; rfl
      have hx : ok (L[i]).n (L[i]).d = true := hL _ (List.getElem_mem hlt) (by rw [← getD_eq hlt]; exact hk.1)
      have es : stepT L 0 i (phase L 0 i t) = pointsT L i (phase L 0 i t) := by simp [stepT]
      rw [es]
      unfold pointsT
      rw [getD_eq hlt]
      by_cases hg : (L[i]).group.size = 0
      · have u1 : ug L[i] = true := by unfold ug; rw [hk2, hg]; rfl
        have u2 : gm L[i] = false := by unfold gm; rw [hk2, hg]; rfl
        rw [if_pos hg, if_pos u1, if_pos u1, if_neg (by rw [u2]; simp)]
        obtain ⟨w1, w2⟩ := wt_ln hx
        obtain ⟨g2, st⟩ := addT_did (nm := (L[i]).name) g w1 (by rw [w2]; exact wv_nonneg _)
        refine ⟨g2, fun hw => ?_⟩
        obtain ⟨s1, s2, s3⟩ := st hw
        obtain ⟨i1, i2, i3⟩ := ih s1
        exact ⟨i1, by rw [s2, i2, w2]; grind, by rw [s3, i3]; omega⟩
      · have u1 : ug L[i] = false := by unfold ug; rw [hk2]; simpa using hg
        have u2 : gm L[i] = true := by unfold gm; rw [hk2]; simpa using hg
        simp only [if_neg hg, u1, Bool.false_eq_true, if_false]
        cases ha : (L.take i).any (memb (L[i]).group) with
        | true =>
          have hin := (any_keys hg).1 ha
          rw [if_pos rfl, if_neg (fun h => h.2 hin)]
          exact ⟨g, ih⟩
        | false =>
          have hin : (L[i]).group ∉ keys (L.take i) := fun h => by rw [(any_keys hg).2 h] at ha; cases ha
          rw [if_neg (by simp), if_pos ⟨u2, hin⟩, sumF_snoc, List.length_append]
          obtain ⟨b1, b2⟩ := best_gmax hlt hL hg u2 ha
          obtain ⟨w1, w2⟩ := wt_ln b1
          obtain ⟨g2, st⟩ := addT_did (nm := (bestOf (L[i]).group (L.drop i) L[i]).name) g w1 (by rw [w2]; exact wv_nonneg _)
          refine ⟨g2, fun hw => ?_⟩
          obtain ⟨s1, s2, s3⟩ := st hw
          obtain ⟨i1, i2, i3⟩ := ih s1
          exact ⟨i1, by rw [s2, i2, w2, b2]; grind, by rw [s3, i3]; simp only [List.length_cons, List.length_nil]; omega⟩
    · have hk2 : isK 0 L[i] = false := by
        rw [Bool.eq_false_iff]
        unfold isK
        rw [← getD_eq hlt]
        intro h2
        simp only [Bool.and_eq_true, beq_iff_eq] at h2
        exact hk h2
      have u1 : ug L[i] = false := by unfold ug; rw [hk2]; rfl
      have u2 : gm L[i] = false := by unfold gm; rw [hk2]; rfl
      simp only [if_neg hk, u1, u2, Bool.false_eq_true, if_false, false_and]
      exact ⟨g, ih⟩
/-- The points that lines make. -/
noncomputable def fin (L : List Ln) : Rat := foldK 2 capV L (foldK 3 floorV L (foldK 1 penV L (ptv L)))
noncomputable def parts (L : List Ln) : Nat := ugN L + (keys L).length + cntK 1 L + cntK 3 L + cntK 2 L
theorem comb_fin {L : List Ln} (hL : AppOk L) : GoodT (combT L) ∧ ((combT L).wr = false → vT (combT L) = fin L ∧ (combT L).ps.length = parts L) := by
  have g0 : GoodT ⟨[], 0, 1, false⟩ := ⟨ok01, by unfold vT; rw [qv01]; grind⟩
  obtain ⟨g1, s1⟩ := phase_pts hL L.length _ (Nat.le_refl _) g0
  rw [List.take_length] at s1
  obtain ⟨g2, s2⟩ := phase_pen hL _ g1
  obtain ⟨g3, s3⟩ := phase_floor hL _ g2
  obtain ⟨g4, s4⟩ := phase_cap hL _ g3
  refine ⟨g4, fun hw => ?_⟩
  obtain ⟨a4, b4, c4⟩ := s4 hw
  obtain ⟨a3, b3, c3⟩ := s3 a4
  obtain ⟨a2, b2, c2⟩ := s2 a3
  obtain ⟨a1, b1, c1⟩ := s1 a2
  unfold combT fin parts
  refine ⟨?_, ?_⟩
  · rw [b4, b3, b2, b1]
    have : vT ⟨[], 0, 1, false⟩ + (ugS L + sumF (fun g => gmax g L) (keys L)) = ptv L := by
      unfold vT ptv
      show qv 0 1 + _ = _
      rw [qv01]; grind
    rw [this]
  · rw [c4, c3, c2, c1]
    simp only [List.length_nil]; omega
end Go.Proofs

/- Credits, plain: the formula does not depend on the order of the lines. -/
set_option autoImplicit false
namespace Go.Proofs
open Go Go.Ab Classical
theorem foldl_perm {α β : Type} (f : β → α → β) (hc : ∀ b x y, f (f b x) y = f (f b y) x) {L M : List α} (h : L.Perm M) : ∀ b, L.foldl f b = M.foldl f b := by
  induction h with
  | nil => intro b; rfl
  | cons x _ ih => intro b; rw [List.foldl_cons, List.foldl_cons]; exact ih _
  | swap x y l => intro b; simp only [List.foldl_cons]; rw [hc]
  | trans _ _ ih1 ih2 => intro b; rw [ih1, ih2]
theorem foldK_perm {k : Int} {f : Rat → Rat → Rat} (hf : ∀ v a b, 0 ≤ a → 0 ≤ b → f (f v a) b = f (f v b) a) {L M : List Ln} (h : L.Perm M) (v : Rat) : foldK k f L v = foldK k f M v := by
  unfold foldK
  refine foldl_perm _ (fun b x y => ?_) h v
  have := hf b (wv x) (wv y) (wv_nonneg x) (wv_nonneg y)
  cases isK k x <;> cases isK k y <;> simp_all
theorem pen_comm (v a b : Rat) (ha : 0 ≤ a) (hb : 0 ≤ b) : penV (penV v a) b = penV (penV v b) a := by unfold penV; grind
theorem floor_comm (v a b : Rat) (_ : 0 ≤ a) (_ : 0 ≤ b) : floorV (floorV v a) b = floorV (floorV v b) a := by unfold floorV; grind
theorem cap_comm (v a b : Rat) (_ : 0 ≤ a) (_ : 0 ≤ b) : capV (capV v a) b = capV (capV v b) a := by unfold capV; grind
theorem cntK_perm {k : Int} {L M : List Ln} (h : L.Perm M) : cntK k L = cntK k M := by
  unfold cntK
  refine foldl_perm _ (fun b x y => ?_) h 0
  cases isK k x <;> cases isK k y <;> rfl
theorem ugS_perm {L M : List Ln} (h : L.Perm M) : ugS L = ugS M := by
  unfold ugS
  refine foldl_perm _ (fun b x y => ?_) h 0
  cases ug x <;> cases ug y <;> simp <;> grind
theorem ugN_perm {L M : List Ln} (h : L.Perm M) : ugN L = ugN M := by
  unfold ugN
  refine foldl_perm _ (fun b x y => ?_) h 0
  cases ug x <;> cases ug y <;> rfl
theorem gmax_perm {g : ByteArray} {L M : List Ln} (h : L.Perm M) : gmax g L = gmax g M := by
  unfold gmax
  refine foldl_perm _ (fun b x y => ?_) h 0
  unfold gmaxS; grind
theorem keys_perm {L M : List Ln} (h : L.Perm M) : (keys L).Perm (keys M) := by
  refine (List.perm_ext_iff_of_nodup (keys_nodup L) (keys_nodup M)).2 fun g => ?_
  have : g ∈ keys L ↔ g ∈ keys M := by
    rw [mem_keys, mem_keys]
    constructor
    · rintro ⟨x, h1, h2⟩; exact ⟨x, h.mem_iff.1 h1, h2⟩
    · rintro ⟨x, h1, h2⟩; exact ⟨x, h.mem_iff.2 h1, h2⟩
  exact this
theorem sumF_perm {f : ByteArray → Rat} {L M : List ByteArray} (h : L.Perm M) : sumF f L = sumF f M := by
  unfold sumF
  refine foldl_perm _ (fun b x y => ?_) h 0
  grind
theorem ptv_perm {L M : List Ln} (h : L.Perm M) : ptv L = ptv M := by
  unfold ptv
  rw [ugS_perm h, sumF_perm (keys_perm h), show (fun g => gmax g L) = fun g => gmax g M from funext fun g => gmax_perm h]
theorem fin_perm {L M : List Ln} (h : L.Perm M) : fin L = fin M := by
  unfold fin
  rw [ptv_perm h, foldK_perm pen_comm h, foldK_perm floor_comm h, foldK_perm cap_comm h]
theorem parts_perm {L M : List Ln} (h : L.Perm M) : parts L = parts M := by
  unfold parts
  rw [ugN_perm h, (keys_perm h).length_eq, cntK_perm h, cntK_perm h, cntK_perm h]
theorem AppOk.perm {L M : List Ln} (h : L.Perm M) (hL : AppOk L) : AppOk M := fun x hx => hL x (h.mem_iff.2 hx)
/-- Points of one value are one fraction. -/
theorem comb_eq {L M : List Ln} (hL : AppOk L) (hM : AppOk M) (h1 : (combT L).wr = false) (h2 : (combT M).wr = false) (hf : fin L = fin M) : (combT L).p = (combT M).p ∧ (combT L).q = (combT M).q := by
  obtain ⟨a1, a2⟩ := comb_fin hL
  obtain ⟨b1, b2⟩ := comb_fin hM
  exact ok_uniq a1.1 b1.1 (((a2 h1).1.trans hf).trans (b2 h2).1.symm)
end Go.Proofs

/- Credits, plain: limits; rising amounts. -/
set_option autoImplicit false
namespace Go.Proofs
open Go Go.Ab Classical
theorem foldK_cons (k : Int) (f : Rat → Rat → Rat) (x : Ln) (L : List Ln) (v : Rat) : foldK k f (x :: L) v = foldK k f L (if isK k x = true then f v (wv x) else v) := rfl
theorem floor_ge : ∀ (L : List Ln) (v : Rat), v ≤ foldK 3 floorV L v ∧ ∀ x ∈ L, isK 3 x = true → wv x ≤ foldK 3 floorV L v
  | [], v => ⟨by show v ≤ v; grind, fun x hx => by simp at hx⟩
  | y :: L, v => by
    rw [foldK_cons]
    obtain ⟨h1, h2⟩ := floor_ge L (if isK 3 y = true then floorV v (wv y) else v)
    refine ⟨?_, fun x hx hk => ?_⟩
    · split at h1 <;> unfold floorV at * <;> grind
    · rcases List.mem_cons.1 hx with rfl | hx
      · rw [if_pos hk] at h1 ⊢
        have : wv x ≤ floorV v (wv x) := by unfold floorV; grind
        grind
      · exact h2 x hx hk
theorem cap_le : ∀ (L : List Ln) (v : Rat), foldK 2 capV L v ≤ v ∧ (∀ x ∈ L, isK 2 x = true → foldK 2 capV L v ≤ wv x) ∧ (foldK 2 capV L v = v ∨ ∃ y ∈ L, isK 2 y = true ∧ foldK 2 capV L v = wv y)
  | [], v => ⟨by show v ≤ v; grind, fun x hx => by simp at hx, .inl rfl⟩
  | y :: L, v => by
    rw [foldK_cons]
    obtain ⟨h1, h2, h3⟩ := cap_le L (if isK 2 y = true then capV v (wv y) else v)
    refine ⟨?_, fun x hx hk => ?_, ?_⟩
    · have : (if isK 2 y = true then capV v (wv y) else v) ≤ v := by
        split
        · unfold capV; grind
        · grind
      grind
    · rcases List.mem_cons.1 hx with rfl | hx
      · rw [if_pos hk] at h1 ⊢
        have : capV v (wv x) ≤ wv x := by unfold capV; grind
        grind
      · exact h2 x hx hk
    · rcases h3 with h3 | ⟨z, h3, h4, h5⟩
      · by_cases hk : isK 2 y = true
        · rw [if_pos hk] at h3 ⊢
          by_cases hlt : wv y < v
          · exact .inr ⟨y, List.mem_cons_self .., hk, by rw [h3]; unfold capV; rw [if_pos hlt]⟩
          · exact .inl (by rw [h3]; unfold capV; rw [if_neg hlt])
        · rw [if_neg hk] at h3 ⊢
          exact .inl h3
      · exact .inr ⟨z, List.mem_cons_of_mem _ h3, h4, h5⟩
theorem fin_cap {L : List Ln} {x : Ln} (hx : x ∈ L) (hk : isK 2 x = true) : fin L ≤ wv x := (cap_le L _).2.1 x hx hk
theorem fin_floor {L : List Ln} {x : Ln} (hx : x ∈ L) (hk : isK 3 x = true) : wv x ≤ fin L ∨ ∃ y ∈ L, isK 2 y = true ∧ fin L = wv y := by
  rcases (cap_le L (foldK 3 floorV L (foldK 1 penV L (ptv L)))).2.2 with h | h
  · left
    have := (floor_ge L (foldK 1 penV L (ptv L))).2 x hx hk
    unfold fin
    rw [h]; exact this
  · exact .inr h
/-! A line with another amount. -/
/-- The same line, but for an amount that makes no fewer points. -/
structure Up (x y : Ln) : Prop where
  group : x.group = y.group
  kind : x.kind = y.kind
  app : x.app = y.app
  pen : isK 1 x = true → wv y ≤ wv x
  oth : ∀ k, k ≠ 1 → isK k x = true → wv x ≤ wv y
theorem Up.refl (x : Ln) : Up x x := ⟨rfl, rfl, rfl, fun _ => by grind, fun _ _ _ => by grind⟩
/-- Line by line. -/
inductive Ups : List Ln → List Ln → Prop
  | nil : Ups [] []
  | cons {x y : Ln} {L M : List Ln} : Up x y → Ups L M → Ups (x :: L) (y :: M)
theorem Ups.refl : ∀ L, Ups L L
  | [] => .nil
  | x :: L => .cons (Up.refl x) (Ups.refl L)
theorem Up.isK {x y : Ln} (h : Up x y) (k : Int) : isK k x = isK k y := by unfold Go.Proofs.isK; rw [h.kind, h.app]
theorem Up.gm {x y : Ln} (h : Up x y) : gm x = gm y := by unfold Go.Proofs.gm; rw [h.isK, h.group]
theorem Up.ug {x y : Ln} (h : Up x y) : ug x = ug y := by unfold Go.Proofs.ug; rw [h.isK, h.group]
theorem Up.memb {x y : Ln} (h : Up x y) (g : ByteArray) : memb g x = memb g y := by unfold Go.Proofs.memb; rw [h.group, h.kind, h.app]
theorem keys_up {L M : List Ln} (h : Ups L M) : ∀ ks : List ByteArray, L.foldl (fun ks x => if gm x = true ∧ x.group ∉ ks then ks ++ [x.group] else ks) ks = M.foldl (fun ks x => if gm x = true ∧ x.group ∉ ks then ks ++ [x.group] else ks) ks := by
  induction h with
  | nil => intro ks; rfl
  | cons hx _ ih => intro ks; rw [List.foldl_cons, List.foldl_cons, hx.gm, hx.group]; exact ih _
theorem memb_isK {g : ByteArray} {x : Ln} (h : memb g x = true) : isK 0 x = true := by
  unfold memb at h; unfold isK
  simp only [Bool.and_eq_true] at h ⊢
  exact ⟨h.2.1, h.1⟩
theorem gmax_up {g : ByteArray} {L M : List Ln} (h : Ups L M) : ∀ r s : Rat, r ≤ s → L.foldl (gmaxS g) r ≤ M.foldl (gmaxS g) s := by
  induction h with
  | nil => intro r s h; exact h
  | @cons x y _ _ hx _ ih =>
    intro r s h
    rw [List.foldl_cons, List.foldl_cons]
    refine ih _ _ ?_
    unfold gmaxS
    by_cases hm : Go.Proofs.memb g x = true
    · have h1 := hx.oth 0 (by decide) (memb_isK hm)
      rw [← hx.memb]
      grind
    · rw [← hx.memb, if_neg (fun h => hm h.1), if_neg (fun h => hm h.1)]
      exact h
theorem ugS_up {L M : List Ln} (h : Ups L M) : ∀ r s : Rat, r ≤ s → L.foldl (fun r x => if ug x = true then r + wv x else r) r ≤ M.foldl (fun r x => if ug x = true then r + wv x else r) s := by
  induction h with
  | nil => intro r s h; exact h
  | @cons x y _ _ hx _ ih =>
    intro r s h
    rw [List.foldl_cons, List.foldl_cons]
    refine ih _ _ ?_
    rw [← hx.ug]
    by_cases hu : Go.Proofs.ug x = true
    · have h1 := hx.oth 0 (by decide) (by unfold Go.Proofs.ug at hu; rw [Bool.and_eq_true] at hu; exact hu.1)
      rw [if_pos hu, if_pos hu]; grind
    · rw [if_neg hu, if_neg hu]; exact h
theorem sumF_le {f g : ByteArray → Rat} (h : ∀ a, f a ≤ g a) : ∀ (ks : List ByteArray) (r s : Rat), r ≤ s → ks.foldl (fun r a => r + f a) r ≤ ks.foldl (fun r a => r + g a) s
  | [], _, _, hr => hr
  | a :: ks, r, s, hr => by
    rw [List.foldl_cons, List.foldl_cons]
    refine sumF_le h ks _ _ ?_
    have := h a
    grind
theorem ptv_up {L M : List Ln} (h : Ups L M) : ptv L ≤ ptv M := by
  unfold ptv
  have h1 : ugS L ≤ ugS M := ugS_up h 0 0 (by grind)
  have h2 : keys L = keys M := keys_up h []
  have h3 : sumF (fun g => gmax g L) (keys L) ≤ sumF (fun g => gmax g M) (keys L) := sumF_le (fun a => gmax_up h 0 0 (by grind)) _ 0 0 (by grind)
  rw [h2] at h3 ⊢
  grind
theorem fold_up {k : Int} (hk : k ≠ 1) {f : Rat → Rat → Rat} (hf : ∀ v v' w w', v ≤ v' → w ≤ w' → f v w ≤ f v' w') {L M : List Ln} (h : Ups L M) : ∀ r s : Rat, r ≤ s → foldK k f L r ≤ foldK k f M s := by
  induction h with
  | nil => intro r s h; exact h
  | @cons x y _ _ hx _ ih =>
    intro r s h
    rw [foldK_cons, foldK_cons]
    refine ih _ _ ?_
    rw [← hx.isK]
    by_cases hi : Go.Proofs.isK k x = true
    · rw [if_pos hi, if_pos hi]; exact hf _ _ _ _ h (hx.oth k hk hi)
    · rw [if_neg hi, if_neg hi]; exact h
theorem pen_up {L M : List Ln} (h : Ups L M) : ∀ r s : Rat, r ≤ s → foldK 1 penV L r ≤ foldK 1 penV M s := by
  induction h with
  | nil => intro r s h; exact h
  | @cons x y _ _ hx _ ih =>
    intro r s h
    rw [foldK_cons, foldK_cons]
    refine ih _ _ ?_
    rw [← hx.isK]
    by_cases hi : Go.Proofs.isK 1 x = true
    · rw [if_pos hi, if_pos hi]
      have := hx.pen hi
      unfold penV; grind
    · rw [if_neg hi, if_neg hi]; exact h
theorem fin_up {L M : List Ln} (h : Ups L M) : fin L ≤ fin M := by
  unfold fin
  refine fold_up (by decide) (fun v v' w w' h1 h2 => ?_) h _ _ (fold_up (by decide) (fun v v' w w' h1 h2 => ?_) h _ _ (pen_up h _ _ (ptv_up h)))
  · unfold capV; grind
  · unfold floorV; grind
theorem Ups.set {L : List Ln} : ∀ {k : Nat} {y : Ln} (hk : k < L.length), Up L[k] y → Ups L (L.set k y) := by
  induction L with
  | nil => intro k y hk; simp at hk
  | cons x L ih =>
    intro k y hk h
    cases k with
    | zero => exact .cons h (Ups.refl L)
    | succ k => exact .cons (Up.refl x) (ih (by simpa using hk) (by simpa using h))
theorem Ups.set' {L : List Ln} : ∀ {k : Nat} {y : Ln} (hk : k < L.length), Up y L[k] → Ups (L.set k y) L := by
  induction L with
  | nil => intro k y hk; simp at hk
  | cons x L ih =>
    intro k y hk h
    cases k with
    | zero => exact .cons h (Ups.refl L)
    | succ k => exact .cons (Up.refl x) (ih (by simpa using hk) (by simpa using h))
end Go.Proofs

/- Credits, plain: lines that don't count. -/
set_option autoImplicit false
namespace Go.Proofs
open Go Go.Ab Classical
/-! A line of a group that is not better than another one. -/
theorem gmax_start {g : ByteArray} : ∀ (M : List Ln) (r : Rat), (r ≤ M.foldl (gmaxS g) r) ∧ (∀ q ∈ M, memb g q = true → wv q ≤ M.foldl (gmaxS g) r) ∧ (∀ s, r ≤ s → M.foldl (gmaxS g) r ≤ M.foldl (gmaxS g) s) ∧ (∀ s, r ≤ s → s ≤ M.foldl (gmaxS g) r → M.foldl (gmaxS g) s = M.foldl (gmaxS g) r)
  | [], r => ⟨by show r ≤ r; grind, fun q hq => by simp at hq, fun s h => h, fun s h1 h2 => by
      have h2 : s ≤ r := h2
      show s = r
      grind⟩
  | x :: M, r => by
    simp only [List.foldl_cons]
    obtain ⟨a1, a2, a3, a4⟩ := gmax_start (g := g) M (gmaxS g r x)
    have hr : r ≤ gmaxS g r x := by unfold gmaxS; grind
    refine ⟨by grind, fun q hq hm => ?_, fun s hs => ?_, fun s h1 h2 => ?_⟩
    · rcases List.mem_cons.1 hq with rfl | hq
      · have : wv q ≤ gmaxS g r q := by unfold gmaxS; grind
        grind
      · exact a2 q hq hm
    · refine a3 _ ?_
      unfold gmaxS; grind
    · refine a4 _ (by unfold gmaxS; grind) ?_
      unfold gmaxS at *; grind
theorem gmax_drop {g : ByteArray} {x : Ln} {M : List Ln} (h : memb g x = true → ∃ q ∈ M, memb g q = true ∧ wv x ≤ wv q) : gmax g (x :: M) = gmax g M := by
  unfold gmax
  rw [List.foldl_cons]
  obtain ⟨a1, a2, a3, a4⟩ := gmax_start (g := g) M 0
  by_cases hm : memb g x = true
  · obtain ⟨q, h1, h2, h3⟩ := h hm
    have h4 := a2 q h1 h2
    have h5 := wv_nonneg x
    have h6 : gmaxS g 0 x = wv x ∨ gmaxS g 0 x = 0 := by unfold gmaxS; split <;> simp
    rcases h6 with h6 | h6 <;> rw [h6]
    · exact a4 _ h5 (by grind)
  · have : gmaxS g 0 x = 0 := by unfold gmaxS; rw [if_neg (fun h => hm h.1)]
    rw [this]
theorem keys_drop {x : Ln} {M : List Ln} (h : gm x = true → ∃ q ∈ M, gm q = true ∧ q.group = x.group) : (keys (x :: M)).Perm (keys M) := by
  refine (List.perm_ext_iff_of_nodup (keys_nodup _) (keys_nodup _)).2 fun g => ?_
  have : g ∈ keys (x :: M) ↔ g ∈ keys M := by
    rw [mem_keys, mem_keys]
    constructor
    · rintro ⟨y, h1, h2, h3⟩
      rcases List.mem_cons.1 h1 with rfl | h1
      · obtain ⟨q, q1, q2, q3⟩ := h h2
        exact ⟨q, q1, q2, q3.trans h3⟩
      · exact ⟨y, h1, h2, h3⟩
    · rintro ⟨y, h1, h2⟩; exact ⟨y, List.mem_cons_of_mem _ h1, h2⟩
  exact this
theorem isK_gm {x : Ln} (h : gm x = true) : isK 0 x = true := by unfold gm at h; rw [Bool.and_eq_true] at h; exact h.1
theorem isK_one {x : Ln} {j k : Int} (h : isK j x = true) (hk : k ≠ j) : isK k x = false := by
  unfold isK at *
  simp only [Bool.and_eq_true, beq_iff_eq] at h
  rw [h.1, h.2]
  simp only [Bool.true_and, beq_eq_false_iff_ne, ne_eq]
  exact fun e => hk e.symm
theorem fin_best {x q : Ln} {M : List Ln} (hx : gm x = true) (hq : q ∈ M) (hqm : gm q = true) (hg : q.group = x.group) (hw : wv x ≤ wv q) : fin (x :: M) = fin M ∧ parts (x :: M) = parts M := by
  have hk := isK_gm hx
  have hu : ug x = false := by
    unfold gm at hx; unfold ug
    rw [Bool.and_eq_true] at hx
    rw [hx.1]; simpa using hx.2
  have hkeys := keys_drop (x := x) (M := M) fun _ => ⟨q, hq, hqm, hg⟩
  have hmax : (fun g => gmax g (x :: M)) = fun g => gmax g M := funext fun g => gmax_drop fun hm => ⟨q, hq, by
    unfold memb at hm ⊢
    simp only [Bool.and_eq_true, decide_eq_true_eq] at hm ⊢
    have := isK_gm hqm
    unfold isK at this
    simp only [Bool.and_eq_true] at this
    exact ⟨this.2, this.1, hg.trans hm.2.2⟩, hw⟩
  have e1 : ugS (x :: M) = ugS M := by unfold ugS; rw [List.foldl_cons, hu]; rfl
  have e2 : ugN (x :: M) = ugN M := by unfold ugN; rw [List.foldl_cons, hu]; rfl
  have ef : ∀ (k : Int) (f : Rat → Rat → Rat) (v : Rat), k ≠ 0 → foldK k f (x :: M) v = foldK k f M v := fun k f v h => by
    rw [foldK_cons, isK_one hk h]; rfl
  have ec : ∀ (k : Int), k ≠ 0 → cntK k (x :: M) = cntK k M := fun k h => by
    unfold cntK; rw [List.foldl_cons, isK_one hk h]; rfl
  refine ⟨?_, ?_⟩
  · unfold fin ptv
    rw [ef _ _ _ (by decide), ef _ _ _ (by decide), ef _ _ _ (by decide), e1, hmax, sumF_perm hkeys]
  · unfold parts
    rw [ec _ (by decide), ec _ (by decide), ec _ (by decide), e2, hkeys.length_eq]
theorem erase_perm {L : List Ln} {i : Nat} (hi : i < L.length) : L.Perm (L[i] :: L.eraseIdx i) := by
  have e : L.eraseIdx i = L.take i ++ L.drop (i + 1) := List.eraseIdx_eq_take_drop_succ ..
  rw [e]
  have e2 : L = L.take i ++ L[i] :: L.drop (i + 1) := by rw [← List.drop_eq_getElem_cons hi, List.take_append_drop]
  conv => lhs; rw [e2]
  exact List.perm_middle
/-! A line that doesn't apply. -/
theorem bestOf_app {g : ByteArray} (A B : List Ln) (x b : Ln) (hx : x.app = false) : bestOf g (A ++ x :: B) b = bestOf g (A ++ B) b := by
  have hm : memb g x = false := by unfold memb; rw [hx]; simp
  unfold bestOf
  rw [List.foldl_append, List.foldl_append, List.foldl_cons, hm]; rfl
section
variable {A B : List Ln} {x : Ln} (hx : x.app = false)
theorem getD_lo {i : Nat} (h : i < A.length) : (A ++ x :: B).getD i ln0 = (A ++ B).getD i ln0 := by
  simp only [List.getD, List.getElem?_append_left h]
theorem getD_hi {j : Nat} : (A ++ x :: B).getD (A.length + 1 + j) ln0 = (A ++ B).getD (A.length + j) ln0 := by
  simp only [List.getD]
  rw [List.getElem?_append_right (by omega), List.getElem?_append_right (by omega), show A.length + 1 + j - A.length = j + 1 by omega, show A.length + j - A.length = j by omega, List.getElem?_cons_succ]
include hx
theorem step_lo {k : Int} {i : Nat} (h : i < A.length) (t : T) : stepT (A ++ x :: B) k i t = stepT (A ++ B) k i t := by
  have e1 := getD_lo (B := B) (x := x) h
  have e2 : (A ++ x :: B).take i = (A ++ B).take i := by
    rw [List.take_append_of_le_length (by omega), List.take_append_of_le_length (by omega)]
  have e3 : ∀ g b, bestOf g ((A ++ x :: B).drop i) b = bestOf g ((A ++ B).drop i) b := fun g b => by
    rw [List.drop_append_of_le_length (by omega), List.drop_append_of_le_length (by omega)]
    exact bestOf_app _ _ _ _ hx
  unfold stepT pointsT penT floorT capT wN wD
  simp only [e1, e2, e3]
theorem step_hi {k : Int} {j : Nat} (t : T) : stepT (A ++ x :: B) k (A.length + 1 + j) t = stepT (A ++ B) k (A.length + j) t := by
  have e1 := getD_hi (A := A) (B := B) (x := x) (j := j)
  have hm : ∀ g, memb g x = false := fun g => by unfold memb; rw [hx]; simp
  have e2 : ∀ g, ((A ++ x :: B).take (A.length + 1 + j)).any (memb g) = ((A ++ B).take (A.length + j)).any (memb g) := fun g => by
    rw [List.take_append (l₁ := A) (l₂ := x :: B), List.take_append (l₁ := A) (l₂ := B), List.take_of_length_le (l := A) (by omega), List.take_of_length_le (l := A) (by omega), show A.length + 1 + j - A.length = j + 1 by omega, show A.length + j - A.length = j by omega, List.take_succ_cons,
      List.any_append, List.any_append, List.any_cons, hm]; rfl
  have e3 : (A ++ x :: B).drop (A.length + 1 + j) = (A ++ B).drop (A.length + j) := by
    rw [List.drop_append (l₁ := A) (l₂ := x :: B), List.drop_append (l₁ := A) (l₂ := B), @List.drop_eq_nil_of_le _ A _ (by omega), @List.drop_eq_nil_of_le _ A _ (by omega), show A.length + 1 + j - A.length = j + 1 by omega, show A.length + j - A.length = j by omega, List.drop_succ_cons]
  unfold stepT pointsT penT floorT capT wN wD
  simp only [e1, e2, e3]
theorem phase_lo {k : Int} : ∀ (i : Nat) (t : T), i ≤ A.length → phase (A ++ x :: B) k i t = phase (A ++ B) k i t
  | 0, _, _ => rfl
  | i + 1, t, h => by
    rw [phase, phase, getD_lo (by omega), phase_lo i t (by omega), step_lo hx (by omega)]
theorem phase_hi {k : Int} (t : T) : ∀ (j : Nat), phase (A ++ x :: B) k (A.length + 1 + j) t = phase (A ++ B) k (A.length + j) t
  | 0 => by
    have hx' : (A ++ x :: B).getD A.length ln0 = x := by simp [List.getD]
    show phase (A ++ x :: B) k (A.length + 1) t = phase (A ++ B) k A.length t
    rw [phase, hx', hx, if_neg (by simp), phase_lo hx _ _ (Nat.le_refl _)]
  | j + 1 => by
    rw [show A.length + 1 + (j + 1) = (A.length + 1 + j) + 1 by omega, show A.length + (j + 1) = (A.length + j) + 1 by omega, phase, phase, getD_hi, phase_hi t j, step_hi hx]
theorem comb_skip : combT (A ++ x :: B) = combT (A ++ B) := by
  have e : ∀ k t, phase (A ++ x :: B) k (A ++ x :: B).length t = phase (A ++ B) k (A ++ B).length t := fun k t => by
    have := phase_hi (A := A) (B := B) (k := k) hx t B.length
    rw [List.length_append, List.length_append, List.length_cons]
    rw [show A.length + (B.length + 1) = A.length + 1 + B.length by omega]
    exact this
  unfold combT
  rw [e, e, e, e]
end
theorem comb_erase {L : List Ln} {i : Nat} (hi : i < L.length) (hx : (L[i]).app = false) : combT (L.eraseIdx i) = combT L := by
  have e : L.eraseIdx i = L.take i ++ L.drop (i + 1) := List.eraseIdx_eq_take_drop_succ ..
  have e2 : L = L.take i ++ L[i] :: L.drop (i + 1) := by rw [← List.drop_eq_getElem_cons hi, List.take_append_drop]
  rw [e, ← comb_skip (A := L.take i) (B := L.drop (i + 1)) hx, ← e2]
end Go.Proofs
