import Derived.Test.YtldfegcegedkjaaGreatDoorCA
/- The reference's steps, plain: they are those of the program. -/
set_option autoImplicit false
namespace Go.Proofs
open Go Go.Ab
def bestI (L : List Ln) (g : ByteArray) : Nat → Int
  | 0 => -1
  | i + 1 => if memb g (L.getD i ln0) = true ∧ (bestI L g i < 0 ∨ lessB (wN L (bestI L g i).toNat) (wD L (bestI L g i).toNat) (wN L i) (wD L i) = true) then i else bestI L g i
theorem bestI_lt (L : List Ln) (g : ByteArray) : ∀ i : Nat, bestI L g i < i ∧ -1 ≤ bestI L g i
  | 0 => by simp [bestI]
  | i + 1 => by
    have := bestI_lt L g i
    simp only [bestI]; split <;> omega
theorem bestI_none {L : List Ln} {g : ByteArray} : ∀ i : Nat, i ≤ L.length → (L.take i).any (memb g) = false → bestI L g i = -1
  | 0, _, _ => rfl
  | i + 1, h, ha => by
    have hlt : i < L.length := h
    rw [List.take_succ_eq_append_getElem hlt, List.any_append, Bool.or_eq_false_iff] at ha
    have ih := bestI_none i (by omega) ha.1
    have hm : memb g (L.getD i ln0) = false := by
      have := ha.2
      simp only [List.any_cons, List.any_nil, Bool.or_false] at this
      rw [List.getD, List.getElem?_eq_getElem hlt]; exact this
    simp only [bestI, ih, hm]
    rw [if_neg (by simp)]
theorem less_irr {a b : Int} : lessB a b a b = false := by
  unfold lessB cmpF
  split
  · unfold cmpI; simp
  · rfl
theorem bestI_of {L : List Ln} {i : Nat} (hi : i < L.length) (hm : memb (L.getD i ln0).group (L.getD i ln0) = true) (hno : (L.take i).any (memb (L.getD i ln0).group) = false) :
    ∀ m : Nat, i + m < L.length → 0 ≤ bestI L (L.getD i ln0).group (i + 1 + m) ∧ L.getD (bestI L (L.getD i ln0).group (i + 1 + m)).toNat ln0 = bestOf (L.getD i ln0).group ((L.drop i).take (m + 1)) (L.getD i ln0)
  | 0, _ => by
    have h1 := bestI_none i (by omega) hno
    have e : bestI L (L.getD i ln0).group (i + 1) = i := by
      simp only [bestI, h1, hm]
      rw [if_pos ⟨trivial, .inl (by omega)⟩]
    rw [Nat.add_zero, e, Int.toNat_natCast]
    refine ⟨by omega, ?_⟩
    rw [List.drop_eq_getElem_cons hi]
    simp only [List.take_succ_cons, List.take_zero]
    have hg : L.getD i ln0 = L[i] := by rw [List.getD, List.getElem?_eq_getElem hi]; rfl
    unfold bestOf
    simp only [List.foldl_cons, List.foldl_nil, hg, less_irr, Bool.and_false, Bool.false_eq_true, if_false]
  | m + 1, hlt => by
    obtain ⟨h1, h2⟩ := bestI_of hi hm hno m (by omega)
    have e0 : i + 1 + (m + 1) = (i + 1 + m) + 1 := by omega
    have hlen : m + 1 < (L.drop i).length := by rw [List.length_drop]; omega
    have hidx : (L.drop i)[m + 1] = L.getD (i + 1 + m) ln0 := by
      rw [List.getElem_drop, List.getD, List.getElem?_eq_getElem (by omega)]
      simp only [Option.getD_some]
      congr 1
      omega
    have e1 : bestOf (L.getD i ln0).group ((L.drop i).take (m + 1 + 1)) (L.getD i ln0) = (fun b l => if (memb (L.getD i ln0).group l && lessB (wtN b.n b.d) (wtD b.n b.d) (wtN l.n l.d) (wtD l.n l.d)) = true then l else b) (bestOf (L.getD i ln0).group ((L.drop i).take (m + 1)) (L.getD i ln0)) (L.getD (i + 1 + m) ln0) := by
      unfold bestOf
      rw [List.take_succ_eq_append_getElem hlen, List.foldl_append, hidx]; rfl
    rw [e0, e1, ← h2]
    simp only [bestI]
    by_cases hc : memb (L.getD i ln0).group (L.getD (i + 1 + m) ln0) = true ∧ lessB (wN L (bestI L (L.getD i ln0).group (i + 1 + m)).toNat) (wD L (bestI L (L.getD i ln0).group (i + 1 + m)).toNat) (wN L (i + 1 + m)) (wD L (i + 1 + m)) = true
    · rw [if_pos ⟨hc.1, .inr hc.2⟩, if_pos (by rw [Bool.and_eq_true]; exact hc)]
      refine ⟨by omega, ?_⟩
      rw [Int.toNat_natCast]
    · rw [if_neg (by
        rintro ⟨a, b | b⟩
        · omega
        · exact hc ⟨a, b⟩), if_neg (by rw [Bool.and_eq_true]; exact hc)]
      exact ⟨h1, rfl⟩
theorem bestI_all {L : List Ln} {i : Nat} (hi : i < L.length) (hm : memb (L.getD i ln0).group (L.getD i ln0) = true) (hno : (L.take i).any (memb (L.getD i ln0).group) = false) :
    0 ≤ bestI L (L.getD i ln0).group L.length ∧ L.getD (bestI L (L.getD i ln0).group L.length).toNat ln0 = bestOf (L.getD i ln0).group (L.drop i) (L.getD i ln0) := by
  have := bestI_of hi hm hno (L.length - 1 - i) (by omega)
  rw [show i + 1 + (L.length - 1 - i) = L.length by omega, List.take_of_length_le (by rw [List.length_drop]; omega)] at this
  exact this
structure RS where
  nm : ByteArray
  p : Int
  q : Int
  b : Bool
  e : Int
def stepR (L : List Ln) (i : Nat) (p q : Int) : RS :=
  if (L.getD i ln0).kind = 0 then
    if (L.getD i ln0).group.size = 0 then ⟨(L.getD i ln0).name, (addF p q (wN L i) (wD L i)).1, (addF p q (wN L i) (wD L i)).2.1, true, (addF p q (wN L i) (wD L i)).2.2⟩
    else if (L.take i).any (memb (L.getD i ln0).group) then ⟨.empty, p, q, false, 0⟩
    else ⟨(L.getD (bestI L (L.getD i ln0).group L.length).toNat ln0).name, (addF p q (wN L (bestI L (L.getD i ln0).group L.length).toNat) (wD L (bestI L (L.getD i ln0).group L.length).toNat)).1,
      (addF p q (wN L (bestI L (L.getD i ln0).group L.length).toNat) (wD L (bestI L (L.getD i ln0).group L.length).toNat)).2.1, true, (addF p q (wN L (bestI L (L.getD i ln0).group L.length).toNat) (wD L (bestI L (L.getD i ln0).group L.length).toNat)).2.2⟩
  else if (L.getD i ln0).kind = 1 then
    if lessB (wN L i) (wD L i) p q = false then ⟨(L.getD i ln0).name, 0, 1, true, 0⟩ else ⟨(L.getD i ln0).name, (subF p q (wN L i) (wD L i)).1, (subF p q (wN L i) (wD L i)).2.1, true, (subF p q (wN L i) (wD L i)).2.2⟩
  else if (L.getD i ln0).kind = 3 then
    if lessB p q (wN L i) (wD L i) then ⟨(L.getD i ln0).name, wN L i, wD L i, true, 0⟩ else ⟨(L.getD i ln0).name, p, q, true, 0⟩
  else if lessB (wN L i) (wD L i) p q then ⟨(L.getD i ln0).name, wN L i, wD L i, true, 0⟩ else ⟨(L.getD i ln0).name, p, q, true, 0⟩
def afterR (r : RS) (t : T) : T := if r.b then become t r.nm r.p r.q r.e else t
theorem step_same {L : List Ln} {i : Nat} {t : T} (hi : i < L.length) (ha : (L.getD i ln0).app = true) (hx : ok (L.getD i ln0).n (L.getD i ln0).d = true) (hk : 0 ≤ (L.getD i ln0).kind ∧ (L.getD i ln0).kind ≤ 3) (h : GoodT t) :
    stepT L (L.getD i ln0).kind i t = afterR (stepR L i t.p t.q) t := by
  obtain ⟨w1, w2⟩ := wL hx
  unfold stepT stepR
  by_cases h0 : (L.getD i ln0).kind = 0
  · rw [if_pos h0, if_pos h0]
    unfold pointsT
    by_cases hg : (L.getD i ln0).group.size = 0
    · rw [if_pos hg, if_pos hg]; rfl
    · rw [if_neg hg, if_neg hg]
      cases hany : (L.take i).any (memb (L.getD i ln0).group) with
      | true => rfl
      | false =>
        have hm : memb (L.getD i ln0).group (L.getD i ln0) = true := by
          unfold memb; rw [h0, ha]; simp
        obtain ⟨b1, b2⟩ := bestI_all hi hm hany
        rw [if_neg (by simp), if_neg (by simp)]
        unfold afterR wN wD
        simp only [b2, if_true]
        rfl
  · rw [if_neg h0, if_neg h0]
    by_cases h1 : (L.getD i ln0).kind = 1
    · rw [if_pos h1, if_pos h1]
      unfold penT
      cases hl : lessB t.p t.q (wN L i) (wD L i) with
      | true =>
        have hl2 : lessB (wN L i) (wD L i) t.p t.q = false := by
          rw [less_iff h.1 w1] at hl
          rw [less_false w1 h.1]; grind
        rw [if_pos rfl, hl2, if_pos rfl, sub_self h.1]; rfl
      | false =>
        rw [if_neg (by simp)]
        cases hl2 : lessB (wN L i) (wD L i) t.p t.q with
        | true => rw [if_neg (by simp)]; rfl
        | false =>
          have e : subF t.p t.q (wN L i) (wD L i) = (0, 1, 0) := by
            rw [less_false h.1 w1] at hl
            rw [less_false w1 h.1] at hl2
            refine (subF_is h.1 w1).unq 0 1 ok01 ?_
            rw [qv01]; grind
          rw [if_pos rfl, e]; rfl
    · rw [if_neg h1, if_neg h1]
      by_cases h3 : (L.getD i ln0).kind = 3
      · rw [if_pos h3, if_pos h3]
        unfold floorT
        cases lessB t.p t.q (wN L i) (wD L i) <;> rfl
      · rw [if_neg h3, if_neg h3]
        unfold capT
        cases lessB (wN L i) (wD L i) t.p t.q <;> rfl
end Go.Proofs