import Derived.Test.YtldfegcegedkjaaGreatDoorYA
import Derived.Test.YtldfegcegedkjaaGreatDoorCB
import Derived.Test.YtldfegcegedkjaaGreatDoorAcC
/- Credits, plain: the rounds that the reference's Combine goes through. -/
set_option autoImplicit false
namespace Go.Proofs
open Go Go.Ab
theorem become_st {t : T} {nm : ByteArray} {a b e : Int} (h : t.wr = true) : (become t nm a b e).wr = true := by
  unfold become
  rw [if_neg (by rw [h]; simp)]
theorem step_st {L : List Ln} {k : Int} {i : Nat} {t : T} (h : t.wr = true) : (stepT L k i t).wr = true := by
  unfold stepT pointsT penT floorT capT addT
  repeat' split
  all_goals first | exact become_st h | exact h
theorem phase_st {L : List Ln} {k : Int} {t : T} (h : t.wr = true) : ∀ i : Nat, (phase L k i t).wr = true
  | 0 => h
  | i + 1 => by
    rw [phase]
    split
    · exact step_st (phase_st h i)
    · exact phase_st h i
theorem phase_up {L : List Ln} {k : Int} {t : T} {i : Nat} (h : (phase L k i t).wr = true) : ∀ j : Nat, (phase L k (i + j) t).wr = true
  | 0 => h
  | j + 1 => by
    rw [← Nat.add_assoc, phase]
    split
    · exact step_st (phase_up h j)
    · exact phase_up h j
theorem tk_up {L : List Ln} {k : Nat} (h : (tk L k).wr = true) : ∀ j : Nat, (tk L (k + j)).wr = true
  | 0 => h
  | j + 1 => phase_st (tk_up h j) _
theorem comb_st {L : List Ln} {k i : Nat} (hk : k < 4) (hi : i ≤ L.length) (h : (phase L (kd k) i (tk L k)).wr = true) : (combT L).wr = true := by
  have h1 : (tk L (k + 1)).wr = true := by
    have := phase_up h (L.length - i)
    rw [show i + (L.length - i) = L.length by omega] at this
    exact this
  have h2 := tk_up h1 (4 - (k + 1))
  rw [show k + 1 + (4 - (k + 1)) = 4 by omega] at h2
  exact h2
theorem phase_good {L : List Ln} (hL : AppOk L) {k : Nat} (hk : k < 4) (i : Nat) (t : T) (hi : i ≤ L.length) (h : GoodT t) : GoodT (phase L (kd k) i t) := by
  have h4 : k = 0 ∨ k = 1 ∨ k = 2 ∨ k = 3 := by omega
  rcases h4 with rfl | rfl | rfl | rfl
  · exact (phase_pts hL i t hi h).1
  · exact (phase_did hL (k := 1) (f := penV) (fun i t _ h hx => by rw [show stepT L 1 i t = penT L i t by simp [stepT]]; exact penT_did h hx) i t hi h).1
  · exact (phase_did hL (k := 3) (f := floorV) (fun i t _ h hx => by rw [show stepT L 3 i t = floorT L i t by simp [stepT]]; exact floorT_did h hx) i t hi h).1
  · exact (phase_did hL (k := 2) (f := capV) (fun i t _ h hx => by rw [show stepT L 2 i t = capT L i t by simp [stepT]]; exact capT_did h hx) i t hi h).1
theorem tk_good {L : List Ln} (hL : AppOk L) : ∀ k : Nat, k ≤ 4 → GoodT (tk L k)
  | 0, _ => ⟨ok01, by show 0 ≤ qv 0 1; rw [qv01]; grind⟩
  | k + 1, h => phase_good hL (by omega) _ _ (Nat.le_refl _) (tk_good hL k (by omega))
def sNm (L : List Ln) (i : Nat) (p q : Int) : ByteArray := (stepR L i p q).nm
def sP (L : List Ln) (i : Nat) (p q : Int) : Int := (stepR L i p q).p
def sQ (L : List Ln) (i : Nat) (p q : Int) : Int := (stepR L i p q).q
def sB (L : List Ln) (i : Nat) (p q : Int) : Bool := (stepR L i p q).b
def sE (L : List Ln) (i : Nat) (p q : Int) : Int := (stepR L i p q).e
theorem next_on {L : List Ln} (hL : AppOk L) {k i : Nat} {t : T} (hk : k < 4) (hi : i < L.length) (ht : t = phase L (kd k) i (tk L k)) (ha : (L.getD i ln0).app = true) (hkd : (L.getD i ln0).kind = kd k) :
    phase L (kd k) (i + 1) (tk L k) = if sB L i t.p t.q then become t (sNm L i t.p t.q) (sP L i t.p t.q) (sQ L i t.p t.q) (sE L i t.p t.q) else t := by
  have hg : GoodT t := by rw [ht]; exact phase_good hL hk i _ (by omega) (tk_good hL k (by omega))
  have hx : ok (L.getD i ln0).n (L.getD i ln0).d = true := by
    refine hL _ ?_ ha
    rw [getD_eq hi]; exact List.getElem_mem hi
  have h4 : k = 0 ∨ k = 1 ∨ k = 2 ∨ k = 3 := by omega
  have hr : 0 ≤ (L.getD i ln0).kind ∧ (L.getD i ln0).kind ≤ 3 := by
    rw [hkd]
    rcases h4 with rfl | rfl | rfl | rfl <;> decide
  rw [phase_on ha hkd, ← ht, ← hkd, step_same hi ha hx hr hg]
  rfl
theorem sE_of {L : List Ln} {i : Nat} {p q : Int} (h : sB L i p q = false) : sE L i p q = 0 := by
  unfold sB sE stepR at *
  repeat' split at h
  all_goals first | (cases h) | skip
  all_goals simp_all
end Go.Proofs
set_option autoImplicit false
namespace Go.Proofs
open Go Go.Ab Go.RowKit
set_option maxHeartbeats 2000000
set_option maxRecDepth 100000
variable {G : IH}
def rwN (n d : Int) : Int := if n < 0 then 0 else n
def rwD (n d : Int) : Int := if n < 0 then 1 else d
theorem rw_wt {n d : Int} (h : ok n d = true) : rwN n d = wtN n d ∧ rwD n d = wtD n d := by
  have hn := less_iff h ok01
  have hd := ok_pos h
  have h2 := qv_lt (a := n) (b := d) (c := 0) (d := 1) hd (by decide)
  unfold rwN rwD wtN wtD
  cases hl : lessB n d 0 1 with
  | true =>
    have : n < 0 := by have := h2.1 (hn.1 hl); omega
    simp [this]
  | false =>
    have : ¬ n < 0 := fun hh => by
      have := hn.2 (h2.2 (by omega))
      rw [hl] at this; cases this
    simp [this]
def orcZd : Oracle := fun f a => match f, a with
  | 13, [fr a b, fr c d] => some (.tup [di (cmpF a b c d), db (ok2 a b c d)])
  | 36, [fr a b] => some (db (ok a b))
  | 48, [.con (.string s)] => some (db (nameB s))
  | 68, [.agg [_, _, _, _, .con (.int .i64 n), .con (.int .i64 d), _]] => some (fr (rwN n d) (rwD n d))
  | 71, [fr a b, fr c d] => some (db (lessB a b c d))
  | 38, [] => some (fr 0 1)
  | _, _ => none
theorem f71 (a b c d : Int) : FnOK Tryz.prog G 71 [fr a b, fr c d] (db (lessB a b c d)) := by
  refine FnOK.walk (orc := orcZd) (keep := []) follows Tryz.func71 rfl Tryz.call71 ?_
  refine of_eqH (b :=
    (FnOK Tryz.prog G 13 [(.agg [(di a), (di b)]), (.agg [(di c), (di d)])] (.tup [(di (cmpF a b c d)), (db (ok2 a b c d))]) ∧
    (((db (decide (cmpF a b c d < (0 : Int)))) : DV) = (db (lessB a b c d))))) (by kernel_rfl) ?_
  exact ⟨f13 a b c d, rfl⟩
theorem f38 : FnOK Tryz.prog G 38 [] (fr 0 1) := by
  refine FnOK.walk (orc := orcZd) (keep := []) follows Tryz.func38 rfl Tryz.call38 ?_
  refine of_eqH (b :=
    (((.agg [(di 0), (di 1)]) : DV) = (fr (0 : Int) (1 : Int)))) (by kernel_rfl) ?_
  rfl
theorem f68 (nm gr : ByteArray) (k : Int) (ap : Bool) (n d e : Int) : FnOK Tryz.prog G 68 [lnV nm gr k ap n d e] (fr (rwN n d) (rwD n d)) := by
  refine FnOK.walk (orc := orcZd) (keep := []) follows Tryz.func68 rfl Tryz.call68 ?_
  refine of_eqH (b :=
    ((((decide (n < (0 : Int))) = true) →
    (FnOK Tryz.prog G 38 [] (.agg [(di 0), (di 1)]) ∧
    (((.agg [(di 0), (di 1)]) : DV) = (fr (rwN n d) (rwD n d))))) ∧
    (((decide (n < (0 : Int))) = false) →
    (((.agg [(di n), (di d)]) : DV) = (fr (rwN n d) (rwD n d)))))) (by kernel_rfl) ?_
  refine ⟨fun h => ⟨f38, ?_⟩, fun h => ?_⟩
  · simp only [decide_eq_true_eq] at h
    unfold rwN rwD; rw [if_pos h, if_pos h]
  · simp only [decide_eq_false_iff_not] at h
    unfold rwN rwD; rw [if_neg h, if_neg h]
theorem emp_iff (g : ByteArray) : (ByteArray.toList g == ByteArray.toList ⟨#[]⟩) = decide (g.size = 0) := by
  rw [toList_beq, decide_eq_decide]
  obtain ⟨d⟩ := g
  show ByteArray.mk d = ⟨#[]⟩ ↔ d.size = 0
  rw [Array.size_eq_zero_iff]
  constructor
  · intro h; injection h
  · rintro rfl; rfl
theorem right_eq (x : Ln) : (decide (x.kind < 0) || decide (x.kind > 3) || !nameB x.name || !ByteArray.toList x.group == ByteArray.toList ⟨#[]⟩ && (!nameB x.group || x.kind != 0) || x.app && (!ok x.n x.d || x.err != 0)) = !rightB x := by
  unfold rightB
  rw [emp_iff]
  have e1 : decide (0 ≤ x.kind) = !decide (x.kind < 0) := by rw [Bool.eq_iff_iff]; simp
  have e2 : decide (x.kind ≤ 3) = !decide (x.kind > 3) := by rw [Bool.eq_iff_iff]; simp
  rw [e1, e2]
  simp only [bne]
  generalize decide (x.kind < 0) = a
  generalize decide (x.kind > 3) = b
  generalize nameB x.name = c
  generalize decide (x.group.size = 0) = d
  generalize nameB x.group = e
  generalize (x.kind == 0) = f
  generalize x.app = g
  generalize ok x.n x.d = h
  generalize (x.err == 0) = i
  revert a b c d e f g h i
  decide
noncomputable def S37 (L : List Ln) (k : Nat) : AS := ⟨regs Tryz.f37.ntmps [(0, .d (lnsD L)), (3, vi k)], []⟩
theorem f37 (L : List Ln) (hS : Short L) (hL : L.length ≤ 100000) : FnOK Tryz.prog G 37 [lnsD L] (db (!badL L)) := by
  refine FnOK.walk (orc := orcZd) (keep := []) follows Tryz.func37 rfl Tryz.call37 ?_
  refine of_eqH (b :=
    ((((decide ((↑(List.length L) : Int) > (32 : Int))) = true) →
    (((db false) : DV) = (db !badL L))) ∧
    (((decide ((↑(List.length L) : Int) > (32 : Int))) = false) →
    AWP Tryz.prog G [.code (cAt (bodyOf Tryz.f37) [1, 1, 0, 1, 0]), (.blk 0), .code (cAt (bodyOf Tryz.f37) [1, 1, 1])] ⟨regs 63 [(0, (.d (.slc 7 (List.length L) (lnsF L)))), (2, (vb false)), (3, (vi 0)), (5, (.d (.slc 7 (List.length L) (lnsF L)))), (6, (vi ((↑(List.length L) : Int)))), (7, (vb (decide ((↑(List.length L) : Int) > (32 : Int)))))], []⟩ (Ret Tryz.prog Tryz.f37 (db !badL L))))) (by kernel_rfl) ?_
  refine ⟨fun h => ?_, fun h => ?_⟩
  · unfold badL; rw [h]; rfl
  · refine AWP.loop (c := cAt (bodyOf Tryz.f37) [1, 1, 0, 1, 0, 0]) (by kernel_rfl) (S37 L) (fun k => k ≤ L.length ∧ ∀ j, j < k → rightB (L.getD j ln0) = true) (fun k => L.length - k) 0 ?_ ⟨Nat.zero_le _, fun j hj => by omega⟩ ?_
    · refine of_eq (b :=
      (((((.d (.slc 7 (List.length L) (lnsF L))) : AV) = (.d (.slc 7 (List.length L) (lnsF L)))) ∧
      ((((vi 0) : AV) = (vi 0)) ∧
      True)) ∧
      True)) (by kernel_rfl) ?_
      exact ⟨⟨rfl, rfl, trivial⟩, trivial⟩
    · rintro k ⟨hk, hkd⟩
      refine walk (orc := orcZd) (keep := []) (cuts := []) (n := 1000) follows ?_
      refine of_eqH (b :=
        ((((decide ((↑k : Int) < (↑(List.length L) : Int))) = true) →
        ((((0 : Int) ≤ (↑k : Int)) ∧
        ((↑k : Int) < (↑(List.length L) : Int))) ∧
        (((((!(decide (Ln.kind (List.getD L (Int.toNat (↑k : Int)) ln0) < (0 : Int)) || decide (Ln.kind (List.getD L (Int.toNat (↑k : Int)) ln0) > (3 : Int)))) = true) →
        FnOK Tryz.prog G 48 [(ds (Ln.name (List.getD L (Int.toNat (↑k : Int)) ln0)))] (db (nameB (Ln.name (List.getD L (Int.toNat (↑k : Int)) ln0))))) ∧
        ((((!(decide (Ln.kind (List.getD L (Int.toNat (↑k : Int)) ln0) < (0 : Int)) || decide (Ln.kind (List.getD L (Int.toNat (↑k : Int)) ln0) > (3 : Int)) || !nameB (Ln.name (List.getD L (Int.toNat (↑k : Int)) ln0))) && !ByteArray.toList (Ln.group (List.getD L (Int.toNat (↑k : Int)) ln0)) == ByteArray.toList { data := #[] }) = true) →
        FnOK Tryz.prog G 48 [(ds (Ln.group (List.getD L (Int.toNat (↑k : Int)) ln0)))] (db (nameB (Ln.group (List.getD L (Int.toNat (↑k : Int)) ln0))))) ∧
        (((!(decide (Ln.kind (List.getD L (Int.toNat (↑k : Int)) ln0) < (0 : Int)) || decide (Ln.kind (List.getD L (Int.toNat (↑k : Int)) ln0) > (3 : Int)) || !nameB (Ln.name (List.getD L (Int.toNat (↑k : Int)) ln0)) || !ByteArray.toList (Ln.group (List.getD L (Int.toNat (↑k : Int)) ln0)) == ByteArray.toList { data := #[] } && (!nameB (Ln.group (List.getD L (Int.toNat (↑k : Int)) ln0)) || Ln.kind (List.getD L (Int.toNat (↑k : Int)) ln0) != (0 : Int))) && Ln.app (List.getD L (Int.toNat (↑k : Int)) ln0)) = true) →
        FnOK Tryz.prog G 36 [(.agg [(di (Ln.n (List.getD L (Int.toNat (↑k : Int)) ln0))), (di (Ln.d (List.getD L (Int.toNat (↑k : Int)) ln0)))])] (db (ok (Ln.n (List.getD L (Int.toNat (↑k : Int)) ln0)) (Ln.d (List.getD L (Int.toNat (↑k : Int)) ln0))))))) ∧
        ((((decide (Ln.kind (List.getD L (Int.toNat (↑k : Int)) ln0) < (0 : Int)) || decide (Ln.kind (List.getD L (Int.toNat (↑k : Int)) ln0) > (3 : Int)) || !nameB (Ln.name (List.getD L (Int.toNat (↑k : Int)) ln0)) || !ByteArray.toList (Ln.group (List.getD L (Int.toNat (↑k : Int)) ln0)) == ByteArray.toList { data := #[] } && (!nameB (Ln.group (List.getD L (Int.toNat (↑k : Int)) ln0)) || Ln.kind (List.getD L (Int.toNat (↑k : Int)) ln0) != (0 : Int)) || Ln.app (List.getD L (Int.toNat (↑k : Int)) ln0) && (!ok (Ln.n (List.getD L (Int.toNat (↑k : Int)) ln0)) (Ln.d (List.getD L (Int.toNat (↑k : Int)) ln0)) || Ln.err (List.getD L (Int.toNat (↑k : Int)) ln0) != (0 : Int))) = true) →
        (((db false) : DV) = (db !badL L))) ∧
        (((decide (Ln.kind (List.getD L (Int.toNat (↑k : Int)) ln0) < (0 : Int)) || decide (Ln.kind (List.getD L (Int.toNat (↑k : Int)) ln0) > (3 : Int)) || !nameB (Ln.name (List.getD L (Int.toNat (↑k : Int)) ln0)) || !ByteArray.toList (Ln.group (List.getD L (Int.toNat (↑k : Int)) ln0)) == ByteArray.toList { data := #[] } && (!nameB (Ln.group (List.getD L (Int.toNat (↑k : Int)) ln0)) || Ln.kind (List.getD L (Int.toNat (↑k : Int)) ln0) != (0 : Int)) || Ln.app (List.getD L (Int.toNat (↑k : Int)) ln0) && (!ok (Ln.n (List.getD L (Int.toNat (↑k : Int)) ln0)) (Ln.d (List.getD L (Int.toNat (↑k : Int)) ln0)) || Ln.err (List.getD L (Int.toNat (↑k : Int)) ln0) != (0 : Int))) = false) →
        ((I64 ((↑k : Int) + (1 : Int))) ∧
        Again (S37 L) (fun k => k ≤ List.length L ∧ ∀ (j : Nat), j < k → rightB (List.getD L j ln0) = true) (fun k => List.length L - k) k ⟨regs 63 [(0, (.d (.slc 7 (List.length L) (lnsF L)))), (3, (vi ((↑k : Int) + (1 : Int)))), (4, (.box 4 0)), (8, (vi ((↑k : Int)))), (9, (.d (.slc 7 (List.length L) (lnsF L)))), (10, (vi ((↑(List.length L) : Int)))), (11, (vb (decide ((↑k : Int) < (↑(List.length L) : Int))))), (12, (vi ((↑k : Int)))), (13, (vi ((↑k : Int) + (1 : Int)))), (14, (.d (.slc 7 (List.length L) (lnsF L)))), (15, (vi ((↑k : Int)))), (16, (.d (.ptr [(ds (Ln.name (List.getD L (Int.toNat (↑k : Int)) ln0))), (ds (Ln.group (List.getD L (Int.toNat (↑k : Int)) ln0))), (di (Ln.kind (List.getD L (Int.toNat (↑k : Int)) ln0))), (db (Ln.app (List.getD L (Int.toNat (↑k : Int)) ln0))), (di (Ln.n (List.getD L (Int.toNat (↑k : Int)) ln0))), (di (Ln.d (List.getD L (Int.toNat (↑k : Int)) ln0))), (di (Ln.err (List.getD L (Int.toNat (↑k : Int)) ln0)))]))), (17, (.d (.agg [(ds (Ln.name (List.getD L (Int.toNat (↑k : Int)) ln0))), (ds (Ln.group (List.getD L (Int.toNat (↑k : Int)) ln0))), (di (Ln.kind (List.getD L (Int.toNat (↑k : Int)) ln0))), (db (Ln.app (List.getD L (Int.toNat (↑k : Int)) ln0))), (di (Ln.n (List.getD L (Int.toNat (↑k : Int)) ln0))), (di (Ln.d (List.getD L (Int.toNat (↑k : Int)) ln0))), (di (Ln.err (List.getD L (Int.toNat (↑k : Int)) ln0)))]))), (18, (.box 4 2)), (19, (vi (Ln.kind (List.getD L (Int.toNat (↑k : Int)) ln0)))), (20, (vb (decide (Ln.kind (List.getD L (Int.toNat (↑k : Int)) ln0) < (0 : Int))))), (21, (vb (decide (Ln.kind (List.getD L (Int.toNat (↑k : Int)) ln0) < (0 : Int))))), (25, (vb (decide (Ln.kind (List.getD L (Int.toNat (↑k : Int)) ln0) < (0 : Int)) || decide (Ln.kind (List.getD L (Int.toNat (↑k : Int)) ln0) > (3 : Int))))), (26, (vb (decide (Ln.kind (List.getD L (Int.toNat (↑k : Int)) ln0) < (0 : Int)) || decide (Ln.kind (List.getD L (Int.toNat (↑k : Int)) ln0) > (3 : Int))))), (31, (vb (decide (Ln.kind (List.getD L (Int.toNat (↑k : Int)) ln0) < (0 : Int)) || decide (Ln.kind (List.getD L (Int.toNat (↑k : Int)) ln0) > (3 : Int)) || !nameB (Ln.name (List.getD L (Int.toNat (↑k : Int)) ln0))))), (32, (vb (decide (Ln.kind (List.getD L (Int.toNat (↑k : Int)) ln0) < (0 : Int)) || decide (Ln.kind (List.getD L (Int.toNat (↑k : Int)) ln0) > (3 : Int)) || !nameB (Ln.name (List.getD L (Int.toNat (↑k : Int)) ln0))))), (47, (vb (decide (Ln.kind (List.getD L (Int.toNat (↑k : Int)) ln0) < (0 : Int)) || decide (Ln.kind (List.getD L (Int.toNat (↑k : Int)) ln0) > (3 : Int)) || !nameB (Ln.name (List.getD L (Int.toNat (↑k : Int)) ln0)) || !ByteArray.toList (Ln.group (List.getD L (Int.toNat (↑k : Int)) ln0)) == ByteArray.toList { data := #[] } && (!nameB (Ln.group (List.getD L (Int.toNat (↑k : Int)) ln0)) || Ln.kind (List.getD L (Int.toNat (↑k : Int)) ln0) != (0 : Int))))), (48, (vb (decide (Ln.kind (List.getD L (Int.toNat (↑k : Int)) ln0) < (0 : Int)) || decide (Ln.kind (List.getD L (Int.toNat (↑k : Int)) ln0) > (3 : Int)) || !nameB (Ln.name (List.getD L (Int.toNat (↑k : Int)) ln0)) || !ByteArray.toList (Ln.group (List.getD L (Int.toNat (↑k : Int)) ln0)) == ByteArray.toList { data := #[] } && (!nameB (Ln.group (List.getD L (Int.toNat (↑k : Int)) ln0)) || Ln.kind (List.getD L (Int.toNat (↑k : Int)) ln0) != (0 : Int))))), (62, (vb (decide (Ln.kind (List.getD L (Int.toNat (↑k : Int)) ln0) < (0 : Int)) || decide (Ln.kind (List.getD L (Int.toNat (↑k : Int)) ln0) > (3 : Int)) || !nameB (Ln.name (List.getD L (Int.toNat (↑k : Int)) ln0)) || !ByteArray.toList (Ln.group (List.getD L (Int.toNat (↑k : Int)) ln0)) == ByteArray.toList { data := #[] } && (!nameB (Ln.group (List.getD L (Int.toNat (↑k : Int)) ln0)) || Ln.kind (List.getD L (Int.toNat (↑k : Int)) ln0) != (0 : Int)) || Ln.app (List.getD L (Int.toNat (↑k : Int)) ln0) && (!ok (Ln.n (List.getD L (Int.toNat (↑k : Int)) ln0)) (Ln.d (List.getD L (Int.toNat (↑k : Int)) ln0)) || Ln.err (List.getD L (Int.toNat (↑k : Int)) ln0) != (0 : Int)))))], [(4, [(vs (Ln.name (List.getD L (Int.toNat (↑k : Int)) ln0))), (vs (Ln.group (List.getD L (Int.toNat (↑k : Int)) ln0))), (vi (Ln.kind (List.getD L (Int.toNat (↑k : Int)) ln0))), (vb (Ln.app (List.getD L (Int.toNat (↑k : Int)) ln0))), (vi (Ln.n (List.getD L (Int.toNat (↑k : Int)) ln0))), (vi (Ln.d (List.getD L (Int.toNat (↑k : Int)) ln0))), (vi (Ln.err (List.getD L (Int.toNat (↑k : Int)) ln0)))])]⟩)))))) ∧
        (((decide ((↑k : Int) < (↑(List.length L) : Int))) = false) →
        AWP Tryz.prog G [.code (cAt (bodyOf Tryz.f37) [1, 1, 1])] ⟨regs 63 [(0, (.d (.slc 7 (List.length L) (lnsF L)))), (3, (vi ((↑k : Int)))), (8, (vi ((↑k : Int)))), (9, (.d (.slc 7 (List.length L) (lnsF L)))), (10, (vi ((↑(List.length L) : Int)))), (11, (vb (decide ((↑k : Int) < (↑(List.length L) : Int)))))], []⟩ (Ret Tryz.prog Tryz.f37 (db !badL L))))) (by kernel_rfl) ?_
      simp only [Int.toNat_natCast, right_eq]
      refine ⟨fun h1 => ?_, fun h1 => ?_⟩
      · have hk2 : k < L.length := by simp only [decide_eq_true_eq] at h1; omega
        have hsh := hS.get k
        refine ⟨⟨by omega, by omega⟩, ⟨fun _ => f48 _ hsh.1, fun _ => f48 _ hsh.2, fun _ => f36 _ _⟩, fun h2 => ?_, fun h2 => ⟨⟨by omega, by omega⟩, Again.mk (k + 1) ?_ ⟨hk2, fun j hj => ?_⟩ (by omega)⟩⟩
        · have hb : badL L = true := by
            unfold badL
            rw [Bool.or_eq_true]
            right
            refine List.any_eq_true.2 ⟨L.getD k ln0, ?_, h2⟩
            rw [getD_eq hk2]; exact List.getElem_mem hk2
          rw [hb]; rfl
        · refine of_eq (b :=
          (((((.d (.slc 7 (List.length L) (lnsF L))) : AV) = (.d (.slc 7 (List.length L) (lnsF L)))) ∧
          ((((vi ((↑k : Int) + (1 : Int))) : AV) = (vi ((↑(k + (1 : Nat)) : Int)))) ∧
          True)) ∧
          True)) (by kernel_rfl) ?_
          exact ⟨⟨rfl, rfl, trivial⟩, trivial⟩
        · rcases Nat.lt_or_ge j k with hj2 | hj2
          · exact hkd j hj2
          · obtain rfl : j = k := by omega
            simpa using h2
      · simp only [decide_eq_false_iff_not] at h1
        obtain rfl : k = L.length := by omega
        refine walk (orc := orcZd) (keep := []) (cuts := []) (n := 1000) follows ?_
        refine of_eqH (b :=
          (((db true) : DV) = (db !badL L))) (by kernel_rfl) ?_
        have hb : badL L = false := by
          unfold badL
          rw [h, Bool.false_or, List.any_eq_false]
          intro x hx
          obtain ⟨j, hj, rfl⟩ := List.mem_iff_getElem.1 hx
          have := hkd j hj
          rw [getD_eq hj] at this
          rw [this]; simp
        rw [hb]; rfl
theorem memb_eq (g : ByteArray) (x : Ln) : memb g x = (x.app && x.kind == 0 && ByteArray.toList x.group == ByteArray.toList g) := by
  unfold memb
  rw [toList_beq]
  cases x.app <;> cases (x.kind == 0) <;> rfl
noncomputable def S69 (L : List Ln) (i k : Nat) : AS := ⟨regs Tryz.f69.ntmps [(0, .d (lnsD L)), (1, vi i), (5, vi k)], []⟩
theorem f69 (L : List Ln) (i : Nat) (hi : i < L.length) (hL : L.length ≤ 100000) : FnOK Tryz.prog G 69 [lnsD L, di i] (db (!(L.take i).any (memb (L.getD i ln0).group))) := by
  refine FnOK.walk (orc := orcZd) (keep := []) follows Tryz.func69 rfl Tryz.call69 ?_
  refine of_eqH (b :=
    AWP Tryz.prog G [.code (cAt (bodyOf Tryz.f69) [1, 0, 1, 0]), (.blk 0), .code (cAt (bodyOf Tryz.f69) [1, 1])] ⟨regs 37 [(0, (.d (.slc 7 (List.length L) (lnsF L)))), (1, (vi ((↑i : Int)))), (4, (vb false)), (5, (vi 0))], []⟩ (Ret Tryz.prog Tryz.f69 (db !List.any (List.take i L) (memb (Ln.group (List.getD L i ln0)))))) (by kernel_rfl) ?_
  refine AWP.loop (c := cAt (bodyOf Tryz.f69) [1, 0, 1, 0, 0]) (by kernel_rfl) (S69 L i) (fun k => k ≤ i ∧ ∀ j, j < k → memb (L.getD i ln0).group (L.getD j ln0) = false) (fun k => i - k) 0 ?_ ⟨Nat.zero_le _, fun j hj => by omega⟩ ?_
  · refine of_eq (b :=
    (((((.d (.slc 7 (List.length L) (lnsF L))) : AV) = (.d (.slc 7 (List.length L) (lnsF L)))) ∧
    ((((vi ((↑i : Int))) : AV) = (vi ((↑i : Int)))) ∧
    ((((vi 0) : AV) = (vi 0)) ∧
    True))) ∧
    True)) (by kernel_rfl) ?_
    exact ⟨⟨rfl, rfl, rfl, trivial⟩, trivial⟩
  · rintro k ⟨hk, hkd⟩
    refine walk (orc := orcZd) (keep := []) (cuts := []) (n := 1000) follows ?_
    refine of_eqH (b :=
      ((((decide ((↑k : Int) < (↑i : Int))) = true) →
      (((((0 : Int) ≤ (↑k : Int)) ∧
      ((↑k : Int) < (↑(List.length L) : Int))) ∧
      ((((Ln.app (List.getD L (Int.toNat (↑k : Int)) ln0)) = true) →
      (((0 : Int) ≤ (↑k : Int)) ∧
      ((↑k : Int) < (↑(List.length L) : Int)))) ∧
      ((((Ln.app (List.getD L (Int.toNat (↑k : Int)) ln0) && Ln.kind (List.getD L (Int.toNat (↑k : Int)) ln0) == (0 : Int)) = true) →
      (((0 : Int) ≤ (↑k : Int)) ∧
      ((↑k : Int) < (↑(List.length L) : Int)))) ∧
      (((Ln.app (List.getD L (Int.toNat (↑k : Int)) ln0) && Ln.kind (List.getD L (Int.toNat (↑k : Int)) ln0) == (0 : Int)) = true) →
      (((0 : Int) ≤ (↑i : Int)) ∧
      ((↑i : Int) < (↑(List.length L) : Int))))))) ∧
      ((((Ln.app (List.getD L (Int.toNat (↑k : Int)) ln0) && Ln.kind (List.getD L (Int.toNat (↑k : Int)) ln0) == (0 : Int) && ByteArray.toList (Ln.group (List.getD L (Int.toNat (↑k : Int)) ln0)) == ByteArray.toList (Ln.group (List.getD L (Int.toNat (↑i : Int)) ln0))) = true) →
      (((db false) : DV) = (db !List.any (List.take i L) (memb (Ln.group (List.getD L i ln0)))))) ∧
      (((Ln.app (List.getD L (Int.toNat (↑k : Int)) ln0) && Ln.kind (List.getD L (Int.toNat (↑k : Int)) ln0) == (0 : Int) && ByteArray.toList (Ln.group (List.getD L (Int.toNat (↑k : Int)) ln0)) == ByteArray.toList (Ln.group (List.getD L (Int.toNat (↑i : Int)) ln0))) = false) →
      ((I64 ((↑k : Int) + (1 : Int))) ∧
      Again (S69 L i) (fun k => k ≤ i ∧ ∀ (j : Nat), j < k → memb (Ln.group (List.getD L i ln0)) (List.getD L j ln0) = false) (fun k => i - k) k ⟨regs 37 [(0, (.d (.slc 7 (List.length L) (lnsF L)))), (1, (vi ((↑i : Int)))), (5, (vi ((↑k : Int) + (1 : Int)))), (6, (vi ((↑k : Int)))), (7, (vi ((↑i : Int)))), (8, (vb (decide ((↑k : Int) < (↑i : Int))))), (9, (vi ((↑k : Int)))), (10, (vi ((↑k : Int) + (1 : Int)))), (11, (.d (.slc 7 (List.length L) (lnsF L)))), (12, (vi ((↑k : Int)))), (13, (.d (.ptr [(ds (Ln.name (List.getD L (Int.toNat (↑k : Int)) ln0))), (ds (Ln.group (List.getD L (Int.toNat (↑k : Int)) ln0))), (di (Ln.kind (List.getD L (Int.toNat (↑k : Int)) ln0))), (db (Ln.app (List.getD L (Int.toNat (↑k : Int)) ln0))), (di (Ln.n (List.getD L (Int.toNat (↑k : Int)) ln0))), (di (Ln.d (List.getD L (Int.toNat (↑k : Int)) ln0))), (di (Ln.err (List.getD L (Int.toNat (↑k : Int)) ln0)))]))), (14, (.d (.ptr [(db (Ln.app (List.getD L (Int.toNat (↑k : Int)) ln0))), (di (Ln.n (List.getD L (Int.toNat (↑k : Int)) ln0))), (di (Ln.d (List.getD L (Int.toNat (↑k : Int)) ln0))), (di (Ln.err (List.getD L (Int.toNat (↑k : Int)) ln0)))]))), (15, (vb (Ln.app (List.getD L (Int.toNat (↑k : Int)) ln0)))), (16, (vb (Ln.app (List.getD L (Int.toNat (↑k : Int)) ln0)))), (23, (vb (Ln.app (List.getD L (Int.toNat (↑k : Int)) ln0) && Ln.kind (List.getD L (Int.toNat (↑k : Int)) ln0) == (0 : Int)))), (24, (vb (Ln.app (List.getD L (Int.toNat (↑k : Int)) ln0) && Ln.kind (List.getD L (Int.toNat (↑k : Int)) ln0) == (0 : Int)))), (36, (vb (Ln.app (List.getD L (Int.toNat (↑k : Int)) ln0) && Ln.kind (List.getD L (Int.toNat (↑k : Int)) ln0) == (0 : Int) && ByteArray.toList (Ln.group (List.getD L (Int.toNat (↑k : Int)) ln0)) == ByteArray.toList (Ln.group (List.getD L (Int.toNat (↑i : Int)) ln0)))))], []⟩))))) ∧
      (((decide ((↑k : Int) < (↑i : Int))) = false) →
      AWP Tryz.prog G [.code (cAt (bodyOf Tryz.f69) [1, 1])] ⟨regs 37 [(0, (.d (.slc 7 (List.length L) (lnsF L)))), (1, (vi ((↑i : Int)))), (5, (vi ((↑k : Int)))), (6, (vi ((↑k : Int)))), (7, (vi ((↑i : Int)))), (8, (vb (decide ((↑k : Int) < (↑i : Int)))))], []⟩ (Ret Tryz.prog Tryz.f69 (db !List.any (List.take i L) (memb (Ln.group (List.getD L i ln0)))))))) (by kernel_rfl) ?_
    simp only [Int.toNat_natCast]
    refine ⟨fun h1 => ?_, fun h1 => ?_⟩
    · have hk2 : k < i := by simp only [decide_eq_true_eq] at h1; omega
      refine ⟨⟨⟨by omega, by omega⟩, fun _ => ⟨by omega, by omega⟩, fun _ => ⟨by omega, by omega⟩, fun _ => ⟨by omega, by omega⟩⟩, fun h2 => ?_, fun h2 => ⟨⟨by omega, by omega⟩, Again.mk (k + 1) ?_ ⟨hk2, ?_⟩ (by omega)⟩⟩
      · have hm : memb (L.getD i ln0).group (L.getD k ln0) = true := by rw [memb_eq]; exact h2
        have : (L.take i).any (memb (L.getD i ln0).group) = true := by
          refine List.any_eq_true.2 ⟨L.getD k ln0, ?_, hm⟩
          rw [getD_eq (show k < L.length by omega)]
          exact List.mem_take_iff_getElem.2 ⟨k, by omega, rfl⟩
        rw [this]; rfl
      · refine of_eq (b :=
        (((((.d (.slc 7 (List.length L) (lnsF L))) : AV) = (.d (.slc 7 (List.length L) (lnsF L)))) ∧
        ((((vi ((↑i : Int))) : AV) = (vi ((↑i : Int)))) ∧
        ((((vi ((↑k : Int) + (1 : Int))) : AV) = (vi ((↑(k + (1 : Nat)) : Int)))) ∧
        True))) ∧
        True)) (by kernel_rfl) ?_
        exact ⟨⟨rfl, rfl, rfl, trivial⟩, trivial⟩
      · intro j hj
        rcases Nat.lt_or_ge j k with hj2 | hj2
        · exact hkd j hj2
        · obtain rfl : j = k := by omega
          rw [memb_eq]; exact h2
    · simp only [decide_eq_false_iff_not] at h1
      obtain rfl : k = i := by omega
      refine walk (orc := orcZd) (keep := []) (cuts := []) (n := 1000) follows ?_
      refine of_eqH (b :=
        (((db true) : DV) = (db !List.any (List.take k L) (memb (Ln.group (List.getD L k ln0)))))) (by kernel_rfl) ?_
      have : (L.take k).any (memb (L.getD k ln0).group) = false := by
        rw [List.any_eq_false]
        intro x hx
        obtain ⟨j, hj, rfl⟩ := List.mem_take_iff_getElem.1 hx
        have := hkd j (by omega)
        rw [getD_eq (show j < L.length by omega)] at this
        rw [this]; simp
      rw [this]; rfl
theorem bestI_memb (L : List Ln) (g : ByteArray) : ∀ k : Nat, 0 ≤ bestI L g k → memb g (L.getD (bestI L g k).toNat ln0) = true
  | 0, h => by simp [bestI] at h
  | k + 1, h => by
    simp only [bestI] at h ⊢
    split
    · rename_i hc; rw [Int.toNat_natCast]; exact hc.1
    · rename_i hc
      rw [if_neg hc] at h
      exact bestI_memb L g k h
theorem best_ok {L : List Ln} (ha : AppOk L) {g : ByteArray} {k : Nat} (hk : k ≤ L.length) (h : 0 ≤ bestI L g k) : ok (L.getD (bestI L g k).toNat ln0).n (L.getD (bestI L g k).toNat ln0).d = true := by
  have hm := bestI_memb L g k h
  have hb := bestI_lt L g k
  refine ha _ ?_ ?_
  · rw [getD_eq (show (bestI L g k).toNat < L.length by omega)]; exact List.getElem_mem _
  · unfold memb at hm
    simp only [Bool.and_eq_true] at hm
    exact hm.2.1
theorem best_step {L : List Ln} (ha : AppOk L) {g : ByteArray} {k : Nat} (hk : k < L.length) :
    bestI L g (k + 1) = if ((L.getD k ln0).app && (L.getD k ln0).kind == 0 && ByteArray.toList (L.getD k ln0).group == ByteArray.toList g && (decide (bestI L g k < 0) || lessB (rwN (L.getD (bestI L g k).toNat ln0).n (L.getD (bestI L g k).toNat ln0).d) (rwD (L.getD (bestI L g k).toNat ln0).n (L.getD (bestI L g k).toNat ln0).d) (rwN (L.getD k ln0).n (L.getD k ln0).d) (rwD (L.getD k ln0).n (L.getD k ln0).d))) = true then (k : Int) else bestI L g k := by
  rw [← memb_eq]
  simp only [bestI]
  by_cases hm : memb g (L.getD k ln0) = true
  · have hap : (L.getD k ln0).app = true := by
      unfold memb at hm
      simp only [Bool.and_eq_true] at hm
      exact hm.2.1
    have okk : ok (L.getD k ln0).n (L.getD k ln0).d = true := ha _ (by rw [getD_eq hk]; exact List.getElem_mem hk) hap
    obtain ⟨e1, e2⟩ := rw_wt okk
    by_cases hb : bestI L g k < 0
    · simp [hm, hb]
    · obtain ⟨e3, e4⟩ := rw_wt (best_ok ha (g := g) (k := k) (by omega) (by omega))
      rw [e1, e2, e3, e4]
      unfold wN wD
      simp [hm, hb]
  · rw [if_neg (fun h => hm h.1), if_neg (by rw [Bool.and_eq_true]; exact fun h => hm h.1)]
noncomputable def S70 (L : List Ln) (g : ByteArray) (k : Nat) : AS := ⟨regs Tryz.f70.ntmps [(0, .d (lnsD L)), (1, vs g), (5, vi (bestI L g k)), (6, vi k)], []⟩
theorem f70 (L : List Ln) (g : ByteArray) (ha : AppOk L) (hL : L.length ≤ 100000) : FnOK Tryz.prog G 70 [lnsD L, ds g] (di (bestI L g L.length)) := by
  refine FnOK.walk (orc := orcZd) (keep := []) follows Tryz.func70 rfl Tryz.call70 ?_
  refine of_eqH (b :=
    AWP Tryz.prog G [.code (cAt (bodyOf Tryz.f70) [1, 1, 0, 1, 0]), (.blk 0), .code (cAt (bodyOf Tryz.f70) [1, 1, 1])] ⟨regs 54 [(0, (.d (.slc 7 (List.length L) (lnsF L)))), (1, (vs g)), (4, (vi 0)), (5, (vi (-1))), (6, (vi 0))], []⟩ (Ret Tryz.prog Tryz.f70 (di (bestI L g (List.length L))))) (by kernel_rfl) ?_
  refine AWP.loop (c := cAt (bodyOf Tryz.f70) [1, 1, 0, 1, 0, 0]) (by kernel_rfl) (S70 L g) (fun k => k ≤ L.length) (fun k => L.length - k) 0 ?_ (Nat.zero_le _) ?_
  · refine of_eq (b :=
    (((((.d (.slc 7 (List.length L) (lnsF L))) : AV) = (.d (.slc 7 (List.length L) (lnsF L)))) ∧
    ((((vs g) : AV) = (vs g)) ∧
    ((((vi (-1)) : AV) = (vi (bestI L g (0 : Nat)))) ∧
    ((((vi 0) : AV) = (vi 0)) ∧
    True)))) ∧
    True)) (by kernel_rfl) ?_
    exact ⟨⟨rfl, rfl, rfl, rfl, trivial⟩, trivial⟩
  · rintro k hk
    refine walk (orc := orcZd) (keep := []) (cuts := []) (n := 1000) follows ?_
    refine of_eqH (b :=
      ((((decide ((↑k : Int) < (↑(List.length L) : Int))) = true) →
      (((((0 : Int) ≤ (↑k : Int)) ∧
      ((↑k : Int) < (↑(List.length L) : Int))) ∧
      ((((Ln.app (List.getD L (Int.toNat (↑k : Int)) ln0)) = true) →
      (((0 : Int) ≤ (↑k : Int)) ∧
      ((↑k : Int) < (↑(List.length L) : Int)))) ∧
      ((((Ln.app (List.getD L (Int.toNat (↑k : Int)) ln0) && Ln.kind (List.getD L (Int.toNat (↑k : Int)) ln0) == (0 : Int)) = true) →
      (((0 : Int) ≤ (↑k : Int)) ∧
      ((↑k : Int) < (↑(List.length L) : Int)))) ∧
      ((((Ln.app (List.getD L (Int.toNat (↑k : Int)) ln0) && Ln.kind (List.getD L (Int.toNat (↑k : Int)) ln0) == (0 : Int) && ByteArray.toList (Ln.group (List.getD L (Int.toNat (↑k : Int)) ln0)) == ByteArray.toList g && !decide (bestI L g k < (0 : Int))) = true) →
      (((0 : Int) ≤ bestI L g k) ∧
      (bestI L g k < (↑(List.length L) : Int)))) ∧
      ((((Ln.app (List.getD L (Int.toNat (↑k : Int)) ln0) && Ln.kind (List.getD L (Int.toNat (↑k : Int)) ln0) == (0 : Int) && ByteArray.toList (Ln.group (List.getD L (Int.toNat (↑k : Int)) ln0)) == ByteArray.toList g && !decide (bestI L g k < (0 : Int))) = true) →
      FnOK Tryz.prog G 68 [(.agg [(ds (Ln.name (List.getD L (Int.toNat (bestI L g k)) ln0))), (ds (Ln.group (List.getD L (Int.toNat (bestI L g k)) ln0))), (di (Ln.kind (List.getD L (Int.toNat (bestI L g k)) ln0))), (db (Ln.app (List.getD L (Int.toNat (bestI L g k)) ln0))), (di (Ln.n (List.getD L (Int.toNat (bestI L g k)) ln0))), (di (Ln.d (List.getD L (Int.toNat (bestI L g k)) ln0))), (di (Ln.err (List.getD L (Int.toNat (bestI L g k)) ln0)))])] (.agg [(di (rwN (Ln.n (List.getD L (Int.toNat (bestI L g k)) ln0)) (Ln.d (List.getD L (Int.toNat (bestI L g k)) ln0)))), (di (rwD (Ln.n (List.getD L (Int.toNat (bestI L g k)) ln0)) (Ln.d (List.getD L (Int.toNat (bestI L g k)) ln0))))])) ∧
      ((((Ln.app (List.getD L (Int.toNat (↑k : Int)) ln0) && Ln.kind (List.getD L (Int.toNat (↑k : Int)) ln0) == (0 : Int) && ByteArray.toList (Ln.group (List.getD L (Int.toNat (↑k : Int)) ln0)) == ByteArray.toList g && !decide (bestI L g k < (0 : Int))) = true) →
      (((0 : Int) ≤ (↑k : Int)) ∧
      ((↑k : Int) < (↑(List.length L) : Int)))) ∧
      ((((Ln.app (List.getD L (Int.toNat (↑k : Int)) ln0) && Ln.kind (List.getD L (Int.toNat (↑k : Int)) ln0) == (0 : Int) && ByteArray.toList (Ln.group (List.getD L (Int.toNat (↑k : Int)) ln0)) == ByteArray.toList g && !decide (bestI L g k < (0 : Int))) = true) →
      FnOK Tryz.prog G 68 [(.agg [(ds (Ln.name (List.getD L (Int.toNat (↑k : Int)) ln0))), (ds (Ln.group (List.getD L (Int.toNat (↑k : Int)) ln0))), (di (Ln.kind (List.getD L (Int.toNat (↑k : Int)) ln0))), (db (Ln.app (List.getD L (Int.toNat (↑k : Int)) ln0))), (di (Ln.n (List.getD L (Int.toNat (↑k : Int)) ln0))), (di (Ln.d (List.getD L (Int.toNat (↑k : Int)) ln0))), (di (Ln.err (List.getD L (Int.toNat (↑k : Int)) ln0)))])] (.agg [(di (rwN (Ln.n (List.getD L (Int.toNat (↑k : Int)) ln0)) (Ln.d (List.getD L (Int.toNat (↑k : Int)) ln0)))), (di (rwD (Ln.n (List.getD L (Int.toNat (↑k : Int)) ln0)) (Ln.d (List.getD L (Int.toNat (↑k : Int)) ln0))))])) ∧
      (((Ln.app (List.getD L (Int.toNat (↑k : Int)) ln0) && Ln.kind (List.getD L (Int.toNat (↑k : Int)) ln0) == (0 : Int) && ByteArray.toList (Ln.group (List.getD L (Int.toNat (↑k : Int)) ln0)) == ByteArray.toList g && !decide (bestI L g k < (0 : Int))) = true) →
      FnOK Tryz.prog G 71 [(.agg [(di (rwN (Ln.n (List.getD L (Int.toNat (bestI L g k)) ln0)) (Ln.d (List.getD L (Int.toNat (bestI L g k)) ln0)))), (di (rwD (Ln.n (List.getD L (Int.toNat (bestI L g k)) ln0)) (Ln.d (List.getD L (Int.toNat (bestI L g k)) ln0))))]), (.agg [(di (rwN (Ln.n (List.getD L (Int.toNat (↑k : Int)) ln0)) (Ln.d (List.getD L (Int.toNat (↑k : Int)) ln0)))), (di (rwD (Ln.n (List.getD L (Int.toNat (↑k : Int)) ln0)) (Ln.d (List.getD L (Int.toNat (↑k : Int)) ln0))))])] (db (lessB (rwN (Ln.n (List.getD L (Int.toNat (bestI L g k)) ln0)) (Ln.d (List.getD L (Int.toNat (bestI L g k)) ln0))) (rwD (Ln.n (List.getD L (Int.toNat (bestI L g k)) ln0)) (Ln.d (List.getD L (Int.toNat (bestI L g k)) ln0))) (rwN (Ln.n (List.getD L (Int.toNat (↑k : Int)) ln0)) (Ln.d (List.getD L (Int.toNat (↑k : Int)) ln0))) (rwD (Ln.n (List.getD L (Int.toNat (↑k : Int)) ln0)) (Ln.d (List.getD L (Int.toNat (↑k : Int)) ln0))))))))))))) ∧
      ((((Ln.app (List.getD L (Int.toNat (↑k : Int)) ln0) && Ln.kind (List.getD L (Int.toNat (↑k : Int)) ln0) == (0 : Int) && ByteArray.toList (Ln.group (List.getD L (Int.toNat (↑k : Int)) ln0)) == ByteArray.toList g && (decide (bestI L g k < (0 : Int)) || lessB (rwN (Ln.n (List.getD L (Int.toNat (bestI L g k)) ln0)) (Ln.d (List.getD L (Int.toNat (bestI L g k)) ln0))) (rwD (Ln.n (List.getD L (Int.toNat (bestI L g k)) ln0)) (Ln.d (List.getD L (Int.toNat (bestI L g k)) ln0))) (rwN (Ln.n (List.getD L (Int.toNat (↑k : Int)) ln0)) (Ln.d (List.getD L (Int.toNat (↑k : Int)) ln0))) (rwD (Ln.n (List.getD L (Int.toNat (↑k : Int)) ln0)) (Ln.d (List.getD L (Int.toNat (↑k : Int)) ln0))))) = true) →
      ((I64 ((↑k : Int) + (1 : Int))) ∧
      Again (S70 L g) (fun k => k ≤ List.length L) (fun k => List.length L - k) k ⟨regs 54 [(0, (.d (.slc 7 (List.length L) (lnsF L)))), (1, (vs g)), (5, (vi ((↑k : Int)))), (6, (vi ((↑k : Int) + (1 : Int)))), (7, (vi ((↑k : Int)))), (8, (.d (.slc 7 (List.length L) (lnsF L)))), (9, (vi ((↑(List.length L) : Int)))), (10, (vb (decide ((↑k : Int) < (↑(List.length L) : Int))))), (11, (vi ((↑k : Int)))), (12, (vi ((↑k : Int) + (1 : Int)))), (13, (.d (.slc 7 (List.length L) (lnsF L)))), (14, (vi ((↑k : Int)))), (15, (.d (.ptr [(ds (Ln.name (List.getD L (Int.toNat (↑k : Int)) ln0))), (ds (Ln.group (List.getD L (Int.toNat (↑k : Int)) ln0))), (di (Ln.kind (List.getD L (Int.toNat (↑k : Int)) ln0))), (db (Ln.app (List.getD L (Int.toNat (↑k : Int)) ln0))), (di (Ln.n (List.getD L (Int.toNat (↑k : Int)) ln0))), (di (Ln.d (List.getD L (Int.toNat (↑k : Int)) ln0))), (di (Ln.err (List.getD L (Int.toNat (↑k : Int)) ln0)))]))), (16, (.d (.ptr [(db (Ln.app (List.getD L (Int.toNat (↑k : Int)) ln0))), (di (Ln.n (List.getD L (Int.toNat (↑k : Int)) ln0))), (di (Ln.d (List.getD L (Int.toNat (↑k : Int)) ln0))), (di (Ln.err (List.getD L (Int.toNat (↑k : Int)) ln0)))]))), (17, (vb (Ln.app (List.getD L (Int.toNat (↑k : Int)) ln0)))), (18, (vb (Ln.app (List.getD L (Int.toNat (↑k : Int)) ln0)))), (25, (vb (Ln.app (List.getD L (Int.toNat (↑k : Int)) ln0) && Ln.kind (List.getD L (Int.toNat (↑k : Int)) ln0) == (0 : Int)))), (26, (vb (Ln.app (List.getD L (Int.toNat (↑k : Int)) ln0) && Ln.kind (List.getD L (Int.toNat (↑k : Int)) ln0) == (0 : Int)))), (34, (vb (Ln.app (List.getD L (Int.toNat (↑k : Int)) ln0) && Ln.kind (List.getD L (Int.toNat (↑k : Int)) ln0) == (0 : Int) && ByteArray.toList (Ln.group (List.getD L (Int.toNat (↑k : Int)) ln0)) == ByteArray.toList g))), (35, (vb (Ln.app (List.getD L (Int.toNat (↑k : Int)) ln0) && Ln.kind (List.getD L (Int.toNat (↑k : Int)) ln0) == (0 : Int) && ByteArray.toList (Ln.group (List.getD L (Int.toNat (↑k : Int)) ln0)) == ByteArray.toList g))), (51, (vb (Ln.app (List.getD L (Int.toNat (↑k : Int)) ln0) && Ln.kind (List.getD L (Int.toNat (↑k : Int)) ln0) == (0 : Int) && ByteArray.toList (Ln.group (List.getD L (Int.toNat (↑k : Int)) ln0)) == ByteArray.toList g && (decide (bestI L g k < (0 : Int)) || lessB (rwN (Ln.n (List.getD L (Int.toNat (bestI L g k)) ln0)) (Ln.d (List.getD L (Int.toNat (bestI L g k)) ln0))) (rwD (Ln.n (List.getD L (Int.toNat (bestI L g k)) ln0)) (Ln.d (List.getD L (Int.toNat (bestI L g k)) ln0))) (rwN (Ln.n (List.getD L (Int.toNat (↑k : Int)) ln0)) (Ln.d (List.getD L (Int.toNat (↑k : Int)) ln0))) (rwD (Ln.n (List.getD L (Int.toNat (↑k : Int)) ln0)) (Ln.d (List.getD L (Int.toNat (↑k : Int)) ln0))))))), (52, (vi ((↑k : Int))))], []⟩)) ∧
      (((Ln.app (List.getD L (Int.toNat (↑k : Int)) ln0) && Ln.kind (List.getD L (Int.toNat (↑k : Int)) ln0) == (0 : Int) && ByteArray.toList (Ln.group (List.getD L (Int.toNat (↑k : Int)) ln0)) == ByteArray.toList g && (decide (bestI L g k < (0 : Int)) || lessB (rwN (Ln.n (List.getD L (Int.toNat (bestI L g k)) ln0)) (Ln.d (List.getD L (Int.toNat (bestI L g k)) ln0))) (rwD (Ln.n (List.getD L (Int.toNat (bestI L g k)) ln0)) (Ln.d (List.getD L (Int.toNat (bestI L g k)) ln0))) (rwN (Ln.n (List.getD L (Int.toNat (↑k : Int)) ln0)) (Ln.d (List.getD L (Int.toNat (↑k : Int)) ln0))) (rwD (Ln.n (List.getD L (Int.toNat (↑k : Int)) ln0)) (Ln.d (List.getD L (Int.toNat (↑k : Int)) ln0))))) = false) →
      ((I64 ((↑k : Int) + (1 : Int))) ∧
      Again (S70 L g) (fun k => k ≤ List.length L) (fun k => List.length L - k) k ⟨regs 54 [(0, (.d (.slc 7 (List.length L) (lnsF L)))), (1, (vs g)), (5, (vi (bestI L g k))), (6, (vi ((↑k : Int) + (1 : Int)))), (7, (vi ((↑k : Int)))), (8, (.d (.slc 7 (List.length L) (lnsF L)))), (9, (vi ((↑(List.length L) : Int)))), (10, (vb (decide ((↑k : Int) < (↑(List.length L) : Int))))), (11, (vi ((↑k : Int)))), (12, (vi ((↑k : Int) + (1 : Int)))), (13, (.d (.slc 7 (List.length L) (lnsF L)))), (14, (vi ((↑k : Int)))), (15, (.d (.ptr [(ds (Ln.name (List.getD L (Int.toNat (↑k : Int)) ln0))), (ds (Ln.group (List.getD L (Int.toNat (↑k : Int)) ln0))), (di (Ln.kind (List.getD L (Int.toNat (↑k : Int)) ln0))), (db (Ln.app (List.getD L (Int.toNat (↑k : Int)) ln0))), (di (Ln.n (List.getD L (Int.toNat (↑k : Int)) ln0))), (di (Ln.d (List.getD L (Int.toNat (↑k : Int)) ln0))), (di (Ln.err (List.getD L (Int.toNat (↑k : Int)) ln0)))]))), (16, (.d (.ptr [(db (Ln.app (List.getD L (Int.toNat (↑k : Int)) ln0))), (di (Ln.n (List.getD L (Int.toNat (↑k : Int)) ln0))), (di (Ln.d (List.getD L (Int.toNat (↑k : Int)) ln0))), (di (Ln.err (List.getD L (Int.toNat (↑k : Int)) ln0)))]))), (17, (vb (Ln.app (List.getD L (Int.toNat (↑k : Int)) ln0)))), (18, (vb (Ln.app (List.getD L (Int.toNat (↑k : Int)) ln0)))), (25, (vb (Ln.app (List.getD L (Int.toNat (↑k : Int)) ln0) && Ln.kind (List.getD L (Int.toNat (↑k : Int)) ln0) == (0 : Int)))), (26, (vb (Ln.app (List.getD L (Int.toNat (↑k : Int)) ln0) && Ln.kind (List.getD L (Int.toNat (↑k : Int)) ln0) == (0 : Int)))), (34, (vb (Ln.app (List.getD L (Int.toNat (↑k : Int)) ln0) && Ln.kind (List.getD L (Int.toNat (↑k : Int)) ln0) == (0 : Int) && ByteArray.toList (Ln.group (List.getD L (Int.toNat (↑k : Int)) ln0)) == ByteArray.toList g))), (35, (vb (Ln.app (List.getD L (Int.toNat (↑k : Int)) ln0) && Ln.kind (List.getD L (Int.toNat (↑k : Int)) ln0) == (0 : Int) && ByteArray.toList (Ln.group (List.getD L (Int.toNat (↑k : Int)) ln0)) == ByteArray.toList g))), (51, (vb (Ln.app (List.getD L (Int.toNat (↑k : Int)) ln0) && Ln.kind (List.getD L (Int.toNat (↑k : Int)) ln0) == (0 : Int) && ByteArray.toList (Ln.group (List.getD L (Int.toNat (↑k : Int)) ln0)) == ByteArray.toList g && (decide (bestI L g k < (0 : Int)) || lessB (rwN (Ln.n (List.getD L (Int.toNat (bestI L g k)) ln0)) (Ln.d (List.getD L (Int.toNat (bestI L g k)) ln0))) (rwD (Ln.n (List.getD L (Int.toNat (bestI L g k)) ln0)) (Ln.d (List.getD L (Int.toNat (bestI L g k)) ln0))) (rwN (Ln.n (List.getD L (Int.toNat (↑k : Int)) ln0)) (Ln.d (List.getD L (Int.toNat (↑k : Int)) ln0))) (rwD (Ln.n (List.getD L (Int.toNat (↑k : Int)) ln0)) (Ln.d (List.getD L (Int.toNat (↑k : Int)) ln0)))))))], []⟩))))) ∧
      (((decide ((↑k : Int) < (↑(List.length L) : Int))) = false) →
      AWP Tryz.prog G [.code (cAt (bodyOf Tryz.f70) [1, 1, 1])] ⟨regs 54 [(0, (.d (.slc 7 (List.length L) (lnsF L)))), (1, (vs g)), (5, (vi (bestI L g k))), (6, (vi ((↑k : Int)))), (7, (vi ((↑k : Int)))), (8, (.d (.slc 7 (List.length L) (lnsF L)))), (9, (vi ((↑(List.length L) : Int)))), (10, (vb (decide ((↑k : Int) < (↑(List.length L) : Int)))))], []⟩ (Ret Tryz.prog Tryz.f70 (di (bestI L g (List.length L))))))) (by kernel_rfl) ?_
    simp only [Int.toNat_natCast]
    refine ⟨fun h1 => ?_, fun h1 => ?_⟩
    · have hk2 : k < L.length := by simp only [decide_eq_true_eq] at h1; omega
      have hst := best_step (g := g) ha hk2
      have hb := bestI_lt L g k
      refine ⟨⟨⟨by omega, by omega⟩, fun _ => ⟨by omega, by omega⟩, fun _ => ⟨by omega, by omega⟩, fun h2 => ⟨by simp at h2; omega, by omega⟩, fun _ => f68 _ _ _ _ _ _ _, fun _ => ⟨by omega, by omega⟩, fun _ => f68 _ _ _ _ _ _ _, fun _ => f71 _ _ _ _⟩, fun h2 => ⟨⟨by omega, by omega⟩, Again.mk (k + 1) ?_ hk2 (by omega)⟩, fun h2 => ⟨⟨by omega, by omega⟩, Again.mk (k + 1) ?_ hk2 (by omega)⟩⟩
      · refine of_eq (b :=
        (((((.d (.slc 7 (List.length L) (lnsF L))) : AV) = (.d (.slc 7 (List.length L) (lnsF L)))) ∧
        ((((vs g) : AV) = (vs g)) ∧
        ((((vi ((↑k : Int))) : AV) = (vi (bestI L g (k + (1 : Nat))))) ∧
        ((((vi ((↑k : Int) + (1 : Int))) : AV) = (vi ((↑(k + (1 : Nat)) : Int)))) ∧
        True)))) ∧
        True)) (by kernel_rfl) ?_
        refine ⟨⟨rfl, rfl, ?_, rfl, trivial⟩, trivial⟩
        rw [hst, if_pos h2]
      · refine of_eq (b :=
        (((((.d (.slc 7 (List.length L) (lnsF L))) : AV) = (.d (.slc 7 (List.length L) (lnsF L)))) ∧
        ((((vs g) : AV) = (vs g)) ∧
        ((((vi (bestI L g k)) : AV) = (vi (bestI L g (k + (1 : Nat))))) ∧
        ((((vi ((↑k : Int) + (1 : Int))) : AV) = (vi ((↑(k + (1 : Nat)) : Int)))) ∧
        True)))) ∧
        True)) (by kernel_rfl) ?_
        refine ⟨⟨rfl, rfl, ?_, rfl, trivial⟩, trivial⟩
        rw [hst, if_neg (by rw [h2]; decide)]
    · simp only [decide_eq_false_iff_not] at h1
      obtain rfl : k = L.length := by omega
      refine walk (orc := orcZd) (keep := []) (cuts := []) (n := 1000) follows ?_
      refine of_eqH (b :=
        (((di (bestI L g (List.length L))) : DV) = (di (bestI L g (List.length L))))) (by kernel_rfl) ?_
      rfl
def orcSd (L : List Ln) : Oracle := fun f a => match f, a with
  | 69, [_, .con (.int .i64 i)] => some (db (!(L.take i.toNat).any (memb (L.getD i.toNat ln0).group)))
  | 70, [_, .con (.string g)] => some (di (bestI L g L.length))
  | 28, [fr a b, fr c d] => some (.tup [fr (add1 a b c d) (add2 a b c d), di (add3 a b c d)])
  | 40, [fr a b, fr c d] => some (.tup [fr (sub1 a b c d) (sub2 a b c d), di (sub3 a b c d)])
  | _, _ => orcZd f a
theorem f39 (L : List Ln) (ha : AppOk L) (hL : L.length ≤ 100000) (i : Nat) (hi : i < L.length) (hap : (L.getD i ln0).app = true) (hk : 0 ≤ (L.getD i ln0).kind ∧ (L.getD i ln0).kind ≤ 3) (p q : Int) :
    FnOK Tryz.prog G 39 [lnsD L, di i, fr p q] (.tup [ds (sNm L i p q), fr (sP L i p q) (sQ L i p q), db (sB L i p q), di (sE L i p q)]) := by
  refine FnOK.walk (orc := orcSd L) (keep := []) follows Tryz.func39 rfl Tryz.call39 ?_
  refine of_eqH (b :=
    ((((0 : Int) ≤ (↑i : Int)) ∧
    ((↑i : Int) < (↑(List.length L) : Int))) ∧
    (FnOK Tryz.prog G 68 [(.agg [(ds (Ln.name (List.getD L (Int.toNat (↑i : Int)) ln0))), (ds (Ln.group (List.getD L (Int.toNat (↑i : Int)) ln0))), (di (Ln.kind (List.getD L (Int.toNat (↑i : Int)) ln0))), (db (Ln.app (List.getD L (Int.toNat (↑i : Int)) ln0))), (di (Ln.n (List.getD L (Int.toNat (↑i : Int)) ln0))), (di (Ln.d (List.getD L (Int.toNat (↑i : Int)) ln0))), (di (Ln.err (List.getD L (Int.toNat (↑i : Int)) ln0)))])] (.agg [(di (rwN (Ln.n (List.getD L (Int.toNat (↑i : Int)) ln0)) (Ln.d (List.getD L (Int.toNat (↑i : Int)) ln0)))), (di (rwD (Ln.n (List.getD L (Int.toNat (↑i : Int)) ln0)) (Ln.d (List.getD L (Int.toNat (↑i : Int)) ln0))))]) ∧
    ((((Ln.kind (List.getD L (Int.toNat (↑i : Int)) ln0) == (0 : Int)) = true) →
    ((((!ByteArray.toList (Ln.group (List.getD L (Int.toNat (↑i : Int)) ln0)) == ByteArray.toList { data := #[] }) = true) →
    (FnOK Tryz.prog G 69 [(.slc 7 (List.length L) (lnsF L)), (di ((↑i : Int)))] (db (!List.any (List.take (Int.toNat (↑i : Int)) L) (memb (Ln.group (List.getD L (Int.toNat (↑i : Int)) ln0))))) ∧
    ((((!!List.any (List.take (Int.toNat (↑i : Int)) L) (memb (Ln.group (List.getD L (Int.toNat (↑i : Int)) ln0)))) = true) →
    (((.tup [(ds ({ data := #[] })), (.agg [(di p), (di q)]), (db false), (di 0)]) : DV) = (.tup [(ds (sNm L i p q)), (fr (sP L i p q) (sQ L i p q)), (db (sB L i p q)), (di (sE L i p q))]))) ∧
    (((!!List.any (List.take (Int.toNat (↑i : Int)) L) (memb (Ln.group (List.getD L (Int.toNat (↑i : Int)) ln0)))) = false) →
    (FnOK Tryz.prog G 70 [(.slc 7 (List.length L) (lnsF L)), (ds (Ln.group (List.getD L (Int.toNat (↑i : Int)) ln0)))] (di (bestI L (Ln.group (List.getD L (Int.toNat (↑i : Int)) ln0)) (List.length L))) ∧
    (((((0 : Int) ≤ bestI L (Ln.group (List.getD L (Int.toNat (↑i : Int)) ln0)) (List.length L)) ∧
    (bestI L (Ln.group (List.getD L (Int.toNat (↑i : Int)) ln0)) (List.length L) < (↑(List.length L) : Int))) ∧
    ((((0 : Int) ≤ bestI L (Ln.group (List.getD L (Int.toNat (↑i : Int)) ln0)) (List.length L)) ∧
    (bestI L (Ln.group (List.getD L (Int.toNat (↑i : Int)) ln0)) (List.length L) < (↑(List.length L) : Int))) ∧
    FnOK Tryz.prog G 68 [(.agg [(ds (Ln.name (List.getD L (Int.toNat (bestI L (Ln.group (List.getD L (Int.toNat (↑i : Int)) ln0)) (List.length L))) ln0))), (ds (Ln.group (List.getD L (Int.toNat (bestI L (Ln.group (List.getD L (Int.toNat (↑i : Int)) ln0)) (List.length L))) ln0))), (di (Ln.kind (List.getD L (Int.toNat (bestI L (Ln.group (List.getD L (Int.toNat (↑i : Int)) ln0)) (List.length L))) ln0))), (db (Ln.app (List.getD L (Int.toNat (bestI L (Ln.group (List.getD L (Int.toNat (↑i : Int)) ln0)) (List.length L))) ln0))), (di (Ln.n (List.getD L (Int.toNat (bestI L (Ln.group (List.getD L (Int.toNat (↑i : Int)) ln0)) (List.length L))) ln0))), (di (Ln.d (List.getD L (Int.toNat (bestI L (Ln.group (List.getD L (Int.toNat (↑i : Int)) ln0)) (List.length L))) ln0))), (di (Ln.err (List.getD L (Int.toNat (bestI L (Ln.group (List.getD L (Int.toNat (↑i : Int)) ln0)) (List.length L))) ln0)))])] (.agg [(di (rwN (Ln.n (List.getD L (Int.toNat (bestI L (Ln.group (List.getD L (Int.toNat (↑i : Int)) ln0)) (List.length L))) ln0)) (Ln.d (List.getD L (Int.toNat (bestI L (Ln.group (List.getD L (Int.toNat (↑i : Int)) ln0)) (List.length L))) ln0)))), (di (rwD (Ln.n (List.getD L (Int.toNat (bestI L (Ln.group (List.getD L (Int.toNat (↑i : Int)) ln0)) (List.length L))) ln0)) (Ln.d (List.getD L (Int.toNat (bestI L (Ln.group (List.getD L (Int.toNat (↑i : Int)) ln0)) (List.length L))) ln0))))]))) ∧
    (FnOK Tryz.prog G 28 [(.agg [(di p), (di q)]), (.agg [(di (rwN (Ln.n (List.getD L (Int.toNat (bestI L (Ln.group (List.getD L (Int.toNat (↑i : Int)) ln0)) (List.length L))) ln0)) (Ln.d (List.getD L (Int.toNat (bestI L (Ln.group (List.getD L (Int.toNat (↑i : Int)) ln0)) (List.length L))) ln0)))), (di (rwD (Ln.n (List.getD L (Int.toNat (bestI L (Ln.group (List.getD L (Int.toNat (↑i : Int)) ln0)) (List.length L))) ln0)) (Ln.d (List.getD L (Int.toNat (bestI L (Ln.group (List.getD L (Int.toNat (↑i : Int)) ln0)) (List.length L))) ln0))))])] (.tup [(.agg [(di (add1 p q (rwN (Ln.n (List.getD L (Int.toNat (bestI L (Ln.group (List.getD L (Int.toNat (↑i : Int)) ln0)) (List.length L))) ln0)) (Ln.d (List.getD L (Int.toNat (bestI L (Ln.group (List.getD L (Int.toNat (↑i : Int)) ln0)) (List.length L))) ln0))) (rwD (Ln.n (List.getD L (Int.toNat (bestI L (Ln.group (List.getD L (Int.toNat (↑i : Int)) ln0)) (List.length L))) ln0)) (Ln.d (List.getD L (Int.toNat (bestI L (Ln.group (List.getD L (Int.toNat (↑i : Int)) ln0)) (List.length L))) ln0))))), (di (add2 p q (rwN (Ln.n (List.getD L (Int.toNat (bestI L (Ln.group (List.getD L (Int.toNat (↑i : Int)) ln0)) (List.length L))) ln0)) (Ln.d (List.getD L (Int.toNat (bestI L (Ln.group (List.getD L (Int.toNat (↑i : Int)) ln0)) (List.length L))) ln0))) (rwD (Ln.n (List.getD L (Int.toNat (bestI L (Ln.group (List.getD L (Int.toNat (↑i : Int)) ln0)) (List.length L))) ln0)) (Ln.d (List.getD L (Int.toNat (bestI L (Ln.group (List.getD L (Int.toNat (↑i : Int)) ln0)) (List.length L))) ln0)))))]), (di (add3 p q (rwN (Ln.n (List.getD L (Int.toNat (bestI L (Ln.group (List.getD L (Int.toNat (↑i : Int)) ln0)) (List.length L))) ln0)) (Ln.d (List.getD L (Int.toNat (bestI L (Ln.group (List.getD L (Int.toNat (↑i : Int)) ln0)) (List.length L))) ln0))) (rwD (Ln.n (List.getD L (Int.toNat (bestI L (Ln.group (List.getD L (Int.toNat (↑i : Int)) ln0)) (List.length L))) ln0)) (Ln.d (List.getD L (Int.toNat (bestI L (Ln.group (List.getD L (Int.toNat (↑i : Int)) ln0)) (List.length L))) ln0)))))]) ∧
    (((.tup [(ds (Ln.name (List.getD L (Int.toNat (bestI L (Ln.group (List.getD L (Int.toNat (↑i : Int)) ln0)) (List.length L))) ln0))), (.agg [(di (add1 p q (rwN (Ln.n (List.getD L (Int.toNat (bestI L (Ln.group (List.getD L (Int.toNat (↑i : Int)) ln0)) (List.length L))) ln0)) (Ln.d (List.getD L (Int.toNat (bestI L (Ln.group (List.getD L (Int.toNat (↑i : Int)) ln0)) (List.length L))) ln0))) (rwD (Ln.n (List.getD L (Int.toNat (bestI L (Ln.group (List.getD L (Int.toNat (↑i : Int)) ln0)) (List.length L))) ln0)) (Ln.d (List.getD L (Int.toNat (bestI L (Ln.group (List.getD L (Int.toNat (↑i : Int)) ln0)) (List.length L))) ln0))))), (di (add2 p q (rwN (Ln.n (List.getD L (Int.toNat (bestI L (Ln.group (List.getD L (Int.toNat (↑i : Int)) ln0)) (List.length L))) ln0)) (Ln.d (List.getD L (Int.toNat (bestI L (Ln.group (List.getD L (Int.toNat (↑i : Int)) ln0)) (List.length L))) ln0))) (rwD (Ln.n (List.getD L (Int.toNat (bestI L (Ln.group (List.getD L (Int.toNat (↑i : Int)) ln0)) (List.length L))) ln0)) (Ln.d (List.getD L (Int.toNat (bestI L (Ln.group (List.getD L (Int.toNat (↑i : Int)) ln0)) (List.length L))) ln0)))))]), (db true), (di (add3 p q (rwN (Ln.n (List.getD L (Int.toNat (bestI L (Ln.group (List.getD L (Int.toNat (↑i : Int)) ln0)) (List.length L))) ln0)) (Ln.d (List.getD L (Int.toNat (bestI L (Ln.group (List.getD L (Int.toNat (↑i : Int)) ln0)) (List.length L))) ln0))) (rwD (Ln.n (List.getD L (Int.toNat (bestI L (Ln.group (List.getD L (Int.toNat (↑i : Int)) ln0)) (List.length L))) ln0)) (Ln.d (List.getD L (Int.toNat (bestI L (Ln.group (List.getD L (Int.toNat (↑i : Int)) ln0)) (List.length L))) ln0)))))]) : DV) = (.tup [(ds (sNm L i p q)), (fr (sP L i p q) (sQ L i p q)), (db (sB L i p q)), (di (sE L i p q))]))))))))) ∧
    (((!ByteArray.toList (Ln.group (List.getD L (Int.toNat (↑i : Int)) ln0)) == ByteArray.toList { data := #[] }) = false) →
    (FnOK Tryz.prog G 28 [(.agg [(di p), (di q)]), (.agg [(di (rwN (Ln.n (List.getD L (Int.toNat (↑i : Int)) ln0)) (Ln.d (List.getD L (Int.toNat (↑i : Int)) ln0)))), (di (rwD (Ln.n (List.getD L (Int.toNat (↑i : Int)) ln0)) (Ln.d (List.getD L (Int.toNat (↑i : Int)) ln0))))])] (.tup [(.agg [(di (add1 p q (rwN (Ln.n (List.getD L (Int.toNat (↑i : Int)) ln0)) (Ln.d (List.getD L (Int.toNat (↑i : Int)) ln0))) (rwD (Ln.n (List.getD L (Int.toNat (↑i : Int)) ln0)) (Ln.d (List.getD L (Int.toNat (↑i : Int)) ln0))))), (di (add2 p q (rwN (Ln.n (List.getD L (Int.toNat (↑i : Int)) ln0)) (Ln.d (List.getD L (Int.toNat (↑i : Int)) ln0))) (rwD (Ln.n (List.getD L (Int.toNat (↑i : Int)) ln0)) (Ln.d (List.getD L (Int.toNat (↑i : Int)) ln0)))))]), (di (add3 p q (rwN (Ln.n (List.getD L (Int.toNat (↑i : Int)) ln0)) (Ln.d (List.getD L (Int.toNat (↑i : Int)) ln0))) (rwD (Ln.n (List.getD L (Int.toNat (↑i : Int)) ln0)) (Ln.d (List.getD L (Int.toNat (↑i : Int)) ln0)))))]) ∧
    (((.tup [(ds (Ln.name (List.getD L (Int.toNat (↑i : Int)) ln0))), (.agg [(di (add1 p q (rwN (Ln.n (List.getD L (Int.toNat (↑i : Int)) ln0)) (Ln.d (List.getD L (Int.toNat (↑i : Int)) ln0))) (rwD (Ln.n (List.getD L (Int.toNat (↑i : Int)) ln0)) (Ln.d (List.getD L (Int.toNat (↑i : Int)) ln0))))), (di (add2 p q (rwN (Ln.n (List.getD L (Int.toNat (↑i : Int)) ln0)) (Ln.d (List.getD L (Int.toNat (↑i : Int)) ln0))) (rwD (Ln.n (List.getD L (Int.toNat (↑i : Int)) ln0)) (Ln.d (List.getD L (Int.toNat (↑i : Int)) ln0)))))]), (db true), (di (add3 p q (rwN (Ln.n (List.getD L (Int.toNat (↑i : Int)) ln0)) (Ln.d (List.getD L (Int.toNat (↑i : Int)) ln0))) (rwD (Ln.n (List.getD L (Int.toNat (↑i : Int)) ln0)) (Ln.d (List.getD L (Int.toNat (↑i : Int)) ln0)))))]) : DV) = (.tup [(ds (sNm L i p q)), (fr (sP L i p q) (sQ L i p q)), (db (sB L i p q)), (di (sE L i p q))])))))) ∧
    (((Ln.kind (List.getD L (Int.toNat (↑i : Int)) ln0) == (0 : Int)) = false) →
    ((((Ln.kind (List.getD L (Int.toNat (↑i : Int)) ln0) == (1 : Int)) = true) →
    (FnOK Tryz.prog G 71 [(.agg [(di (rwN (Ln.n (List.getD L (Int.toNat (↑i : Int)) ln0)) (Ln.d (List.getD L (Int.toNat (↑i : Int)) ln0)))), (di (rwD (Ln.n (List.getD L (Int.toNat (↑i : Int)) ln0)) (Ln.d (List.getD L (Int.toNat (↑i : Int)) ln0))))]), (.agg [(di p), (di q)])] (db (lessB (rwN (Ln.n (List.getD L (Int.toNat (↑i : Int)) ln0)) (Ln.d (List.getD L (Int.toNat (↑i : Int)) ln0))) (rwD (Ln.n (List.getD L (Int.toNat (↑i : Int)) ln0)) (Ln.d (List.getD L (Int.toNat (↑i : Int)) ln0))) p q)) ∧
    ((((!lessB (rwN (Ln.n (List.getD L (Int.toNat (↑i : Int)) ln0)) (Ln.d (List.getD L (Int.toNat (↑i : Int)) ln0))) (rwD (Ln.n (List.getD L (Int.toNat (↑i : Int)) ln0)) (Ln.d (List.getD L (Int.toNat (↑i : Int)) ln0))) p q) = true) →
    (FnOK Tryz.prog G 38 [] (.agg [(di 0), (di 1)]) ∧
    (((.tup [(ds (Ln.name (List.getD L (Int.toNat (↑i : Int)) ln0))), (.agg [(di 0), (di 1)]), (db true), (di 0)]) : DV) = (.tup [(ds (sNm L i p q)), (fr (sP L i p q) (sQ L i p q)), (db (sB L i p q)), (di (sE L i p q))])))) ∧
    (((!lessB (rwN (Ln.n (List.getD L (Int.toNat (↑i : Int)) ln0)) (Ln.d (List.getD L (Int.toNat (↑i : Int)) ln0))) (rwD (Ln.n (List.getD L (Int.toNat (↑i : Int)) ln0)) (Ln.d (List.getD L (Int.toNat (↑i : Int)) ln0))) p q) = false) →
    (FnOK Tryz.prog G 40 [(.agg [(di p), (di q)]), (.agg [(di (rwN (Ln.n (List.getD L (Int.toNat (↑i : Int)) ln0)) (Ln.d (List.getD L (Int.toNat (↑i : Int)) ln0)))), (di (rwD (Ln.n (List.getD L (Int.toNat (↑i : Int)) ln0)) (Ln.d (List.getD L (Int.toNat (↑i : Int)) ln0))))])] (.tup [(.agg [(di (sub1 p q (rwN (Ln.n (List.getD L (Int.toNat (↑i : Int)) ln0)) (Ln.d (List.getD L (Int.toNat (↑i : Int)) ln0))) (rwD (Ln.n (List.getD L (Int.toNat (↑i : Int)) ln0)) (Ln.d (List.getD L (Int.toNat (↑i : Int)) ln0))))), (di (sub2 p q (rwN (Ln.n (List.getD L (Int.toNat (↑i : Int)) ln0)) (Ln.d (List.getD L (Int.toNat (↑i : Int)) ln0))) (rwD (Ln.n (List.getD L (Int.toNat (↑i : Int)) ln0)) (Ln.d (List.getD L (Int.toNat (↑i : Int)) ln0)))))]), (di (sub3 p q (rwN (Ln.n (List.getD L (Int.toNat (↑i : Int)) ln0)) (Ln.d (List.getD L (Int.toNat (↑i : Int)) ln0))) (rwD (Ln.n (List.getD L (Int.toNat (↑i : Int)) ln0)) (Ln.d (List.getD L (Int.toNat (↑i : Int)) ln0)))))]) ∧
    (((.tup [(ds (Ln.name (List.getD L (Int.toNat (↑i : Int)) ln0))), (.agg [(di (sub1 p q (rwN (Ln.n (List.getD L (Int.toNat (↑i : Int)) ln0)) (Ln.d (List.getD L (Int.toNat (↑i : Int)) ln0))) (rwD (Ln.n (List.getD L (Int.toNat (↑i : Int)) ln0)) (Ln.d (List.getD L (Int.toNat (↑i : Int)) ln0))))), (di (sub2 p q (rwN (Ln.n (List.getD L (Int.toNat (↑i : Int)) ln0)) (Ln.d (List.getD L (Int.toNat (↑i : Int)) ln0))) (rwD (Ln.n (List.getD L (Int.toNat (↑i : Int)) ln0)) (Ln.d (List.getD L (Int.toNat (↑i : Int)) ln0)))))]), (db true), (di (sub3 p q (rwN (Ln.n (List.getD L (Int.toNat (↑i : Int)) ln0)) (Ln.d (List.getD L (Int.toNat (↑i : Int)) ln0))) (rwD (Ln.n (List.getD L (Int.toNat (↑i : Int)) ln0)) (Ln.d (List.getD L (Int.toNat (↑i : Int)) ln0)))))]) : DV) = (.tup [(ds (sNm L i p q)), (fr (sP L i p q) (sQ L i p q)), (db (sB L i p q)), (di (sE L i p q))]))))))) ∧
    (((Ln.kind (List.getD L (Int.toNat (↑i : Int)) ln0) == (1 : Int)) = false) →
    ((((Ln.kind (List.getD L (Int.toNat (↑i : Int)) ln0) == (3 : Int)) = true) →
    (FnOK Tryz.prog G 71 [(.agg [(di p), (di q)]), (.agg [(di (rwN (Ln.n (List.getD L (Int.toNat (↑i : Int)) ln0)) (Ln.d (List.getD L (Int.toNat (↑i : Int)) ln0)))), (di (rwD (Ln.n (List.getD L (Int.toNat (↑i : Int)) ln0)) (Ln.d (List.getD L (Int.toNat (↑i : Int)) ln0))))])] (db (lessB p q (rwN (Ln.n (List.getD L (Int.toNat (↑i : Int)) ln0)) (Ln.d (List.getD L (Int.toNat (↑i : Int)) ln0))) (rwD (Ln.n (List.getD L (Int.toNat (↑i : Int)) ln0)) (Ln.d (List.getD L (Int.toNat (↑i : Int)) ln0))))) ∧
    ((((lessB p q (rwN (Ln.n (List.getD L (Int.toNat (↑i : Int)) ln0)) (Ln.d (List.getD L (Int.toNat (↑i : Int)) ln0))) (rwD (Ln.n (List.getD L (Int.toNat (↑i : Int)) ln0)) (Ln.d (List.getD L (Int.toNat (↑i : Int)) ln0)))) = true) →
    (((.tup [(ds (Ln.name (List.getD L (Int.toNat (↑i : Int)) ln0))), (.agg [(di (rwN (Ln.n (List.getD L (Int.toNat (↑i : Int)) ln0)) (Ln.d (List.getD L (Int.toNat (↑i : Int)) ln0)))), (di (rwD (Ln.n (List.getD L (Int.toNat (↑i : Int)) ln0)) (Ln.d (List.getD L (Int.toNat (↑i : Int)) ln0))))]), (db true), (di 0)]) : DV) = (.tup [(ds (sNm L i p q)), (fr (sP L i p q) (sQ L i p q)), (db (sB L i p q)), (di (sE L i p q))]))) ∧
    (((lessB p q (rwN (Ln.n (List.getD L (Int.toNat (↑i : Int)) ln0)) (Ln.d (List.getD L (Int.toNat (↑i : Int)) ln0))) (rwD (Ln.n (List.getD L (Int.toNat (↑i : Int)) ln0)) (Ln.d (List.getD L (Int.toNat (↑i : Int)) ln0)))) = false) →
    (((.tup [(ds (Ln.name (List.getD L (Int.toNat (↑i : Int)) ln0))), (.agg [(di p), (di q)]), (db true), (di 0)]) : DV) = (.tup [(ds (sNm L i p q)), (fr (sP L i p q) (sQ L i p q)), (db (sB L i p q)), (di (sE L i p q))])))))) ∧
    (((Ln.kind (List.getD L (Int.toNat (↑i : Int)) ln0) == (3 : Int)) = false) →
    (FnOK Tryz.prog G 71 [(.agg [(di (rwN (Ln.n (List.getD L (Int.toNat (↑i : Int)) ln0)) (Ln.d (List.getD L (Int.toNat (↑i : Int)) ln0)))), (di (rwD (Ln.n (List.getD L (Int.toNat (↑i : Int)) ln0)) (Ln.d (List.getD L (Int.toNat (↑i : Int)) ln0))))]), (.agg [(di p), (di q)])] (db (lessB (rwN (Ln.n (List.getD L (Int.toNat (↑i : Int)) ln0)) (Ln.d (List.getD L (Int.toNat (↑i : Int)) ln0))) (rwD (Ln.n (List.getD L (Int.toNat (↑i : Int)) ln0)) (Ln.d (List.getD L (Int.toNat (↑i : Int)) ln0))) p q)) ∧
    ((((lessB (rwN (Ln.n (List.getD L (Int.toNat (↑i : Int)) ln0)) (Ln.d (List.getD L (Int.toNat (↑i : Int)) ln0))) (rwD (Ln.n (List.getD L (Int.toNat (↑i : Int)) ln0)) (Ln.d (List.getD L (Int.toNat (↑i : Int)) ln0))) p q) = true) →
    (((.tup [(ds (Ln.name (List.getD L (Int.toNat (↑i : Int)) ln0))), (.agg [(di (rwN (Ln.n (List.getD L (Int.toNat (↑i : Int)) ln0)) (Ln.d (List.getD L (Int.toNat (↑i : Int)) ln0)))), (di (rwD (Ln.n (List.getD L (Int.toNat (↑i : Int)) ln0)) (Ln.d (List.getD L (Int.toNat (↑i : Int)) ln0))))]), (db true), (di 0)]) : DV) = (.tup [(ds (sNm L i p q)), (fr (sP L i p q) (sQ L i p q)), (db (sB L i p q)), (di (sE L i p q))]))) ∧
    (((lessB (rwN (Ln.n (List.getD L (Int.toNat (↑i : Int)) ln0)) (Ln.d (List.getD L (Int.toNat (↑i : Int)) ln0))) (rwD (Ln.n (List.getD L (Int.toNat (↑i : Int)) ln0)) (Ln.d (List.getD L (Int.toNat (↑i : Int)) ln0))) p q) = false) →
    (((.tup [(ds (Ln.name (List.getD L (Int.toNat (↑i : Int)) ln0))), (.agg [(di p), (di q)]), (db true), (di 0)]) : DV) = (.tup [(ds (sNm L i p q)), (fr (sP L i p q) (sQ L i p q)), (db (sB L i p q)), (di (sE L i p q))])))))))))))))) (by kernel_rfl) ?_
  simp only [Int.toNat_natCast]
  have hmem : L.getD i ln0 ∈ L := by rw [getD_eq hi]; exact List.getElem_mem hi
  have okx := ha _ hmem hap
  obtain ⟨e1, e2⟩ := rw_wt okx
  have e1 : rwN (L.getD i ln0).n (L.getD i ln0).d = wN L i := e1
  have e2 : rwD (L.getD i ln0).n (L.getD i ln0).d = wD L i := e2
  refine ⟨⟨by omega, by omega⟩, f68 _ _ _ _ _ _ _, fun h0 => ⟨fun hg => ⟨f69 L i hi hL, fun hany => ?_, fun hany => ?_⟩, fun hg => ⟨f28 _ _ _ _, ?_⟩⟩, fun h0 => ⟨fun h1 => ⟨f71 _ _ _ _, fun hl => ⟨f38, ?_⟩, fun hl => ⟨f40 _ _ _ _, ?_⟩⟩, fun h1 => ⟨fun h3 => ⟨f71 _ _ _ _, fun hl => ?_, fun hl => ?_⟩, fun h3 => ⟨f71 _ _ _ _, fun hl => ?_, fun hl => ?_⟩⟩⟩⟩
  · rw [beq_iff_eq] at h0
    rw [emp_iff, Bool.not_eq_true', decide_eq_false_iff_not] at hg
    rw [Bool.not_not] at hany
    unfold sNm sP sQ sB sE stepR; rw [if_pos h0, if_neg hg, if_pos hany]; rfl
  · rw [beq_iff_eq] at h0
    rw [emp_iff, Bool.not_eq_true', decide_eq_false_iff_not] at hg
    rw [Bool.not_not] at hany
    have hm : memb (L.getD i ln0).group (L.getD i ln0) = true := by
      unfold memb; rw [h0, hap]; simp
    obtain ⟨b1, _⟩ := bestI_all hi hm hany
    have b2 := bestI_lt L (L.getD i ln0).group L.length
    obtain ⟨e3, e4⟩ := rw_wt (best_ok ha (Nat.le_refl _) b1)
    refine ⟨f70 L _ ha hL, ⟨⟨by omega, by omega⟩, ⟨by omega, by omega⟩, f68 _ _ _ _ _ _ _⟩, f28 _ _ _ _, ?_⟩
    unfold sNm sP sQ sB sE stepR; rw [if_pos h0, if_neg hg, if_neg (by rw [hany]; decide)]; rw [e3, e4]; rfl
  · rw [beq_iff_eq] at h0
    rw [emp_iff, Bool.not_eq_false', decide_eq_true_eq] at hg
    unfold sNm sP sQ sB sE stepR; rw [if_pos h0, if_pos hg]; rw [e1, e2]; rfl
  · rw [beq_eq_false_iff_ne, ne_eq] at h0
    rw [beq_iff_eq] at h1
    rw [e1, e2, Bool.not_eq_true'] at hl
    unfold sNm sP sQ sB sE stepR; rw [if_neg h0, if_pos h1, if_pos hl]
  · rw [beq_eq_false_iff_ne, ne_eq] at h0
    rw [beq_iff_eq] at h1
    rw [e1, e2, Bool.not_eq_false'] at hl
    unfold sNm sP sQ sB sE stepR; rw [if_neg h0, if_pos h1, if_neg (by rw [hl]; decide)]; rw [e1, e2]; rfl
  · rw [beq_eq_false_iff_ne, ne_eq] at h0 h1
    rw [beq_iff_eq] at h3
    rw [e1, e2] at hl
    unfold sNm sP sQ sB sE stepR; rw [if_neg h0, if_neg h1, if_pos h3, if_pos hl]; rw [e1, e2]
  · rw [beq_eq_false_iff_ne, ne_eq] at h0 h1
    rw [beq_iff_eq] at h3
    rw [e1, e2] at hl
    unfold sNm sP sQ sB sE stepR; rw [if_neg h0, if_neg h1, if_pos h3, if_neg (by rw [hl]; decide)]
  · rw [beq_eq_false_iff_ne, ne_eq] at h0 h1 h3
    rw [e1, e2] at hl
    unfold sNm sP sQ sB sE stepR; rw [if_neg h0, if_neg h1, if_neg h3, if_pos hl]; rw [e1, e2]
  · rw [beq_eq_false_iff_ne, ne_eq] at h0 h1 h3
    rw [e1, e2] at hl
    unfold sNm sP sQ sB sE stepR; rw [if_neg h0, if_neg h1, if_neg h3, if_neg (by rw [hl]; decide)]
end Go.Proofs