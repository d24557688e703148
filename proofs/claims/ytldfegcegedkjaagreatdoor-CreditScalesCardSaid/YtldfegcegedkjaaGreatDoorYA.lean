import Derived.Test.YtldfegcegedkjaaGreatDoorAcC
import Derived.Test.YtldfegcegedkjaaGreatDoorXA
import Derived.Test.YtldfegcegedkjaaGreatDoorCA
set_option autoImplicit false
namespace Go.Proofs
open Go Go.Ab Go.RowKit
set_option maxHeartbeats 2000000
set_option maxRecDepth 100000
variable {G : IH}
theorem rightB_of {x : Ln} (h : rightB x = true) : (0 ≤ x.kind ∧ x.kind ≤ 3) ∧ (x.app = true → ok x.n x.d = true) ∧ (x.group.size ≠ 0 → x.kind = 0) := by
  unfold rightB at h
  simp only [Bool.and_eq_true, Bool.or_eq_true, Bool.not_eq_true', decide_eq_true_eq, beq_iff_eq] at h
  obtain ⟨h1, h2, _, h4, h5⟩ := h
  refine ⟨⟨h1, h2⟩, fun ha => ?_, fun hg => ?_⟩
  · rcases h5 with h5 | h5
    · rw [ha] at h5; cases h5
    · exact h5.1
  · rcases h4 with h4 | h4
    · exact absurd h4 hg
    · exact h4.1
theorem badL_of {L : List Ln} (h : badL L = false) : L.length ≤ 32 ∧ ∀ x ∈ L, rightB x = true := by
  unfold badL at h
  simp only [Bool.or_eq_false_iff, decide_eq_false_iff_not] at h
  refine ⟨by omega, fun x hx => ?_⟩
  have := h.2
  rw [Bool.eq_false_iff] at this
  cases hr : rightB x with
  | true => rfl
  | false => exact absurd (List.any_eq_true.2 ⟨x, hx, by rw [hr]; rfl⟩) this
theorem badL_AppOk {L : List Ln} (h : badL L = false) : AppOk L := fun x hx ha => (rightB_of ((badL_of h).2 x hx)).2.1 ha
theorem cE_of {L : List Ln} (h : cE L = 0) : badL L = false ∧ badT (combT L) = false := by
  unfold cE at h
  cases h1 : badL L with
  | true => rw [h1] at h; simp at h
  | false =>
    cases h2 : badT (combT L) with
    | true => rw [h1, h2] at h; simp at h
    | false => exact ⟨rfl, rfl⟩
theorem badT_of {t : T} (h : badT t = false) : t.wr = false ∧ ok t.p t.q = true ∧ hunF t.p t.q ≤ 100000000 := by
  unfold badT at h
  simp only [Bool.or_eq_false_iff, Bool.not_eq_false', decide_eq_false_iff_not] at h
  exact ⟨h.1.1, h.1.2, by omega⟩
structure GoodC (L : List Ln) : Prop where
  all : ∀ x ∈ L, rightB x = true
  app : AppOk L
  wr : (combT L).wr = false
  p : cP L = (combT L).p
  q : cQ L = (combT L).q
  ps : cPs L = (combT L).ps
  h : cH L = hunF (combT L).p (combT L).q
  okk : ok (cP L) (cQ L) = true
  pos : 0 ≤ qv (cP L) (cQ L)
  val : qv (cP L) (cQ L) = fin L
  len : (cPs L).length = parts L
theorem goodC {L : List Ln} (h : cE L = 0) : GoodC L := by
  obtain ⟨h1, h2⟩ := cE_of h
  obtain ⟨b1, b2, b3⟩ := badT_of h2
  have ha := badL_AppOk h1
  obtain ⟨c1, c2⟩ := comb_fin ha
  obtain ⟨c3, c4⟩ := c2 b1
  have ep : cP L = (combT L).p := by unfold cP; rw [h1, h2]; rfl
  have eq : cQ L = (combT L).q := by unfold cQ; rw [h1, h2]; rfl
  have eps : cPs L = (combT L).ps := by unfold cPs; rw [h1, h2]; rfl
  exact ⟨(badL_of h1).2, ha, b1, ep, eq, eps, by unfold cH; rw [h1, h2]; rfl, by rw [ep, eq]; exact c1.1, by rw [ep, eq]; exact c1.2, by rw [ep, eq]; exact c3, by rw [eps]; exact c4⟩
/-! few lines -/
def fewX (x : Ln) : Bool := decide (x.name.size ≤ 40) && decide (x.group.size ≤ 40)
def fewB (L : List Ln) : Bool := L.all fewX && decide (L.length ≤ 12)
theorem few_short {L : List Ln} (h : fewB L = true) : Short L ∧ L.length ≤ 12 := by
  unfold fewB at h
  simp only [Bool.and_eq_true, decide_eq_true_eq] at h
  refine ⟨fun x hx => ?_, h.2⟩
  have := List.all_eq_true.1 h.1 x hx
  unfold fewX at this
  simp only [Bool.and_eq_true, decide_eq_true_eq] at this
  omega
noncomputable def S11 (L : List Ln) (k : Nat) : AS := ⟨regs Tryz.f11.ntmps [(0, .d (lnsD L)), (3, vi k)], []⟩
theorem f11 (L : List Ln) (hL : L.length ≤ maxLen) : FnOK Tryz.prog G 11 [lnsD L] (db (fewB L)) := by
  unfold maxLen at hL
  refine FnOK.walk (orc := orcQ) (keep := []) follows Tryz.func11 rfl Tryz.call11 ?_
  refine of_eqH (b :=
    AWP Tryz.prog G [.code (cAt (bodyOf Tryz.f11) [1, 0, 1, 0]), (.blk 0), .code (cAt (bodyOf Tryz.f11) [1, 1])] ⟨regs 29 [(0, (.d (.slc 7 (List.length L) (lnsF L)))), (2, (vb false)), (3, (vi 0))], []⟩ (Ret Tryz.prog Tryz.f11 (db (fewB L)))) (by kernel_rfl) ?_
  refine AWP.loop (c := cAt (bodyOf Tryz.f11) [1, 0, 1, 0, 0]) (by kernel_rfl) (S11 L) (fun k => k ≤ L.length ∧ ∀ i, i < k → fewX (L.getD i ln0) = true) (fun k => L.length - k) 0 ?_ ⟨Nat.zero_le _, fun i hi => by omega⟩ ?_
  · refine of_eq (b :=
    (((((.d (.slc 7 (List.length L) (lnsF L))) : AV) = (.d (.slc 7 (List.length L) (lnsF L)))) ∧
    ((((vi 0) : AV) = (vi 0)) ∧
    True)) ∧
    True)) (by kernel_rfl) ?_
    exact ⟨⟨rfl, rfl, trivial⟩, trivial⟩
  · rintro k ⟨hk, hkd⟩
    refine walk (orc := orcQ) (keep := []) (cuts := []) (n := 1000) follows ?_
    refine of_eqH (b :=
      ((((decide ((↑k : Int) < (↑(List.length L) : Int))) = true) →
      (((((0 : Int) ≤ (↑k : Int)) ∧
      ((↑k : Int) < (↑(List.length L) : Int))) ∧
      (((!decide ((↑(ByteArray.size (Ln.name (List.getD L (Int.toNat (↑k : Int)) ln0))) : Int) > (40 : Int))) = true) →
      (((0 : Int) ≤ (↑k : Int)) ∧
      ((↑k : Int) < (↑(List.length L) : Int))))) ∧
      ((((decide ((↑(ByteArray.size (Ln.name (List.getD L (Int.toNat (↑k : Int)) ln0))) : Int) > (40 : Int)) || decide ((↑(ByteArray.size (Ln.group (List.getD L (Int.toNat (↑k : Int)) ln0))) : Int) > (40 : Int))) = true) →
      (((db false) : DV) = (db (fewB L)))) ∧
      (((decide ((↑(ByteArray.size (Ln.name (List.getD L (Int.toNat (↑k : Int)) ln0))) : Int) > (40 : Int)) || decide ((↑(ByteArray.size (Ln.group (List.getD L (Int.toNat (↑k : Int)) ln0))) : Int) > (40 : Int))) = false) →
      ((I64 ((↑k : Int) + (1 : Int))) ∧
      Again (S11 L) (fun k => k ≤ List.length L ∧ ∀ (i : Nat), i < k → fewX (List.getD L i ln0) = true) (fun k => List.length L - k) k ⟨regs 29 [(0, (.d (.slc 7 (List.length L) (lnsF L)))), (3, (vi ((↑k : Int) + (1 : Int)))), (4, (vi ((↑k : Int)))), (5, (.d (.slc 7 (List.length L) (lnsF L)))), (6, (vi ((↑(List.length L) : Int)))), (7, (vb (decide ((↑k : Int) < (↑(List.length L) : Int))))), (8, (vi ((↑k : Int)))), (9, (vi ((↑k : Int) + (1 : Int)))), (10, (.d (.slc 7 (List.length L) (lnsF L)))), (11, (vi ((↑k : Int)))), (12, (.d (.ptr [(ds (Ln.name (List.getD L (Int.toNat (↑k : Int)) ln0))), (ds (Ln.group (List.getD L (Int.toNat (↑k : Int)) ln0))), (di (Ln.kind (List.getD L (Int.toNat (↑k : Int)) ln0))), (db (Ln.app (List.getD L (Int.toNat (↑k : Int)) ln0))), (di (Ln.n (List.getD L (Int.toNat (↑k : Int)) ln0))), (di (Ln.d (List.getD L (Int.toNat (↑k : Int)) ln0))), (di (Ln.err (List.getD L (Int.toNat (↑k : Int)) ln0)))]))), (13, (.d (.ptr [(ds (Ln.name (List.getD L (Int.toNat (↑k : Int)) ln0))), (ds (Ln.group (List.getD L (Int.toNat (↑k : Int)) ln0))), (di (Ln.kind (List.getD L (Int.toNat (↑k : Int)) ln0))), (db (Ln.app (List.getD L (Int.toNat (↑k : Int)) ln0))), (di (Ln.n (List.getD L (Int.toNat (↑k : Int)) ln0))), (di (Ln.d (List.getD L (Int.toNat (↑k : Int)) ln0))), (di (Ln.err (List.getD L (Int.toNat (↑k : Int)) ln0)))]))), (14, (vs (Ln.name (List.getD L (Int.toNat (↑k : Int)) ln0)))), (15, (vi ((↑(ByteArray.size (Ln.name (List.getD L (Int.toNat (↑k : Int)) ln0))) : Int)))), (16, (vb (decide ((↑(ByteArray.size (Ln.name (List.getD L (Int.toNat (↑k : Int)) ln0))) : Int) > (40 : Int))))), (17, (vb (decide ((↑(ByteArray.size (Ln.name (List.getD L (Int.toNat (↑k : Int)) ln0))) : Int) > (40 : Int))))), (25, (vb (decide ((↑(ByteArray.size (Ln.name (List.getD L (Int.toNat (↑k : Int)) ln0))) : Int) > (40 : Int)) || decide ((↑(ByteArray.size (Ln.group (List.getD L (Int.toNat (↑k : Int)) ln0))) : Int) > (40 : Int)))))], []⟩))))) ∧
      (((decide ((↑k : Int) < (↑(List.length L) : Int))) = false) →
      AWP Tryz.prog G [.code (cAt (bodyOf Tryz.f11) [1, 1])] ⟨regs 29 [(0, (.d (.slc 7 (List.length L) (lnsF L)))), (3, (vi ((↑k : Int)))), (4, (vi ((↑k : Int)))), (5, (.d (.slc 7 (List.length L) (lnsF L)))), (6, (vi ((↑(List.length L) : Int)))), (7, (vb (decide ((↑k : Int) < (↑(List.length L) : Int)))))], []⟩ (Ret Tryz.prog Tryz.f11 (db (fewB L)))))) (by kernel_rfl) ?_
    simp only [Int.toNat_natCast]
    have hfx : ∀ x : Ln, fewX x = !(decide ((x.name.size : Int) > 40) || decide ((x.group.size : Int) > 40)) := by
      intro x
      unfold fewX
      by_cases h1 : x.name.size ≤ 40 <;> by_cases h2 : x.group.size ≤ 40 <;> simp [h1, h2] <;> omega
    refine ⟨fun h1 => ⟨⟨⟨by omega, of_decide_eq_true h1⟩, fun _ => ⟨by omega, of_decide_eq_true h1⟩⟩, fun h2 => ?_, fun h2 => ⟨⟨by omega, by have := of_decide_eq_true h1; omega⟩, Again.mk (k + 1) ?_ ⟨?_, fun i hi => ?_⟩ ?_⟩⟩, fun h1 => ?_⟩
    · have hk2 : k < L.length := by simp only [decide_eq_true_eq] at h1; omega
      have e : L.all fewX = false := by
        rw [Bool.eq_false_iff]
        intro hall
        have := List.all_eq_true.1 hall L[k] (List.getElem_mem hk2)
        rw [← getD_eq hk2, hfx, h2] at this
        cases this
      unfold fewB
      rw [e]; rfl
    · refine of_eq (b :=
      (((((.d (.slc 7 (List.length L) (lnsF L))) : AV) = (.d (.slc 7 (List.length L) (lnsF L)))) ∧
      ((((vi ((↑k : Int) + (1 : Int))) : AV) = (vi ((↑(k + (1 : Nat)) : Int)))) ∧
      True)) ∧
      True)) (by kernel_rfl) ?_
      exact ⟨⟨rfl, rfl, trivial⟩, trivial⟩
    · simp only [decide_eq_true_eq] at h1; omega
    · rcases Nat.lt_or_ge i k with h3 | h3
      · exact hkd i h3
      · obtain rfl : i = k := by omega
        rw [hfx, h2]; rfl
    · simp only [decide_eq_true_eq] at h1; omega
    · simp only [decide_eq_false_iff_not] at h1
      have hall : L.all fewX = true := by
        rw [List.all_eq_true]
        intro x hx
        obtain ⟨i, hi, rfl⟩ := List.getElem_of_mem hx
        rw [← getD_eq hi]
        exact hkd i (by omega)
      refine walk (orc := orcQ) (keep := []) (cuts := []) (n := 1000) follows ?_
      refine of_eqH (b :=
        (((db (decide ((↑(List.length L) : Int) ≤ (12 : Int)))) : DV) = (db (fewB L)))) (by kernel_rfl) ?_
      unfold fewB
      rw [hall]
      have : decide (L.length ≤ 12) = decide ((L.length : Int) ≤ 12) := by rw [decide_eq_decide]; omega
      rw [this]; rfl
end Go.Proofs