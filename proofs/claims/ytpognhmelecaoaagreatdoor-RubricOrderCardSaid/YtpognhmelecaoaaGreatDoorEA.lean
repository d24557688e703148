import Derived.Test.YtpognhmelecaoaaGreatDoorFA
import Derived.Test.YtpognhmelecaoaaGreatDoorAcD
import Derived.Test.YtpognhmelecaoaaGreatDoorB0
import Derived.Lib.IndexLaws
import Derived.Lib.CutLaws
/- Expressions, plain: trees, and how they lie in memory. -/
set_option autoImplicit false
namespace Go.Proofs
open Go Go.Ab
inductive Ex where
  | mk (k : Int) (s : ByteArray) (n d at_ : Int) (kids : List Ex)
def Ex.k : Ex → Int | .mk k _ _ _ _ _ => k
def Ex.s : Ex → ByteArray | .mk _ s _ _ _ _ => s
def Ex.n : Ex → Int | .mk _ _ n _ _ _ => n
def Ex.d : Ex → Int | .mk _ _ _ d _ _ => d
def Ex.pos : Ex → Int | .mk _ _ _ _ a _ => a
def Ex.kids : Ex → List Ex | .mk _ _ _ _ _ l => l
def ex0 : Ex := .mk 0 .empty 0 0 0 []
theorem Ex.eta (x : Ex) : Ex.mk x.k x.s x.n x.d x.pos x.kids = x := by cases x; rfl
@[match_pattern] abbrev exV (k : Int) (s : ByteArray) (n d a : Int) (l : Nat) (g : Nat → DV) : DV := .agg [di k, ds s, di n, di d, di a, .slc 6 l g]
def lay (g : List Ex → Nat → DV) (l : List Ex) (i : Nat) : DV := exV (l.getD i ex0).k (l.getD i ex0).s (l.getD i ex0).n (l.getD i ex0).d (l.getD i ex0).pos (l.getD i ex0).kids.length (g (l.getD i ex0).kids)
def exG : Nat → List Ex → Nat → DV
  | 0 => fun _ _ => .con undef
  | m + 1 => lay (exG m)
def exD (m : Nat) (x : Ex) : DV := exV x.k x.s x.n x.d x.pos x.kids.length (lay (exG m) x.kids)
mutual
def ht : Ex → Nat
  | .mk _ _ _ _ _ l => htL l
def htL : List Ex → Nat
  | [] => 0
  | x :: l => max (ht x + 1) (htL l)
end
mutual
def nds : Ex → Nat
  | .mk _ _ _ _ _ l => 1 + ndsL l
def ndsL : List Ex → Nat
  | [] => 0
  | x :: l => nds x + ndsL l
end
theorem ht_eq (x : Ex) : ht x = htL x.kids := by cases x; simp only [ht, Ex.kids]
theorem nds_eq (x : Ex) : nds x = 1 + ndsL x.kids := by cases x; simp only [nds, Ex.kids]
theorem ht_mem : ∀ {l : List Ex} {x : Ex}, x ∈ l → ht x + 1 ≤ htL l
  | y :: l, x, h => by
    simp only [htL]
    rcases List.mem_cons.1 h with rfl | h
    · omega
    · have := ht_mem h; omega
theorem nds_mem : ∀ {l : List Ex} {x : Ex}, x ∈ l → nds x ≤ ndsL l
  | y :: l, x, h => by
    simp only [ndsL]
    rcases List.mem_cons.1 h with rfl | h
    · omega
    · have := nds_mem h; omega
theorem nds_len : ∀ l : List Ex, l.length ≤ ndsL l
  | [] => Nat.le_refl _
  | x :: l => by
    have := nds_len l
    have := nds_eq x
    simp only [ndsL, List.length_cons]; omega
theorem kid_mem {x : Ex} {i : Nat} (h : i < x.kids.length) : x.kids.getD i ex0 ∈ x.kids := by
  rw [List.getD, List.getElem?_eq_getElem h]; exact List.getElem_mem h
theorem ht_kid {x : Ex} {i : Nat} (h : i < x.kids.length) : ht (x.kids.getD i ex0) + 1 ≤ ht x := by
  rw [ht_eq x]; exact ht_mem (kid_mem h)
theorem nds_kid {x : Ex} {i : Nat} (h : i < x.kids.length) : nds (x.kids.getD i ex0) + 1 ≤ nds x := by
  have := nds_mem (kid_mem h)
  rw [nds_eq x]; omega
mutual
theorem ht_nds : ∀ x : Ex, ht x + 1 ≤ nds x
  | .mk _ _ _ _ _ l => by
    have := htL_nds l
    simp only [ht, nds]; omega
theorem htL_nds : ∀ l : List Ex, htL l ≤ ndsL l
  | [] => Nat.le_refl _
  | x :: l => by
    have := ht_nds x
    have := htL_nds l
    simp only [htL, ndsL]; omega
end
theorem exD_inj : ∀ (m m' : Nat) (x y : Ex), ht x ≤ m → ht y ≤ m' → exD m x = exD m' y → x = y := by
  intro m
  induction m with
  | zero =>
    intro m' x y hx hy h
    unfold exD exV at h
    simp only [DV.agg.injEq, List.cons.injEq, DV.con.injEq, Value.int.injEq, Value.string.injEq, DV.slc.injEq, true_and, and_true] at h
    obtain ⟨h1, h2, h3, h4, h5, h6, _⟩ := h
    have hk : x.kids = [] := by
      refine Classical.byContradiction fun hh => ?_
      have : 0 < x.kids.length := List.length_pos_iff.2 hh
      have := ht_kid this
      omega
    have hk' : y.kids = [] := List.eq_nil_of_length_eq_zero (by rw [← h6, hk]; rfl)
    rw [← Ex.eta x, ← Ex.eta y, h1, h2, h3, h4, h5, hk, hk']
  | succ m ih =>
    intro m' x y hx hy h
    have h0 := h
    unfold exD exV at h
    simp only [DV.agg.injEq, List.cons.injEq, DV.con.injEq, Value.int.injEq, Value.string.injEq, DV.slc.injEq, true_and, and_true] at h
    obtain ⟨h1, h2, h3, h4, h5, h6, h7⟩ := h
    have hk : x.kids = y.kids := by
      refine List.ext_getElem h6 fun i hi hi' => ?_
      have e := congrFun h7 i
      have k1 := ht_kid hi
      have k2 := ht_kid hi'
      obtain ⟨m2, rfl⟩ : ∃ m2, m' = m2 + 1 := ⟨m' - 1, by omega⟩
      have := ih m2 (x.kids.getD i ex0) (y.kids.getD i ex0) (by omega) (by omega) e
      rwa [List.getD, List.getElem?_eq_getElem hi, List.getD, List.getElem?_eq_getElem hi'] at this
    rw [← Ex.eta x, ← Ex.eta y, h1, h2, h3, h4, h5, hk]
open Classical in
noncomputable def rdE (d : DV) : Ex := if h : ∃ m x, ht x ≤ m ∧ d = exD m x then (Classical.choose_spec h).choose else ex0
theorem rdE_eq {m : Nat} {x : Ex} (h : ht x ≤ m) : rdE (exD m x) = x := by
  have hh : ∃ m' x', ht x' ≤ m' ∧ exD m x = exD m' x' := ⟨m, x, h, rfl⟩
  unfold rdE
  rw [dif_pos hh]
  obtain ⟨h1, h2⟩ := (Classical.choose_spec hh).choose_spec
  exact (exD_inj _ _ _ _ h h1 h2).symm
abbrev kidA (m : Nat) (x : Ex) (i : Nat) : DV := exV (x.kids.getD i ex0).k (x.kids.getD i ex0).s (x.kids.getD i ex0).n (x.kids.getD i ex0).d (x.kids.getD i ex0).pos (x.kids.getD i ex0).kids.length (exG m (x.kids.getD i ex0).kids)
theorem kidOK {Q : DV → Prop} {m : Nat} {x : Ex} (hx : ht x ≤ m) {i : Nat} (hi : i < x.kids.length) (ih : ∀ m', m' < m → ht (x.kids.getD i ex0) ≤ m' → Q (exD m' (x.kids.getD i ex0))) : Q (kidA m x i) := by
  have := ht_kid hi
  cases m with
  | zero => omega
  | succ m => exact ih m (by omega) (by omega)
theorem kid_rd {m : Nat} {x : Ex} (hx : ht x ≤ m) {i : Nat} (hi : i < x.kids.length) : rdE (kidA m x i) = x.kids.getD i ex0 :=
  kidOK (Q := fun d => rdE d = x.kids.getD i ex0) hx hi fun _ _ h => rdE_eq h
abbrev ndA (m : Nat) (y : Ex) : DV := exV y.k y.s y.n y.d y.pos y.kids.length (exG m y.kids)
abbrev ndX (m : Nat) (y : Ex) : DV := exV y.k y.s y.n y.d y.pos y.kids.length (lay (exG m) y.kids)
end Go.Proofs
set_option autoImplicit false
namespace Go.Proofs
open Go Go.Ab Go.RowKit
set_option maxHeartbeats 2000000
set_option maxRecDepth 100000
variable {G : IH}
mutual
def wfE : Ex → Prop
  | .mk _ s _ _ _ l => s.size ≤ maxLen ∧ l.length ≤ 8796093022208 ∧ wfL l
def wfL : List Ex → Prop
  | [] => True
  | x :: l => wfE x ∧ wfL l
end
theorem wfL_mem : ∀ {l : List Ex} {x : Ex}, wfL l → x ∈ l → wfE x
  | y :: l, x, h, hx => by
    simp only [wfL] at h
    rcases List.mem_cons.1 hx with rfl | hx
    · exact h.1
    · exact wfL_mem h.2 hx
theorem wf_len {x : Ex} (h : wfE x) : x.kids.length ≤ 8796093022208 ∧ x.s.size ≤ 9223372036854775807 := by
  cases x
  simp only [wfE] at h
  have : maxLen ≤ 9223372036854775807 := by decide
  exact ⟨h.2.1, Nat.le_trans h.1 this⟩
theorem wf_kid {x : Ex} (h : wfE x) {i : Nat} (hi : i < x.kids.length) : wfE (x.kids.getD i ex0) := by
  have := kid_mem hi
  cases x
  simp only [wfE] at h
  exact wfL_mem h.2.2 this
abbrev exC (m : Nat) (x : Ex) : List AV := [vi x.k, vs x.s, vi x.n, vi x.d, vi x.pos, .d (.slc 6 x.kids.length (lay (exG m) x.kids))]
theorem ndsL_take {l : List Ex} {k : Nat} (h : k < l.length) : ndsL (l.take (k + 1)) = ndsL (l.take k) + nds (l.getD k ex0) := by
  have app : ∀ a b : List Ex, ndsL (a ++ b) = ndsL a + ndsL b := by
    intro a b
    induction a with
    | nil => simp [ndsL]
    | cons y a ih => simp only [List.cons_append, ndsL, ih]; omega
  rw [List.take_succ_eq_append_getElem h, app, List.getD, List.getElem?_eq_getElem h]
  simp [ndsL]
theorem wrap_eq (n : Int) : IntKind.wrap .i64 n = if n % 18446744073709551616 ≥ 9223372036854775808 then n % 18446744073709551616 - 18446744073709551616 else n % 18446744073709551616 := by
  simp [IntKind.wrap, IntKind.bits, IntKind.signed]
theorem wrap_mod {n : Int} : ∃ q : Int, IntKind.wrap .i64 n = n + 18446744073709551616 * q := by
  rw [wrap_eq]
  have h := Int.emod_add_mul_ediv n 18446744073709551616
  split
  · exact ⟨-(n / 18446744073709551616) - 1, by omega⟩
  · exact ⟨-(n / 18446744073709551616), by omega⟩
theorem wrap_congr {n q : Int} : IntKind.wrap .i64 (n + 18446744073709551616 * q) = IntKind.wrap .i64 n := by
  rw [wrap_eq, wrap_eq, Int.add_mul_emod_self_left]
theorem wrap_add (a b : Int) : IntKind.wrap .i64 (IntKind.wrap .i64 a + IntKind.wrap .i64 b) = IntKind.wrap .i64 (a + b) := by
  obtain ⟨p, hp⟩ := wrap_mod (n := a)
  obtain ⟨q, hq⟩ := wrap_mod (n := b)
  rw [hp, hq, show a + 18446744073709551616 * p + (b + 18446744073709551616 * q) = a + b + 18446744073709551616 * (p + q) by omega, wrap_congr]
def wn (x : Ex) : Int := IntKind.wrap .i64 (nds x)
noncomputable def orcNdd : Oracle := fun f a => match f, a with
  | 63, [e] => some (di (wn (rdE e)))
  | _, _ => none
noncomputable def orcNd : Orc := { d := orcNdd, w := true }
def wk (x : Ex) (k : Nat) : Int := IntKind.wrap .i64 (1 + ndsL (x.kids.take k) : Nat)
noncomputable def S63 (m : Nat) (x : Ex) (k : Nat) : AS := ⟨regs Tryz.f63.ntmps [(1, .box 1 0), (3, vi (wk x k)), (4, vi k)], [(1, exC m x)]⟩
theorem f63 (m : Nat) : ∀ (x : Ex), ht x ≤ m → wfE x → FnOK Tryz.prog G 63 [exD m x] (di (wn x)) := by
  induction m using Nat.strongRecOn with
  | _ m ih =>
  intro x hx hw
  refine FnOK.walk (orc := orcNd) (keep := []) follows Tryz.func63 rfl Tryz.call63 ?_
  refine of_tr (fun ZT ZW ZQ _ => ZW [cd Tryz.f63 [1, 1, 0, 1, 0], (.blk 0), cd Tryz.f63 [1, 1, 1]] (stS ZT []) ZQ) (by kernel_rfl) ?_
  refine AWP.loop (c := cAt (bodyOf Tryz.f63) [1, 1, 0, 1, 0, 0]) (by kernel_rfl) (S63 m x) (fun k => k ≤ x.kids.length) (fun k => x.kids.length - k) 0 ?_ (Nat.zero_le _) ?_
  · refine AS.leZ [1] [] (b := ((T0 ∧ ((vi 1) : AV) = (vi (wk x 0)) ∧ T0 ∧ True) ∧ T0 ∧ True)) (by kernel_rfl) (by kernel_rfl) ?_
    exact ⟨⟨rfl, rfl, rfl, trivial⟩, rfl, trivial⟩
  · intro k hk
    refine walk (orc := orcNd) (keep := []) (cuts := []) (n := 1000) follows ?_
    refine of_rd (fun ZT ZW ZQ ZK ZA _ => ((((decide ((↑k : Int) < ↑x.kids.length)) = true) → ((((0 ≤ (↑k : Int)) ∧ ((↑k : Int) < ↑x.kids.length)) ∧ ZK 63 [(ndA m (x.kids.getD (↑k : Int).toNat ex0))] (di (wn (rdE (ndA m (x.kids.getD (↑k : Int).toNat ex0)))))) ∧ (ZA (stS ZT [0])))) ∧ (((decide ((↑k : Int) < ↑x.kids.length)) = false) → ZW [cd Tryz.f63 [1, 1, 1]] (stS ZT [1]) ZQ))) (by kernel_rfl) ?_
    simp only [Int.toNat_natCast]
    have hl := (wf_len hw).1
    refine ⟨fun h => ?_, fun h => ?_⟩
    · have hk2 : k < x.kids.length := by have := of_decide_eq_true h; omega
      have e1 : IntKind.wrap .i64 ((k : Int) + 1) = (k + 1 : Nat) := wrap_I64 ⟨by omega, by omega⟩
      refine ⟨⟨⟨by omega, by omega⟩, ?_⟩, Again.mk (k + 1) ?_ hk2 (by omega)⟩
      · show FnOK Tryz.prog G 63 [kidA m x k] (di (wn (rdE (kidA m x k))))
        rw [kid_rd hx hk2]
        exact kidOK (Q := fun d => FnOK Tryz.prog G 63 [d] _) hx hk2 fun m' h1 h2 => ih m' h1 _ h2 (wf_kid hw hk2)
      · refine AS.leZ [1, 2] [] (b := ((T0 ∧ ((vi (IntKind.i64.wrap (wk x k + wn (rdE (ndA m (x.kids.getD (↑k : Int).toNat ex0)))))) : AV) = (vi (wk x (k + 1))) ∧ ((vi (IntKind.i64.wrap (↑k + 1))) : AV) = (vi (↑(k + 1))) ∧ True) ∧ T0 ∧ True)) (by kernel_rfl) (by kernel_rfl) ?_
        refine ⟨⟨rfl, ?_, ?_, trivial⟩, rfl, trivial⟩
        · show vi (IntKind.wrap .i64 (wk x k + wn (rdE (kidA m x k)))) = vi (wk x (k + 1))
          rw [kid_rd hx hk2]
          unfold wk wn
          rw [wrap_add, ndsL_take hk2]
          congr 4
          omega
        · rw [e1]
    · simp only [decide_eq_false_iff_not] at h
      have hk2 : k = x.kids.length := by omega
      refine walk (orc := orcNd) (keep := []) (cuts := []) (n := 1000) follows ?_
      refine of_tr (fun _ _ _ _ => (((di (wk x k)) : DV) = (di (wn x)))) (by kernel_rfl) ?_
      unfold wk wn
      rw [hk2, List.take_length, nds_eq]
mutual
def fewE (most : Int) : Ex → Bool
  | .mk k s n d a l => !(decide ((s.size : Int) > 40) || decide (wn (.mk k s n d a l) > most)) && fewL most l
def fewL (most : Int) : List Ex → Bool
  | [] => true
  | x :: l => fewE most x && fewL most l
end
theorem fewE_eq (most : Int) (x : Ex) : fewE most x = (!(decide ((x.s.size : Int) > 40) || decide (wn x > most)) && fewL most x.kids) := by cases x; simp only [fewE, Ex.s, Ex.kids]; rfl
theorem fewL_iff {most : Int} : ∀ {l : List Ex}, fewL most l = true ↔ ∀ i, i < l.length → fewE most (l.getD i ex0) = true
  | [] => by simp [fewL]
  | x :: l => by
    simp only [fewL, Bool.and_eq_true, fewL_iff]
    constructor
    · rintro ⟨h1, h2⟩ i hi
      cases i with
      | zero => exact h1
      | succ i => exact h2 i (by simpa using hi)
    · intro h
      exact ⟨h 0 (by simp), fun i hi => h (i + 1) (by simpa using hi)⟩
noncomputable def orcFwd : Oracle := fun f a => match f, a with
  | 63, [e] => some (di (wn (rdE e)))
  | 32, [e, .con (.int .i64 m)] => some (db (fewE m (rdE e)))
  | _, _ => none
noncomputable def orcFw : Orc := { d := orcFwd, w := true }
noncomputable def S32 (m : Nat) (x : Ex) (M : Int) (k : Nat) : AS := ⟨regs Tryz.f32.ntmps [(1, vi M), (2, .box 2 0), (5, vi k)], [(2, exC m x)]⟩
theorem f32 (M : Int) (m : Nat) : ∀ (x : Ex), ht x ≤ m → wfE x → FnOK Tryz.prog G 32 [exD m x, di M] (db (fewE M x)) := by
  induction m using Nat.strongRecOn with
  | _ m ih =>
  intro x hx hw
  have hl := (wf_len hw).1
  refine FnOK.walk (orc := orcFw) (keep := []) follows Tryz.func32 rfl Tryz.call32 ?_
  refine of_tr (fun ZT ZW ZQ ZK => ((((!decide ((↑x.s.size : Int) > 40)) = true) → ZK 63 [(ndX m x)] (di (wn (rdE (ndX m x))))) ∧ (((decide ((↑x.s.size : Int) > 40) || decide (wn (rdE (ndX m x)) > M)) = true) → (((db false) : DV) = (db (fewE M x)))) ∧ (((decide ((↑x.s.size : Int) > 40) || decide (wn (rdE (ndX m x)) > M)) = false) → ZW [cd Tryz.f32 [1, 1, 0, 1, 0], (.blk 0), cd Tryz.f32 [1, 1, 1]] (stS ZT [1]) ZQ))) (by kernel_rfl) ?_
  have h63 : rdE (exD m x) = x := rdE_eq hx
  refine ⟨fun _ => ?_, fun h => ?_, fun h => ?_⟩
  · show FnOK Tryz.prog G 63 [exD m x] (di (wn (rdE (exD m x))))
    rw [h63]; exact f63 m x hx hw
  · rw [fewE_eq]
    have h : (decide ((x.s.size : Int) > 40) || decide (wn (rdE (exD m x)) > M)) = true := h
    rw [h63] at h
    rw [h]; rfl
  · have h : (decide ((x.s.size : Int) > 40) || decide (wn (rdE (exD m x)) > M)) = false := h
    rw [h63] at h
    refine AWP.loop (c := cAt (bodyOf Tryz.f32) [1, 1, 0, 1, 0, 0]) (by kernel_rfl) (S32 m x M) (fun k => k ≤ x.kids.length ∧ ∀ i, i < k → fewE M (x.kids.getD i ex0) = true) (fun k => x.kids.length - k) 0 ?_ ⟨Nat.zero_le _, fun i hi => absurd hi (Nat.not_lt_zero _)⟩ ?_
    · exact AS.leA (by kernel_rfl)
    · rintro k ⟨hk, hkd⟩
      refine walk (orc := orcFw) (keep := []) (cuts := []) (n := 1000) follows ?_
      refine of_rd (fun ZT ZW ZQ ZK ZA _ => (fun Za => ((((decide ((↑k : Int) < ↑x.kids.length)) = true) → ((((0 ≤ (↑k : Int)) ∧ ((↑k : Int) < ↑x.kids.length)) ∧ ZK 32 [Za, (di M)] (db (fewE M (rdE Za)))) ∧ (((!fewE M (rdE Za)) = true) → (((db false) : DV) = (db (fewE M x)))) ∧ (((!fewE M (rdE Za)) = false) → (ZA (stS ZT [0, 1]))))) ∧ (((decide ((↑k : Int) < ↑x.kids.length)) = false) → ZW [cd Tryz.f32 [1, 1, 1]] (stS ZT [1]) ZQ))) (ndA m (x.kids.getD (↑k : Int).toNat ex0))) (by kernel_rfl) ?_
      simp only [Int.toNat_natCast]
      refine ⟨fun h1 => ?_, fun h1 => ?_⟩
      · have hk2 : k < x.kids.length := by have := of_decide_eq_true h1; omega
        have e1 : IntKind.wrap .i64 ((k : Int) + 1) = (k + 1 : Nat) := wrap_I64 ⟨by omega, by omega⟩
        refine ⟨⟨⟨by omega, by omega⟩, ?_⟩, fun h2 => ?_, fun h2 => Again.mk (k + 1) ?_ ⟨hk2, fun i hi => ?_⟩ (by omega)⟩
        · show FnOK Tryz.prog G 32 [kidA m x k, di M] (db (fewE M (rdE (kidA m x k))))
          rw [kid_rd hx hk2]
          exact kidOK (Q := fun d => FnOK Tryz.prog G 32 [d, di M] _) hx hk2 fun m' h1 h2 => ih m' h1 _ h2 (wf_kid hw hk2)
        · have h2 : (!fewE M (rdE (kidA m x k))) = true := h2
          rw [kid_rd hx hk2] at h2
          have e2 : fewL M x.kids = false := by
            rw [Bool.eq_false_iff]
            intro hh
            rw [fewL_iff.1 hh k hk2] at h2
            cases h2
          rw [fewE_eq, e2, Bool.and_false]
        · refine AS.leZ [2] [] (b := ((T0 ∧ T0 ∧ ((vi (IntKind.i64.wrap (↑k + 1))) : AV) = (vi (↑(k + 1))) ∧ True) ∧ T0 ∧ True)) (by kernel_rfl) (by kernel_rfl) ?_
          exact ⟨⟨rfl, rfl, by rw [e1], trivial⟩, rfl, trivial⟩
        · rcases Nat.lt_or_ge i k with h3 | h3
          · exact hkd i h3
          · obtain rfl : i = k := by omega
            have h2 : (!fewE M (rdE (kidA m x i))) = false := h2
            rw [kid_rd hx hk2] at h2
            simpa using h2
      · simp only [decide_eq_false_iff_not] at h1
        have hk2 : k = x.kids.length := by omega
        refine walk (orc := orcFw) (keep := []) (cuts := []) (n := 1000) follows ?_
        refine of_tr (fun _ _ _ _ => (((db true) : DV) = (db (fewE M x)))) (by kernel_rfl) ?_
        rw [fewE_eq, h, fewL_iff.2 (fun i hi => hkd i (by omega))]; rfl
end Go.Proofs
set_option autoImplicit false
namespace Go.Proofs
open Go Go.Ab Go.RowKit
set_option maxHeartbeats 2000000
set_option maxRecDepth 100000
variable {G : IH}
mutual
theorem few_nds {M : Int} (hM : 0 ≤ M ∧ M ≤ 1000000) : ∀ x : Ex, wfE x → fewE M x = true → (nds x : Int) ≤ M
  | .mk k s n d a l, hw, hf => by
    rw [fewE_eq] at hf
    simp only [Bool.and_eq_true, Bool.not_eq_true', Bool.or_eq_false_iff, decide_eq_false_iff_not, Ex.kids] at hf
    simp only [wfE] at hw
    have h1 := few_ndsL hM l hw.2.2 hf.2
    have h2 : (nds (.mk k s n d a l) : Int) ≤ 1 + 1000000 * 8796093022208 := by
      simp only [nds]
      have h3 := Int.mul_le_mul hM.2 (show (l.length : Int) ≤ 8796093022208 by have := hw.2.1; omega) (by omega) (by omega)
      omega
    have h3 : wn (.mk k s n d a l) = nds (.mk k s n d a l) := wrap_I64 ⟨by omega, by omega⟩
    have h4 := hf.1.2
    rw [h3] at h4
    omega
theorem few_ndsL {M : Int} (hM : 0 ≤ M ∧ M ≤ 1000000) : ∀ l : List Ex, wfL l → fewL M l = true → (ndsL l : Int) ≤ M * l.length
  | [], _, _ => by simp [ndsL]
  | x :: l, hw, hf => by
    simp only [fewL, Bool.and_eq_true] at hf
    simp only [wfL] at hw
    have h1 := few_nds hM x hw.1 hf.1
    have h2 := few_ndsL hM l hw.2 hf.2
    simp only [ndsL, List.length_cons]
    rw [Int.natCast_add, Int.natCast_add, Int.mul_add]
    omega
end
mutual
def txE : Ex → Prop
  | .mk _ s _ _ _ l => s.size ≤ 1000 ∧ txL l
def txL : List Ex → Prop
  | [] => True
  | x :: l => txE x ∧ txL l
end
mutual
theorem few_tx {M : Int} : ∀ x : Ex, fewE M x = true → txE x
  | .mk k s n d a l, hf => by
    rw [fewE_eq] at hf
    simp only [Bool.and_eq_true, Bool.not_eq_true', Bool.or_eq_false_iff, decide_eq_false_iff_not, Ex.kids, Ex.s] at hf
    simp only [txE]
    have h0 : ¬ ((s.size : Int) > 40) := of_decide_eq_false hf.1.1
    exact ⟨by omega, few_txL l hf.2⟩
theorem few_txL {M : Int} : ∀ l : List Ex, fewL M l = true → txL l
  | [], _ => by simp only [txL]
  | x :: l, hf => by
    simp only [fewL, Bool.and_eq_true] at hf
    simp only [txL]
    exact ⟨few_tx x hf.1, few_txL l hf.2⟩
end
structure Sm (x : Ex) : Prop where
  nd : nds x ≤ 1000
  tx : txE x
theorem txL_mem : ∀ {l : List Ex} {x : Ex}, txL l → x ∈ l → txE x
  | y :: l, x, h, hx => by
    simp only [txL] at h
    rcases List.mem_cons.1 hx with rfl | hx
    · exact h.1
    · exact txL_mem h.2 hx
theorem Sm.kid {x : Ex} (h : Sm x) {i : Nat} (hi : i < x.kids.length) : Sm (x.kids.getD i ex0) := by
  have h1 := nds_kid hi
  refine ⟨by have := h.nd; omega, ?_⟩
  have h2 := kid_mem hi
  have h3 := h.tx
  cases x
  simp only [txE] at h3
  exact txL_mem h3.2 h2
theorem Sm.len {x : Ex} (h : Sm x) : x.kids.length ≤ 1000 ∧ x.s.size ≤ 1000 := by
  have h1 := h.nd
  have h2 := nds_len x.kids
  have h3 := nds_eq x
  have h4 := h.tx
  cases x
  simp only [txE] at h4
  exact ⟨by simp only [Ex.kids] at *; omega, h4.1⟩
theorem Sm.ht {x : Ex} (h : Sm x) : Go.Proofs.ht x ≤ 999 := by
  have := ht_nds x
  have := h.nd
  omega
theorem few_sm {M : Int} (hM : 0 ≤ M ∧ M ≤ 1000) {x : Ex} (hw : wfE x) (h : fewE M x = true) : Sm x :=
  ⟨(by have := few_nds ⟨hM.1, by omega⟩ x hw h; omega), few_tx x h⟩
theorem htL_take {l : List Ex} {k : Nat} (h : k < l.length) : htL (l.take (k + 1)) = max (htL (l.take k)) (ht (l.getD k ex0) + 1) := by
  have app : ∀ a b : List Ex, htL (a ++ b) = max (htL a) (htL b) := by
    intro a b
    induction a with
    | nil => simp [htL]
    | cons y a ih => simp only [List.cons_append, htL, ih]; omega
  rw [List.take_succ_eq_append_getElem h, app, List.getD, List.getElem?_eq_getElem h]
  simp [htL]
noncomputable def orcLv : Oracle := fun f a => match f, a with
  | 12, [e] => some (di ((ht (rdE e) : Int) + 1))
  | 72, [e] => some (di ((ht (rdE e) : Int) + 1))
  | _, _ => none
noncomputable def S72 (m : Nat) (x : Ex) (k : Nat) : AS := ⟨regs Tryz.f72.ntmps [(1, .box 1 0), (3, vi (htL (x.kids.take k))), (7, .d (.slc 6 x.kids.length (lay (exG m) x.kids))), (8, vi x.kids.length), (9, vi k)], [(1, exC m x)]⟩
theorem f72 (m : Nat) : ∀ (x : Ex), ht x ≤ m → Sm x → FnOK Tryz.prog G 72 [exD m x] (di ((ht x : Int) + 1)) := by
  induction m using Nat.strongRecOn with
  | _ m ih =>
  intro x hx hs
  have hl := hs.len.1
  refine FnOK.walk (orc := orcLv) (keep := []) follows Tryz.func72 rfl Tryz.call72 ?_
  refine of_tr (fun ZT ZW ZQ _ => ZW [cd Tryz.f72 [1, 1, 0, 1, 0], (.blk 0), cd Tryz.f72 [1, 1, 1]] (stS ZT []) ZQ) (by kernel_rfl) ?_
  refine AWP.loop (c := cAt (bodyOf Tryz.f72) [1, 1, 0, 1, 0, 0]) (by kernel_rfl) (S72 m x) (fun k => k ≤ x.kids.length) (fun k => x.kids.length - k) 0 ?_ (Nat.zero_le _) ?_
  · exact AS.leA (by kernel_rfl)
  · intro k hk
    refine walk (orc := orcLv) (keep := []) (cuts := []) (n := 1000) follows ?_
    refine of_eqH3 (x.kids.getD (↑k : Int).toNat ex0) ((.d (.slc 6 x.kids.length (lay (exG m) x.kids))) : AV) (decide ((↑k : Int) < ↑x.kids.length)) (fun Za Zb Zc => (((Zc = true) → (((0 ≤ (↑k : Int)) ∧ ((↑k : Int) < ↑x.kids.length)) ∧ FnOK Tryz.prog G 72 [(ndA m Za)] (di (↑(ht (rdE (ndA m Za))) + 1)) ∧ (I64 (↑k + 1)) ∧ Again (S72 m x) (fun k => k ≤ x.kids.length) (fun k => x.kids.length - k) k ⟨regs 20 [(1, (.box 1 0)), (3, (vi (if (↑(ht (rdE (ndA m Za))) : Int) + 1 > ↑(htL (List.take k x.kids)) then ↑(ht (rdE (ndA m Za))) + 1 else ↑(htL (List.take k x.kids))))), (5, (.box 5 0)), (7, Zb), (8, (vi (↑x.kids.length))), (9, (vi (↑k + 1))), (10, (vb Zc)), (11, (.d (.ptr [(di Za.k), (ds Za.s), (di Za.n), (di Za.d), (di Za.pos), (.slc 6 Za.kids.length (exG m Za.kids))]))), (12, (.d (ndA m Za))), (13, (vi (↑(htL (List.take k x.kids))))), (14, (.d (ndA m Za))), (15, (vi (↑(ht (rdE (ndA m Za))) + 1))), (16, (vi (if (↑(ht (rdE (ndA m Za))) : Int) + 1 > ↑(htL (List.take k x.kids)) then ↑(ht (rdE (ndA m Za))) + 1 else ↑(htL (List.take k x.kids))))), (17, (vi (↑k + 1)))], [(5, [(vi Za.k), (vs Za.s), (vi Za.n), (vi Za.d), (vi Za.pos), (.d (.slc 6 Za.kids.length (exG m Za.kids)))]), (1, [(vi x.k), (vs x.s), (vi x.n), (vi x.d), (vi x.pos), Zb])]⟩)) ∧ ((Zc = false) → AWP Tryz.prog G [cd Tryz.f72 [1, 1, 1]] ⟨regs 20 [(1, (.box 1 0)), (3, (vi (↑(htL (List.take k x.kids))))), (7, Zb), (8, (vi (↑x.kids.length))), (9, (vi (↑k))), (10, (vb Zc))], [(1, [(vi x.k), (vs x.s), (vi x.n), (vi x.d), (vi x.pos), Zb])]⟩ (Ret Tryz.prog Tryz.f72 (di (↑(ht x) + 1)))))) (by kernel_rfl) ?_
    simp only [Int.toNat_natCast]
    refine ⟨fun h => ?_, fun h => ?_⟩
    · have hk2 : k < x.kids.length := by have := of_decide_eq_true h; omega
      refine ⟨⟨by omega, by omega⟩, ?_, ⟨by omega, by omega⟩, Again.mk (k + 1) ?_ hk2 (by omega)⟩
      · show FnOK Tryz.prog G 72 [kidA m x k] (di ((ht (rdE (kidA m x k)) : Int) + 1))
        rw [kid_rd hx hk2]
        exact kidOK (Q := fun d => FnOK Tryz.prog G 72 [d] _) hx hk2 fun m' h1 h2 => ih m' h1 _ h2 (hs.kid hk2)
      · refine of_eq1 ((.d (.slc 6 x.kids.length (lay (exG m) x.kids))) : AV) (fun Za => ((((.box 1 0) : AV) = (.box 1 0) ∧ ((vi (if (↑(ht (rdE (ndA m (x.kids.getD k ex0)))) : Int) + 1 > ↑(htL (List.take k x.kids)) then ↑(ht (rdE (ndA m (x.kids.getD k ex0)))) + 1 else ↑(htL (List.take k x.kids)))) : AV) = (vi (↑(htL (List.take (k + 1) x.kids)))) ∧ (Za : AV) = Za ∧ ((vi (↑x.kids.length)) : AV) = (vi (↑x.kids.length)) ∧ ((vi (↑k + 1)) : AV) = (vi (↑(k + 1))) ∧ True) ∧ ((some [(vi x.k), (vs x.s), (vi x.n), (vi x.d), (vi x.pos), Za]) : (Option (List AV))) = (some [(vi x.k), (vs x.s), (vi x.n), (vi x.d), (vi x.pos), Za]) ∧ True)) (by kernel_rfl) ?_
        refine ⟨⟨rfl, ?_, rfl, rfl, rfl, trivial⟩, rfl, trivial⟩
        rw [htL_take hk2]
        show vi (if (ht (rdE (kidA m x k)) : Int) + 1 > htL (x.kids.take k) then _ else _) = _
        rw [kid_rd hx hk2]
        refine congrArg vi ?_
        omega
    · simp only [decide_eq_false_iff_not] at h
      have hk2 : k = x.kids.length := by omega
      refine walk (orc := orcLv) (keep := []) (cuts := []) (n := 1000) follows ?_
      refine of_tr (fun _ _ _ _ => ((I64 (↑(htL (List.take k x.kids)) + 1)) ∧ ((di (↑(htL (List.take k x.kids)) + 1)) : DV) = (di (↑(ht x) + 1)))) (by kernel_rfl) ?_
      rw [hk2, List.take_length, ← ht_eq]
      have := hs.ht
      exact ⟨⟨by omega, by omega⟩, rfl⟩
end Go.Proofs
set_option autoImplicit false
namespace Go.Proofs
open Go Go.Ab Go.RowKit
set_option maxHeartbeats 1000000
set_option maxRecDepth 100000
variable {G : IH}
def cI (p s : ByteArray) : Int := Lib.indexByte s.data.toList (p.data.toList.headD 0)
def cD (p s : ByteArray) : ByteArray := if 0 ≤ cI p s then s.extract 0 (cI p s).toNat else s
def cR (p s : ByteArray) : ByteArray := if 0 ≤ cI p s then s.extract (cI p s + 1).toNat s.size else { data := #[] }
def cB (p s : ByteArray) : Bool := decide (0 ≤ cI p s)
theorem f183 (s : ByteArray) (c : UInt8) : FnOK Tryz.prog G 183 [ds s, ds ⟨#[c]⟩] (di (cI ⟨#[c]⟩ s)) := by
  refine FnOK.of_calls (args := [.string s, .string ⟨#[c]⟩]) (v := .int .i64 _) Tryz.call183 fun w _ => ?_
  refine Calls.mono (Tryz.stringslite_Index_one s c w) ?_
  rintro e w' ⟨he, rfl⟩
  exact ⟨he, Below.refl _ _⟩
theorem cI_lt (p s : ByteArray) : cI p s < s.size := by
  rcases Int.lt_or_le (cI p s) 0 with h | h
  · omega
  · obtain ⟨n, hn⟩ := Int.eq_ofNat_of_zero_le h
    obtain ⟨h1, _⟩ := Lib.indexByte_some hn
    have := (List.getElem?_eq_some_iff.1 h1).1
    rw [size_list] at this
    rw [hn]; omega
def orcV : Oracle := fun f args => match f, args with
  | 183, [.con (.string s), .con (.string p)] => some (di (cI p s))
  | 178, [.con (.string s), .con (.string p)] => some (.tup [ds (cD p s), ds (cR p s), db (cB p s)])
  | 152, [.con (.string s), .con (.string p)] => some (.tup [ds (cD p s), ds (cR p s), db (cB p s)])
  | _, _ => none
theorem f178 (s : ByteArray) (c : UInt8) (hs : s.size ≤ 1000000) : FnOK Tryz.prog G 178 [ds s, ds ⟨#[c]⟩] (.tup [ds (cD ⟨#[c]⟩ s), ds (cR ⟨#[c]⟩ s), db (cB ⟨#[c]⟩ s)]) := by
  have hlt := cI_lt ⟨#[c]⟩ s
  have h183 := f183 (G := G) s c
  have e1 : (((⟨#[c]⟩ : ByteArray).size : Nat) : Int) = 1 := rfl
  generalize hp : (⟨#[c]⟩ : ByteArray) = p at *
  refine FnOK.walk (orc := orcV) (keep := []) follows Tryz.func178 rfl Tryz.call178 ?_
  refine of_tr (fun _ _ _ ZK => (ZK 183 [(ds s), (ds p)] (di (cI p s)) ∧ (((decide (cI p s ≥ 0)) = true) → (((((0 : Int) ≤ (0 : Int)) ∧ (0 ≤ cI p s) ∧ (cI p s ≤ ↑s.size)) ∧ (I64 (cI p s + ↑p.size)) ∧ (0 ≤ cI p s + ↑p.size) ∧ (cI p s + ↑p.size ≤ ↑s.size) ∧ ((↑s.size : Int) ≤ ↑s.size)) ∧ ((.tup [(ds (s.extract (Int.toNat 0) (cI p s).toNat)), (ds (s.extract (cI p s + ↑p.size).toNat (↑s.size : Int).toNat)), (db true)]) : DV) = (.tup [(ds (cD p s)), (ds (cR p s)), (db (cB p s))]))) ∧ (((decide (cI p s ≥ 0)) = false) → (((.tup [(ds s), (ds (ByteArray.mk #[])), (db false)]) : DV) = (.tup [(ds (cD p s)), (ds (cR p s)), (db (cB p s))]))))) (by kernel_rfl) ?_
  have e0 : Int.toNat (0 : Int) = 0 := rfl
  rw [e1]
  refine ⟨h183, fun h => ?_, fun h => ?_⟩
  · have h : 0 ≤ cI p s := by simpa using h
    refine ⟨⟨⟨by omega, by omega, by omega⟩, ⟨by omega, by omega⟩, by omega, by omega, by omega⟩, ?_⟩
    unfold cD cR cB
    rw [if_pos h, if_pos h, decide_eq_true h, e0, Int.toNat_natCast]
  · have h : ¬ 0 ≤ cI p s := by simpa using h
    unfold cD cR cB
    rw [if_neg h, if_neg h, decide_eq_false h]
theorem f152 (s : ByteArray) (c : UInt8) (hs : s.size ≤ 1000000) : FnOK Tryz.prog G 152 [ds s, ds ⟨#[c]⟩] (.tup [ds (cD ⟨#[c]⟩ s), ds (cR ⟨#[c]⟩ s), db (cB ⟨#[c]⟩ s)]) := by
  have h178 := f178 (G := G) s c hs
  generalize hp : (⟨#[c]⟩ : ByteArray) = p at *
  refine FnOK.walk (orc := orcV) (keep := []) follows Tryz.func152 rfl Tryz.call152 ?_
  refine of_tr (fun _ _ _ ZK => (ZK 178 [(ds s), (ds p)] (.tup [(ds (cD p s)), (ds (cR p s)), (db (cB p s))]) ∧ (ZS ((.tup [(ds (cD p s)), (ds (cR p s)), (db (cB p s))]) : DV)))) (by kernel_rfl) ?_
  exact ⟨h178, rfl⟩
end Go.Proofs
