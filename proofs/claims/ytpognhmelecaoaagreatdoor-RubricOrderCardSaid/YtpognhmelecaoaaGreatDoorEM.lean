import Derived.Test.YtpognhmelecaoaaGreatDoorAcD
import Derived.Test.YtpognhmelecaoaaGreatDoorEL
set_option autoImplicit false
namespace Go.Proofs
open Go Go.Ab Go.RowKit
set_option maxHeartbeats 4000000
set_option maxRecDepth 100000
variable {G : IH}
/-! The examples of the chapter. -/
abbrev sPassed : ByteArray := ⟨#[112, 97, 115, 115, 101, 100]⟩
abbrev sTests : ByteArray := ⟨#[116, 101, 115, 116, 115]⟩
abbrev sLate : ByteArray := ⟨#[108, 97, 116, 101]⟩
abbrev sVerdict : ByteArray := ⟨#[118, 101, 114, 100, 105, 99, 116]⟩
abbrev sCorrect : ByteArray := ⟨#[99, 111, 114, 114, 101, 99, 116]⟩
abbrev nX (k : Int) (l : List Ex) : Ex := .mk k .empty 0 0 0 l
abbrev qX (n : Int) : Ex := .mk 1 .empty n 1 0 []
abbrev vX (s : ByteArray) : Ex := .mk 2 s 0 0 0 []
def xA : Ex := nX 9 [nX 8 [qX 40, vX sPassed], qX 64]
def xB : Ex := nX 9 [vX sPassed, vX sTests]
def xC (s : ByteArray) : Ex := nX 12 [vX sVerdict, vX s]
def xE : Ex := nX 7 [qX 50, vX sLate]
theorem bd_A : bdsR stdL xA = (⟨0, 1, 40, 1⟩, true) := by kernel_rfl
theorem ty_C : typR stdL (xC sCorrect) = (1, 0, 0) := by kernel_rfl
theorem td_A : trdR stdL xA sPassed = 1 := by kernel_rfl
theorem td_E : trdR stdL xE sLate = 2 := by kernel_rfl
theorem td_B : trdR stdL xB sPassed = 3 := by kernel_rfl
theorem getD_mem' {α : Type} {l : List α} {i : Nat} {x0 : α} (h : i < l.length) : l.getD i x0 ∈ l := by
  rw [List.getD, List.getElem?_eq_getElem h]; exact List.getElem_mem h
theorem fcs_of_few {L : List Fc} (h : fewF L = true) : (∀ i, i < L.length → FcS (L.getD i fc0)) ∧ L.length ≤ 16 := by
  unfold fewF at h
  simp only [Bool.and_eq_true, decide_eq_true_eq] at h
  refine ⟨fun i hi => ?_, h.2⟩
  have := List.all_eq_true.1 h.1 _ (getD_mem' (x0 := fc0) hi)
  unfold smF at this
  simp only [Bool.and_eq_true, decide_eq_true_eq] at this
  refine ⟨by omega, by omega, fun j hj => ?_⟩
  have := List.all_eq_true.1 this.2 _ (getD_mem' (x0 := .empty) hj)
  have := of_decide_eq_true this
  omega
def mkX (k : Int) (s : ByteArray) (n d : Int) : DV := .agg [di k, ds s, di n, di d, di 0, .con (.slice none 0 0)]
theorem leaf_rel {k : IH} {c : Int} {s : ByteArray} {n d : Int} {m : Nat} {v : Value} (h : DV.rel k (.agg [di c, ds s, di n, di d, di 0, .con (.slice none 0 0)]) v) : DV.rel k (exD m (.mk c s n d 0 [])) v := by
  obtain ⟨us, rfl, a, u1, rfl, ha, b, u2, rfl, hb, c, u3, rfl, hc, d, u4, rfl, hd, e, u5, rfl, he, f, u6, rfl, hf, h0⟩ := h
  exact ⟨_, rfl, a, _, rfl, ha, b, _, rfl, hb, c, _, rfl, hc, d, _, rfl, hd, e, _, rfl, he, f, _, rfl, nil_slc hf, h0⟩
theorem two_rel' {k : IH} {c : Int} {m : Nat} {a b : Ex} {l : List DV} {v : Value} (ha : ∀ v, DV.rel k (elemF true 6 l 0) v → DV.rel k (exD m a) v) (hb : ∀ v, DV.rel k (elemF true 6 l 1) v → DV.rel k (exD m b) v)
    (h : DV.rel k (.agg [di c, ds .empty, di 0, di 0, di 0, .slc 6 2 (elemF true 6 l)]) v) : DV.rel k (exD (m + 1) (nX c [a, b])) v := by
  obtain ⟨us, rfl, x1, u1, rfl, h1, x2, u2, rfl, h2, x3, u3, rfl, h3, x4, u4, rfl, h4, x5, u5, rfl, h5, x6, u6, rfl, h6, h0⟩ := h
  refine ⟨_, rfl, x1, _, rfl, h1, x2, _, rfl, h2, x3, _, rfl, h3, x4, _, rfl, h4, x5, _, rfl, h5, x6, _, rfl, ?_, h0⟩
  refine rel_slc_imp (n := 2) (f := elemF true 6 l) (fun i hi v hv => ?_) h6
  rcases i with _ | _ | i
  · exact ha v hv
  · exact hb v hv
  · omega
theorem f38 (n : Int) : FnOK Tryz.prog G 38 [di n] (mkX 1 .empty n 1) := by
  refine FnOK.walkK (orc := noO) (keep := []) follows Tryz.func38 rfl Tryz.call38 ?_
  refine of_tr (fun _ _ _ _ => (((.agg [(di 1), (ds (ByteArray.mk #[])), (di n), (di 1), (di 0), (.con (.slice none 0 0))]) : DV) = (mkX 1 ByteArray.empty n 1))) (by kernel_rfl) ?_
  rfl
theorem f39 (s : ByteArray) : FnOK Tryz.prog G 39 [ds s] (mkX 2 s 0 0) := by
  refine FnOK.walkK (orc := noO) (keep := []) follows Tryz.func39 rfl Tryz.call39 ?_
  refine of_tr (fun _ _ _ _ => (((.agg [(di 2), (ds s), (di 0), (di 0), (di 0), (.con (.slice none 0 0))]) : DV) = (mkX 2 s 0 0))) (by kernel_rfl) ?_
  rfl
theorem f14 (k : Int) (l : List DV) (n : Nat) : FnOK Tryz.prog G 14 [di k, .slc 6 n (elemF true 6 l)] (.agg [di k, ds .empty, di 0, di 0, di 0, .slc 6 n (elemF true 6 l)]) := by
  refine FnOK.walkK (orc := noO) (keep := []) follows Tryz.func14 rfl Tryz.call14 ?_
  refine of_tr (fun _ _ _ _ => (((.agg [(di k), (ds (ByteArray.mk #[])), (di 0), (di 0), (di 0), (.slc 6 n (elemF true 6 l))]) : DV) = (.agg [(di k), (ds ByteArray.empty), (di 0), (di 0), (di 0), (.slc 6 n (elemF true 6 l))]))) (by kernel_rfl) ?_
  rfl
end Go.Proofs
set_option autoImplicit false
namespace Go.Proofs
open Go Go.Ab Go.RowKit
set_option maxHeartbeats 4000000
set_option maxRecDepth 100000
variable {G : IH}
/-! awake. -/
def kOf (d : DV) : Int := match d with | .agg (.con (.int _ k) :: _) => k | _ => 0
def sOf (d : DV) : ByteArray := match d with | .agg (_ :: .con (.string s) :: _) => s | _ => .empty
noncomputable def orc10 : Oracle := fun f a => match f, a with
  | 25, [] => some (fcsD stdL)
  | 38, [.con (.int .i64 n)] => some (mkX 1 .empty n 1)
  | 39, [.con (.string s)] => some (mkX 2 s 0 0)
  | 14, [.con (.int .i64 k), w] => some (.agg [di k, ds .empty, di 0, di 0, di 0, w])
  | 16, [.agg [_, _, _, _, _, .slc _ _ g], _] => match kOf (g 0) with
    | 8 => some (.tup [fr 0 1, fr 40 1, db true])
    | _ => some (.tup [fr (bdsR stdL xB).1.a (bdsR stdL xB).1.b, fr (bdsR stdL xB).1.c (bdsR stdL xB).1.d, db false])
  | 13, [.agg [_, _, _, _, _, .slc _ _ g], _] => match (sOf (g 1)).size with
    | 7 => some (.tup [di 1, di 0, di 0])
    | _ => some (.tup [di (typR stdL (xC sLate)).1, di (typR stdL (xC sLate)).2.1, di 5])
  | 15, [.agg [.con (.int .i64 k), _, _, _, _, .slc _ _ g], _, _] => match k with
    | 7 => some (di 2)
    | _ => match kOf (g 0) with
      | 8 => some (di 1)
      | _ => some (di 3)
  | _, _ => none
theorem lateS : ∀ i, i < stdL.length → FcS (stdL.getD i fc0) := (fcs_of_few (L := stdL) (by kernel_rfl)).1
theorem stdLen : stdL.length = 11 := rfl
theorem g16 (hT : Tab G) {x : Ex} {m : Nat} {d r : DV} (hx : ht x ≤ m) (hs : Sm x) (hd : ∀ k v, DV.rel k d v → DV.rel k (exD m x) v) (hr : DV.tup [fr (bdsR stdL x).1.a (bdsR stdL x).1.b, fr (bdsR stdL x).1.c (bdsR stdL x).1.d, db (bdsR stdL x).2] = r) : FnOK Tryz.prog G 16 [d, fcsD stdL] r := by
  subst hr
  exact (f16 hT m x stdL hx hs lateS (by rw [stdLen]; omega)).args fun k us h => DV.rels_cons (hd k) (fun _ h => h) us h
theorem g13 (hT : Tab G) {x : Ex} {m : Nat} {d r : DV} (hx : ht x ≤ m) (hs : Sm x) (hd : ∀ k v, DV.rel k d v → DV.rel k (exD m x) v) (hr : DV.tup [di (typR stdL x).1, di (typR stdL x).2.1, di (typR stdL x).2.2] = r) : FnOK Tryz.prog G 13 [d, fcsD stdL] r := by
  subst hr
  exact (f13 hT m x stdL hx hs lateS (by rw [stdLen]; omega)).args fun k us h => DV.rels_cons (hd k) (fun _ h => h) us h
theorem g15 (hT : Tab G) {x : Ex} {m : Nat} {s : ByteArray} {d r : DV} (hx : ht x ≤ m) (hs : Sm x) (hd : ∀ k v, DV.rel k d v → DV.rel k (exD m x) v) (hr : di (trdR stdL x s) = r) : FnOK Tryz.prog G 15 [d, ds s, fcsD stdL] r := by
  subst hr
  exact (f15 hT m x s stdL hx hs lateS (by rw [stdLen]; omega)).args fun k us h => DV.rels_cons (hd k) (fun _ h => h) us h
theorem smA : Sm xA := ⟨by simp [xA, nds, ndsL], by simp [xA, txE, txL]; decide⟩
theorem smB : Sm xB := ⟨by simp [xB, nds, ndsL], by simp [xB, txE, txL]; decide⟩
theorem smE : Sm xE := ⟨by simp [xE, nds, ndsL], by simp [xE, txE, txL]; decide⟩
theorem smC {s : ByteArray} (h : s.size ≤ 1000) : Sm (xC s) := ⟨by simp [xC, nds, ndsL], by simp [xC, txE, txL]; exact ⟨by decide, h⟩⟩
theorem f10 (hT : Tab G) : FnOK Tryz.prog G 10 [] (db true) := by
  refine FnOK.walkK (orc := orc10) (keep := []) follows Tryz.func10 rfl Tryz.call10 ?_
  refine of_tr (fun _ _ _ ZK => (fun Za Zb Zc Zd Ze Zf Zg Zh Zi => (ZK 25 [] (.slc 7 11 (fcF stdL)) ∧ (ZK 38 [(di 40)] (.agg [(di 1), (ds ByteArray.empty), (di 40), (di 1), (di 0), (.con (.slice none 0 0))]) ∧ ZK 39 [Ze] (.agg [(di 2), Ze, (di 0), (di 0), (di 0), (.con (.slice none 0 0))]) ∧ ZK 14 [(di 8), (.slc 6 2 (elemF true 6 [(di 1), (ds ByteArray.empty), (di 40), (di 1), (di 0), (.con (.slice none 0 0)), (di 2), Ze, (di 0), (di 0), (di 0), (.con (.slice none 0 0))]))] (.agg [(di 8), (ds ByteArray.empty), (di 0), (di 0), (di 0), (.slc 6 2 (elemF true 6 [(di 1), (ds ByteArray.empty), (di 40), (di 1), (di 0), (.con (.slice none 0 0)), (di 2), Ze, (di 0), (di 0), (di 0), (.con (.slice none 0 0))]))]) ∧ ZK 38 [(di 64)] (.agg [(di 1), (ds ByteArray.empty), (di 64), (di 1), (di 0), (.con (.slice none 0 0))]) ∧ ZK 14 [(di 9), Zb] (.agg [(di 9), (ds ByteArray.empty), (di 0), (di 0), (di 0), Zb])) ∧ ZK 16 [(.agg [(di 9), (ds ByteArray.empty), (di 0), (di 0), (di 0), Zb]), (.slc 7 11 (fcF stdL))] (.tup [(.agg [(di 0), (di 1)]), (.agg [(di 40), (di 1)]), (db true)]) ∧ (ZK 39 [Ze] (.agg [(di 2), Ze, (di 0), (di 0), (di 0), (.con (.slice none 0 0))]) ∧ ZK 39 [Zi] (.agg [(di 2), Zi, (di 0), (di 0), (di 0), (.con (.slice none 0 0))]) ∧ ZK 14 [(di 9), Za] (.agg [(di 9), (ds ByteArray.empty), (di 0), (di 0), (di 0), Za]) ∧ ZK 16 [(.agg [(di 9), (ds ByteArray.empty), (di 0), (di 0), (di 0), Za]), (.slc 7 11 (fcF stdL))] (.tup [(.agg [(di 0), (di 0)]), (.agg [(di 0), (di 0)]), (db false)])) ∧ (ZK 39 [Zg] (.agg [(di 2), Zg, (di 0), (di 0), (di 0), (.con (.slice none 0 0))]) ∧ ZK 39 [(ds (ByteArray.mk #[99, 111, 114, 114, 101, 99, 116]))] (.agg [(di 2), (ds (ByteArray.mk #[99, 111, 114, 114, 101, 99, 116])), (di 0), (di 0), (di 0), (.con (.slice none 0 0))]) ∧ ZK 14 [(di 12), Zc] (.agg [(di 12), (ds ByteArray.empty), (di 0), (di 0), (di 0), Zc]) ∧ ZK 13 [(.agg [(di 12), (ds ByteArray.empty), (di 0), (di 0), (di 0), Zc]), (.slc 7 11 (fcF stdL))] (.tup [(di 1), (di 0), (di 0)])) ∧ (ZK 39 [Zg] (.agg [(di 2), Zg, (di 0), (di 0), (di 0), (.con (.slice none 0 0))]) ∧ ZK 39 [Zh] (.agg [(di 2), Zh, (di 0), (di 0), (di 0), (.con (.slice none 0 0))]) ∧ ZK 14 [(di 12), Zd] (.agg [(di 12), (ds ByteArray.empty), (di 0), (di 0), (di 0), Zd]) ∧ ZK 13 [(.agg [(di 12), (ds ByteArray.empty), (di 0), (di 0), (di 0), Zd]), (.slc 7 11 (fcF stdL))] (.tup [(di 0), (di 0), (di 5)])) ∧ (((true = true) → ZK 15 [(.agg [(di 9), (ds ByteArray.empty), (di 0), (di 0), (di 0), Zb]), Ze, (.slc 7 11 (fcF stdL))] (di 1)) ∧ ((true = true) → ZK 38 [(di 50)] (.agg [(di 1), (ds ByteArray.empty), (di 50), (di 1), (di 0), (.con (.slice none 0 0))])) ∧ ((true = true) → ZK 39 [Zh] (.agg [(di 2), Zh, (di 0), (di 0), (di 0), (.con (.slice none 0 0))])) ∧ ((true = true) → ZK 14 [(di 7), Zf] (.agg [(di 7), (ds ByteArray.empty), (di 0), (di 0), (di 0), Zf])) ∧ ((true = true) → ZK 15 [(.agg [(di 7), (ds ByteArray.empty), (di 0), (di 0), (di 0), Zf]), Zh, (.slc 7 11 (fcF stdL))] (di 2)) ∧ ((true = true) → ZK 39 [Ze] (.agg [(di 2), Ze, (di 0), (di 0), (di 0), (.con (.slice none 0 0))])) ∧ ((true = true) → ZK 39 [Zi] (.agg [(di 2), Zi, (di 0), (di 0), (di 0), (.con (.slice none 0 0))])) ∧ ((true = true) → ZK 14 [(di 9), Za] (.agg [(di 9), (ds ByteArray.empty), (di 0), (di 0), (di 0), Za])) ∧ ((true = true) → ZK 15 [(.agg [(di 9), (ds ByteArray.empty), (di 0), (di 0), (di 0), Za]), Ze, (.slc 7 11 (fcF stdL))] (di 3))) ∧ (ZS ((db true) : DV)))) ((.slc 6 2 (elemF true 6 [(di 2), (ds (ByteArray.mk #[112, 97, 115, 115, 101, 100])), (di 0), (di 0), (di 0), (.con (.slice none 0 0)), (di 2), (ds (ByteArray.mk #[116, 101, 115, 116, 115])), (di 0), (di 0), (di 0), (.con (.slice none 0 0))])) : DV) ((.slc 6 2 (elemF true 6 [(di 8), (ds ByteArray.empty), (di 0), (di 0), (di 0), (.slc 6 2 (elemF true 6 [(di 1), (ds ByteArray.empty), (di 40), (di 1), (di 0), (.con (.slice none 0 0)), (di 2), (ds (ByteArray.mk #[112, 97, 115, 115, 101, 100])), (di 0), (di 0), (di 0), (.con (.slice none 0 0))])), (di 1), (ds ByteArray.empty), (di 64), (di 1), (di 0), (.con (.slice none 0 0))])) : DV) ((.slc 6 2 (elemF true 6 [(di 2), (ds (ByteArray.mk #[118, 101, 114, 100, 105, 99, 116])), (di 0), (di 0), (di 0), (.con (.slice none 0 0)), (di 2), (ds (ByteArray.mk #[99, 111, 114, 114, 101, 99, 116])), (di 0), (di 0), (di 0), (.con (.slice none 0 0))])) : DV) ((.slc 6 2 (elemF true 6 [(di 2), (ds (ByteArray.mk #[118, 101, 114, 100, 105, 99, 116])), (di 0), (di 0), (di 0), (.con (.slice none 0 0)), (di 2), (ds (ByteArray.mk #[108, 97, 116, 101])), (di 0), (di 0), (di 0), (.con (.slice none 0 0))])) : DV) (ds (ByteArray.mk #[112, 97, 115, 115, 101, 100])) ((.slc 6 2 (elemF true 6 [(di 1), (ds ByteArray.empty), (di 50), (di 1), (di 0), (.con (.slice none 0 0)), (di 2), (ds (ByteArray.mk #[108, 97, 116, 101])), (di 0), (di 0), (di 0), (.con (.slice none 0 0))])) : DV) (ds (ByteArray.mk #[118, 101, 114, 100, 105, 99, 116])) (ds (ByteArray.mk #[108, 97, 116, 101])) (ds (ByteArray.mk #[116, 101, 115, 116, 115]))) (by kernel_rfl) ?_
  repeat' (first | (with_reducible refine And.intro ?_ ?_) | (with_reducible intro _))
  all_goals first
    | exact f25
    | exact f38 _
    | exact f39 _
    | exact f14 _ _ _
    | exact g16 hT (x := xA) (m := 2) (by simp [xA, ht, htL]) smA (fun k v => two_rel' (fun v => two_rel' (fun v => leaf_rel) (fun v => leaf_rel)) (fun v => leaf_rel)) (by rw [bd_A])
    | exact g16 hT (x := xB) (m := 2) (by simp [xB, ht, htL]) smB (fun k v => two_rel' (fun v => leaf_rel) (fun v => leaf_rel)) (by kernel_rfl)
    | exact g13 hT (x := xC sCorrect) (m := 2) (by simp [xC, ht, htL]) (smC (by decide)) (fun k v => two_rel' (fun v => leaf_rel) (fun v => leaf_rel)) (by rw [ty_C])
    | exact g13 hT (x := xC sLate) (m := 2) (by simp [xC, ht, htL]) (smC (by decide)) (fun k v => two_rel' (fun v => leaf_rel) (fun v => leaf_rel)) (by kernel_rfl)
    | exact g15 hT (x := xA) (m := 2) (by simp [xA, ht, htL]) smA (fun k v => two_rel' (fun v => two_rel' (fun v => leaf_rel) (fun v => leaf_rel)) (fun v => leaf_rel)) (by rw [td_A])
    | exact g15 hT (x := xE) (m := 2) (by simp [xE, ht, htL]) smE (fun k v => two_rel' (fun v => leaf_rel) (fun v => leaf_rel)) (by rw [td_E])
    | exact g15 hT (x := xB) (m := 2) (by simp [xB, ht, htL]) smB (fun k v => two_rel' (fun v => leaf_rel) (fun v => leaf_rel)) (by rw [td_B])
    | rfl
/-! RubricFacts. -/
end Go.Proofs
