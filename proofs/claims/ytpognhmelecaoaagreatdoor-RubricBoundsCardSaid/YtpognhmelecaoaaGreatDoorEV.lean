import Derived.Test.YtpognhmelecaoaaGreatDoorAcD
import Derived.Test.YtpognhmelecaoaaGreatDoorEU
import Derived.Test.YtpognhmelecaoaaGreatDoorEM
set_option autoImplicit false
namespace Go.Proofs
open Go Go.Ab Go.RowKit
set_option maxHeartbeats 4000000
set_option maxRecDepth 100000
variable {G : IH}
/-! The reference's Trend, and RubricBounds. -/
noncomputable def orcT30 (L : List Fc) : Oracle := fun f a => match f, a with
  | 33, [e, _] => some (.tup [di (typR L (rdE e)).1, di (typR L (rdE e)).2.1, di (typR L (rdE e)).2.2])
  | 55, [_, .con (.string s)] => some (di (fndI L s))
  | 60, [e, .con (.string s)] => some (db (occE s (rdE e)))
  | 61, [e, .con (.string s), _] => some (di (trE (revF L L.length) s (rdE e)))
  | _, _ => none
theorem f30 (hT : Tab G) (m : Nat) (x : Ex) (s : ByteArray) (L : List Fc) (hx : ht x ≤ m) (hs : Sm x) (h : ∀ i, i < L.length → FcS (L.getD i fc0)) (hl : L.length ≤ 1000) : FnOK Tryz.prog G 30 [exD m x, ds s, fcsD L] (di (trdR L x s)) := by
  have e : rdE (exV x.k x.s x.n x.d x.pos x.kids.length (lay (exG m) x.kids)) = x := rdE_eq hx
  refine FnOK.walkK (orc := orcT30 L) (keep := []) follows Tryz.func30 rfl Tryz.call30 ?_
  refine of_tr (fun _ _ _ ZK => (fun Za => (ZK 33 [(ndX m x), (.slc 7 L.length (fcF L))] (.tup [(di (typR L (rdE (ndX m x))).fst), (di (typR L (rdE (ndX m x))).snd.fst), (di (typR L (rdE (ndX m x))).snd.snd)]) ∧ ZK 55 [(.slc 7 L.length (fcF L)), (ds s)] (di (fndI L s)) ∧ ((Za = true) → (((di 3) : DV) = (di (trdR L x s)))) ∧ ((Za = false) → ((((0 ≤ fndI L s) ∧ (fndI L s < ↑L.length)) ∧ ((((L.getD (fndI L s).toNat fc0).kind == 2) = true) → ZK 60 [(ndX m x), (ds s)] (db (occE s (rdE (ndX m x)))))) ∧ ((((L.getD (fndI L s).toNat fc0).kind == 2 && occE s (rdE (ndX m x))) = true) → (((di 3) : DV) = (di (trdR L x s)))) ∧ ((((L.getD (fndI L s).toNat fc0).kind == 2 && occE s (rdE (ndX m x))) = false) → (ZK 61 [(ndX m x), (ds s), (.slc 7 L.length (fcF L))] (di (trE (revF L L.length) s (rdE (ndX m x)))) ∧ ((di (trE (revF L L.length) s (rdE (ndX m x)))) : DV) = (di (trdR L x s)))))))) ((typR L (rdE (ndX m x))).snd.snd != 0 || (typR L (rdE (ndX m x))).fst == 2 || decide (fndI L s < 0))) (by kernel_rfl) ?_
  simp only [e]
  have h33 := f33 (G := G) hT m x L hx hs h hl
  have h55 := f55 (G := G) L s (by omega)
  have h60 := f60 (G := G) s m x hx hs
  refine ⟨h33, h55, fun h1 => ?_, fun h1 => ?_⟩
  · unfold trdR
    by_cases hb : ((typR L x).2.2 != 0 || (typR L x).1 == 2) = true
    · rw [if_pos hb]
    · rw [if_neg hb]
      have hb : ((typR L x).2.2 != 0 || (typR L x).1 == 2) = false := by simpa using hb
      rw [hb, Bool.false_or, decide_eq_true_eq] at h1
      have : fH (revF L L.length) (.string s) = false := by
        cases hh : fH (revF L L.length) (.string s) with
        | false => rfl
        | true => have := fnd_fH.2 hh; omega
      rw [this]; rfl
  · rw [Bool.or_eq_false_iff, decide_eq_false_iff_not] at h1
    have hb := h1.1
    have hf : fndI L s ≥ 0 := by omega
    have h2 := hb
    simp only [Bool.or_eq_false_iff, bne_eq_false_iff_eq] at h2
    obtain ⟨hv, hsn, hty, _⟩ := typ_nr h2.1
    have hlt := (fnd_hit hf).1
    have etr : trdR L x s = if (!occE s x) = true then 0 else if ((L.getD (fndI L s).toNat fc0).kind == 2) = true then 3 else trE (revF L L.length) s x := by
      unfold trdR
      rw [if_neg (by rw [hb]; decide), fnd_fH.1 hf, if_neg (by decide), fnd_fM hv hf]
    refine ⟨⟨⟨by omega, by omega⟩, fun _ => h60⟩, fun h3 => ?_, fun h3 => ⟨f61 L hv hl s m x hx hs hsn hty, ?_⟩⟩
    · rw [Bool.and_eq_true] at h3
      rw [etr, if_neg (by rw [h3.2]; decide), if_pos h3.1]
    · rw [etr]
      cases ho : occE s x with
      | false =>
        rw [if_pos (by decide)]
        have : trE (revF L L.length) s x = 0 := by rw [trE_eq, if_neg (by rw [ho]; decide)]
        rw [this]
      | true =>
        rw [ho, Bool.and_true] at h3
        rw [if_neg (by decide), if_neg (by rw [h3]; decide)]
noncomputable def orcL6 (x : Ex) (s : ByteArray) (L : List Fc) : Oracle := fun f a => match f, a with
  | 10, [] => some (db true)
  | 11, [_, _] => some (db (fewX x L))
  | 16, [_, _] => some (.tup [fr (bdsR L x).1.a (bdsR L x).1.b, fr (bdsR L x).1.c (bdsR L x).1.d, db (bdsR L x).2])
  | 26, [_, _] => some (.tup [fr (bdsR L x).1.a (bdsR L x).1.b, fr (bdsR L x).1.c (bdsR L x).1.d, db (bdsR L x).2])
  | 28, [_, _] => some (wdD (nmsR L x))
  | 29, [_, _] => some (wdD (nmsR L x))
  | 27, [_, _] => some (db true)
  | 15, [_, _, _] => some (di (trdR L x s))
  | 30, [_, _, _] => some (di (trdR L x s))
  | _, _ => none
theorem f6 (hT : Tab G) (m : Nat) (x : Ex) (s : ByteArray) (L : List Fc) (hx : ht x ≤ m) (hw : wfE x) (hss : s.size ≤ 9223372036854775807) (hl : L.length ≤ 9223372036854775807) (hw2 : ∀ i, i < L.length → FcW (L.getD i fc0)) : FnOK Tryz.prog G 6 [exD m x, ds s, fcsD L] (db true) := by
  refine FnOK.walkK (orc := orcL6 x s L) (keep := []) follows Tryz.func6 rfl Tryz.call6 ?_
  refine of_tr (fun _ _ _ ZK => (fun Za Zb Zc => (ZK 10 [] (db true) ∧ ((false = true) → (((db false) : DV) = (db true))) ∧ ((false = false) → (ZK 11 [(ndX m x), (.slc 7 L.length (fcF L))] (db (fewX x L)) ∧ (((!fewX x L || decide ((↑s.size : Int) > 40)) = true) → (ZS ((db true) : DV))) ∧ (((!fewX x L || decide ((↑s.size : Int) > 40)) = false) → (ZK 16 [(ndX m x), (.slc 7 L.length (fcF L))] Zb ∧ ZK 26 [(ndX m x), (.slc 7 L.length (fcF L))] Zb ∧ (ZK 28 [(ndX m x), (.slc 7 L.length (fcF L))] Zc ∧ ZK 29 [(ndX m x), (.slc 7 L.length (fcF L))] Zc ∧ ZK 27 [Zc, Zc] (db true) ∧ ((Za = true) → ZK 15 [(ndX m x), (ds s), (.slc 7 L.length (fcF L))] (di (trdR L x s))) ∧ ((Za = true) → ZK 30 [(ndX m x), (ds s), (.slc 7 L.length (fcF L))] (di (trdR L x s)))) ∧ ((db (true && Bool.rec false ((bdsR L x).fst.b == (bdsR L x).fst.b) ((bdsR L x).fst.a == (bdsR L x).fst.a) && Bool.rec false ((bdsR L x).fst.d == (bdsR L x).fst.d) ((bdsR L x).fst.c == (bdsR L x).fst.c) && (bdsR L x).snd == (bdsR L x).snd && trdR L x s == trdR L x s)) : DV) = (db true))))))) (true && Bool.rec false ((bdsR L x).fst.b == (bdsR L x).fst.b) ((bdsR L x).fst.a == (bdsR L x).fst.a) && Bool.rec false ((bdsR L x).fst.d == (bdsR L x).fst.d) ((bdsR L x).fst.c == (bdsR L x).fst.c) && (bdsR L x).snd == (bdsR L x).snd) ((.tup [(.agg [(di (bdsR L x).fst.a), (di (bdsR L x).fst.b)]), (.agg [(di (bdsR L x).fst.c), (di (bdsR L x).fst.d)]), (db (bdsR L x).snd)]) : DV) ((.slc 1 (nmsR L x).length (stF (nmsR L x))) : DV)) (by kernel_rfl) ?_
  refine ⟨f10 hT, fun h => (by cases h), fun _ => ⟨f11 m x L hx hw hl hw2, fun _ => rfl, fun h1 => ?_⟩⟩
  rw [Bool.or_eq_false_iff, Bool.not_eq_false', decide_eq_false_iff_not] at h1
  have hfx := h1.1
  unfold fewX at hfx
  rw [Bool.and_eq_true] at hfx
  have hs : Sm x := few_sm (by omega) hw hfx.1
  obtain ⟨hF, hL16⟩ := fcs_of_few hfx.2
  have hn : (nmsR L x).length ≤ 100000 := by
    unfold nmsR
    split
    · simp
    · rw [List.length_map]
      have := List.length_filter_le (fun f => occE f.name x) L
      omega
  have h27 : FnOK Tryz.prog G 27 [wdD (nmsR L x), wdD (nmsR L x)] (db true) := by
    have := f27 (G := G) (nmsR L x) (nmsR L x) hn
    rwa [decide_eq_true rfl] at this
  have hr : ∀ a b : Bool, a = true → b = true → (Bool.rec false a b : Bool) = true := by
    rintro _ _ rfl rfl; rfl
  refine ⟨f16 hT m x L hx hs hF (by omega), f26 hT m x L hx hs hF (by omega), ⟨f28 hT m x L hx hs hF (by omega), f29 hT m x L hx hs hF (by omega), h27, fun _ => f15 hT m x s L hx hs hF (by omega), fun _ => f30 hT m x s L hx hs hF (by omega)⟩, ?_⟩
  simp only [beq_self_eq_true]
  rfl
end Go.Proofs
