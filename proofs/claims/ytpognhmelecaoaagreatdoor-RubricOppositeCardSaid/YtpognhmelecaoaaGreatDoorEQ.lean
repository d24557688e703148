import Derived.Test.YtpognhmelecaoaaGreatDoorAcC
import Derived.Test.YtpognhmelecaoaaGreatDoorEP
import Derived.Test.YtpognhmelecaoaaGreatDoorEM
import Derived.Test.YtpognhmelecaoaaGreatDoorEN
set_option autoImplicit false
namespace Go.Proofs
open Go Go.Ab Go.RowKit
set_option maxHeartbeats 4000000
set_option maxRecDepth 100000
variable {G : IH}
/-! RubricOpposite. -/
def fewX (x : Ex) (L : List Fc) : Bool := fewE 30 x && fewF L
noncomputable def orcFew (b c : Bool) : Oracle := fun f a => match f, a with
  | 32, [_, _] => some (db b)
  | 20, [_] => some (db c)
  | _, _ => none
theorem f11 (m : Nat) (x : Ex) (L : List Fc) (hx : ht x ≤ m) (hw : wfE x) (hl : L.length ≤ 9223372036854775807) (hw2 : ∀ i, i < L.length → FcW (L.getD i fc0)) : FnOK Tryz.prog G 11 [exD m x, fcsD L] (db (fewX x L)) := by
  refine FnOK.walkK (orc := orcFew (fewE 30 x) (fewF L)) (keep := []) follows Tryz.func11 rfl Tryz.call11 ?_
  refine of_eqH (b := ((FnOK Tryz.prog G 32 [(ndX m x), (di 30)] (db (fewE (30 : Int) x)) ∧ (((fewE (30 : Int) x) = true) → FnOK Tryz.prog G 20 [(.slc 7 (List.length L) (fcF L))] (db (fewF L)))) ∧ (((db (fewE (30 : Int) x && fewF L)) : DV) = (db (fewX x L))))) (by kernel_rfl) ?_
  exact ⟨⟨f32 30 m x hx hw, fun _ => f20 L hl hw2⟩, rfl⟩
noncomputable def orcOp (m : Nat) (x : Ex) (L : List Fc) : Oracle := fun f a => match f, a with
  | 10, [] => some (db true)
  | 11, [_, _] => some (db (fewX x L))
  | 12, [_] => some (di ((ht x : Int) + 1))
  | 13, [e, _] => some (.tup [di (typR L (rdE e)).1, di (typR L (rdE e)).2.1, di (typR L (rdE e)).2.2])
  | 14, [.con (.int .i64 k), _] => some (exD (m + 1) (opX k x))
  | 15, [e, .con (.string s), _] => some (di (trdR L (rdE e) s))
  | 16, [e, _] => some (.tup [fr (bdsR L (rdE e)).1.a (bdsR L (rdE e)).1.b, fr (bdsR L (rdE e)).1.c (bdsR L (rdE e)).1.d, db (bdsR L (rdE e)).2])
  | 17, [fr a b] => some (fr (neN a b) b)
  | _, _ => none
theorem opX_node (k : Int) (m : Nat) (x : Ex) : FnOK Tryz.prog G 14 [di k, .slc 6 1 (elemF true 6 [di x.k, ds x.s, di x.n, di x.d, di x.pos, .slc 6 x.kids.length (lay (exG m) x.kids)])] (exD (m + 1) (opX k x)) := by
  refine FnOK.res (f14 k _ 1) fun h v hv => ?_
  obtain ⟨us, rfl, x1, u1, rfl, h1, x2, u2, rfl, h2, x3, u3, rfl, h3, x4, u4, rfl, h4, x5, u5, rfl, h5, x6, u6, rfl, h6, h0⟩ := hv
  refine ⟨_, rfl, x1, _, rfl, h1, x2, _, rfl, h2, x3, _, rfl, h3, x4, _, rfl, h4, x5, _, rfl, h5, x6, _, rfl, ?_, h0⟩
  refine rel_slc_imp (n := 1) (fun i hi v hv => ?_) h6
  obtain rfl : i = 0 := by omega
  exact hv
theorem f3 (hT : Tab G) (m : Nat) (x : Ex) (s : ByteArray) (L : List Fc) (hx : ht x ≤ m) (hw : wfE x) (hss : s.size ≤ 9223372036854775807) (hl : L.length ≤ 9223372036854775807) (hw2 : ∀ i, i < L.length → FcW (L.getD i fc0)) : FnOK Tryz.prog G 3 [exD m x, ds s, fcsD L] (db true) := by
  have e : rdE (exV x.k x.s x.n x.d x.pos x.kids.length (lay (exG m) x.kids)) = x := rdE_eq hx
  have hx2 : ∀ k, ht (opX k x) ≤ m + 1 := fun k => by rw [opX_ht]; omega
  have e2 : ∀ k, rdE (exV (opX k x).k (opX k x).s (opX k x).n (opX k x).d (opX k x).pos 1 (lay (exG (m + 1)) (opX k x).kids)) = opX k x := fun k => rdE_eq (m := m + 1) (x := opX k x) (hx2 k)
  refine FnOK.walkK (orc := orcOp m x L) (keep := []) follows Tryz.func3 rfl Tryz.call3 ?_
  refine of_eqH9 (rdE (DV.agg [DV.con (Value.int IntKind.i64 (Ex.k (opX (18 : Int) x))), DV.con (Value.string (Ex.s (opX (18 : Int) x))), DV.con (Value.int IntKind.i64 (Ex.n (opX (18 : Int) x))), DV.con (Value.int IntKind.i64 (Ex.d (opX (18 : Int) x))), DV.con (Value.int IntKind.i64 (Ex.pos (opX (18 : Int) x))), DV.slc (6 : Nat) (1 : Nat) (lay (exG (m + (1 : Nat))) (Ex.kids (opX (18 : Int) x)))])) (rdE (DV.agg [DV.con (Value.int IntKind.i64 (Ex.k (opX (5 : Int) x))), DV.con (Value.string (Ex.s (opX (5 : Int) x))), DV.con (Value.int IntKind.i64 (Ex.n (opX (5 : Int) x))), DV.con (Value.int IntKind.i64 (Ex.d (opX (5 : Int) x))), DV.con (Value.int IntKind.i64 (Ex.pos (opX (5 : Int) x))), DV.slc (6 : Nat) (1 : Nat) (lay (exG (m + (1 : Nat))) (Ex.kids (opX (5 : Int) x)))])) (Prod.fst (bdsR L (rdE (ndX m x)))) ((.agg [(di (Ex.k (opX (18 : Int) x))), (ds (Ex.s (opX (18 : Int) x))), (di (Ex.n (opX (18 : Int) x))), (di (Ex.d (opX (18 : Int) x))), (di (Ex.pos (opX (18 : Int) x))), (.slc 6 1 (lay (exG (m + (1 : Nat))) (Ex.kids (opX (18 : Int) x))))]) : DV) ((.agg [(di (Ex.k (opX (5 : Int) x))), (ds (Ex.s (opX (5 : Int) x))), (di (Ex.n (opX (5 : Int) x))), (di (Ex.d (opX (5 : Int) x))), (di (Ex.pos (opX (5 : Int) x))), (.slc 6 1 (lay (exG (m + (1 : Nat))) (Ex.kids (opX (5 : Int) x))))]) : DV) ((.slc 7 (List.length L) (fcF L)) : DV) ((.slc 6 1 (elemF true 6 [(di (Ex.k x)), (ds (Ex.s x)), (di (Ex.n x)), (di (Ex.d x)), (di (Ex.pos x)), (.slc 6 (List.length (Ex.kids x)) (lay (exG m) (Ex.kids x)))])) : DV) (!fewX x L || decide ((↑(ByteArray.size s) : Int) > (40 : Int)) || decide ((↑(ht x) : Int) + (1 : Int) ≥ (32 : Int))) (trdR L (rdE (ndX m x)) s == (1 : Int)) (fun Za Zb Zc Zd Ze Zf Zg Zh Zi => (FnOK Tryz.prog G 10 [] (db true) ∧ (((false = true) → (((db false) : DV) = (db true))) ∧ ((false = false) → ((FnOK Tryz.prog G 11 [(ndX m x), Zf] (db (fewX x L)) ∧ (((!(!fewX x L || decide ((↑(ByteArray.size s) : Int) > (40 : Int)))) = true) → FnOK Tryz.prog G 12 [(ndX m x)] (di ((↑(ht x) : Int) + (1 : Int))))) ∧ (((Zh = true) → (((db true) : DV) = (db true))) ∧ ((Zh = false) → (FnOK Tryz.prog G 13 [(ndX m x), Zf] (.tup [(di (Prod.fst (typR L (rdE (ndX m x))))), (di (Prod.fst (Prod.snd (typR L (rdE (ndX m x)))))), (di (Prod.snd (Prod.snd (typR L (rdE (ndX m x))))))]) ∧ ((((Prod.snd (Prod.snd (typR L (rdE (ndX m x)))) != (0 : Int) || Prod.fst (typR L (rdE (ndX m x))) == (2 : Int)) = true) → (((db true) : DV) = (db true))) ∧ (((Prod.snd (Prod.snd (typR L (rdE (ndX m x)))) != (0 : Int) || Prod.fst (typR L (rdE (ndX m x))) == (2 : Int)) = false) → ((((Prod.fst (typR L (rdE (ndX m x))) == (1 : Int)) = true) → (FnOK Tryz.prog G 14 [(di 18), Zg] Zd ∧ ((FnOK Tryz.prog G 15 [(ndX m x), (ds s), Zf] (di (trdR L (rdE (ndX m x)) s)) ∧ FnOK Tryz.prog G 15 [Zd, (ds s), Zf] (di (trdR L Za s))) ∧ (FnOK Tryz.prog G 13 [Zd, Zf] (.tup [(di (Prod.fst (typR L Za))), (di (Prod.fst (Prod.snd (typR L Za)))), (di (Prod.snd (Prod.snd (typR L Za))))]) ∧ ((((Prod.snd (Prod.snd (typR L Za)) != (0 : Int) || Prod.fst (typR L Za) != Prod.fst (typR L (rdE (ndX m x))) || !Zi == (trdR L Za s == (2 : Int)) || !(trdR L (rdE (ndX m x)) s == (2 : Int)) == (trdR L Za s == (1 : Int)) || !(trdR L (rdE (ndX m x)) s == (0 : Int)) == (trdR L Za s == (0 : Int))) = true) → (((db false) : DV) = (db true))) ∧ (((Prod.snd (Prod.snd (typR L Za)) != (0 : Int) || Prod.fst (typR L Za) != Prod.fst (typR L (rdE (ndX m x))) || !Zi == (trdR L Za s == (2 : Int)) || !(trdR L (rdE (ndX m x)) s == (2 : Int)) == (trdR L Za s == (1 : Int)) || !(trdR L (rdE (ndX m x)) s == (0 : Int)) == (trdR L Za s == (0 : Int))) = false) → (FnOK Tryz.prog G 16 [(ndX m x), Zf] (.tup [(.agg [(di (Bd.a Zc)), (di (Bd.b Zc))]), (.agg [(di (Bd.c Zc)), (di (Bd.d Zc))]), (db (Prod.snd (bdsR L (rdE (ndX m x)))))]) ∧ (FnOK Tryz.prog G 16 [Zd, Zf] (.tup [(.agg [(di (Bd.a (Prod.fst (bdsR L Za)))), (di (Bd.b (Prod.fst (bdsR L Za))))]), (.agg [(di (Bd.c (Prod.fst (bdsR L Za)))), (di (Bd.d (Prod.fst (bdsR L Za))))]), (db (Prod.snd (bdsR L Za)))]) ∧ (((((Prod.snd (bdsR L (rdE (ndX m x))) == Prod.snd (bdsR L Za) && !!Prod.snd (bdsR L (rdE (ndX m x)))) = true) → FnOK Tryz.prog G 17 [(.agg [(di (Bd.c Zc)), (di (Bd.d Zc))])] (.agg [(di (neN (Bd.c Zc) (Bd.d Zc))), (di (Bd.d Zc))])) ∧ (((Prod.snd (bdsR L (rdE (ndX m x))) == Prod.snd (bdsR L Za) && !!Prod.snd (bdsR L (rdE (ndX m x))) && Bool.rec false (Bd.b (Prod.fst (bdsR L Za)) == Bd.d Zc) (Bd.a (Prod.fst (bdsR L Za)) == neN (Bd.c Zc) (Bd.d Zc))) = true) → FnOK Tryz.prog G 17 [(.agg [(di (Bd.a Zc)), (di (Bd.b Zc))])] (.agg [(di (neN (Bd.a Zc) (Bd.b Zc))), (di (Bd.b Zc))]))) ∧ (((db (Prod.snd (bdsR L (rdE (ndX m x))) == Prod.snd (bdsR L Za) && (!Prod.snd (bdsR L (rdE (ndX m x))) || Bool.rec false (Bd.b (Prod.fst (bdsR L Za)) == Bd.d Zc) (Bd.a (Prod.fst (bdsR L Za)) == neN (Bd.c Zc) (Bd.d Zc)) && Bool.rec false (Bd.d (Prod.fst (bdsR L Za)) == Bd.b Zc) (Bd.c (Prod.fst (bdsR L Za)) == neN (Bd.a Zc) (Bd.b Zc))))) : DV) = (db true))))))))))) ∧ (((Prod.fst (typR L (rdE (ndX m x))) == (1 : Int)) = false) → (FnOK Tryz.prog G 14 [(di 5), Zg] Ze ∧ ((FnOK Tryz.prog G 15 [(ndX m x), (ds s), Zf] (di (trdR L (rdE (ndX m x)) s)) ∧ FnOK Tryz.prog G 15 [Ze, (ds s), Zf] (di (trdR L Zb s))) ∧ (FnOK Tryz.prog G 13 [Ze, Zf] (.tup [(di (Prod.fst (typR L Zb))), (di (Prod.fst (Prod.snd (typR L Zb)))), (di (Prod.snd (Prod.snd (typR L Zb))))]) ∧ ((((Prod.snd (Prod.snd (typR L Zb)) != (0 : Int) || Prod.fst (typR L Zb) != Prod.fst (typR L (rdE (ndX m x))) || !Zi == (trdR L Zb s == (2 : Int)) || !(trdR L (rdE (ndX m x)) s == (2 : Int)) == (trdR L Zb s == (1 : Int)) || !(trdR L (rdE (ndX m x)) s == (0 : Int)) == (trdR L Zb s == (0 : Int))) = true) → (((db false) : DV) = (db true))) ∧ (((Prod.snd (Prod.snd (typR L Zb)) != (0 : Int) || Prod.fst (typR L Zb) != Prod.fst (typR L (rdE (ndX m x))) || !Zi == (trdR L Zb s == (2 : Int)) || !(trdR L (rdE (ndX m x)) s == (2 : Int)) == (trdR L Zb s == (1 : Int)) || !(trdR L (rdE (ndX m x)) s == (0 : Int)) == (trdR L Zb s == (0 : Int))) = false) → (FnOK Tryz.prog G 16 [(ndX m x), Zf] (.tup [(.agg [(di (Bd.a Zc)), (di (Bd.b Zc))]), (.agg [(di (Bd.c Zc)), (di (Bd.d Zc))]), (db (Prod.snd (bdsR L (rdE (ndX m x)))))]) ∧ (FnOK Tryz.prog G 16 [Ze, Zf] (.tup [(.agg [(di (Bd.a (Prod.fst (bdsR L Zb)))), (di (Bd.b (Prod.fst (bdsR L Zb))))]), (.agg [(di (Bd.c (Prod.fst (bdsR L Zb)))), (di (Bd.d (Prod.fst (bdsR L Zb))))]), (db (Prod.snd (bdsR L Zb)))]) ∧ (((((Prod.snd (bdsR L (rdE (ndX m x))) == Prod.snd (bdsR L Zb) && !!Prod.snd (bdsR L (rdE (ndX m x)))) = true) → FnOK Tryz.prog G 17 [(.agg [(di (Bd.c Zc)), (di (Bd.d Zc))])] (.agg [(di (neN (Bd.c Zc) (Bd.d Zc))), (di (Bd.d Zc))])) ∧ (((Prod.snd (bdsR L (rdE (ndX m x))) == Prod.snd (bdsR L Zb) && !!Prod.snd (bdsR L (rdE (ndX m x))) && Bool.rec false (Bd.b (Prod.fst (bdsR L Zb)) == Bd.d Zc) (Bd.a (Prod.fst (bdsR L Zb)) == neN (Bd.c Zc) (Bd.d Zc))) = true) → FnOK Tryz.prog G 17 [(.agg [(di (Bd.a Zc)), (di (Bd.b Zc))])] (.agg [(di (neN (Bd.a Zc) (Bd.b Zc))), (di (Bd.b Zc))]))) ∧ (((db (Prod.snd (bdsR L (rdE (ndX m x))) == Prod.snd (bdsR L Zb) && (!Prod.snd (bdsR L (rdE (ndX m x))) || Bool.rec false (Bd.b (Prod.fst (bdsR L Zb)) == Bd.d Zc) (Bd.a (Prod.fst (bdsR L Zb)) == neN (Bd.c Zc) (Bd.d Zc)) && Bool.rec false (Bd.d (Prod.fst (bdsR L Zb)) == Bd.b Zc) (Bd.c (Prod.fst (bdsR L Zb)) == neN (Bd.a Zc) (Bd.b Zc))))) : DV) = (db true)))))))))))))))))))))) (by kernel_rfl) ?_
  refine ⟨f10 hT, fun h => (by cases h), fun _ => ?_⟩
  cases hfw : fewX x L with
  | false =>
    simp only [hfw]
    refine ⟨⟨?_, fun h => (by cases h)⟩, fun _ => trivial, fun h => (by cases h)⟩
    have := f11 (G := G) m x L hx hw hl hw2
    rw [hfw] at this; exact this
  | true =>
  have hfx := hfw
  unfold fewX at hfx
  rw [Bool.and_eq_true] at hfx
  have hs : Sm x := few_sm (by omega) hw hfx.1
  have hnd := few_nds (by omega) x hw hfx.1
  obtain ⟨hF, hL16⟩ := fcs_of_few hfx.2
  have h11 := f11 (G := G) m x L hx hw hl hw2
  simp only [e, hfw]
  rw [hfw] at h11
  refine ⟨⟨h11, fun _ => f12 m x hx hs⟩, fun _ => trivial, fun h1 => ⟨f13 hT m x L hx hs hF (by omega), fun _ => trivial, fun h2 => ?_⟩⟩
  simp only [Bool.not_true, Bool.false_or, Bool.or_eq_false_iff, decide_eq_false_iff_not, bne_eq_false_iff_eq, beq_eq_false_iff_ne, ne_eq] at h1 h2
  obtain ⟨hvb, hfit, hsn, hty, ht3⟩ := typ_ok h2.1
  have hv := vf_of hvb
  have hrange := ty_range hv hsn hty
  have h20 := h2.2
  rw [ht3] at h20
  have h20 : ¬ (tyW L x).1 = 2 := h20
  have key : ∀ k, k = 5 ∧ (tyW L x).1 = 0 ∨ k = 18 ∧ (tyW L x).1 = 1 → Sm (opX k x) ∧ typR L (opX k x) = ((tyW L x).1, 0, 0) ∧ ((trdR L x s == 1) = (trdR L (opX k x) s == 2)) ∧ ((trdR L x s == 2) = (trdR L (opX k x) s == 1)) ∧ ((trdR L x s == 0) = (trdR L (opX k x) s == 0))
      ∧ (bdsR L (opX k x)).2 = (bdsR L x).2 ∧ ((bdsR L x).2 = true → (bdsR L (opX k x)).1 = ⟨neN (bdsR L x).1.c (bdsR L x).1.d, (bdsR L x).1.d, neN (bdsR L x).1.a (bdsR L x).1.b, (bdsR L x).1.b⟩) := fun k hk => by
    have hk2 : k = 5 ∨ k = 18 := by omega
    have hf2 := opX_fit hk2 hfit (by omega) (by omega)
    have hty2 : tyW L (opX k x) = ((tyW L x).1, 0, 0) := opX_ty hty hk
    have hsz : ¬ (fmtX (opX k x)).size = 0 := by
      unfold fmtX
      rw [if_pos hf2]
      have := fmt_pos hf2
      omega
    have ht2 : typR L (opX k x) = ((tyW L x).1, 0, 0) := by
      unfold typR
      rw [if_neg (by rw [hvb, decide_eq_false hsz]; decide), hty2, if_neg (by simp)]
    have ho := opX_occ hk2 s x
    refine ⟨⟨?_, ?_⟩, ht2, ?_⟩
    · simp only [opX, nds, ndsL]; omega
    · simp only [opX, txE, txL]; exact ⟨by decide, hs.tx, trivial⟩
    have htr : trdR L (opX k x) s = if ((tyW L x).1 == 2) = true then 3 else if (!fH (revF L L.length) (.string s)) = true then 3 else if (!occE s x) = true then 0 else if ((fM (revF L L.length) (.string s)).kind == 2) = true then 3 else oppI (trE (revF L L.length) s x) := by
      unfold trdR
      rw [ht2, ho]
      simp only [bne_self_eq_false, Bool.false_or]
      by_cases hoc : occE s x = true
      · rw [opX_tr hk2 _ _ _ hoc]
      · simp only [Bool.not_eq_true] at hoc
        rw [hoc]; rfl
    have htr0 : trdR L x s = if ((tyW L x).1 == 2) = true then 3 else if (!fH (revF L L.length) (.string s)) = true then 3 else if (!occE s x) = true then 0 else if ((fM (revF L L.length) (.string s)).kind == 2) = true then 3 else trE (revF L L.length) s x := by
      unfold trdR
      rw [ht3]
      simp only [bne_self_eq_false, Bool.false_or]
    have hrel : ∀ a b : Int, (a = 3 ∧ b = 3 ∨ a = 0 ∧ b = 0 ∨ b = oppI a) → ((a == 1) = (b == 2)) ∧ ((a == 2) = (b == 1)) ∧ ((a == 0) = (b == 0)) := by
      intro a b h
      rcases h with ⟨rfl, rfl⟩ | ⟨rfl, rfl⟩ | rfl
      · decide
      · decide
      · unfold oppI
        by_cases h1 : a = 1
        · subst h1; decide
        · by_cases h2 : a = 2
          · subst h2; decide
          · rw [if_neg h1, if_neg h2, beq_eq_false_iff_ne.2 h1, beq_eq_false_iff_ne.2 h2]
            exact ⟨rfl, rfl, rfl⟩
    have hr := hrel (trdR L x s) (trdR L (opX k x) s) (by
      rw [htr, htr0]
      repeat' split
      all_goals first
        | exact .inl ⟨rfl, rfl⟩
        | exact .inr (.inl ⟨rfl, rfl⟩)
        | exact .inr (.inr rfl))
    refine ⟨hr.1, hr.2.1, hr.2.2, ?_⟩
    unfold bdsR
    rw [ht2, ht3]
    simp only [bne_self_eq_false, Bool.false_or]
    rcases hk with ⟨rfl, h0⟩ | ⟨rfl, h1⟩
    · obtain ⟨b1, b2⟩ := opX_bn hv hsn hty h0
      rw [h0]
      simp only [bne_self_eq_false, Bool.false_eq_true, if_false]
      rw [b1]
      cases hb : (bnE (revF L L.length) x).2 with
      | true =>
        rw [if_pos rfl, if_pos rfl]
        exact ⟨by rw [b1], fun _ => b2 hb⟩
      | false =>
        rw [if_neg (by decide), if_neg (by decide)]
        exact ⟨rfl, fun h => by cases h⟩
    · rw [h1, if_pos (by decide), if_pos (by decide)]
      exact ⟨rfl, fun h => by cases h⟩
  simp only [e2]
  have hfin : ∀ k, k = 5 ∧ (tyW L x).1 = 0 ∨ k = 18 ∧ (tyW L x).1 = 1 → FnOK Tryz.prog G 15 [exD m x, ds s, fcsD L] (di (trdR L x s)) ∧ FnOK Tryz.prog G 15 [exD (m + 1) (opX k x), ds s, fcsD L] (di (trdR L (opX k x) s)) ∧ FnOK Tryz.prog G 13 [exD (m + 1) (opX k x), fcsD L] (.tup [di (typR L (opX k x)).1, di (typR L (opX k x)).2.1, di (typR L (opX k x)).2.2]) ∧
      FnOK Tryz.prog G 16 [exD m x, fcsD L] (.tup [fr (bdsR L x).1.a (bdsR L x).1.b, fr (bdsR L x).1.c (bdsR L x).1.d, db (bdsR L x).2]) ∧ FnOK Tryz.prog G 16 [exD (m + 1) (opX k x), fcsD L] (.tup [fr (bdsR L (opX k x)).1.a (bdsR L (opX k x)).1.b, fr (bdsR L (opX k x)).1.c (bdsR L (opX k x)).1.d, db (bdsR L (opX k x)).2]) := fun k hk => by
    have hs2 := (key k hk).1
    exact ⟨f15 hT m x s L hx hs hF (by omega), f15 hT (m + 1) (opX k x) s L (hx2 k) hs2 hF (by omega), f13 hT (m + 1) (opX k x) L (hx2 k) hs2 hF (by omega), f16 hT m x L hx hs hF (by omega), f16 hT (m + 1) (opX k x) L (hx2 k) hs2 hF (by omega)⟩
  have hty1 : (typR L x).1 = (tyW L x).1 := by rw [ht3]
  rw [hty1]
  refine ⟨fun h3 => ?_, fun h3 => ?_⟩
  · have h3 : (tyW L x).1 = 1 := by simpa using h3
    obtain ⟨_, p1, p2, p3, p4, p5, p6⟩ := key 18 (.inr ⟨rfl, h3⟩)
    obtain ⟨q1, q2, q3, q4, q5⟩ := hfin 18 (.inr ⟨rfl, h3⟩)
    refine ⟨opX_node 18 m x, ⟨q1, q2⟩, q3, fun h4 => ?_, fun h4 => ⟨q4, q5, ?_⟩⟩
    · exfalso
      rw [p1, p2, p3, p4] at h4
      simp at h4
    · refine ⟨⟨fun _ => f17 _ _, fun _ => f17 _ _⟩, congrArg db ?_⟩
      rw [p5]
      cases hb : (bdsR L x).2 with
      | false => rfl
      | true => rw [p6 hb]; simp
  · have h3 : (tyW L x).1 = 0 := by
      have : ¬ (tyW L x).1 = 1 := by simpa using h3
      omega
    obtain ⟨_, p1, p2, p3, p4, p5, p6⟩ := key 5 (.inl ⟨rfl, h3⟩)
    obtain ⟨q1, q2, q3, q4, q5⟩ := hfin 5 (.inl ⟨rfl, h3⟩)
    refine ⟨opX_node 5 m x, ⟨q1, q2⟩, q3, fun h4 => ?_, fun h4 => ⟨q4, q5, ?_⟩⟩
    · exfalso
      rw [p1, p2, p3, p4] at h4
      simp at h4
    · refine ⟨⟨fun _ => f17 _ _, fun _ => f17 _ _⟩, congrArg db ?_⟩
      rw [p5]
      cases hb : (bdsR L x).2 with
      | false => rfl
      | true => rw [p6 hb]; simp
end Go.Proofs
