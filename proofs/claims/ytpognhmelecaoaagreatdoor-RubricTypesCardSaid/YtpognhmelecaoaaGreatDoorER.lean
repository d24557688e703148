import Derived.Test.YtpognhmelecaoaaGreatDoorAcD
import Derived.Test.YtpognhmelecaoaaGreatDoorEN
set_option autoImplicit false
namespace Go.Proofs
open Go Go.Ab Go.RowKit
set_option maxHeartbeats 4000000
set_option maxRecDepth 100000
variable {G : IH}
/-! The reference's parts: common kinds, words, comparable. -/
noncomputable def S112 (l : List Int) (k : Nat) : AS := ⟨regs Tryz.f112.ntmps [(0, .d (inD l)), (3, vi (if k = 0 then -1 else l.getD (k - 1) 0)), (4, vi k)], []⟩
theorem f112 (l : List Int) (hl : l.length ≤ 100000) : FnOK Tryz.prog G 112 [inD l] (di (shI l)) := by
  refine FnOK.walk (orc := noO) (keep := []) follows Tryz.func112 rfl Tryz.call112 ?_
  refine of_tr (fun ZT ZW ZQ _ => ZW [cd Tryz.f112 [1, 1, 0, 1, 0], (.blk 0), cd Tryz.f112 [1, 1, 1]] (stS ZT []) ZQ) (by kernel_rfl) ?_
  refine AWP.loop (c := cAt (bodyOf Tryz.f112) [1, 1, 0, 1, 0, 0]) (by kernel_rfl) (S112 l) (fun k => k ≤ l.length ∧ ∀ i, i < k → l.getD i 0 = l.getD 0 0) (fun k => l.length - k) 0 ?_ ⟨Nat.zero_le _, fun i hi => absurd hi (Nat.not_lt_zero _)⟩ ?_
  · refine AS.leZ [1] [] (b := ((T0 ∧ ((vi (-1)) : AV) = (vi (if 0 = 0 then -1 else l.getD (0 - 1) 0)) ∧ T0 ∧ True) ∧ True)) (by kernel_rfl) (by kernel_rfl) ?_
    exact ⟨⟨rfl, rfl, rfl, trivial⟩, trivial⟩
  · rintro k ⟨hk, hkd⟩
    have hcur : k ≠ 0 → (if k = 0 then (-1 : Int) else l.getD (k - 1) 0) = l.getD 0 0 := fun h => by rw [if_neg h]; exact hkd _ (by omega)
    generalize hA : (if k = 0 then (-1 : Int) else l.getD (k - 1) 0) = A at hcur
    have hS : S112 l k = ⟨regs Tryz.f112.ntmps [(0, .d (inD l)), (3, vi A), (4, vi k)], []⟩ := by unfold S112; rw [hA]
    rw [hS]
    refine walk (orc := noO) (keep := []) (cuts := []) (n := 1000) follows ?_
    refine of_rd (fun ZT ZW ZQ _ ZA _ => ((((decide ((↑k : Int) < ↑l.length)) = true) → ((((decide ((↑k : Int) > 0)) = true) → ((0 ≤ (↑k : Int)) ∧ ((↑k : Int) < ↑l.length))) ∧ (((decide ((↑k : Int) > 0) && l.getD (↑k : Int).toNat 0 != A) = true) → (((di (-1)) : DV) = (di (shI l)))) ∧ (((decide ((↑k : Int) > 0) && l.getD (↑k : Int).toNat 0 != A) = false) → (((0 ≤ (↑k : Int)) ∧ ((↑k : Int) < ↑l.length)) ∧ (I64 (↑k + 1)) ∧ (ZA (stS ZT [0, 1])))))) ∧ (((decide ((↑k : Int) < ↑l.length)) = false) → ZW [cd Tryz.f112 [1, 1, 1]] (stS ZT [1]) ZQ))) (by kernel_rfl) ?_
    simp only [Int.toNat_natCast]
    have hfin : (∀ i, i < l.length → l.getD i 0 = l.getD 0 0) → shI l = if l.length = 0 then -1 else l.getD 0 0 := fun hh => by
      cases l with
      | nil => rfl
      | cons a l =>
        show (if allK l a = true then a else -1) = a
        rw [if_pos]
        unfold allK
        rw [Bool.not_eq_true', List.any_eq_false]
        intro b hb
        obtain ⟨i, hi, rfl⟩ := List.getElem_of_mem hb
        have := hh (i + 1) (by simpa using hi)
        simp only [List.getD_cons_succ, List.getD_cons_zero] at this
        rw [List.getD, List.getElem?_eq_getElem hi] at this
        simpa using this
    have hbad : k < l.length → k ≠ 0 → l.getD k 0 ≠ A → shI l = -1 := fun h1 h2 h3 => by
      rw [hcur h2] at h3
      cases l with
      | nil => rfl
      | cons a l =>
        show (if allK l a = true then a else -1) = -1
        rw [if_neg]
        intro hh
        have := allK_get hh (i := k - 1) (by simp at h1; omega)
        apply h3
        obtain ⟨j, rfl⟩ : ∃ j, k = j + 1 := ⟨k - 1, by omega⟩
        simpa using this
    refine ⟨fun h => ?_, fun h => ?_⟩
    · have hk2 : k < l.length := by have := of_decide_eq_true h; omega
      refine ⟨fun h2 => ⟨by omega, by omega⟩, fun h2 => ?_, fun h2 => ⟨⟨by omega, by omega⟩, ⟨by omega, by omega⟩, Again.mk (k + 1) ?_ ⟨hk2, fun i hi => ?_⟩ (by omega)⟩⟩
      · simp only [Bool.and_eq_true, decide_eq_true_eq, bne_iff_ne, ne_eq] at h2
        rw [hbad hk2 (by omega) h2.2]
      · refine AS.leZ [1] [] (b := ((T0 ∧ ((vi (l.getD (↑k : Int).toNat 0)) : AV) = (vi (if k + 1 = 0 then -1 else l.getD (k + 1 - 1) 0)) ∧ T0 ∧ True) ∧ True)) (by kernel_rfl) (by kernel_rfl) ?_
        exact ⟨⟨rfl, rfl, rfl, trivial⟩, trivial⟩
      · rcases Nat.lt_or_ge i k with h4 | h4
        · exact hkd i h4
        · obtain rfl : i = k := by omega
          by_cases h0 : i = 0
          · subst h0; rfl
          · rw [← hcur h0]
            simp only [Bool.and_eq_false_iff, decide_eq_false_iff_not, bne_eq_false_iff_eq] at h2
            rcases h2 with h2 | h2
            · omega
            · exact h2
    · have h := of_decide_eq_false h
      obtain rfl : k = l.length := by omega
      rw [hfin hkd]
      by_cases h0 : l.length = 0
      · rw [if_pos h0] at hA
        refine walk (orc := noO) (keep := []) (cuts := []) (n := 1000) follows ?_
        refine of_tr (fun _ _ _ _ => (((di A) : DV) = (di (if l.length = 0 then -1 else l.getD 0 0)))) (by kernel_rfl) ?_
        rw [if_pos h0, hA]
      · refine walk (orc := noO) (keep := []) (cuts := []) (n := 1000) follows ?_
        refine of_tr (fun _ _ _ _ => (((di A) : DV) = (di (if l.length = 0 then -1 else l.getD 0 0)))) (by kernel_rfl) ?_
        rw [if_neg h0, hcur h0]
noncomputable def orcWd (L : List Fc) : Oracle := fun f a => match f, a with
  | 55, [_, .con (.string s)] => some (di (fndI L s))
  | _, _ => none
theorem f141 (L : List Fc) (m : Nat) (x : Ex) (hl : L.length ≤ 100000) : FnOK Tryz.prog G 141 [exD m x, fcsD L] (wdD (wdsR L x)) := by
  by_cases h : (x.k == 2 && decide (fndI L x.s ≥ 0)) = true
  · have hw : wdsR L x = (L.getD (fndI L x.s).toNat fc0).words := by unfold wdsR; rw [if_pos h]
    rw [hw]
    refine FnOK.walk (orc := orcWd L) (keep := []) follows Tryz.func141 rfl Tryz.call141 ?_
    refine of_tr (fun _ _ _ ZK => (ZK 55 [(.slc 7 L.length (fcF L)), (ds x.s)] (di (fndI L x.s)) ∧ (((x.k == 2 && decide (fndI L x.s ≥ 0)) = true) → (((0 ≤ fndI L x.s) ∧ (fndI L x.s < ↑L.length)) ∧ (ZS ((wdD (L.getD (fndI L x.s).toNat fc0).words) : DV)))) ∧ (((x.k == 2 && decide (fndI L x.s ≥ 0)) = false) → (((.con (.slice none 0 0)) : DV) = (wdD (L.getD (fndI L x.s).toNat fc0).words))))) (by kernel_rfl) ?_
    refine ⟨f55 L x.s hl, fun h1 => ⟨?_, rfl⟩, fun h1 => ?_⟩
    · simp only [Bool.and_eq_true, decide_eq_true_eq] at h1
      have := (fnd_hit h1.2).1
      have := h1.2
      omega
    · rw [h] at h1; cases h1
  · have hw : wdsR L x = [] := by unfold wdsR; rw [if_neg h]
    rw [hw]
    refine FnOK.res (r := .con (.slice none 0 0)) ?_ (fun k v hv => nil_slc hv)
    refine FnOK.walk (orc := orcWd L) (keep := []) follows Tryz.func141 rfl Tryz.call141 ?_
    refine of_tr (fun _ _ _ ZK => (ZK 55 [(.slc 7 L.length (fcF L)), (ds x.s)] (di (fndI L x.s)) ∧ (((x.k == 2 && decide (fndI L x.s ≥ 0)) = true) → (((0 ≤ fndI L x.s) ∧ (fndI L x.s < ↑L.length)) ∧ ((.slc 1 (L.getD (fndI L x.s).toNat fc0).words.length (stF (L.getD (fndI L x.s).toNat fc0).words)) : DV) = (.con (.slice none 0 0)))) ∧ (((x.k == 2 && decide (fndI L x.s ≥ 0)) = false) → (ZS ((.con (.slice none 0 0)) : DV))))) (by kernel_rfl) ?_
    refine ⟨f55 L x.s hl, fun h1 => absurd h1 h, fun h1 => ?_⟩
    trivial
noncomputable def orcCp (L : List Fc) : Oracle := fun f a => match f, a with
  | 141, [e, _] => some (wdD (wdsR L (rdE e)))
  | 56, [w, .con (.string s)] => some (db (anyB (rdW w) s))
  | _, _ => none
noncomputable def S113c (L : List Fc) (a b : List ByteArray) (k : Nat) : AS := ⟨regs Tryz.f113.ntmps [(7, .d (wdD a)), (8, .d (wdD b)), (9, vi k)], []⟩
theorem f113 (L : List Fc) (m m' : Nat) (x y : Ex) (hx : ht x ≤ m) (hy : ht y ≤ m') (hl : L.length ≤ 100000) (hw : ∀ f ∈ L, f.words.length ≤ 100000) : FnOK Tryz.prog G 113 [exD m x, exD m' y, fcsD L] (db (cpR (wdsR L x) (wdsR L y) x.s y.s)) := by
  have ex : rdE (exV x.k x.s x.n x.d x.pos x.kids.length (lay (exG m) x.kids)) = x := rdE_eq hx
  have ey : rdE (exV y.k y.s y.n y.d y.pos y.kids.length (lay (exG m') y.kids)) = y := rdE_eq hy
  have hlen : ∀ z : Ex, (wdsR L z).length ≤ 100000 := fun z => by
    unfold wdsR
    split
    · rename_i h
      simp only [Bool.and_eq_true, decide_eq_true_eq] at h
      exact hw _ (getD_mem (fnd_hit h.2).1)
    · simp
  refine FnOK.walk (orc := orcCp L) (keep := []) follows Tryz.func113 rfl Tryz.call113 ?_
  refine of_eqH7 ((.slc 1 (wdsR L (rdE (ndX m x))).length (stF (wdsR L (rdE (ndX m x))))) : DV) ((.slc 1 (wdsR L (rdE (ndX m' y))).length (stF (wdsR L (rdE (ndX m' y))))) : DV) (↑(wdsR L (rdE (ndX m x))).length : Int) (rdW (DV.slc 1 (wdsR L (rdE (ndX m x))).length (stF (wdsR L (rdE (ndX m x)))))) (↑(wdsR L (rdE (ndX m' y))).length : Int) (rdW (DV.slc 1 (wdsR L (rdE (ndX m' y))).length (stF (wdsR L (rdE (ndX m' y)))))) (db (cpR (wdsR L x) (wdsR L y) x.s y.s)) (fun Za Zb Zc Zd Ze Zf Zg => ((FnOK Tryz.prog G 141 [(ndX m x), (.slc 7 L.length (fcF L))] Za ∧ FnOK Tryz.prog G 141 [(ndX m' y), (.slc 7 L.length (fcF L))] Zb) ∧ (((decide (Zc > 0) && decide (Ze > 0)) = true) → ((((Zc != ↑(wdsR L (rdE (ndX m' y))).length) = true) → (((db false) : DV) = Zg)) ∧ (((Zc != ↑(wdsR L (rdE (ndX m' y))).length) = false) → AWP Tryz.prog G [cd Tryz.f113 [1, 1, 0, 1, 0, 1, 0, 1, 0], (.blk 0), cd Tryz.f113 [1, 1, 0, 1, 0, 1, 1], cd Tryz.f113 [1, 1, 1]] ⟨regs 54 [(0, (.d (ndX m x))), (1, (.d (ndX m' y))), (2, (.d (.slc 7 L.length (fcF L)))), (3, (.box 3 0)), (4, (.box 4 0)), (6, (vb false)), (7, (.d Za)), (8, (.d Zb)), (9, (vi 0)), (10, (.d (ndX m x))), (11, (.d (.slc 7 L.length (fcF L)))), (12, (.d Za)), (13, (.d (ndX m' y))), (14, (.d (.slc 7 L.length (fcF L)))), (15, (.d Zb)), (16, (.d Za)), (17, (vi (↑(wdsR L (rdE (ndX m x))).length))), (18, (vb (decide (Zc > 0)))), (19, (vb (decide (Zc > 0)))), (23, (vb (decide (Zc > 0) && decide (Ze > 0)))), (24, (.d Za)), (25, (vi (↑(wdsR L (rdE (ndX m x))).length))), (26, (.d Zb)), (27, (vi (↑(wdsR L (rdE (ndX m' y))).length))), (28, (vb (Zc != ↑(wdsR L (rdE (ndX m' y))).length)))], [(4, [(vi y.k), (vs y.s), (vi y.n), (vi y.d), (vi y.pos), (.d (.slc 6 y.kids.length (lay (exG m') y.kids)))]), (3, [(vi x.k), (vs x.s), (vi x.n), (vi x.d), (vi x.pos), (.d (.slc 6 x.kids.length (lay (exG m) x.kids)))])]⟩ (Ret Tryz.prog Tryz.f113 Zg)))) ∧ (((decide (Zc > 0) && decide (Ze > 0)) = false) → ((FnOK Tryz.prog G 56 [Za, (ds y.s)] (db (anyB Zd y.s)) ∧ (((!anyB Zd y.s) = true) → FnOK Tryz.prog G 56 [Zb, (ds x.s)] (db (anyB Zf x.s)))) ∧ ((db (anyB Zd y.s || anyB Zf x.s)) : DV) = Zg)))) (by kernel_rfl) ?_
  simp only [ex, ey, rdW_eq]
  have h1 := hlen x
  have h2 := hlen y
  have f1 := f141 (G := G) L m x hl
  have f2 := f141 (G := G) L m' y hl
  generalize wdsR L x = a at *
  generalize wdsR L y = b at *
  have d1 : decide ((a.length : Int) > 0) = decide (a.length > 0) := by rw [decide_eq_decide]; omega
  have d2 : decide ((b.length : Int) > 0) = decide (b.length > 0) := by rw [decide_eq_decide]; omega
  rw [d1, d2]
  unfold cpR
  refine ⟨⟨f1, f2⟩, fun h => ⟨fun hne => ?_, fun heq => ?_⟩, fun h => ⟨⟨f56 a y.s (by omega), fun _ => f56 b x.s (by omega)⟩, ?_⟩⟩
  · rw [if_pos h, decide_eq_false]
    rintro rfl
    simp at hne
  · rw [if_pos h]
    have heq : a.length = b.length := by
      have h0 : (a.length : Int) = b.length := by simpa using heq
      omega
    refine AWP.loop (c := cAt (bodyOf Tryz.f113) [1, 1, 0, 1, 0, 1, 0, 1, 0, 0]) (by kernel_rfl) (S113c L a b) (fun k => k ≤ a.length ∧ ∀ i, i < k → a.getD i .empty = b.getD i .empty) (fun k => a.length - k) 0 ?_ ⟨Nat.zero_le _, fun i hi => absurd hi (Nat.not_lt_zero _)⟩ ?_
    · refine of_eq (b := ((((.d (.slc 1 a.length (stF a))) : AV) = (.d (.slc 1 a.length (stF a))) ∧ ((.d (.slc 1 b.length (stF b))) : AV) = (.d (.slc 1 b.length (stF b))) ∧ ((vi 0) : AV) = (vi 0) ∧ True) ∧ True)) (by kernel_rfl) ?_
      exact ⟨⟨rfl, rfl, rfl, trivial⟩, trivial⟩
    · rintro k ⟨hk, hkd⟩
      refine walk (orc := orcCp L) (keep := []) (cuts := []) (n := 1000) follows ?_
      refine of_rd (fun ZT ZW ZQ _ ZA _ => (fun Za => ((((decide ((↑k : Int) < ↑a.length)) = true) → ((((0 ≤ (↑k : Int)) ∧ ((↑k : Int) < ↑a.length)) ∧ (0 ≤ (↑k : Int)) ∧ ((↑k : Int) < ↑b.length)) ∧ ((Za = true) → (((db false) : DV) = (db (decide (a = b))))) ∧ ((Za = false) → ((I64 (↑k + 1)) ∧ (ZA (stS ZT [0, 1])))))) ∧ (((decide ((↑k : Int) < ↑a.length)) = false) → ZW [cd Tryz.f113 [1, 1, 0, 1, 0, 1, 1], cd Tryz.f113 [1, 1, 1]] (stS ZT [1]) ZQ))) (!(a.getD (↑k : Int).toNat ByteArray.empty).toList == (b.getD (↑k : Int).toNat ByteArray.empty).toList)) (by kernel_rfl) ?_
      simp only [Int.toNat_natCast, toList_beq, bne]
      refine ⟨fun h1 => ?_, fun h1 => ?_⟩
      · have hk2 : k < a.length := by have := of_decide_eq_true h1; omega
        refine ⟨⟨⟨by omega, by omega⟩, ⟨by omega, by omega⟩⟩, fun h3 => ?_, fun h3 => ⟨⟨by omega, by omega⟩, Again.mk (k + 1) ?_ ⟨hk2, fun i hi => ?_⟩ (by omega)⟩⟩
        · rw [decide_eq_false]
          rintro rfl
          simp at h3
        · exact AS.leA (by kernel_rfl)
        · rcases Nat.lt_or_ge i k with h4 | h4
          · exact hkd i h4
          · obtain rfl : i = k := by omega
            simpa using h3
      · have h1 := of_decide_eq_false h1
        refine walk (orc := orcCp L) (keep := []) (cuts := []) (n := 1000) follows ?_
        refine of_tr (fun _ _ _ _ => (((db true) : DV) = (db (decide (a = b))))) (by kernel_rfl) ?_
        rw [decide_eq_true (getD_ext heq fun i hi => hkd i (by omega))]
  · rw [if_neg (by rw [h]; decide)]
end Go.Proofs
set_option autoImplicit false
namespace Go.Proofs
open Go Go.Ab Go.RowKit
set_option maxHeartbeats 4000000
set_option maxRecDepth 100000
variable {G : IH}
/-! The reference's kind. -/
def nrK (r : KR) : KR := if r.2.2 ≠ 0 then (0, r.2) else (r.1, 0, 0)
noncomputable def orcKRd (L : List Fc) : Oracle := fun f a => match f, a with
  | 65, [e, _] => some (.tup [di (nrK (tyW L (rdE e))).1, di (nrK (tyW L (rdE e))).2.1, di (nrK (tyW L (rdE e))).2.2])
  | 112, [w] => some (di (shI (rdL w)))
  | 55, [_, .con (.string s)] => some (di (fndI L s))
  | 56, [w, .con (.string s)] => some (db (anyB (rdW w) s))
  | 113, [e, g, _] => some (db (cpR (wdsR L (rdE e)) (wdsR L (rdE g)) (rdE e).s (rdE g).s))
  | _, _ => none
noncomputable def orcKR (L : List Fc) : Orc := { d := orcKRd L, rows := fun n => Nat.beq n 15 }
noncomputable def S65 (L : List Fc) (m : Nat) (x : Ex) (k : Nat) : AS := ⟨regs Tryz.f65.ntmps [(1, .d (fcsD L)), (2, .box 2 0), (7, .vec 900 1 0 k), (8, vi k)], [(2, exC m x), (900, [.arr itK 1 (rowK (revF L L.length) (revW L L.length) x k)])]⟩
noncomputable def S65b (L : List Fc) (m : Nat) (x : Ex) (k : Nat) : AS := ⟨regs Tryz.f65.ntmps [(1, .d (fcsD L)), (2, .box 2 0), (14, vi k)], [(2, exC m x)]⟩
theorem f65 (L : List Fc) (hv : VF L) (hl : L.length ≤ 1000) (hw : ∀ f ∈ L, f.words.length ≤ 1000) (m : Nat) : ∀ (x : Ex), ht x ≤ m → Sm x → sndE x = true → FnOK Tryz.prog G 65 [exD m x, fcsD L] (.tup [di (nrK (tyW L x)).1, di (nrK (tyW L x)).2.1, di (nrK (tyW L x)).2.2]) := by
  induction m using Nat.strongRecOn with
  | _ m ih =>
  intro x hx hs hsn
  have hlen := hs.len.1
  have h65 : ∀ i, i < x.kids.length → FnOK Tryz.prog G 65 [kidA m x i, fcsD L] (.tup [di (nrK (tyW L (x.kids.getD i ex0))).1, di (nrK (tyW L (x.kids.getD i ex0))).2.1, di (nrK (tyW L (x.kids.getD i ex0))).2.2]) := fun i hi =>
    kidOK (Q := fun d => FnOK Tryz.prog G 65 [d, fcsD L] _) hx hi fun m' h1 h2 => ih m' h1 _ h2 (hs.kid hi) (snd_kid hsn hi)
  refine FnOK.walk (orc := orcKR L) (keep := []) follows Tryz.func65 rfl Tryz.call65 ?_
  refine of_tr (fun ZT ZW ZQ _ => ZW [cd Tryz.f65 [1, 1, 0, 1, 0], (.blk 0), cd Tryz.f65 [1, 1, 1]] (stS ZT []) ZQ) (by kernel_rfl) ?_
  refine AWP.pre (.moves [(15, 900)] _ rfl) ?_
  have ety0 : tyW L x = tyC (revF L L.length) (revW L L.length) x.k x.s x.pos (tyL (revF L L.length) (revW L L.length) x.kids) (x.kids.getD 0 ex0).s (x.kids.getD 1 ex0).s := tyE_eq _ _ x
  refine AWP.loop (c := cAt (bodyOf Tryz.f65) [1, 1, 0, 1, 0, 0]) (by kernel_rfl) (S65 L m x) (fun k => k ≤ x.kids.length ∧ ∀ i, i < k → (tyW L (x.kids.getD i ex0)).2.2 = 0) (fun k => x.kids.length - k) 0 ?_ ⟨Nat.zero_le _, fun i hi => absurd hi (Nat.not_lt_zero _)⟩ ?_
  · refine AS.leZ [] [1] (b := ((T0 ∧ T0 ∧ T0 ∧ T0 ∧ True) ∧ T0 ∧ ((some [(.arr ⟨false, 3, false, none⟩ 1 (fun x => DV.con undef))]) : (Option (List AV))) = (some [(.arr ⟨false, 3, false, none⟩ 1 (rowK (revF L L.length) (revW L L.length) x 0))]) ∧ True)) (by kernel_rfl) (by kernel_rfl) ?_
    exact ⟨⟨rfl, rfl, rfl, rfl, trivial⟩, rfl, rfl, trivial⟩
  · rintro k ⟨hk, hkd⟩
    refine walk (orc := orcKR L) (keep := []) (cuts := []) (n := 1000) follows ?_
    refine of_eqH4 (nrK (tyW L (rdE (ndA m (x.kids.getD (↑k : Int).toNat ex0))))) (x.kids.getD (↑k : Int).toNat ex0) ((.d (.slc 6 x.kids.length (lay (exG m) x.kids))) : AV) (decide ((↑k : Int) < ↑x.kids.length)) (fun Za Zb Zc Zd => (((Zd = true) → ((((0 ≤ (↑k : Int)) ∧ ((↑k : Int) < ↑x.kids.length)) ∧ FnOK Tryz.prog G 65 [(ndA m Zb), (.slc 7 L.length (fcF L))] (.tup [(di Za.fst), (di Za.snd.fst), (di Za.snd.snd)])) ∧ (((Za.snd.snd != 0) = true) → (((.tup [(di 0), (di Za.snd.fst), (di Za.snd.snd)]) : DV) = (.tup [(di (nrK (tyW L x)).fst), (di (nrK (tyW L x)).snd.fst), (di (nrK (tyW L x)).snd.snd)]))) ∧ (((Za.snd.snd != 0) = false) → (((((k + 1) * 8 ≤ 1099511627776) ∧ (k + 1 ≤ 1099511627776)) ∧ (∀ (i : Nat), i < 1 → elemOK false 1 (elemF false 1 [DV.con (Value.int IntKind.i64 Za.fst)] i) = true)) ∧ (I64 (↑k + 1)) ∧ Again (S65 L m x) (fun k => k ≤ x.kids.length ∧ ∀ (i : Nat), i < k → (tyW L (x.kids.getD i ex0)).snd.snd = 0) (fun k => x.kids.length - k) k ⟨regs 130 [(1, (.d (.slc 7 L.length (fcF L)))), (2, (.box 2 0)), (7, (.vec 41 1 0 (k + 1))), (8, (vi (↑k + 1))), (9, (vi Za.fst)), (10, (vi Za.snd.fst)), (11, (vi Za.snd.snd)), (16, (vi (↑k))), (17, (.box 2 5)), (18, Zc), (19, (vi (↑x.kids.length))), (20, (vb Zd)), (21, (vi (↑k))), (22, (vi (↑k + 1))), (23, (.d (.tup [(di Za.fst), (di Za.snd.fst), (di Za.snd.snd)]))), (24, (.box 2 5)), (25, Zc), (26, (vi (↑k))), (27, (.d (.ptr [(di Zb.k), (ds Zb.s), (di Zb.n), (di Zb.d), (di Zb.pos), (.slc 6 Zb.kids.length (exG m Zb.kids))]))), (28, (.d (ndA m Zb))), (29, (.d (.slc 7 L.length (fcF L)))), (30, (.d (.tup [(di Za.fst), (di Za.snd.fst), (di Za.snd.snd)]))), (31, (vi Za.fst)), (32, (vi Za.snd.fst)), (33, (vi Za.snd.snd)), (34, (vi Za.snd.snd)), (35, (vb (Za.snd.snd != 0))), (38, (.vec 900 1 0 k)), (39, (vi Za.fst)), (40, (.d (.slc 1 1 (elemF false 1 [(di Za.fst)])))), (41, (.vec 41 1 0 (k + 1)))], [(41, [(.arr ⟨false, 3, false, none⟩ 1 (fun i => bif i.blt k then rowK (revF L L.length) (revW L L.length) x k i else elemF false 1 [DV.con (Value.int IntKind.i64 Za.fst)] (i - k)))]), (2, [(vi x.k), (vs x.s), (vi x.n), (vi x.d), (vi x.pos), Zc]), (900, [.dead])]⟩)))) ∧ ((Zd = false) → AWP Tryz.prog G [cd Tryz.f65 [1, 1, 1]] ⟨regs 130 [(1, (.d (.slc 7 L.length (fcF L)))), (2, (.box 2 0)), (7, (.vec 900 1 0 k)), (8, (vi (↑k))), (16, (vi (↑k))), (17, (.box 2 5)), (18, Zc), (19, (vi (↑x.kids.length))), (20, (vb Zd))], [(2, [(vi x.k), (vs x.s), (vi x.n), (vi x.d), (vi x.pos), Zc]), (900, [(.arr ⟨false, 3, false, none⟩ 1 (rowK (revF L L.length) (revW L L.length) x k))])]⟩ (Ret Tryz.prog Tryz.f65 (DV.tup [di (nrK (tyW L x)).fst, di (nrK (tyW L x)).snd.fst, di (nrK (tyW L x)).snd.snd]))))) (by kernel_rfl) ?_
    simp only [Int.toNat_natCast]
    refine ⟨fun h => ?_, fun h => ?_⟩
    · have hk2 : k < x.kids.length := by have := of_decide_eq_true h; omega
      have er : rdE (kidA m x k) = x.kids.getD k ex0 := kid_rd hx hk2
      have hh := h65 k hk2
      have enr : nrK (tyW L (x.kids.getD k ex0)) = if (tyW L (x.kids.getD k ex0)).2.2 ≠ 0 then (0, (tyW L (x.kids.getD k ex0)).2) else ((tyW L (x.kids.getD k ex0)).1, 0, 0) := rfl
      simp only [er]
      refine ⟨⟨⟨by omega, by omega⟩, hh⟩, fun h2 => ?_, fun h2 => ⟨⟨⟨by omega, by omega⟩, fun i hi => (by obtain rfl : i = 0 := (by omega); rfl)⟩, ⟨by omega, by omega⟩, Again.mkR [(41, 900)] rfl (k + 1) ?_ ⟨hk2, fun i hi => ?_⟩ (by omega)⟩⟩
      · have h2 : (nrK (tyW L (x.kids.getD k ex0))).2.2 ≠ 0 := by simpa using h2
        by_cases h3 : (tyW L (x.kids.getD k ex0)).2.2 ≠ 0
        · have hb := bad_hit (R := tyL (revF L L.length) (revW L L.length) x.kids) (r0 := (0, 0, 0)) (k := k) (by rw [tyL_map, List.length_map]; exact hk2) (fun i hi => by rw [tyL_get (by omega)]; exact hkd i hi) (by rw [tyL_get hk2]; exact h3)
          rw [tyL_get hk2] at hb
          unfold tyC at ety0
          rw [hb] at ety0
          rw [if_pos h3] at enr
          rw [enr, ety0]
          show _ = DV.tup [di (nrK (0, (tyE (revF L L.length) (revW L L.length) (x.kids.getD k ex0)).2)).1, _, _]
          unfold nrK
          rw [if_pos h3]
        · rw [if_neg h3] at enr
          rw [enr] at h2
          exact absurd rfl h2
      · refine of_eq1 (some [(vi x.k), (vs x.s), (vi x.n), (vi x.d), (vi x.pos), (.d (.slc 6 x.kids.length (lay (exG m) x.kids)))]) (fun Za => ((((.d (.slc 7 L.length (fcF L))) : AV) = (.d (.slc 7 L.length (fcF L))) ∧ ((.box 2 0) : AV) = (.box 2 0) ∧ ((.vec 900 1 0 (k + 1)) : AV) = (.vec 900 1 0 (k + 1)) ∧ ((vi (↑k + 1)) : AV) = (vi (↑(k + 1))) ∧ True) ∧ (Za : (Option (List AV))) = Za ∧ ((some [(.arr ⟨false, 3, false, none⟩ 1 (fun i => bif i.blt k then rowK (revF L L.length) (revW L L.length) x k i else elemF false 1 [DV.con (Value.int IntKind.i64 (nrK (tyW L (x.kids.getD k ex0))).fst)] (i - k)))]) : (Option (List AV))) = (some [(.arr ⟨false, 3, false, none⟩ 1 (rowK (revF L L.length) (revW L L.length) x (k + 1)))]) ∧ True)) (by kernel_rfl) ?_
        refine ⟨⟨rfl, rfl, rfl, rfl, trivial⟩, rfl, ?_, trivial⟩
        have h3 : (tyW L (x.kids.getD k ex0)).2.2 = 0 := by
          refine Classical.byContradiction fun hn => ?_
          rw [if_pos hn] at enr
          rw [enr] at h2
          exact hn (by simpa using h2)
        rw [if_neg (by omega)] at enr
        exact congrArg (fun f => some [AV.arr itK 1 f]) (rowK_next k (by rw [enr]))
      · rcases Nat.lt_or_ge i k with h4 | h4
        · exact hkd i h4
        · obtain rfl : i = k := by omega
          refine Classical.byContradiction fun hn => ?_
          rw [if_pos hn] at enr
          rw [enr] at h2
          exact hn (by simpa using h2)
    · have h := of_decide_eq_false h
      obtain rfl : k = x.kids.length := by omega
      have hb : badR (tyL (revF L L.length) (revW L L.length) x.kids) = none := bad_none (r0 := (0, 0, 0)) fun i hi => by
        have hi : i < x.kids.length := by rw [tyL_map, List.length_map] at hi; exact hi
        rw [tyL_get hi]; exact hkd i hi
      have ety := ety0
      unfold tyC at ety
      rw [hb] at ety
      have hKl : ((tyL (revF L L.length) (revW L L.length) x.kids).map (·.1)).length = x.kids.length := by rw [tyL_map, List.length_map, List.length_map]
      have hrow : ∀ i, i < x.kids.length → rowK (revF L L.length) (revW L L.length) x x.kids.length (0 + i) = inF ((tyL (revF L L.length) (revW L L.length) x.kids).map (·.1)) i := fun i hi => by
        rw [Nat.zero_add]
        unfold rowK inF
        rw [rowRec_get hi, tyL_map, List.map_map]
        show di (tyE _ _ (x.kids.getD i ex0)).1 = _
        rw [List.getD, List.getD, List.getElem?_map, List.getElem?_eq_getElem hi]; rfl
      have hKg : ∀ i, i < x.kids.length → ((tyL (revF L L.length) (revW L L.length) x.kids).map (·.1)).getD i 0 = (tyW L (x.kids.getD i ex0)).1 := fun i hi => tyK_get hi
      refine AWP.freeze (agg := itK) (sz := 1) (f := rowK (revF L L.length) (revW L L.length) x x.kids.length) 900 (by kernel_rfl) ?_
      refine AWP.pre (.reg _ 7 (.d (inD ((tyL (revF L L.length) (revW L L.length) x.kids).map (·.1)))) fun β h v hv => ?_) ?_
      · have hv : DV.rel h (.slc 1 x.kids.length fun i => rowK (revF L L.length) (revW L L.length) x x.kids.length (0 + i)) v := hv
        show DV.rel h (.slc 1 ((tyL (revF L L.length) (revW L L.length) x.kids).map (·.1)).length _) v
        rw [hKl]
        exact DV.rel_slc_congr hrow hv
      have hk20 := rk_all hsn
      have hone := @snd_one x hsn
      have htwo := @snd_two x hsn
      have hmany := @snd_many x hsn
      generalize (tyL (revF L L.length) (revW L L.length) x.kids).map (·.1) = KS at *
      clear hrow hb ety0
      refine walkK (orc := orcKR L) (keep := []) (cuts := []) (n := 1000) follows ?_
      refine of_tr (fun ZT ZW ZQ ZK => (fun Za Zb Zc Zd Ze Zf Zg => (ZK 112 [(.slc 1 KS.length (inF KS))] (di (shI Zb)) ∧ (((x.k == 1) = true) → (Zg = Za)) ∧ (((x.k == 1) = false) → ((((x.k == 3) = true) → (Zf = Za)) ∧ (((x.k == 3) = false) → ((((x.k == 4) = true) → (Zf = Za)) ∧ (((x.k == 4) = false) → ((((x.k == 2) = true) → (ZK 55 [(.slc 7 L.length (fcF L)), (ds x.s)] (di (fndI L x.s)) ∧ (((decide (fndI L x.s ≥ 0)) = true) → (((0 ≤ fndI L x.s) ∧ (fndI L x.s < ↑L.length)) ∧ ((.tup [(di (L.getD (fndI L x.s).toNat fc0).kind), (di 0), (di 0)]) : DV) = Za)) ∧ (((decide (fndI L x.s ≥ 0)) = false) → ZW [cd Tryz.f65 [1, 1, 1, 1, 0, 1, 0, 1, 1, 1, 1, 1, 0, 1, 0, 1, 0], (.blk 3), cd Tryz.f65 [1, 1, 1, 1, 0, 1, 0, 1, 1, 1, 1, 1, 0, 1, 1], (.blk 2), cd Tryz.f65 [1, 1, 1, 1, 1]] (stS ZT [1, 1, 1, 0, 1]) ZQ))) ∧ (((x.k == 2) = false) → ((((x.k == 5) = true) → ((((shI Zb == 0) = true) → (Zg = Za)) ∧ (((shI Zb == 0) = false) → (Zc = Za)))) ∧ (((x.k == 5) = false) → ((((x.k == 6) = true) → ((((shI Zb == 0) = true) → (Zg = Za)) ∧ (((shI Zb == 0) = false) → (Zc = Za)))) ∧ (((x.k == 6) = false) → ((((x.k == 7) = true) → ((((shI Zb == 0) = true) → (Zg = Za)) ∧ (((shI Zb == 0) = false) → (Zc = Za)))) ∧ (((x.k == 7) = false) → ((((x.k == 8) = true) → ((((shI Zb == 0) = true) → (Zg = Za)) ∧ (((shI Zb == 0) = false) → (Zc = Za)))) ∧ (((x.k == 8) = false) → ((((x.k == 9) = true) → ((((shI Zb == 0) = true) → (Zg = Za)) ∧ (((shI Zb == 0) = false) → (Zc = Za)))) ∧ (((x.k == 9) = false) → ((((x.k == 10) = true) → ((((shI Zb == 0) = true) → (Zg = Za)) ∧ (((shI Zb == 0) = false) → (Zc = Za)))) ∧ (((x.k == 10) = false) → ((((x.k == 11) = true) → ((((shI Zb == 0) = true) → (Zg = Za)) ∧ (((shI Zb == 0) = false) → (Zc = Za)))) ∧ (((x.k == 11) = false) → ((((x.k == 14) = true) → ((((shI Zb == 0) = true) → (Zf = Za)) ∧ (((shI Zb == 0) = false) → (Zc = Za)))) ∧ (((x.k == 14) = false) → ((((x.k == 15) = true) → ((((shI Zb == 0) = true) → (Zf = Za)) ∧ (((shI Zb == 0) = false) → (Zc = Za)))) ∧ (((x.k == 15) = false) → ((((x.k == 16) = true) → ((((shI Zb == 0) = true) → (Zf = Za)) ∧ (((shI Zb == 0) = false) → (Zc = Za)))) ∧ (((x.k == 16) = false) → ((((x.k == 17) = true) → ((((shI Zb == 0) = true) → (Zf = Za)) ∧ (((shI Zb == 0) = false) → (Zc = Za)))) ∧ (((x.k == 17) = false) → ((((x.k == 12) = true) → (((((!(shI Zb == 0 || shI Zb == 1) && shI Zb == 2) = true) → (((0 : Int) ≤ (0 : Int)) ∧ (0 < (↑x.kids.length : Int)))) ∧ (((!(shI Zb == 0 || shI Zb == 1) && shI Zb == 2) = true) → (((0 : Int) ≤ (1 : Int)) ∧ (1 < (↑x.kids.length : Int)))) ∧ (((!(shI Zb == 0 || shI Zb == 1) && shI Zb == 2) = true) → ZK 113 [Zd, Ze, (.slc 7 L.length (fcF L))] (db (cpR (wdsR L (rdE Zd)) (wdsR L (rdE Ze)) (rdE Zd).s (rdE Ze).s)))) ∧ (((shI Zb == 0 || shI Zb == 1 || shI Zb == 2 && cpR (wdsR L (rdE Zd)) (wdsR L (rdE Ze)) (rdE Zd).s (rdE Ze).s) = true) → (Zf = Za)) ∧ (((shI Zb == 0 || shI Zb == 1 || shI Zb == 2 && cpR (wdsR L (rdE Zd)) (wdsR L (rdE Ze)) (rdE Zd).s (rdE Ze).s) = false) → (Zc = Za)))) ∧ (((x.k == 12) = false) → ((((x.k == 13) = true) → (((((!(shI Zb == 0 || shI Zb == 1) && shI Zb == 2) = true) → (((0 : Int) ≤ (0 : Int)) ∧ (0 < (↑x.kids.length : Int)))) ∧ (((!(shI Zb == 0 || shI Zb == 1) && shI Zb == 2) = true) → (((0 : Int) ≤ (1 : Int)) ∧ (1 < (↑x.kids.length : Int)))) ∧ (((!(shI Zb == 0 || shI Zb == 1) && shI Zb == 2) = true) → ZK 113 [Zd, Ze, (.slc 7 L.length (fcF L))] (db (cpR (wdsR L (rdE Zd)) (wdsR L (rdE Ze)) (rdE Zd).s (rdE Ze).s)))) ∧ (((shI Zb == 0 || shI Zb == 1 || shI Zb == 2 && cpR (wdsR L (rdE Zd)) (wdsR L (rdE Ze)) (rdE Zd).s (rdE Ze).s) = true) → (Zf = Za)) ∧ (((shI Zb == 0 || shI Zb == 1 || shI Zb == 2 && cpR (wdsR L (rdE Zd)) (wdsR L (rdE Ze)) (rdE Zd).s (rdE Ze).s) = false) → (Zc = Za)))) ∧ (((x.k == 13) = false) → ((((x.k == 18) = true) → ((((shI Zb == 1) = true) → (Zf = Za)) ∧ (((shI Zb == 1) = false) → (Zc = Za)))) ∧ (((x.k == 18) = false) → ((((x.k == 19) = true) → ((((shI Zb == 1) = true) → (Zf = Za)) ∧ (((shI Zb == 1) = false) → (Zc = Za)))) ∧ (((x.k == 19) = false) → ((((x.k == 20) = true) → ((((shI Zb == 1) = true) → (Zf = Za)) ∧ (((shI Zb == 1) = false) → (Zc = Za)))) ∧ (((x.k == 20) = false) → (Zc = Za)))))))))))))))))))))))))))))))))))))))))) ((.tup [(di (nrK (tyW L x)).fst), (di (nrK (tyW L x)).snd.fst), (di (nrK (tyW L x)).snd.snd)]) : DV) (rdL (DV.slc 1 KS.length (inF KS))) ((.tup [(di 0), (di x.pos), (di 5)]) : DV) (ndA m (x.kids.getD (Int.toNat 0) ex0)) (ndA m (x.kids.getD (Int.toNat 1) ex0)) ((.tup [(di 1), (di 0), (di 0)]) : DV) ((.tup [(di 0), (di 0), (di 0)]) : DV)) (by kernel_rfl) ?_
      have t0 : Int.toNat 0 = 0 := rfl
      have t1 : Int.toNat 1 = 1 := rfl
      have k2 : x.k = 12 ∨ x.k = 13 → x.kids.length = 2 := fun h => (htwo (by omega)).1
      have hk5 : 5 ≤ x.k → 0 < KS.length := fun h => by
        rw [hKl]
        by_cases e1 : x.k = 5 ∨ x.k = 18
        · have := hone e1; omega
        · by_cases e2 : x.k = 10 ∨ x.k = 11
          · have := hmany e2; omega
          · have := (htwo (by omega)).1; omega
      obtain ⟨a1, a2, a3, a4⟩ := @apK_ks (revF L L.length) (revW L L.length) x.k x.s KS (x.kids.getD 0 ex0).s (x.kids.getD 1 ex0).s
      have hn : ∀ p : Int × Int, apK (revF L L.length) (revW L L.length) x.k x.s KS (x.kids.getD 0 ex0).s (x.kids.getD 1 ex0).s = p → nrK (tyW L x) = if p.2 ≠ 0 then (0, x.pos, p.2) else (p.1, 0, 0) := fun p hp => by
        rw [ety, hp]; rfl
      have hX : ∀ a b : Int, 0 ≤ a → 5 ≤ x.k → apK (revF L L.length) (revW L L.length) x.k x.s KS (x.kids.getD 0 ex0).s (x.kids.getD 1 ex0).s = (kxA KS a b, kxE KS a) → (shI KS = a → nrK (tyW L x) = (b, 0, 0)) ∧ (¬ shI KS = a → nrK (tyW L x) = (0, x.pos, 5)) := fun a b ha h5 hp => by
        have hs := sh_all ha (hk5 h5)
        rw [hn _ hp]
        constructor
        · intro h
          have h := hs.1 h
          unfold kxA kxE
          rw [if_pos h, if_pos h]; rfl
        · intro h
          have h : ¬ allK KS a = true := fun hh => h (hs.2 hh)
          unfold kxA kxE
          rw [if_neg h, if_neg h]; rfl
      have n1 : x.k = 1 → nrK (tyW L x) = (0, 0, 0) := fun h => by
        rw [hn (0, 0) (by unfold apK; rw [if_pos h])]; rfl
      have n3 : x.k = 3 ∨ x.k = 4 → nrK (tyW L x) = (1, 0, 0) := fun h => by
        rw [hn (1, 0) (by unfold apK; rw [if_neg (by omega)]; split; rfl; rw [if_pos (by omega)])]; rfl
      have n2 : x.k = 2 → nrK (tyW L x) = if (nmK (revF L L.length) (revW L L.length) x.s).2 ≠ 0 then (0, x.pos, (nmK (revF L L.length) (revW L L.length) x.s).2) else ((nmK (revF L L.length) (revW L L.length) x.s).1, 0, 0) := fun h => by
        rw [hn _ (by unfold apK; rw [if_neg (by omega), if_neg (by omega), if_neg (by omega), if_pos h])]
      have n12 : x.k = 12 ∨ x.k = 13 → ∀ c : Bool, c = (shI KS == 0 || shI KS == 1 || (shI KS == 2 && cpR (wdsR L (x.kids.getD 0 ex0)) (wdsR L (x.kids.getD 1 ex0)) (x.kids.getD 0 ex0).s (x.kids.getD 1 ex0).s)) → (c = true → nrK (tyW L x) = (1, 0, 0)) ∧ (c = false → nrK (tyW L x) = (0, x.pos, 5)) := fun h c hc => by
        have hc2 : cmK (revF L L.length) (x.kids.getD 0 ex0).s (x.kids.getD 1 ex0).s (KS.getD 0 0) (KS.getD 1 0) = c := by
          have hl2 := k2 h
          have g0 := hKg 0 (by omega)
          have g1 := hKg 1 (by omega)
          have r0 := ty_range hv (snd_kid hsn (i := 0) (by omega)) (hkd 0 (by omega))
          have r1 := ty_range hv (snd_kid hsn (i := 1) (by omega)) (hkd 1 (by omega))
          rw [hl2] at hKl
          obtain ⟨p, q, rfl⟩ : ∃ p q, KS = [p, q] := by
            match KS, hKl with
            | [p, q], _ => exact ⟨p, q, rfl⟩
          have g0 : p = _ := g0
          have g1 : q = _ := g1
          have hcm := cm_ref hv (snd_kid hsn (i := 0) (by omega)) (snd_kid hsn (i := 1) (by omega)) (hkd 0 (by omega)) (hkd 1 (by omega))
          rw [← g0, ← g1] at hcm
          rw [← g0] at r0
          rw [← g1] at r1
          show cmK _ _ _ p q = c
          rw [hc, sh_pair]
          by_cases e : q = p
          · subst e
            rw [if_pos rfl]
            by_cases e2 : q = 2
            · subst e2
              rw [hcm rfl rfl]; rfl
            · unfold cmK
              rw [if_pos (by simp [e2])]
              have : q = 0 ∨ q = 1 := by omega
              rcases this with rfl | rfl <;> rfl
          · rw [if_neg e]
            unfold cmK
            rw [if_pos (by simp; left; exact fun h => e h.symm)]
            rw [beq_eq_false_iff_ne.2 (fun h => e h.symm)]; rfl
        rw [hn _ (a4 h), hc2]
        refine ⟨fun h => ?_, fun h => ?_⟩
        · rw [h]; rfl
        · rw [h]; rfl
      simp only [rdL_eq, beq_iff_eq, beq_eq_false_iff_ne, ne_eq, t0, t1]
      have er : ∀ i, i < x.kids.length → rdE (kidA m x i) = x.kids.getD i ex0 := fun i hi => kid_rd hx hi
      have h113 : x.k = 12 ∨ x.k = 13 → FnOK Tryz.prog G 113 [kidA m x 0, kidA m x 1, fcsD L] (db (cpR (wdsR L (x.kids.getD 0 ex0)) (wdsR L (x.kids.getD 1 ex0)) (x.kids.getD 0 ex0).s (x.kids.getD 1 ex0).s)) := fun h =>
        kidOK (Q := fun d => FnOK Tryz.prog G 113 [d, kidA m x 1, fcsD L] _) hx (i := 0) (by have := k2 h; omega) fun m1 _ h1 =>
          kidOK (Q := fun d => FnOK Tryz.prog G 113 [exD m1 (x.kids.getD 0 ex0), d, fcsD L] _) hx (i := 1) (by have := k2 h; omega) fun m2 _ h2 => f113 L m1 m2 _ _ h1 h2 (by omega) (fun f hf => by have := hw f hf; omega)
      repeat' (first | (with_reducible refine And.intro ?_ ?_) | (with_reducible intro _))
      all_goals first
        | contradiction
        | exact f112 KS (by omega)
        | exact f55 L x.s (by omega)
        | (exfalso; omega)
        | (rw [n1 (by assumption)])
        | (rw [n3 (by omega)])
        | (show (0:Int) ≤ _; omega)
        | (show (1:Int) < _; omega)
        | (show (0:Int) < _; omega)
        | (rw [(hX 0 0 (by omega) (by omega) (a1 (by omega))).1 (by assumption)])
        | (rw [(hX 0 0 (by omega) (by omega) (a1 (by omega))).2 (by assumption)])
        | (rw [(hX 0 1 (by omega) (by omega) (a2 (by omega))).1 (by assumption)])
        | (rw [(hX 0 1 (by omega) (by omega) (a2 (by omega))).2 (by assumption)])
        | (rw [(hX 1 1 (by omega) (by omega) (a3 (by omega))).1 (by assumption)])
        | (rw [(hX 1 1 (by omega) (by omega) (a3 (by omega))).2 (by assumption)])
        | (have q0 := er 0 (by have := k2 (by omega); omega)
           have q1 := er 1 (by have := k2 (by omega); omega)
           simp only [q0, q1]
           exact h113 (by omega))
        | (rename_i hc
           have q0 := er 0 (by have := k2 (by omega); omega)
           have q1 := er 1 (by have := k2 (by omega); omega)
           simp only [q0, q1] at hc
           rw [(n12 (by omega) _ rfl).1 hc])
        | (rename_i hc
           have q0 := er 0 (by have := k2 (by omega); omega)
           have q1 := er 1 (by have := k2 (by omega); omega)
           simp only [q0, q1] at hc
           rw [(n12 (by omega) _ rfl).2 hc])
        | (rename_i hc; exact of_decide_eq_true hc)
        | (rename_i hc
           have := (fnd_hit (of_decide_eq_true hc)).1
           have := of_decide_eq_true hc
           show fndI L x.s < _
           omega)
        | (rename_i hk hc
           have hc := of_decide_eq_true hc
           rw [n2 (by omega)]
           unfold nmK
           rw [if_pos (fnd_fH.1 hc), fnd_fM hv hc]
           rfl)
        | skip
      · rename_i k2' hc
        have hc := of_decide_eq_false hc
        have hfH : fH (revF L L.length) (.string x.s) = false := by
          cases hh : fH (revF L L.length) (.string x.s) with
          | false => rfl
          | true => exact absurd (fnd_fH.2 hh) hc
        refine AWP.loop (c := cAt (bodyOf Tryz.f65) [1, 1, 1, 1, 0, 1, 0, 1, 1, 1, 1, 1, 0, 1, 0, 1, 0, 0]) (by kernel_rfl) (S65b L m x) (fun k => k ≤ L.length ∧ ∀ i, i < k → anyB (L.getD i fc0).words x.s = false) (fun k => L.length - k) 0 ?_ ⟨Nat.zero_le _, fun i hi => absurd hi (Nat.not_lt_zero _)⟩ ?_
        · exact AS.leA (by kernel_rfl)
        · rintro k ⟨hk, hkd2⟩
          refine walkK (orc := orcKR L) (keep := []) (cuts := []) (n := 1000) follows ?_
          refine of_rd (fun ZT ZW ZQ ZK ZA _ => (fun Za => ((((decide ((↑k : Int) < ↑L.length)) = true) → ((((0 ≤ (↑k : Int)) ∧ ((↑k : Int) < ↑L.length)) ∧ ZK 56 [(.slc 1 (L.getD (↑k : Int).toNat fc0).words.length (stF (L.getD (↑k : Int).toNat fc0).words)), (ds x.s)] (db Za)) ∧ ((Za = true) → (((.tup [(di 2), (di 0), (di 0)]) : DV) = (.tup [(di (nrK (tyW L x)).fst), (di (nrK (tyW L x)).snd.fst), (di (nrK (tyW L x)).snd.snd)]))) ∧ ((Za = false) → ((I64 (↑k + 1)) ∧ (ZA (stS ZT [0, 1])))))) ∧ (((decide ((↑k : Int) < ↑L.length)) = false) → ZW [cd Tryz.f65 [1, 1, 1, 1, 0, 1, 0, 1, 1, 1, 1, 1, 0, 1, 1], (.blk 2), cd Tryz.f65 [1, 1, 1, 1, 1]] (stS ZT [1]) ZQ))) (anyB (rdW (wdD (L.getD (↑k : Int).toNat fc0).words)) x.s)) (by kernel_rfl) ?_
          simp only [Int.toNat_natCast, rdW_eq]
          refine ⟨fun h => ?_, fun h => ?_⟩
          · have hk3 : k < L.length := by have := of_decide_eq_true h; omega
            refine ⟨⟨⟨by omega, by omega⟩, f56 _ _ (by have := hw _ (getD_mem (x0 := fc0) hk3); omega)⟩, fun h3 => ?_, fun h3 => ⟨⟨by omega, by omega⟩, Again.mk (k + 1) ?_ ⟨hk3, fun i hi => ?_⟩ (by omega)⟩⟩
            · rw [n2 (by omega)]
              have hwl : wL (revW L L.length) (.string x.s) = true := wL_iff.2 ⟨_, getD_mem hk3, (anyB_mem _ _).1 h3⟩
              have hnm : nmK (revF L L.length) (revW L L.length) x.s = (2, 0) := by unfold nmK; rw [if_neg (by rw [hfH]; decide), if_pos hwl]
              rw [hnm]; rfl
            · exact AS.leA (by kernel_rfl)
            · rcases Nat.lt_or_ge i k with h4 | h4
              · exact hkd2 i h4
              · obtain rfl : i = k := by omega
                exact h3
          · have h := of_decide_eq_false h
            refine walkK (orc := orcKR L) (keep := []) (cuts := []) (n := 1000) follows ?_
            refine of_tr (fun _ _ _ _ => (((.tup [(di 0), (di x.pos), (di 4)]) : DV) = (.tup [(di (nrK (tyW L x)).fst), (di (nrK (tyW L x)).snd.fst), (di (nrK (tyW L x)).snd.snd)]))) (by kernel_rfl) ?_
            have hwl : wL (revW L L.length) (.string x.s) = false := by
              cases hh : wL (revW L L.length) (.string x.s) with
              | false => rfl
              | true =>
                obtain ⟨f, hf, hs⟩ := wL_iff.1 hh
                obtain ⟨i, hi, rfl⟩ := List.getElem_of_mem hf
                have := hkd2 i (by omega)
                rw [List.getD, List.getElem?_eq_getElem hi] at this
                have this : anyB L[i].words x.s = false := this
                rw [(anyB_mem _ _).2 hs] at this
                cases this
            have hnm : nmK (revF L L.length) (revW L L.length) x.s = (0, 4) := by unfold nmK; rw [if_neg (by rw [hfH]; decide), if_neg (by rw [hwl]; decide)]
            rw [n2 (by omega), hnm]; rfl
end Go.Proofs
set_option autoImplicit false
namespace Go.Proofs
open Go Go.Ab Go.RowKit
set_option maxHeartbeats 4000000
set_option maxRecDepth 100000
variable {G : IH}
/-! The reference's names and types. -/
theorem typR_ref {L : List Fc} {x : Ex} : typR L x = if (!vfB L || !fitE x) = true then (0, 0, 1) else nrK (tyW L x) := by
  unfold typR
  have e : (fmtX x).size = 0 ↔ fitE x = false := by
    unfold fmtX
    cases h : fitE x with
    | false => simp
    | true =>
      simp only [if_true]
      constructor
      · intro hz
        exfalso
        have := fmt_pos h
        omega
      · intro h; cases h
  have e2 : decide ((fmtX x).size = 0) = !fitE x := by
    cases h : fitE x with
    | false => rw [decide_eq_true (e.2 h)]; rfl
    | true => rw [decide_eq_false (fun hz => by rw [e.1 hz] at h; cases h)]; rfl
  rw [e2]
  by_cases h1 : (!vfB L || !fitE x) = true
  · rw [if_pos h1, if_pos h1]
  · rw [if_neg h1, if_neg h1]
    unfold nrK
    by_cases h2 : (tyW L x).2.2 ≠ 0
    · rw [if_pos h2]
    · rw [if_neg h2]
noncomputable def orc33 (L : List Fc) : Oracle := fun f a => match f, a with
  | 22, [_] => some (db (vfB L))
  | 64, [e] => some (db (fitE (rdE e)))
  | 65, [e, _] => some (.tup [di (nrK (tyW L (rdE e))).1, di (nrK (tyW L (rdE e))).2.1, di (nrK (tyW L (rdE e))).2.2])
  | _, _ => none
theorem f33 (hT : Tab G) (m : Nat) (x : Ex) (L : List Fc) (hx : ht x ≤ m) (hs : Sm x) (h : ∀ i, i < L.length → FcS (L.getD i fc0)) (hl : L.length ≤ 1000) : FnOK Tryz.prog G 33 [exD m x, fcsD L] (.tup [di (typR L x).1, di (typR L x).2.1, di (typR L x).2.2]) := by
  have e : rdE (exV x.k x.s x.n x.d x.pos x.kids.length (lay (exG m) x.kids)) = x := rdE_eq hx
  refine FnOK.walkK (orc := orc33 L) (keep := []) follows Tryz.func33 rfl Tryz.call33 ?_
  refine of_tr (fun _ _ _ ZK => (fun Za Zb => ((ZK 22 [(.slc 7 L.length (fcF L))] (db (vfB L)) ∧ (((!!vfB L) = true) → ZK 64 [(ndX m x)] (db (fitE (rdE (ndX m x)))))) ∧ (((!vfB L || !fitE (rdE (ndX m x))) = true) → (((.tup [(di 0), (di 0), (di 1)]) : DV) = Zb)) ∧ (((!vfB L || !fitE (rdE (ndX m x))) = false) → (ZK 65 [(ndX m x), (.slc 7 L.length (fcF L))] Za ∧ (Za : DV) = Zb)))) ((.tup [(di (nrK (tyW L (rdE (ndX m x)))).fst), (di (nrK (tyW L (rdE (ndX m x)))).snd.fst), (di (nrK (tyW L (rdE (ndX m x)))).snd.snd)]) : DV) ((.tup [(di (typR L x).fst), (di (typR L x).snd.fst), (di (typR L x).snd.snd)]) : DV)) (by kernel_rfl) ?_
  simp only [e]
  rw [typR_ref]
  refine ⟨⟨f22 hT L h hl, fun _ => f64 hT m x hx hs⟩, fun h1 => ?_, fun h1 => ⟨?_, ?_⟩⟩
  · rw [if_pos h1]
  · have h2 := h1
    simp only [Bool.or_eq_false_iff, Bool.not_eq_false'] at h2
    have hsn : sndE x = true := by
      have h3 := h2.2
      unfold fitE at h3
      simp only [Bool.and_eq_true] at h3
      first | exact h3.1.1 | exact h3.1
    exact f65 L (vf_of h2.1) hl (fun f hf => by
      obtain ⟨i, hi, rfl⟩ := List.getElem_of_mem hf
      have := (h i hi).ln
      rwa [List.getD, List.getElem?_eq_getElem hi] at this) m x hx hs hsn
  · rw [if_neg (by rw [h1]; decide)]
noncomputable def orc11 (b c : Bool) : Oracle := fun f a => match f, a with
  | 32, [_, _] => some (db b)
  | 20, [_] => some (db c)
  | _, _ => none
def fewX (x : Ex) (L : List Fc) : Bool := fewE 30 x && fewF L
theorem f11 (m : Nat) (x : Ex) (L : List Fc) (hx : ht x ≤ m) (hw : wfE x) (hl : L.length ≤ 9223372036854775807) (hw2 : ∀ i, i < L.length → FcW (L.getD i fc0)) : FnOK Tryz.prog G 11 [exD m x, fcsD L] (db (fewX x L)) := by
  refine FnOK.walkK (orc := orc11 (fewE 30 x) (fewF L)) (keep := []) follows Tryz.func11 rfl Tryz.call11 ?_
  refine of_tr (fun _ _ _ ZK => ((ZK 32 [(ndX m x), (di 30)] (db (fewE 30 x)) ∧ (((fewE 30 x) = true) → ZK 20 [(.slc 7 L.length (fcF L))] (db (fewF L)))) ∧ ((db (fewE 30 x && fewF L)) : DV) = (db (fewX x L)))) (by kernel_rfl) ?_
  exact ⟨⟨f32 30 m x hx hw, fun _ => f20 L hl hw2⟩, rfl⟩
end Go.Proofs
