import Derived.Test.YtpognhmelecaoaaGreatDoorEN
import Derived.Test.YtpognhmelecaoaaGreatDoorEI
import Derived.Test.YtpognhmelecaoaaGreatDoorAcD
import Derived.Test.YtpognhmelecaoaaGreatDoorER
import Derived.Test.YtpognhmelecaoaaGreatDoorEM
/- Descriptions of facts that do not occur matter for nothing. -/
set_option autoImplicit false
namespace Go.Proofs
open Go Go.Ab Go.RowKit
set_option maxHeartbeats 4000000
def AG (L S : List Fc) (x : Ex) : Prop := ∀ s, occE s x = true → fH (revF S S.length) (.string s) = fH (revF L L.length) (.string s) ∧ fM (revF S S.length) (.string s) = fM (revF L L.length) (.string s)
theorem fM_memL {l : List Fc} {s : ByteArray} (h : fH l (.string s) = true) : fM l (.string s) ∈ l := by
  induction l with
  | nil => cases h
  | cons x l ih =>
    unfold fM
    cases he : keyEq (.string s) (.string x.name) with
    | true => exact List.mem_cons_self ..
    | false =>
      simp only [fH, he, Bool.false_or] at h
      exact List.mem_cons_of_mem _ (ih h)
theorem fM_in {L : List Fc} {s : ByteArray} (h : fH (revF L L.length) (.string s) = true) : fM (revF L L.length) (.string s) ∈ L := by
  have := fM_memL h
  rw [revF_all, List.mem_reverse] at this
  rwa [revF_all]
theorem occ_kid {s : ByteArray} {x : Ex} {i : Nat} (hi : i < x.kids.length) (h : occE s (x.kids.getD i ex0) = true) : occE s x = true := by
  rw [occE_eq, Bool.or_eq_true]
  exact .inr (List.any_eq_true.2 ⟨_, kid_mem hi, h⟩)
theorem AG.kid {L S : List Fc} {x : Ex} (h : AG L S x) {i : Nat} (hi : i < x.kids.length) : AG L S (x.kids.getD i ex0) := fun s hs => h s (occ_kid hi hs)
theorem AG.nm {L S : List Fc} {x : Ex} (h : AG L S x) (hk : x.k = 2) : fH (revF S S.length) (.string x.s) = fH (revF L L.length) (.string x.s) ∧ fM (revF S S.length) (.string x.s) = fM (revF L L.length) (.string x.s) :=
  h x.s (by rw [occE_eq, hk, decide_eq_true rfl]; rfl)
theorem bn_ag {L S : List Fc} (n : Nat) : ∀ x : Ex, ht x ≤ n → AG L S x → bnE (revF S S.length) x = bnE (revF L L.length) x := by
  induction n using Nat.strongRecOn with
  | _ n ih =>
  intro x hx ha
  have hk : bnL (revF S S.length) x.kids = bnL (revF L L.length) x.kids := by
    rw [bnL_map, bnL_map]
    refine List.map_congr_left fun y hy => ?_
    obtain ⟨i, hi, rfl⟩ := List.getElem_of_mem hy
    have e : x.kids[i] = x.kids.getD i ex0 := by rw [List.getD, List.getElem?_eq_getElem hi]; rfl
    rw [e]
    have := ht_kid hi
    exact ih (n - 1) (by omega) _ (by omega) (ha.kid hi)
  rw [bnE_eq, bnE_eq, hk]
  by_cases h2 : x.k = 2
  · rw [(ha.nm h2).2]
  · rw [if_neg h2, if_neg h2]
theorem tr_ag {L S : List Fc} {s : ByteArray} (n : Nat) : ∀ x : Ex, ht x ≤ n → AG L S x → trE (revF S S.length) s x = trE (revF L L.length) s x := by
  induction n using Nat.strongRecOn with
  | _ n ih =>
  intro x hx ha
  have hk : trL (revF S S.length) s x.kids = trL (revF L L.length) s x.kids := by
    rw [trL_map, trL_map]
    refine List.map_congr_left fun y hy => ?_
    obtain ⟨i, hi, rfl⟩ := List.getElem_of_mem hy
    have e : x.kids[i] = x.kids.getD i ex0 := by rw [List.getD, List.getElem?_eq_getElem hi]; rfl
    rw [e]
    have := ht_kid hi
    exact ih (n - 1) (by omega) _ (by omega) (ha.kid hi)
  have hb : ∀ i, bnE (revF S S.length) (x.kids.getD i ex0) = bnE (revF L L.length) (x.kids.getD i ex0) := fun i => by
    by_cases hi : i < x.kids.length
    · exact bn_ag _ _ (Nat.le_refl _) (ha.kid hi)
    · have : x.kids.getD i ex0 = ex0 := by rw [List.getD, List.getElem?_eq_none (by omega)]; rfl
      rw [this, bnE_eq, bnE_eq]
      rfl
  rw [trE_eq, trE_eq, hk, hb 0, hb 1]
theorem ty_name {l : List Fc} {ws : List ByteArray} {x : Ex} (hs : sndE x = true) (hk : x.k = 2) : tyE l ws x = ((nmK l ws x.s).1, x.pos, (nmK l ws x.s).2) := by
  rw [tyE_eq, snd_leaf hs (by omega)]
  unfold tyC apK
  rw [hk]
  rfl
theorem nm_ag {L S : List Fc} {x : Ex} (ha : AG L S x) (hk : x.k = 2) (hh : fH (revF L L.length) (.string x.s) = true) : nmK (revF S S.length) (revW S S.length) x.s = nmK (revF L L.length) (revW L L.length) x.s := by
  unfold nmK
  rw [(ha.nm hk).1, (ha.nm hk).2, if_pos hh, if_pos hh]
theorem ty_ag {L S : List Fc} (n : Nat) : ∀ x : Ex, ht x ≤ n → sndE x = true → AG L S x → (tyW L x).2.2 = 0 → (tyW L x).1 ≠ 2 ∨ fH (revF L L.length) (.string x.s) = true → tyW S x = tyW L x := by
  induction n using Nat.strongRecOn with
  | _ n ih =>
  intro x hx hs ha h2 h1
  have hk := rk_all hs
  obtain ⟨f1, f2, f3⟩ := tyE_fine h2
  by_cases e2 : x.k = 2
  · have hh : fH (revF L L.length) (.string x.s) = true := by
      rcases h1 with h1 | h1
      · have e := ty_name (l := revF L L.length) (ws := revW L L.length) hs e2
        have hh2 : (nmK (revF L L.length) (revW L L.length) x.s).2 = 0 := by
          have h2 : (tyE (revF L L.length) (revW L L.length) x).2.2 = 0 := h2
          rw [e] at h2; exact h2
        have hh1 : (nmK (revF L L.length) (revW L L.length) x.s).1 ≠ 2 := by
          have h1 : (tyE (revF L L.length) (revW L L.length) x).1 ≠ 2 := h1
          rw [e] at h1; exact h1
        cases hc : fH (revF L L.length) (.string x.s) with
        | true => rfl
        | false =>
          unfold nmK at hh1 hh2
          rw [if_neg (by rw [hc]; decide)] at hh1 hh2
          split at hh1 <;> rename_i hw
          · exact absurd rfl hh1
          · rw [if_neg hw] at hh2; cases hh2
      · exact h1
    show tyE _ _ x = tyE _ _ x
    rw [ty_name hs e2, ty_name hs e2, nm_ag ha e2 hh]
  have kid : ∀ i, i < x.kids.length → (tyW L (x.kids.getD i ex0)).1 ≠ 2 ∨ fH (revF L L.length) (.string (x.kids.getD i ex0).s) = true → tyW S (x.kids.getD i ex0) = tyW L (x.kids.getD i ex0) := fun i hi hh => by
    have := ht_kid hi
    exact ih (n - 1) (by omega) _ (by omega) (snd_kid hs hi) (ha.kid hi) (f1 i hi) hh
  have all : (∀ i, i < x.kids.length → tyW S (x.kids.getD i ex0) = tyW L (x.kids.getD i ex0)) → tyL (revF S S.length) (revW S S.length) x.kids = tyL (revF L L.length) (revW L L.length) x.kids := fun h => by
    rw [tyL_map, tyL_map]
    refine List.map_congr_left fun y hy => ?_
    obtain ⟨i, hi, rfl⟩ := List.getElem_of_mem hy
    have e : x.kids[i] = x.kids.getD i ex0 := by rw [List.getD, List.getElem?_eq_getElem hi]; rfl
    rw [e]
    exact h i hi
  show tyE _ _ x = tyE _ _ x
  by_cases e12 : x.k = 12 ∨ x.k = 13
  · obtain ⟨a1, a2, a3, a4⟩ := @apK_ks (revF L L.length) (revW L L.length) x.k x.s ((tyL (revF L L.length) (revW L L.length) x.kids).map (·.1)) (x.kids.getD 0 ex0).s (x.kids.getD 1 ex0).s
    rw [a4 e12] at f3
    have hlen : x.kids.length = 2 := (snd_two hs ⟨by omega, by omega, by omega, by omega, by omega, by omega, by omega, by omega⟩).1
    have hcm : cmK (revF L L.length) (x.kids.getD 0 ex0).s (x.kids.getD 1 ex0).s (tyW L (x.kids.getD 0 ex0)).1 (tyW L (x.kids.getD 1 ex0)).1 = true := by
      simp only at f3
      rw [tyK_get (by omega), tyK_get (by omega)] at f3
      split at f3
      · rename_i hc; exact hc
      · omega
    have two : (tyW L (x.kids.getD 0 ex0)).1 = (tyW L (x.kids.getD 1 ex0)).1 := by
      unfold cmK at hcm
      split at hcm
      · exact eq_of_beq hcm
      · rename_i hc
        simp only [Bool.or_eq_true, bne_iff_ne, ne_eq, not_or, Decidable.not_not] at hc
        exact hc.1
    have hkk : (∀ i, i < x.kids.length → tyW S (x.kids.getD i ex0) = tyW L (x.kids.getD i ex0)) ∧ cmK (revF S S.length) (x.kids.getD 0 ex0).s (x.kids.getD 1 ex0).s (tyW L (x.kids.getD 0 ex0)).1 (tyW L (x.kids.getD 1 ex0)).1 = true := by
      by_cases hw : (tyW L (x.kids.getD 0 ex0)).1 = 2
      · have hw1 : (tyW L (x.kids.getD 1 ex0)).1 = 2 := by rw [← two]; exact hw
        obtain ⟨k0, n0⟩ := ty_word (snd_kid hs (i := 0) (by omega)) (f1 0 (by omega)) hw
        obtain ⟨k1, n1⟩ := ty_word (snd_kid hs (i := 1) (by omega)) (f1 1 (by omega)) hw1
        have g0 := (ha.kid (i := 0) (by omega)).nm k0
        have g1 := (ha.kid (i := 1) (by omega)).nm k1
        rw [hw, hw1] at hcm ⊢
        unfold cmK at hcm ⊢
        rw [if_neg (by decide)] at hcm ⊢
        rw [g0.1, g0.2, g1.1, g1.2]
        refine ⟨?_, hcm⟩
        have word : ∀ i j, i < 2 → j < 2 → (x.kids.getD i ex0).k = 2 → (x.kids.getD j ex0).k = 2 → (tyW L (x.kids.getD i ex0)).1 = 2 → fH (revF L L.length) (.string (x.kids.getD i ex0).s) = false → fH (revF L L.length) (.string (x.kids.getD j ex0).s) = true → anyB (fM (revF L L.length) (.string (x.kids.getD j ex0).s)).words (x.kids.getD i ex0).s = true → tyW S (x.kids.getD i ex0) = tyW L (x.kids.getD i ex0) := by
          intro i j hi hj ki kj hwi fi fj hany
          have gi := (ha.kid (i := i) (by omega)).nm ki
          have gj := (ha.kid (i := j) (by omega)).nm kj
          have hsi := snd_kid hs (i := i) (by omega)
          show tyE _ _ _ = tyE _ _ _
          have eL := ty_name (l := revF L L.length) (ws := revW L L.length) hsi ki
          rw [ty_name hsi ki, eL]
          have hLw : nmK (revF L L.length) (revW L L.length) (x.kids.getD i ex0).s = (2, 0) := by
            have h2 : (tyE (revF L L.length) (revW L L.length) (x.kids.getD i ex0)).2.2 = 0 := f1 i (by omega)
            rw [eL] at h2
            unfold nmK at h2 ⊢
            rw [if_neg (by rw [fi]; decide)] at h2 ⊢
            split at h2 <;> rename_i hw
            · rw [if_pos hw]
            · cases h2
          have hSw : nmK (revF S S.length) (revW S S.length) (x.kids.getD i ex0).s = (2, 0) := by
            unfold nmK
            rw [gi.1, if_neg (by rw [fi]; decide), if_pos]
            rw [wL_iff]
            rw [← gj.1, fH_iff] at fj
            obtain ⟨f, hf, e⟩ := fj
            have hfm : fM (revF S S.length) (.string (x.kids.getD j ex0).s) ∈ S := by
              have hh := fH_iff.2 ⟨f, hf, e⟩
              exact fM_in hh
            refine ⟨_, hfm, ?_⟩
            rw [gj.2]
            exact (anyB_mem _ _).1 hany
          rw [hLw, hSw]
        intro i hi
        cases h0 : fH (revF L L.length) (.string (x.kids.getD 0 ex0).s) with
        | true =>
          cases h1 : fH (revF L L.length) (.string (x.kids.getD 1 ex0).s) with
          | true =>
            refine kid i hi (.inr ?_)
            rcases (show i = 0 ∨ i = 1 by omega) with rfl | rfl
            · exact h0
            · exact h1
          | false =>
            rcases (show i = 0 ∨ i = 1 by omega) with rfl | rfl
            · exact kid 0 hi (.inr h0)
            · rw [h0, h1, if_neg (by decide), if_pos rfl] at hcm
              exact word 1 0 (by omega) (by omega) k1 k0 hw1 h1 h0 hcm
        | false =>
          cases h1 : fH (revF L L.length) (.string (x.kids.getD 1 ex0).s) with
          | true =>
            rcases (show i = 0 ∨ i = 1 by omega) with rfl | rfl
            · rw [h0, h1, if_neg (by decide), if_neg (by decide), if_pos rfl] at hcm
              exact word 0 1 (by omega) (by omega) k0 k1 hw h0 h1 hcm
            · exact kid 1 hi (.inr h1)
          | false =>
            rw [h0, h1, if_neg (by decide), if_neg (by decide), if_neg (by decide)] at hcm
            cases hcm
      · have hw1 : (tyW L (x.kids.getD 1 ex0)).1 ≠ 2 := by rw [← two]; exact hw
        refine ⟨fun i hi => kid i hi (.inl ?_), ?_⟩
        · rcases (show i = 0 ∨ i = 1 by omega) with rfl | rfl
          · exact hw
          · exact hw1
        · have hb : ((tyW L (x.kids.getD 0 ex0)).1 != (tyW L (x.kids.getD 1 ex0)).1 || (tyW L (x.kids.getD 0 ex0)).1 != 2) = true := by
            rw [Bool.or_eq_true]
            exact .inr (by simpa using hw)
          unfold cmK at hcm ⊢
          rw [if_pos hb] at hcm ⊢
          exact hcm
    have hR := all hkk.1
    obtain ⟨b1, b2, b3, b4⟩ := @apK_ks (revF S S.length) (revW S S.length) x.k x.s ((tyL (revF L L.length) (revW L L.length) x.kids).map (·.1)) (x.kids.getD 0 ex0).s (x.kids.getD 1 ex0).s
    have e1 : ((tyL (revF L L.length) (revW L L.length) x.kids).map (·.1)).getD 0 0 = (tyW L (x.kids.getD 0 ex0)).1 := tyK_get (by omega)
    have e2 : ((tyL (revF L L.length) (revW L L.length) x.kids).map (·.1)).getD 1 0 = (tyW L (x.kids.getD 1 ex0)).1 := tyK_get (by omega)
    rw [tyE_eq, tyE_eq, hR]
    unfold tyC
    rw [a4 e12, b4 e12, e1, e2, hcm, hkk.2]
  · have hR : tyL (revF S S.length) (revW S S.length) x.kids = tyL (revF L L.length) (revW L L.length) x.kids := by
      refine all fun i hi => kid i hi (.inl ?_)
      obtain ⟨c1, c2⟩ := ty_kids h2
      by_cases e18 : 18 ≤ x.k
      · have := c2 e18 i hi
        show (tyE _ _ _).1 ≠ 2
        omega
      · by_cases e5 : 5 ≤ x.k
        · have := c1 (by omega) i hi
          show (tyE _ _ _).1 ≠ 2
          omega
        · exfalso
          rw [snd_leaf hs (by omega)] at hi
          simp at hi
    rw [tyE_eq, tyE_eq, hR]
    have e : ∀ l ws l' ws', apK l ws x.k x.s ((tyL (revF L L.length) (revW L L.length) x.kids).map (·.1)) (x.kids.getD 0 ex0).s (x.kids.getD 1 ex0).s = apK l' ws' x.k x.s ((tyL (revF L L.length) (revW L L.length) x.kids).map (·.1)) (x.kids.getD 0 ex0).s (x.kids.getD 1 ex0).s := fun l ws l' ws' => by
      unfold apK
      rw [if_neg e2, if_neg e2, if_neg e12, if_neg e12]
    unfold tyC
    rw [e (revF S S.length) (revW S S.length) (revF L L.length) (revW L L.length)]
abbrev occF (L : List Fc) (x : Ex) : List Fc := L.filter fun f => occE f.name x
theorem vf_filter {L : List Fc} (hv : VF L) (p : Fc → Bool) : VF (L.filter p) := by
  refine ⟨hv.nd.sublist (List.filter_sublist.map _), fun f hf => hv.ds f (List.mem_filter.1 hf).1, fun f hf s hs g hg => hv.wd f (List.mem_filter.1 hf).1 s hs g (List.mem_filter.1 hg).1⟩
theorem ag_filter {L : List Fc} (hv : VF L) (x : Ex) : AG L (occF L x) x := fun s hs => by
  have hv2 := vf_filter hv fun f => occE f.name x
  cases h : fH (revF L L.length) (.string s) with
  | true =>
    obtain ⟨f, hf, rfl⟩ := fH_iff.1 h
    have hf2 : f ∈ occF L x := List.mem_filter.2 ⟨hf, hs⟩
    exact ⟨fH_iff.2 ⟨f, hf2, rfl⟩, by rw [fM_mem hv hf, fM_mem hv2 hf2]⟩
  | false =>
    have h2 : fH (revF (occF L x) (occF L x).length) (.string s) = false := by
      cases h2 : fH (revF (occF L x) (occF L x).length) (.string s) with
      | false => rfl
      | true =>
        obtain ⟨f, hf, rfl⟩ := fH_iff.1 h2
        rw [fH_iff.2 ⟨f, (List.mem_filter.1 hf).1, rfl⟩] at h
        cases h
    exact ⟨h2, by rw [fM_miss h, fM_miss h2]⟩
section
variable {L : List Fc} {x : Ex} (h2 : (typR L x).2.2 = 0) (h1 : (typR L x).1 ≠ 2) (h32 : L.length ≤ 32)
include h2 h1
theorem occ_ty : tyW (occF L x) x = tyW L x := by
  obtain ⟨hv, hfit, hsn, hty, e⟩ := typ_ok h2
  refine ty_ag _ _ (Nat.le_refl _) hsn (ag_filter (vf_of hv) x) hty (.inl ?_)
  rw [e] at h1; exact h1
include h32
theorem occ_typ : typR (occF L x) x = typR L x := by
  obtain ⟨hv, hfit, hsn, hty, e⟩ := typ_ok h2
  have hl : (occF L x).length ≤ 32 := Nat.le_trans (List.length_filter_le ..) h32
  have ev := vf_to hl (vf_filter (vf_of hv) fun f => occE f.name x)
  have et := occ_ty h2 h1
  have hfx : decide ((fmtX x).size = 0) = false := by
    cases hd : decide ((fmtX x).size = 0) with
    | false => rfl
    | true =>
      unfold typR at h2
      rw [hd, Bool.or_true, if_pos rfl] at h2
      cases h2
  unfold typR
  rw [ev, hv, hfx, et]
theorem occ_bds : bdsR (occF L x) x = bdsR L x := by
  obtain ⟨hv, hfit, hsn, hty, e⟩ := typ_ok h2
  unfold bdsR
  rw [occ_typ h2 h1 h32, bn_ag _ x (Nat.le_refl _) (ag_filter (vf_of hv) x)]
theorem occ_trd {s : ByteArray} (hs : occE s x = true) : trdR (occF L x) x s = trdR L x s := by
  obtain ⟨hv, hfit, hsn, hty, e⟩ := typ_ok h2
  have ha := ag_filter (vf_of hv) x
  unfold trdR
  rw [occ_typ h2 h1 h32, (ha s hs).1, (ha s hs).2, tr_ag _ x (Nat.le_refl _) ha]
end
theorem occ_none {L : List Fc} {x : Ex} (h2 : (typR L x).2.2 = 0) (h1 : (typR L x).1 ≠ 2) {f : Fc} (hf : f ∈ L) (ho : occE f.name x = false) : trdR L x f.name = 0 := by
  unfold trdR
  have hb : ((typR L x).2.2 != 0 || (typR L x).1 == 2) = false := by
    rw [h2]
    simpa using h1
  rw [hb, if_neg (by decide), fH_iff.2 ⟨f, hf, rfl⟩, if_neg (by decide), ho, if_pos (by decide)]
theorem occ_has {L : List Fc} {x : Ex} {f : Fc} (hf : f ∈ L) : anyB ((occF L x).map (·.name)) f.name = occE f.name x := by
  cases h : occE f.name x with
  | true => exact (anyB_mem _ _).2 (List.mem_map.2 ⟨f, List.mem_filter.2 ⟨hf, h⟩, rfl⟩)
  | false =>
    cases h2 : anyB ((occF L x).map (·.name)) f.name with
    | false => rfl
    | true =>
      obtain ⟨g, hg, e⟩ := List.mem_map.1 ((anyB_mem _ _).1 h2)
      have := (List.mem_filter.1 hg).2
      have e : g.name = f.name := e
      rw [e, h] at this
      cases this
end Go.Proofs
set_option autoImplicit false
namespace Go.Proofs
open Go Go.Ab Go.RowKit
set_option maxHeartbeats 4000000
set_option maxRecDepth 100000
variable {G : IH}
/-! RubricOccurring. -/
def rdF1 (d : DV) : Fc := match d with
  | .agg [.con (.string s), .con (.int _ a), .con (.int _ b), .con (.int _ c), .con (.int _ d), .con (.int _ e), w] => ⟨s, a, b, c, d, e, rdW w⟩
  | _ => fc0
def rdFs (d : DV) : List Fc := match d with | .slc _ n f => (List.range n).map fun i => rdF1 (f i) | _ => []
theorem rdFs_eq (l : List Fc) : rdFs (fcsD l) = l := by
  unfold rdFs
  refine List.ext_getElem (by simp) fun i h1 h2 => ?_
  rw [List.getElem_map, List.getElem_range]
  unfold fcF
  rw [List.getD, List.getElem?_eq_getElem h2]
  show Fc.mk _ _ _ _ _ _ (rdW (wdD _)) = _
  rw [rdW_eq]; rfl
abbrev fcK : RK := ⟨true, 44, false, none⟩
def rowFc (S : List Fc) : Nat → Nat → DV := rowRec (fun _ => DV.con undef) true 7 fun j => [ds (S.getD j fc0).name, di (S.getD j fc0).kind, di (S.getD j fc0).ln, di (S.getD j fc0).ld, di (S.getD j fc0).hn, di (S.getD j fc0).hd, wdD (S.getD j fc0).words]
theorem rowFc_next {S : List Fc} {n : Nat} {f : Fc} (h : f = S.getD n fc0) : (fun i => bif Nat.blt i n then rowFc S n i else elemF true 7 [ds f.name, di f.kind, di f.ln, di f.ld, di f.hn, di f.hd, wdD f.words] (i - n)) = rowFc S (n + 1) := by
  subst h; rfl
theorem rowFc_get {S : List Fc} {k i : Nat} (h : i < k) : rowFc S k (0 + i) = fcF S i := by
  rw [Nat.zero_add]
  unfold rowFc fcF
  rw [rowRec_get h]; rfl
noncomputable def orc7 (x : Ex) : Oracle := fun f a => match f, a with
  | 10, [] => some (db true)
  | 11, [_, w] => some (db (fewX x (rdFs w)))
  | 13, [_, w] => some (.tup [di (typR (rdFs w) x).1, di (typR (rdFs w) x).2.1, di (typR (rdFs w) x).2.2])
  | 28, [_, w] => some (wdD (nmsR (rdFs w) x))
  | 31, [w, .con (.string s)] => some (db (anyB (rdW w) s))
  | 15, [_, .con (.string s), w] => some (di (trdR (rdFs w) x s))
  | 16, [_, w] => some (.tup [fr (bdsR (rdFs w) x).1.a (bdsR (rdFs w) x).1.b, fr (bdsR (rdFs w) x).1.c (bdsR (rdFs w) x).1.d, db (bdsR (rdFs w) x).2])
  | _, _ => none
abbrev LL (L : List Fc) : List Fc := rdFs (fcsD L)
noncomputable def S7 (L : List Fc) (p : Fc → Bool) (m : Nat) (x : Ex) (k : Nat) : AS := ⟨regs Tryz.f7.ntmps [(1, .d (fcsD L)), (2, .box 2 0), (5, vi (typR (LL L) x).1), (6, vi (typR (LL L) x).2.1), (8, .d (wdD (nmsR (LL L) x))), (9, .vec 900 7 0 (cntF p L k)), (56, .d (fcsD L)), (57, vi L.length), (58, vi k)], [(2, exC m x), (900, [.arr fcK 7 (rowFc (L.filter p) (cntF p L k))])]⟩
noncomputable def S7b (L S : List Fc) (m : Nat) (x : Ex) (k : Nat) : AS := ⟨regs Tryz.f7.ntmps [(1, .d (fcsD L)), (2, .box 2 0), (8, .d (wdD (nmsR (LL L) x))), (9, .d (fcsD S)), (131, .d (fcsD S)), (132, vi S.length), (133, vi k)], [(2, exC m x)]⟩
theorem f7 (hT : Tab G) (m : Nat) (x : Ex) (L : List Fc) (hx : ht x ≤ m) (hw : wfE x) (hl : L.length ≤ 9223372036854775807) (hw2 : ∀ i, i < L.length → FcW (L.getD i fc0)) : FnOK Tryz.prog G 7 [exD m x, fcsD L] (db true) := by
  have eL := rdFs_eq L
  refine FnOK.walkK (orc := orc7 x) (keep := []) follows Tryz.func7 rfl Tryz.call7 ?_
  refine of_tr (fun ZT ZW ZQ ZK => (fun Za => (ZK 10 [] (db true) ∧ ((false = true) → (((db false) : DV) = (db true))) ∧ ((false = false) → (ZK 11 [(ndX m x), (.slc 7 L.length (fcF L))] (db (fewX x Za)) ∧ (((!fewX x Za) = true) → (ZS ((db true) : DV))) ∧ (((!fewX x Za) = false) → (ZK 13 [(ndX m x), (.slc 7 L.length (fcF L))] (.tup [(di (typR Za x).fst), (di (typR Za x).snd.fst), (di (typR Za x).snd.snd)]) ∧ ZK 28 [(ndX m x), (.slc 7 L.length (fcF L))] (.slc 1 (nmsR Za x).length (stF (nmsR Za x))) ∧ ((((typR Za x).snd.snd != 0 || (typR Za x).fst == 2) = true) → (((db ((typR Za x).snd.snd == 0 || (↑(nmsR Za x).length : Int) == 0 && (typR Za x).fst == 0)) : DV) = (db true))) ∧ ((((typR Za x).snd.snd != 0 || (typR Za x).fst == 2) = false) → ZW [cd Tryz.f7 [1, 1, 1, 1, 1, 1, 1, 0, 1, 0], (.blk 0), cd Tryz.f7 [1, 1, 1, 1, 1, 1, 1, 1]] (stS ZT [1, 1, 1]) ZQ))))))) (rdFs (DV.slc 7 L.length (fcF L)))) (by kernel_rfl) ?_
  simp only [eL]
  refine ⟨f10 hT, fun h => (by cases h), fun _ => ⟨f11 m x L hx hw hl hw2, fun _ => trivial, fun h1 => ?_⟩⟩
  have hfx : fewX x L = true := by simpa using h1
  unfold fewX at hfx
  rw [Bool.and_eq_true] at hfx
  have hs : Sm x := few_sm (by omega) hw hfx.1
  obtain ⟨hF, hL16⟩ := fcs_of_few hfx.2
  refine ⟨f13 hT m x L hx hs hF (by omega), f28 hT m x L hx hs hF (by omega), fun h2 => ?_, fun h2 => ?_⟩
  · by_cases hc : (typR L x).2.2 = 0
    · rw [hc]; rfl
    · have e1 : nmsR L x = [] := by unfold nmsR; rw [if_pos hc]
      have e2 : (typR L x).1 = 0 := by
        unfold typR at hc ⊢
        split
        · rfl
        · rename_i hn
          rw [if_neg hn] at hc
          split
          · rfl
          · rename_i hn2
            rw [if_neg hn2] at hc
            exact absurd rfl hc
      rw [e1, e2]
      have : ((typR L x).2.2 == 0) = false := by simpa using hc
      rw [this]; rfl
  obtain ⟨h3, h4⟩ : (typR L x).2.2 = 0 ∧ (typR L x).1 ≠ 2 := by simpa using h2
  have hat : (typR L x).2.1 = 0 := by rw [(typ_ok h3).2.2.2.2]
  have en : nmsR L x = (occF L x).map (·.name) := by unfold nmsR; rw [if_neg (by omega)]
  clear h1 h2 hfx
  obtain ⟨p, hp⟩ : ∃ p : Fc → Bool, p = fun f => occE f.name x := ⟨_, rfl⟩
  refine AWP.pre (.nilRow _ 9 900 7 fcK (rowFc (L.filter p) 0) (by kernel_rfl) (by kernel_rfl)) ?_
  refine AWP.loop (c := cAt (bodyOf Tryz.f7) [1, 1, 1, 1, 1, 1, 1, 0, 1, 0, 0]) (by kernel_rfl) (S7 L p m x) (fun k => k ≤ L.length) (fun k => L.length - k) 0 ?_ (Nat.zero_le _) ?_
  · refine AS.leZ [] [1] (b := ((T0 ∧ T0 ∧ T0 ∧ T0 ∧ T0 ∧ T0 ∧ T0 ∧ T0 ∧ T0 ∧ True) ∧ T0 ∧ ((some [(.arr ⟨true, 44, false, none⟩ 7 (rowFc (List.filter p L) 0))]) : (Option (List AV))) = (some [(.arr ⟨true, 44, false, none⟩ 7 (rowFc (List.filter p L) (cntF p L 0)))]) ∧ True)) (by kernel_rfl) (by kernel_rfl) ?_
    exact ⟨⟨rfl, rfl, rfl, rfl, rfl, rfl, rfl, rfl, rfl, trivial⟩, rfl, rfl, trivial⟩
  · intro k hk
    refine walkK (orc := orc7 x) (keep := []) (cuts := []) (n := 1000) follows ?_
    refine of_rd (fun ZT ZW ZQ ZK ZA _ => (fun Za Zb => ((((decide ((↑k : Int) < ↑L.length)) = true) → (((0 ≤ (↑k : Int)) ∧ ((↑k : Int) < ↑L.length)) ∧ ZK 31 [(.slc 1 (nmsR (LL L) x).length (stF (nmsR (LL L) x))), (ds (L.getD (↑k : Int).toNat fc0).name)] (db Za) ∧ ((Za = true) → (((((cntF p L k + 1) * 80 ≤ 1099511627776) ∧ (cntF p L k + 1 ≤ 1099511627776)) ∧ (∀ (i : Nat), i < 1 → elemOK true 7 (elemF true 7 [DV.con (Value.string (L.getD (↑k : Int).toNat fc0).name), DV.con (Value.int IntKind.i64 (L.getD (↑k : Int).toNat fc0).kind), DV.con (Value.int IntKind.i64 (L.getD (↑k : Int).toNat fc0).ln), DV.con (Value.int IntKind.i64 (L.getD (↑k : Int).toNat fc0).ld), DV.con (Value.int IntKind.i64 (L.getD (↑k : Int).toNat fc0).hn), DV.con (Value.int IntKind.i64 (L.getD (↑k : Int).toNat fc0).hd), DV.slc 1 (L.getD (↑k : Int).toNat fc0).words.length (stF (L.getD (↑k : Int).toNat fc0).words)] i) = true)) ∧ (I64 (↑k + 1)) ∧ (ZA (stS ZT [0, 0])))) ∧ ((Za = false) → (ZK 15 [(ndX m x), (ds (L.getD (↑k : Int).toNat fc0).name), (.slc 7 L.length (fcF L))] (di (trdR (rdFs (DV.slc 7 L.length (fcF L))) x (L.getD (↑k : Int).toNat fc0).name)) ∧ ((Zb = true) → (((db false) : DV) = (db true))) ∧ ((Zb = false) → ((I64 (↑k + 1)) ∧ (ZA (stS ZT [0, 1, 1])))))))) ∧ (((decide ((↑k : Int) < ↑L.length)) = false) → ZW [cd Tryz.f7 [1, 1, 1, 1, 1, 1, 1, 1]] (stS ZT [1]) ZQ))) (anyB (rdW (DV.slc 1 (nmsR (LL L) x).length (stF (nmsR (LL L) x)))) (L.getD (↑k : Int).toNat fc0).name) (trdR (rdFs (DV.slc 7 L.length (fcF L))) x (L.getD (↑k : Int).toNat fc0).name != 0)) (by kernel_rfl) ?_
    simp only [Int.toNat_natCast, LL, eL]
    refine ⟨fun h1 => ?_, fun h1 => ?_⟩
    · have hk2 : k < L.length := by have := of_decide_eq_true h1; omega
      have hnx := cntF_next (p := p) (x0 := fc0) hk2
      have hle := @cntF_le _ p L k
      have hmem : L.getD k fc0 ∈ L := getD_mem hk2
      have hpe : p (L.getD k fc0) = occE (L.getD k fc0).name x := by rw [hp]
      have hany : anyB (rdW (wdD (nmsR L x))) (L.getD k fc0).name = p (L.getD k fc0) := by rw [rdW_eq, en, hpe]; exact occ_has hmem
      rw [hany]
      have h31 : FnOK Tryz.prog G 31 [wdD (nmsR L x), ds (L.getD k fc0).name] (db (p (L.getD k fc0))) := by
        rw [← hany, rdW_eq]
        refine f31 _ _ ?_
        rw [en, List.length_map]
        have : (occF L x).length ≤ L.length := List.length_filter_le ..
        omega
      refine ⟨⟨by omega, by omega⟩, h31, fun h2 => ?_, fun h2 => ?_⟩
      · rw [if_pos h2] at hnx
        have hg := cntF_get hk2 h2
        refine ⟨⟨⟨by omega, by omega⟩, fun i hi => (by obtain rfl : i = 0 := (by omega); rfl)⟩, ⟨by omega, by omega⟩, Again.mkR [(69, 900)] rfl (k + 1) ?_ hk2 (by omega)⟩
        refine AS.leZ [5] [1] (b := ((T0 ∧ T0 ∧ T0 ∧ T0 ∧ T0 ∧ ((.vec 900 7 0 (cntF p L k + 1)) : AV) = (.vec 900 7 0 (cntF p L (k + 1))) ∧ T0 ∧ T0 ∧ T0 ∧ True) ∧ T0 ∧ ((some [(.arr ⟨true, 44, false, none⟩ 7 (fun i => bif i.blt (cntF p L k) then rowFc (List.filter p L) (cntF p L k) i else elemF true 7 [DV.con (Value.string (L.getD (↑k : Int).toNat fc0).name), DV.con (Value.int IntKind.i64 (L.getD (↑k : Int).toNat fc0).kind), DV.con (Value.int IntKind.i64 (L.getD (↑k : Int).toNat fc0).ln), DV.con (Value.int IntKind.i64 (L.getD (↑k : Int).toNat fc0).ld), DV.con (Value.int IntKind.i64 (L.getD (↑k : Int).toNat fc0).hn), DV.con (Value.int IntKind.i64 (L.getD (↑k : Int).toNat fc0).hd), DV.slc 1 (L.getD (↑k : Int).toNat fc0).words.length (stF (L.getD (↑k : Int).toNat fc0).words)] (i - cntF p L k)))]) : (Option (List AV))) = (some [(.arr ⟨true, 44, false, none⟩ 7 (rowFc (List.filter p L) (cntF p L (k + 1))))]) ∧ True)) (by kernel_rfl) (by kernel_rfl) ?_
        rw [hnx]
        refine ⟨⟨rfl, rfl, rfl, rfl, rfl, rfl, rfl, rfl, rfl, trivial⟩, rfl, ?_, trivial⟩
        exact congrArg (fun f => some [AV.arr fcK 7 f]) (rowFc_next (by rw [hg]; rfl))
      · rw [if_neg (by rw [h2]; decide)] at hnx
        have h0 := occ_none h3 h4 hmem (by rw [← hpe]; exact h2)
        rw [h0]
        refine ⟨by rw [← h0]; exact f15 hT m x _ L hx hs hF (by omega), fun h5 => (by cases h5), fun _ => ⟨⟨by omega, by omega⟩, Again.mk (k + 1) ?_ hk2 (by omega)⟩⟩
        refine AS.leZ [5] [1] (b := ((T0 ∧ T0 ∧ T0 ∧ T0 ∧ T0 ∧ ((.vec 900 7 0 (cntF p L k)) : AV) = (.vec 900 7 0 (cntF p L (k + 1))) ∧ T0 ∧ T0 ∧ T0 ∧ True) ∧ T0 ∧ ((some [(.arr ⟨true, 44, false, none⟩ 7 (rowFc (List.filter p L) (cntF p L k)))]) : (Option (List AV))) = (some [(.arr ⟨true, 44, false, none⟩ 7 (rowFc (List.filter p L) (cntF p L (k + 1))))]) ∧ True)) (by kernel_rfl) (by kernel_rfl) ?_
        rw [hnx]
        exact ⟨⟨rfl, rfl, rfl, rfl, rfl, rfl, rfl, rfl, rfl, trivial⟩, rfl, rfl, trivial⟩
    · have h1 := of_decide_eq_false h1
      obtain rfl : k = L.length := by omega
      have hlen : cntF p L L.length = (L.filter p).length := cntF_all
      refine AWP.freeze (agg := fcK) (sz := 7) (f := rowFc (L.filter p) (cntF p L L.length)) 900 (by kernel_rfl) ?_
      refine AWP.pre (.regD _ 9 (.slc 7 (cntF p L L.length) fun i => rowFc (L.filter p) (cntF p L L.length) (0 + i)) (fcsD (L.filter p)) (by kernel_rfl) fun h v hv => ?_) ?_
      · rw [hlen] at hv
        exact DV.rel_slc_congr (fun i hi => rowFc_get hi) hv
      obtain ⟨S, hS⟩ : ∃ S, S = L.filter p := ⟨_, rfl⟩
      rw [← hS]
      have eS := rdFs_eq S
      refine walkK (orc := orc7 x) (keep := []) (cuts := []) (n := 1000) follows ?_
      refine of_tr (fun ZT ZW ZQ ZK => (fun Za Zb Zc => (ZK 13 [(ndX m x), (.slc 7 S.length (fcF S))] (.tup [(di (typR Zb x).fst), (di (typR Zb x).snd.fst), (di (typR Zb x).snd.snd)]) ∧ ZK 16 [(ndX m x), (.slc 7 L.length (fcF L))] (.tup [(.agg [(di Zc.fst.a), (di Zc.fst.b)]), (.agg [(di Zc.fst.c), (di Zc.fst.d)]), (db Zc.snd)]) ∧ ZK 16 [(ndX m x), (.slc 7 S.length (fcF S))] (.tup [(.agg [(di (bdsR Zb x).fst.a), (di (bdsR Zb x).fst.b)]), (.agg [(di (bdsR Zb x).fst.c), (di (bdsR Zb x).fst.d)]), (db (bdsR Zb x).snd)]) ∧ ((Za = true) → (((db false) : DV) = (db true))) ∧ ((Za = false) → ZW [cd Tryz.f7 [1, 1, 1, 1, 1, 1, 1, 1, 1, 1, 1, 1, 0, 1, 0], (.blk 2), cd Tryz.f7 [1, 1, 1, 1, 1, 1, 1, 1, 1, 1, 1, 1, 1]] (stS ZT [1]) ZQ))) ((typR (LL L) x).snd.fst != 0 || (typR (rdFs (DV.slc 7 S.length (fcF S))) x).snd.snd != 0 || (typR (rdFs (DV.slc 7 S.length (fcF S))) x).fst != (typR (LL L) x).fst || (↑S.length : Int) != ↑(nmsR (LL L) x).length || !Bool.rec false ((bdsR (rdFs (DV.slc 7 L.length (fcF L))) x).fst.b == (bdsR (rdFs (DV.slc 7 S.length (fcF S))) x).fst.b) ((bdsR (rdFs (DV.slc 7 L.length (fcF L))) x).fst.a == (bdsR (rdFs (DV.slc 7 S.length (fcF S))) x).fst.a) || !Bool.rec false ((bdsR (rdFs (DV.slc 7 L.length (fcF L))) x).fst.d == (bdsR (rdFs (DV.slc 7 S.length (fcF S))) x).fst.d) ((bdsR (rdFs (DV.slc 7 L.length (fcF L))) x).fst.c == (bdsR (rdFs (DV.slc 7 S.length (fcF S))) x).fst.c) || !(bdsR (rdFs (DV.slc 7 L.length (fcF L))) x).snd == (bdsR (rdFs (DV.slc 7 S.length (fcF S))) x).snd) (rdFs (DV.slc 7 S.length (fcF S))) (bdsR (rdFs (DV.slc 7 L.length (fcF L))) x)) (by kernel_rfl) ?_
      simp only [LL, eL, eS]
      have hoS : S = occF L x := by rw [hS, hp]
      have eT : typR S x = typR L x := by rw [hoS]; exact occ_typ h3 h4 (by omega)
      have eB : bdsR S x = bdsR L x := by rw [hoS]; exact occ_bds h3 h4 (by omega)
      have hSn : (nmsR L x).length = S.length := by rw [en, List.length_map, hoS]
      have hSL : ∀ i, i < S.length → S.getD i fc0 ∈ L ∧ occE (S.getD i fc0).name x = true := fun i hi => by
        have : S.getD i fc0 ∈ occF L x := by rw [← hoS]; exact getD_mem hi
        exact List.mem_filter.1 this
      have hFS : ∀ i, i < S.length → FcS (S.getD i fc0) := fun i hi => by
        obtain ⟨j, hj, e⟩ := List.getElem_of_mem (hSL i hi).1
        have := hF j hj
        rwa [List.getD, List.getElem?_eq_getElem hj, Option.getD_some, e] at this
      have hSl : S.length ≤ L.length := by rw [hoS]; exact List.length_filter_le ..
      have h13 := f13 (G := G) hT m x S hx hs hFS (by omega)
      have h16 := f16 (G := G) hT m x S hx hs hFS (by omega)
      rw [eT] at h13
      rw [eB] at h16
      rw [eT, eB]
      refine ⟨h13, f16 hT m x L hx hs hF (by omega), h16, fun h5 => ?_, fun h5 => ?_⟩
      · exfalso
        rw [hat, h3, hSn] at h5
        simp at h5
      clear h5
      refine AWP.loop (c := cAt (bodyOf Tryz.f7) [1, 1, 1, 1, 1, 1, 1, 1, 1, 1, 1, 1, 0, 1, 0, 0]) (by kernel_rfl) (S7b L S m x) (fun k => k ≤ S.length) (fun k => S.length - k) 0 ?_ (Nat.zero_le _) ?_
      · exact AS.leA (by kernel_rfl)
      · intro k hk
        refine walkK (orc := orc7 x) (keep := []) (cuts := []) (n := 1000) follows ?_
        refine of_rd (fun ZT ZW ZQ ZK ZA _ => (fun Za Zb => ((((decide ((↑k : Int) < ↑S.length)) = true) → (((0 ≤ (↑k : Int)) ∧ ((↑k : Int) < ↑S.length)) ∧ (((0 ≤ (↑k : Int)) ∧ ((↑k : Int) < ↑(nmsR (LL L) x).length)) ∧ ((Zb = true) → ZK 15 [(ndX m x), (ds (S.getD (↑k : Int).toNat fc0).name), (.slc 7 L.length (fcF L))] (di (trdR (rdFs (DV.slc 7 L.length (fcF L))) x (S.getD (↑k : Int).toNat fc0).name))) ∧ ((Zb = true) → ZK 15 [(ndX m x), (ds (S.getD (↑k : Int).toNat fc0).name), (.slc 7 S.length (fcF S))] (di (trdR (rdFs (DV.slc 7 S.length (fcF S))) x (S.getD (↑k : Int).toNat fc0).name)))) ∧ ((Za = true) → (((db false) : DV) = (db true))) ∧ ((Za = false) → ((I64 (↑k + 1)) ∧ (ZA (stS ZT [0, 1])))))) ∧ (((decide ((↑k : Int) < ↑S.length)) = false) → ZW [cd Tryz.f7 [1, 1, 1, 1, 1, 1, 1, 1, 1, 1, 1, 1, 1]] (stS ZT [1]) ZQ))) (!(S.getD (↑k : Int).toNat fc0).name.toList == ((nmsR (LL L) x).getD (↑k : Int).toNat ByteArray.empty).toList || trdR (rdFs (DV.slc 7 L.length (fcF L))) x (S.getD (↑k : Int).toNat fc0).name != trdR (rdFs (DV.slc 7 S.length (fcF S))) x (S.getD (↑k : Int).toNat fc0).name) (!!(S.getD (↑k : Int).toNat fc0).name.toList == ((nmsR (LL L) x).getD (↑k : Int).toNat ByteArray.empty).toList)) (by kernel_rfl) ?_
        simp only [Int.toNat_natCast, LL, eL, eS]
        refine ⟨fun h1 => ?_, fun h1 => ?_⟩
        · have hk2 : k < S.length := by have := of_decide_eq_true h1; omega
          have hm := hSL k hk2
          have hn : (nmsR L x).getD k ByteArray.empty = (S.getD k fc0).name := by
            rw [en, ← hoS, List.getD, List.getElem?_map, List.getD, List.getElem?_eq_getElem hk2]; rfl
          have ht : trdR S x (S.getD k fc0).name = trdR L x (S.getD k fc0).name := by rw [hoS]; exact occ_trd h3 h4 (by omega) (by rw [← hoS]; exact hm.2)
          have h15 := f15 (G := G) hT m x (S.getD k fc0).name S hx hs hFS (by omega)
          rw [ht] at h15
          rw [hn, ht]
          refine ⟨⟨by omega, by omega⟩, ⟨⟨by omega, by omega⟩, fun _ => f15 hT m x _ L hx hs hF (by omega), fun _ => h15⟩, fun h5 => ?_, fun _ => ⟨⟨by omega, by omega⟩, Again.mk (k + 1) ?_ hk2 (by omega)⟩⟩
          · exfalso
            simp at h5
          · exact AS.leA (by kernel_rfl)
        · refine walkK (orc := orc7 x) (keep := []) (cuts := []) (n := 1000) follows ?_
          refine of_tr (fun _ _ _ _ => (ZS ((db true) : DV))) (by kernel_rfl) ?_
          rfl
end Go.Proofs
