import Derived.Test.YtpognhmelecaoaaGreatDoorAcC
import Derived.Test.YtpognhmelecaoaaGreatDoorEB
import Derived.Test.YtpognhmelecaoaaGreatDoorShelf
set_option autoImplicit false
namespace Go.Proofs
open Go Go.Ab Go.RowKit
set_option maxHeartbeats 2000000
set_option maxRecDepth 100000
variable {G : IH}
theorem nil_slc {k : IH} {sz : Nat} {f : Nat → DV} {v : Value} (h : DV.rel k (.con (.slice none 0 0)) v) : DV.rel k (.slc sz 0 f) v := by
  have h : v = .slice none 0 0 := h
  exact ⟨none, 0, h, Nat.le_refl _, .inl rfl⟩
def joinS (l : List ByteArray) (sep : ByteArray) : ByteArray := ⟨(Lib.join (l.map (·.data.toList)) sep.data.toList).toArray⟩
theorem f123 (l : List ByteArray) (sep : ByteArray) (hN : l.length ≤ 140737488355328) (hlen : (Lib.join (l.map (·.data.toList)) sep.data.toList).length ≤ 140737488355328) : FnOK Tryz.prog G 123 [.slc 1 l.length (stF l), ds sep] (ds (joinS l sep)) := by
  refine ⟨Tryz.call123, fun w k us hG hw hvs => ?_⟩
  obtain ⟨v, us', rfl, hv, v2, us2, rfl, hv2, h0⟩ := hvs
  have h0 : us2 = [] := h0
  have hv2 : v2 = .string sep := hv2
  subst h0; subst hv2
  obtain ⟨p, cap, rfl, hc, hrest⟩ := hv
  have key : ∀ {e : Ending} {w' : World}, e = .returned (.string ⟨(Lib.join (l.map (·.data.toList)) sep.data.toList).toArray⟩) → Below w.heap.size w w' →
      ∃ v h', e = .returned v ∧ DV.rel h' (ds (joinS l sep)) v ∧ k.le h' ∧ h'.holds w' ∧ Kept (fun _ => False) w w' ∧ ∀ b, b < w.heap.size → (∀ o, h'.cell b o = k.cell b o) ∧ h'.obj b = k.obj b := fun he hb =>
    ⟨_, k, he, rfl, IH.le.refl _, holds_below hw hb, ⟨hb.os, hb.tape, hb.output, hb.size, fun i hi _ => hb.block i hi⟩, fun _ _ => ⟨fun _ => rfl, rfl⟩⟩
  rcases Nat.eq_zero_or_pos l.length with hz | hz
  · have e : l = [] := List.eq_nil_of_length_eq_zero hz
    subst e
    exact (Tryz.strings_Join_none p cap sep w).mono fun e w' ⟨he, hb⟩ => key he (hb ▸ Below.refl _ _)
  · rcases hrest with h | ⟨b, off, rfl, hel⟩
    · omega
    have hcell : ∀ (j : Nat) x, l[j]? = some x → w.cell? ⟨b, off + j, none⟩ = some (.string x) := by
      intro j x hx
      have hj := (List.getElem?_eq_some_iff.1 hx).1
      obtain ⟨v, hr, hs, hc⟩ := hel j hj
      have e : stF l j = ds x := by unfold stF; rw [List.getD, hx]; rfl
      rw [e] at hr
      have hr : v = .string x := hr
      subst hr
      have := hc 0 (by decide)
      have h1 := hw.1 b (off + j * 1 + 0) (.string x) this
      simpa using h1
    have hb : b < w.heap.size := by
      have h1 := hcell 0 _ (List.getElem?_eq_getElem hz)
      simp only [World.cell?] at h1
      split at h1
      · rename_i hh; exact lt_of_heap hh
      · cases h1
    exact (Tryz.strings_Join b off cap l sep w hcell hb hN hc hlen).mono fun e w' ⟨he, hb⟩ => key he hb
/-! Operators. -/
def inF (l : List Int) (i : Nat) : DV := di (l.getD i 0)
def opsI (v : Int) : List Int := if v = 1 then [20] else if v = 2 then [19] else if v = 4 then [12, 13, 14, 15, 16, 17] else if v = 5 then [6, 7] else if v = 6 then [8, 9] else []
def opsT (v : Int) : List ByteArray := (opsI v).map opS
abbrev opsD (v : Int) : DV := .tup [.slc 1 (opsT v).length (stF (opsT v)), .slc 1 (opsI v).length (inF (opsI v))]
theorem two_slc {n m n' m' : Nat} {f f' g g' : Nat → DV} (h1 : n = n') (h2 : m = m') (hf : ∀ i, i < n → f i = f' i) (hg : ∀ i, i < m → g i = g' i) (k : IH) (v : Value) (hv : DV.rel k (.tup [.slc 1 n f, .slc 1 m g]) v) : DV.rel k (.tup [.slc 1 n' f', .slc 1 m' g']) v := by
  subst h1; subst h2
  obtain ⟨us, rfl, a, us1, rfl, ha, b, us2, rfl, hb, h0⟩ := hv
  exact ⟨_, rfl, _, _, rfl, DV.rel_slc_congr hf ha, _, _, rfl, DV.rel_slc_congr hg hb, h0⟩
theorem f140 (v : Int) : FnOK Tryz.prog G 140 [di v] (opsD v) := by
  have key : ∀ r : DV, (∀ k x, DV.rel k r x → DV.rel k (opsD v) x) → ((v = 1 → r = .tup [.slc 1 1 (elemF false 1 [ds ⟨#[111, 114]⟩]), .slc 1 1 (elemF false 1 [di 20])]) ∧ (v = 2 → r = .tup [.slc 1 1 (elemF false 1 [ds ⟨#[97, 110, 100]⟩]), .slc 1 1 (elemF false 1 [di 19])]) ∧
      (v = 4 → r = .tup [.slc 1 6 (elemF false 1 [ds ⟨#[61, 61]⟩, ds ⟨#[33, 61]⟩, ds ⟨#[60]⟩, ds ⟨#[60, 61]⟩, ds ⟨#[62]⟩, ds ⟨#[62, 61]⟩]), .slc 1 6 (elemF false 1 [di 12, di 13, di 14, di 15, di 16, di 17])]) ∧
      (v = 5 → r = .tup [.slc 1 2 (elemF false 1 [ds ⟨#[43]⟩, ds ⟨#[45]⟩]), .slc 1 2 (elemF false 1 [di 6, di 7])]) ∧ (v = 6 → r = .tup [.slc 1 2 (elemF false 1 [ds ⟨#[42]⟩, ds ⟨#[47]⟩]), .slc 1 2 (elemF false 1 [di 8, di 9])]) ∧
      (¬ v = 1 → ¬ v = 2 → ¬ v = 4 → ¬ v = 5 → ¬ v = 6 → r = .tup [.con (.slice none 0 0), .con (.slice none 0 0)])) → FnOK Tryz.prog G 140 [di v] (opsD v) := by
    intro r hr ⟨h1, h2, h4, h5, h6, h0⟩
    refine FnOKres (r := r) (FnOK.walk (orc := ({ d := fun _ _ => none } : Orc)) (keep := []) follows Tryz.func140 rfl Tryz.call140 ?_) hr
    refine of_eqH (b := ((((v == (1 : Int)) = true) → (((.tup [(.slc 1 1 (elemF false 1 [(ds ({ data := #[(111 : UInt8), (114 : UInt8)] }))])), (.slc 1 1 (elemF false 1 [(di 20)]))]) : DV) = r)) ∧ (((v == (1 : Int)) = false) → ((((v == (2 : Int)) = true) → (((.tup [(.slc 1 1 (elemF false 1 [(ds ({ data := #[(97 : UInt8), (110 : UInt8), (100 : UInt8)] }))])), (.slc 1 1 (elemF false 1 [(di 19)]))]) : DV) = r)) ∧ (((v == (2 : Int)) = false) → ((((v == (4 : Int)) = true) → (((.tup [(.slc 1 6 (elemF false 1 [(ds ({ data := #[(61 : UInt8), (61 : UInt8)] })), (ds ({ data := #[(33 : UInt8), (61 : UInt8)] })), (ds ({ data := #[(60 : UInt8)] })), (ds ({ data := #[(60 : UInt8), (61 : UInt8)] })), (ds ({ data := #[(62 : UInt8)] })), (ds ({ data := #[(62 : UInt8), (61 : UInt8)] }))])), (.slc 1 6 (elemF false 1 [(di 12), (di 13), (di 14), (di 15), (di 16), (di 17)]))]) : DV) = r)) ∧ (((v == (4 : Int)) = false) → ((((v == (5 : Int)) = true) → (((.tup [(.slc 1 2 (elemF false 1 [(ds ({ data := #[(43 : UInt8)] })), (ds ({ data := #[(45 : UInt8)] }))])), (.slc 1 2 (elemF false 1 [(di 6), (di 7)]))]) : DV) = r)) ∧ (((v == (5 : Int)) = false) → ((((v == (6 : Int)) = true) → (((.tup [(.slc 1 2 (elemF false 1 [(ds ({ data := #[(42 : UInt8)] })), (ds ({ data := #[(47 : UInt8)] }))])), (.slc 1 2 (elemF false 1 [(di 8), (di 9)]))]) : DV) = r)) ∧ (((v == (6 : Int)) = false) → (((.tup [(.con (.slice none 0 0)), (.con (.slice none 0 0))]) : DV) = r)))))))))))) (by kernel_rfl) ?_
    simp only [beq_iff_eq, beq_eq_false_iff_ne, ne_eq]
    refine ⟨fun e => (h1 e).symm, fun n1 => ⟨fun e => (h2 e).symm, fun n2 => ⟨fun e => (h4 e).symm, fun n4 => ⟨fun e => (h5 e).symm, fun n5 => ⟨fun e => (h6 e).symm, fun n6 => (h0 n1 n2 n4 n5 n6).symm⟩⟩⟩⟩⟩
  by_cases h1 : v = 1
  · subst h1
    refine key _ (two_slc rfl rfl ?_ ?_) ⟨fun _ => rfl, fun h => (by omega), fun h => (by omega), fun h => (by omega), fun h => (by omega), fun h => (by omega)⟩
    · intro i hi; have hi : i < 1 := hi; rcases i with _ | i <;> first | rfl | omega
    · intro i hi; have hi : i < 1 := hi; rcases i with _ | i <;> first | rfl | omega
  by_cases h2 : v = 2
  · subst h2
    refine key _ (two_slc rfl rfl ?_ ?_) ⟨fun h => (by omega), fun _ => rfl, fun h => (by omega), fun h => (by omega), fun h => (by omega), fun h => (by omega)⟩
    · intro i hi; have hi : i < 1 := hi; rcases i with _ | i <;> first | rfl | omega
    · intro i hi; have hi : i < 1 := hi; rcases i with _ | i <;> first | rfl | omega
  by_cases h4 : v = 4
  · subst h4
    refine key _ (two_slc rfl rfl ?_ ?_) ⟨fun h => (by omega), fun h => (by omega), fun _ => rfl, fun h => (by omega), fun h => (by omega), fun h => (by omega)⟩
    · intro i hi; have hi : i < 6 := hi; rcases i with _ | _ | _ | _ | _ | _ | i <;> first | rfl | omega
    · intro i hi; have hi : i < 6 := hi; rcases i with _ | _ | _ | _ | _ | _ | i <;> first | rfl | omega
  by_cases h5 : v = 5
  · subst h5
    refine key _ (two_slc rfl rfl ?_ ?_) ⟨fun h => (by omega), fun h => (by omega), fun h => (by omega), fun _ => rfl, fun h => (by omega), fun h => (by omega)⟩
    · intro i hi; have hi : i < 2 := hi; rcases i with _ | _ | i <;> first | rfl | omega
    · intro i hi; have hi : i < 2 := hi; rcases i with _ | _ | i <;> first | rfl | omega
  by_cases h6 : v = 6
  · subst h6
    refine key _ (two_slc rfl rfl ?_ ?_) ⟨fun h => (by omega), fun h => (by omega), fun h => (by omega), fun h => (by omega), fun _ => rfl, fun h => (by omega)⟩
    · intro i hi; have hi : i < 2 := hi; rcases i with _ | _ | i <;> first | rfl | omega
    · intro i hi; have hi : i < 2 := hi; rcases i with _ | _ | i <;> first | rfl | omega
  have e : opsI v = [] := by unfold opsI; rw [if_neg h1, if_neg h2, if_neg h4, if_neg h5, if_neg h6]
  refine key _ (fun k x hx => ?_) ⟨fun h => absurd h h1, fun h => absurd h h2, fun h => absurd h h4, fun h => absurd h h5, fun h => absurd h h6, fun _ _ _ _ _ => rfl⟩
  unfold opsD opsT
  rw [e]
  obtain ⟨us, rfl, a, us1, rfl, ha, b, us2, rfl, hb, h0⟩ := hx
  exact ⟨_, rfl, _, _, rfl, nil_slc ha, _, _, rfl, nil_slc hb, h0⟩
def rkI (k : Int) : Int := if k = 20 then 1 else if k = 19 then 2 else if 12 ≤ k ∧ k ≤ 17 then 4 else if k = 6 ∨ k = 7 then 5 else if k = 8 ∨ k = 9 then 6 else if k = 18 then 3 else if k = 5 then 7 else if k = 1 ∨ k = 2 ∨ k = 3 ∨ k = 4 ∨ k = 10 ∨ k = 11 then 8 else 0
theorem rk_hit {k v : Int} (hv : 1 ≤ v ∧ v ≤ 6) (h : k ∈ opsI v) : rkI k = v := by
  have hc : v = 1 ∨ v = 2 ∨ v = 3 ∨ v = 4 ∨ v = 5 ∨ v = 6 := by omega
  have q : (v = 1 ∧ k = 20) ∨ (v = 2 ∧ k = 19) ∨ (v = 4 ∧ 12 ≤ k ∧ k ≤ 17) ∨ (v = 5 ∧ (k = 6 ∨ k = 7)) ∨ (v = 6 ∧ (k = 8 ∨ k = 9)) := by
    rcases hc with rfl | rfl | rfl | rfl | rfl | rfl <;> simp [opsI] at h <;> omega
  clear h
  unfold rkI
  rcases q with ⟨rfl, h⟩ | ⟨rfl, h⟩ | ⟨rfl, h⟩ | ⟨rfl, h⟩ | ⟨rfl, h⟩
  · rw [if_pos h]
  · rw [if_neg (by omega), if_pos h]
  · rw [if_neg (by omega), if_neg (by omega), if_pos h]
  · rw [if_neg (by omega), if_neg (by omega), if_neg (by omega), if_pos h]
  · rw [if_neg (by omega), if_neg (by omega), if_neg (by omega), if_neg (by omega), if_pos h]
theorem rk_miss {k : Int} (h : ∀ v : Int, 1 ≤ v → v ≤ 6 → k ∉ opsI v) : rkI k = if k = 18 then 3 else if k = 5 then 7 else if k = 1 ∨ k = 2 ∨ k = 3 ∨ k = 4 ∨ k = 10 ∨ k = 11 then 8 else 0 := by
  have h1 := h 1 (by omega) (by omega)
  have h2 := h 2 (by omega) (by omega)
  have h4 := h 4 (by omega) (by omega)
  have h5 := h 5 (by omega) (by omega)
  have h6 := h 6 (by omega) (by omega)
  simp only [opsI, if_true, List.mem_cons, List.not_mem_nil, or_false, reduceCtorEq, Int.reduceEq, if_false, not_or] at h1 h2 h4 h5 h6
  unfold rkI
  rw [if_neg h1, if_neg h2, if_neg (by omega), if_neg (by omega), if_neg (by omega)]
noncomputable def orcRk : Oracle := fun f a => match f, a with
  | 140, [.con (.int .i64 v)] => some (opsD v)
  | _, _ => none
noncomputable def S137 (m : Nat) (x : Ex) (i : Nat) : AS := ⟨regs Tryz.f137.ntmps [(1, .box 1 0), (3, vi i)], [(1, exC m x)]⟩
noncomputable def S137i (m : Nat) (x : Ex) (i j : Nat) : AS := ⟨regs Tryz.f137.ntmps [(1, .box 1 0), (3, vi i), (5, .d (.slc 1 (opsI i).length (inF (opsI i)))), (6, vi j)], [(1, exC m x)]⟩
theorem opsI_len (v : Int) : (opsI v).length ≤ 6 := by
  unfold opsI
  split
  · decide
  split
  · decide
  split
  · decide
  split
  · decide
  split
  · decide
  · decide
theorem f137 (m : Nat) (x : Ex) : FnOK Tryz.prog G 137 [exD m x] (di (rkI x.k)) := by
  refine FnOK.walk (orc := orcRk) (keep := []) follows Tryz.func137 rfl Tryz.call137 ?_
  refine of_eqH (b := AWP Tryz.prog G [.code (cAt (bodyOf Tryz.f137) [1, 0, 1, 0]), (.blk 0), .code (cAt (bodyOf Tryz.f137) [1, 1])] ⟨regs 43 [(0, (.d (.agg [(di (Ex.k x)), (ds (Ex.s x)), (di (Ex.n x)), (di (Ex.d x)), (di (Ex.pos x)), (.slc 6 (List.length (Ex.kids x)) (lay (exG m) (Ex.kids x)))]))), (1, (.box 1 0)), (2, (vi 0)), (3, (vi 1))], [(1, [(vi (Ex.k x)), (vs (Ex.s x)), (vi (Ex.n x)), (vi (Ex.d x)), (vi (Ex.pos x)), (.d (.slc 6 (List.length (Ex.kids x)) (lay (exG m) (Ex.kids x))))])]⟩ (Ret Tryz.prog Tryz.f137 (di (rkI (Ex.k x))))) (by kernel_rfl) ?_
  refine AWP.loop (c := cAt (bodyOf Tryz.f137) [1, 0, 1, 0, 0]) (by kernel_rfl) (S137 m x) (fun i => 1 ≤ i ∧ i ≤ 7 ∧ ∀ v : Int, 1 ≤ v → v < i → x.k ∉ opsI v) (fun i => 7 - i) 1 ?_ ⟨by omega, by omega, fun v h1 h2 => by omega⟩ ?_
  · refine of_eq1 (some [(vi (Ex.k x)), (vs (Ex.s x)), (vi (Ex.n x)), (vi (Ex.d x)), (vi (Ex.pos x)), (.d (.slc 6 (List.length (Ex.kids x)) (lay (exG m) (Ex.kids x))))]) (fun Za => (((((.box 1 0) : AV) = (.box 1 0)) ∧ ((((vi 1) : AV) = (vi 1)) ∧ True)) ∧ (((Za : (Option (List AV))) = Za) ∧ True))) (by kernel_rfl) ?_
    exact ⟨⟨rfl, rfl, trivial⟩, rfl, trivial⟩
  · rintro i ⟨h1, h2, hn⟩
    refine walk (orc := orcRk) (keep := []) (cuts := []) (n := 1000) follows ?_
    refine of_eqH2 ((.tup [(.slc 1 (List.length (opsT (↑i : Int))) (stF (opsT (↑i : Int)))), (.slc 1 (List.length (opsI (↑i : Int))) (inF (opsI (↑i : Int))))]) : DV) (decide ((↑i : Int) ≤ (6 : Int))) (fun Za Zb => (((Zb = true) → (FnOK Tryz.prog G 140 [(di ((↑i : Int)))] Za ∧ AWP Tryz.prog G [.code (cAt (bodyOf Tryz.f137) [1, 0, 1, 0, 0, 1, 0, 0, 1, 1, 0]), (.blk 2), (.blk 1), .code (cAt (bodyOf Tryz.f137) [1, 0, 1, 0, 0, 1, 1])] ⟨regs 43 [(1, (.box 1 0)), (3, (vi ((↑i : Int)))), (4, (.d (.slc 1 (List.length (opsT (↑i : Int))) (stF (opsT (↑i : Int)))))), (5, (.d (.slc 1 (List.length (opsI (↑i : Int))) (inF (opsI (↑i : Int)))))), (6, (vi 0)), (7, (vi ((↑i : Int)))), (8, (vb Zb)), (11, (.d Za)), (12, (vi ((↑i : Int)))), (13, (.d Za)), (14, (.d (.slc 1 (List.length (opsT (↑i : Int))) (stF (opsT (↑i : Int)))))), (15, (.d (.slc 1 (List.length (opsI (↑i : Int))) (inF (opsI (↑i : Int))))))], [(1, [(vi (Ex.k x)), (vs (Ex.s x)), (vi (Ex.n x)), (vi (Ex.d x)), (vi (Ex.pos x)), (.d (.slc 6 (List.length (Ex.kids x)) (lay (exG m) (Ex.kids x))))])]⟩ (RoundQ Tryz.prog G [(.blk 0), .code (cAt (bodyOf Tryz.f137) [1, 1])] (Ret Tryz.prog Tryz.f137 (di (rkI (Ex.k x)))) (S137 m x) (fun i => (1 : Nat) ≤ i ∧ i ≤ (7 : Nat) ∧ ∀ (v : Int), (1 : Int) ≤ v → v < (↑i : Int) → ¬Ex.k x ∈ opsI v) (fun i => (7 : Nat) - i) i))) ∧ ((Zb = false) → AWP Tryz.prog G [.code (cAt (bodyOf Tryz.f137) [1, 1])] ⟨regs 43 [(1, (.box 1 0)), (3, (vi ((↑i : Int)))), (7, (vi ((↑i : Int)))), (8, (vb Zb))], [(1, [(vi (Ex.k x)), (vs (Ex.s x)), (vi (Ex.n x)), (vi (Ex.d x)), (vi (Ex.pos x)), (.d (.slc 6 (List.length (Ex.kids x)) (lay (exG m) (Ex.kids x))))])]⟩ (Ret Tryz.prog Tryz.f137 (di (rkI (Ex.k x))))))) (by kernel_rfl) ?_
    refine ⟨fun h => ⟨f140 _, ?_⟩, fun h => ?_⟩
    · have hi6 : i ≤ 6 := by have := of_decide_eq_true h; omega
      have hl6 := opsI_len (i : Int)
      refine AWP.loop (c := cAt (bodyOf Tryz.f137) [1, 0, 1, 0, 0, 1, 0, 0, 1, 1, 0, 0]) (by kernel_rfl) (S137i m x i) (fun j => j ≤ (opsI i).length ∧ ∀ p, p < j → (opsI i).getD p 0 ≠ x.k) (fun j => (opsI i).length - j) 0 ?_ ⟨Nat.zero_le _, fun p hp => absurd hp (Nat.not_lt_zero _)⟩ ?_
      · refine of_eq1 (some [(vi (Ex.k x)), (vs (Ex.s x)), (vi (Ex.n x)), (vi (Ex.d x)), (vi (Ex.pos x)), (.d (.slc 6 (List.length (Ex.kids x)) (lay (exG m) (Ex.kids x))))]) (fun Za => (((((.box 1 0) : AV) = (.box 1 0)) ∧ ((((vi ((↑i : Int))) : AV) = (vi ((↑i : Int)))) ∧ ((((.d (.slc 1 (List.length (opsI (↑i : Int))) (inF (opsI (↑i : Int))))) : AV) = (.d (.slc 1 (List.length (opsI (↑i : Int))) (inF (opsI (↑i : Int)))))) ∧ ((((vi 0) : AV) = (vi 0)) ∧ True)))) ∧ (((Za : (Option (List AV))) = Za) ∧ True))) (by kernel_rfl) ?_
        exact ⟨⟨rfl, rfl, rfl, rfl, trivial⟩, rfl, trivial⟩
      · rintro j ⟨hj, hjn⟩
        refine walk (orc := orcRk) (keep := []) (cuts := []) (n := 1000) follows ?_
        refine of_eqH2 (List.length (opsI (↑i : Int))) (List.getD (opsI (↑i : Int)) (Int.toNat (↑j : Int)) (0 : Int) == Ex.k x) (fun Za Zb => ((((decide ((↑j : Int) < (↑Za : Int))) = true) → ((((0 : Int) ≤ (↑j : Int)) ∧ ((↑j : Int) < (↑Za : Int))) ∧ (((Zb = true) → (((di ((↑i : Int))) : DV) = (di (rkI (Ex.k x))))) ∧ ((Zb = false) → ((I64 ((↑j : Int) + (1 : Int))) ∧ Again (S137i m x i) (fun j => j ≤ List.length (opsI (↑i : Int)) ∧ ∀ (p : Nat), p < j → List.getD (opsI (↑i : Int)) p (0 : Int) ≠ Ex.k x) (fun j => List.length (opsI (↑i : Int)) - j) j ⟨regs 43 [(1, (.box 1 0)), (3, (vi ((↑i : Int)))), (5, (.d (.slc 1 Za (inF (opsI (↑i : Int)))))), (6, (vi ((↑j : Int) + (1 : Int)))), (16, (vi ((↑j : Int)))), (17, (.d (.slc 1 Za (inF (opsI (↑i : Int)))))), (18, (vi ((↑Za : Int)))), (19, (vb (decide ((↑j : Int) < (↑Za : Int))))), (20, (vi ((↑j : Int)))), (21, (vi ((↑j : Int) + (1 : Int)))), (22, (.d (.slc 1 Za (inF (opsI (↑i : Int)))))), (23, (vi ((↑j : Int)))), (24, (.d (.ptr [(di (List.getD (opsI (↑i : Int)) (Int.toNat (↑j : Int)) (0 : Int)))]))), (25, (vi (List.getD (opsI (↑i : Int)) (Int.toNat (↑j : Int)) (0 : Int)))), (26, (.box 1 0)), (27, (vi (Ex.k x))), (28, (vb Zb))], [(1, [(vi (Ex.k x)), (vs (Ex.s x)), (vi (Ex.n x)), (vi (Ex.d x)), (vi (Ex.pos x)), (.d (.slc 6 (List.length (Ex.kids x)) (lay (exG m) (Ex.kids x))))])]⟩))))) ∧ (((decide ((↑j : Int) < (↑Za : Int))) = false) → AWP Tryz.prog G [(.blk 1), .code (cAt (bodyOf Tryz.f137) [1, 0, 1, 0, 0, 1, 1])] ⟨regs 43 [(1, (.box 1 0)), (3, (vi ((↑i : Int)))), (5, (.d (.slc 1 Za (inF (opsI (↑i : Int)))))), (6, (vi ((↑j : Int)))), (16, (vi ((↑j : Int)))), (17, (.d (.slc 1 Za (inF (opsI (↑i : Int)))))), (18, (vi ((↑Za : Int)))), (19, (vb (decide ((↑j : Int) < (↑Za : Int)))))], [(1, [(vi (Ex.k x)), (vs (Ex.s x)), (vi (Ex.n x)), (vi (Ex.d x)), (vi (Ex.pos x)), (.d (.slc 6 (List.length (Ex.kids x)) (lay (exG m) (Ex.kids x))))])]⟩ (RoundQ Tryz.prog G [(.blk 0), .code (cAt (bodyOf Tryz.f137) [1, 1])] (Ret Tryz.prog Tryz.f137 (di (rkI (Ex.k x)))) (S137 m x) (fun i => (1 : Nat) ≤ i ∧ i ≤ (7 : Nat) ∧ ∀ (v : Int), (1 : Int) ≤ v → v < (↑i : Int) → ¬Ex.k x ∈ opsI v) (fun i => (7 : Nat) - i) i)))) (by kernel_rfl) ?_
        simp only [Int.toNat_natCast]
        refine ⟨fun h1 => ?_, fun h1 => ?_⟩
        · have hj2 : j < (opsI i).length := by have := of_decide_eq_true h1; omega
          refine ⟨⟨by omega, by omega⟩, fun h3 => ?_, fun h3 => ⟨⟨by omega, by omega⟩, Again.mk (j + 1) ?_ ⟨hj2, fun p hp => ?_⟩ (by omega)⟩⟩
          · have h3 : (opsI i).getD j 0 = x.k := by simpa using h3
            rw [rk_hit (v := i) (by omega) (by
              rw [← h3, List.getD, List.getElem?_eq_getElem hj2]
              exact List.getElem_mem hj2)]
          · refine of_eq1 (some [(vi (Ex.k x)), (vs (Ex.s x)), (vi (Ex.n x)), (vi (Ex.d x)), (vi (Ex.pos x)), (.d (.slc 6 (List.length (Ex.kids x)) (lay (exG m) (Ex.kids x))))]) (fun Za => (((((.box 1 0) : AV) = (.box 1 0)) ∧ ((((vi ((↑i : Int))) : AV) = (vi ((↑i : Int)))) ∧ ((((.d (.slc 1 (List.length (opsI (↑i : Int))) (inF (opsI (↑i : Int))))) : AV) = (.d (.slc 1 (List.length (opsI (↑i : Int))) (inF (opsI (↑i : Int)))))) ∧ ((((vi ((↑j : Int) + (1 : Int))) : AV) = (vi ((↑(j + (1 : Nat)) : Int)))) ∧ True)))) ∧ (((Za : (Option (List AV))) = Za) ∧ True))) (by kernel_rfl) ?_
            exact ⟨⟨rfl, rfl, rfl, rfl, trivial⟩, rfl, trivial⟩
          · rcases Nat.lt_or_ge p j with h4 | h4
            · exact hjn p h4
            · obtain rfl : p = j := by omega
              simpa using h3
        · simp only [decide_eq_false_iff_not] at h1
          have hj2 : j = (opsI i).length := by omega
          refine walk (orc := orcRk) (keep := []) (cuts := []) (n := 1000) follows ?_
          refine of_eqH1 (List.length (opsI (↑i : Int))) (fun Za => ((I64 ((↑i : Int) + (1 : Int))) ∧ Again (S137 m x) (fun i => (1 : Nat) ≤ i ∧ i ≤ (7 : Nat) ∧ ∀ (v : Int), (1 : Int) ≤ v → v < (↑i : Int) → ¬Ex.k x ∈ opsI v) (fun i => (7 : Nat) - i) i ⟨regs 43 [(1, (.box 1 0)), (3, (vi ((↑i : Int) + (1 : Int)))), (5, (.d (.slc 1 Za (inF (opsI (↑i : Int)))))), (6, (vi ((↑j : Int)))), (9, (vi ((↑i : Int)))), (10, (vi ((↑i : Int) + (1 : Int)))), (16, (vi ((↑j : Int)))), (17, (.d (.slc 1 Za (inF (opsI (↑i : Int)))))), (18, (vi ((↑Za : Int)))), (19, (vb (decide ((↑j : Int) < (↑Za : Int)))))], [(1, [(vi (Ex.k x)), (vs (Ex.s x)), (vi (Ex.n x)), (vi (Ex.d x)), (vi (Ex.pos x)), (.d (.slc 6 (List.length (Ex.kids x)) (lay (exG m) (Ex.kids x))))])]⟩)) (by kernel_rfl) ?_
          refine ⟨⟨by omega, by omega⟩, Again.mk (i + 1) ?_ ⟨by omega, by omega, fun v v1 v2 hm => ?_⟩ (by omega)⟩
          · refine of_eq1 (some [(vi (Ex.k x)), (vs (Ex.s x)), (vi (Ex.n x)), (vi (Ex.d x)), (vi (Ex.pos x)), (.d (.slc 6 (List.length (Ex.kids x)) (lay (exG m) (Ex.kids x))))]) (fun Za => (((((.box 1 0) : AV) = (.box 1 0)) ∧ ((((vi ((↑i : Int) + (1 : Int))) : AV) = (vi ((↑(i + (1 : Nat)) : Int)))) ∧ True)) ∧ (((Za : (Option (List AV))) = Za) ∧ True))) (by kernel_rfl) ?_
            exact ⟨⟨rfl, rfl, trivial⟩, rfl, trivial⟩
          · by_cases hv : v = i
            · subst hv
              obtain ⟨p, hp, hpe⟩ := List.getElem_of_mem hm
              refine hjn p (by omega) ?_
              rw [List.getD, List.getElem?_eq_getElem hp]; exact hpe
            · exact hn v v1 (by omega) hm
    · simp only [decide_eq_false_iff_not] at h
      refine walk (orc := orcRk) (keep := []) (cuts := []) (n := 1000) follows ?_
      refine of_eqH (b := ((((Ex.k x == (18 : Int)) = true) → (((di 3) : DV) = (di (rkI (Ex.k x))))) ∧ (((Ex.k x == (18 : Int)) = false) → ((((Ex.k x == (5 : Int)) = true) → (((di 7) : DV) = (di (rkI (Ex.k x))))) ∧ (((Ex.k x == (5 : Int)) = false) → ((((Ex.k x == (1 : Int)) = true) → ((((Ex.k x == (1 : Int)) = true) → (((di 8) : DV) = (di (rkI (Ex.k x))))) ∧ (((Ex.k x == (1 : Int)) = false) → (((di 0) : DV) = (di (rkI (Ex.k x))))))) ∧ (((Ex.k x == (1 : Int)) = false) → ((((Ex.k x == (2 : Int)) = true) → ((((Ex.k x == (2 : Int)) = true) → (((di 8) : DV) = (di (rkI (Ex.k x))))) ∧ (((Ex.k x == (2 : Int)) = false) → (((di 0) : DV) = (di (rkI (Ex.k x))))))) ∧ (((Ex.k x == (2 : Int)) = false) → ((((Ex.k x == (3 : Int)) = true) → ((((Ex.k x == (3 : Int)) = true) → (((di 8) : DV) = (di (rkI (Ex.k x))))) ∧ (((Ex.k x == (3 : Int)) = false) → (((di 0) : DV) = (di (rkI (Ex.k x))))))) ∧ (((Ex.k x == (3 : Int)) = false) → ((((Ex.k x == (4 : Int)) = true) → ((((Ex.k x == (4 : Int)) = true) → (((di 8) : DV) = (di (rkI (Ex.k x))))) ∧ (((Ex.k x == (4 : Int)) = false) → (((di 0) : DV) = (di (rkI (Ex.k x))))))) ∧ (((Ex.k x == (4 : Int)) = false) → ((((Ex.k x == (10 : Int)) = true) → ((((Ex.k x == (10 : Int)) = true) → (((di 8) : DV) = (di (rkI (Ex.k x))))) ∧ (((Ex.k x == (10 : Int)) = false) → (((di 0) : DV) = (di (rkI (Ex.k x))))))) ∧ (((Ex.k x == (10 : Int)) = false) → ((((Ex.k x == (11 : Int)) = true) → (((di 8) : DV) = (di (rkI (Ex.k x))))) ∧ (((Ex.k x == (11 : Int)) = false) → (((di 0) : DV) = (di (rkI (Ex.k x))))))))))))))))))))) (by kernel_rfl) ?_
      rw [rk_miss (fun v v1 v2 => hn v v1 (by omega))]
      repeat' (first | (with_reducible refine And.intro ?_ ?_) | (with_reducible intro _))
      all_goals (try simp only [beq_iff_eq, beq_eq_false_iff_ne, ne_eq] at *)
      all_goals first
        | contradiction
        | (refine congrArg di ?_; simp [*]; done)
end Go.Proofs
set_option autoImplicit false
namespace Go.Proofs
open Go Go.Ab Go.RowKit
set_option maxHeartbeats 2000000
set_option maxRecDepth 100000
variable {G : IH}
theorem rel_slc_imp {k : IH} {sz n : Nat} {f g : Nat → DV} (hfg : ∀ i, i < n → ∀ v, DV.rel k (f i) v → DV.rel k (g i) v) {v : Value} (hr : DV.rel k (.slc sz n f) v) : DV.rel k (.slc sz n g) v := by
  obtain ⟨p, cap, e, hc, r⟩ := hr
  exact ⟨p, cap, e, hc, r.imp id fun ⟨b, off, hp, r⟩ => ⟨b, off, hp, fun i hi => let ⟨v, hv, hs, hj⟩ := r i hi; ⟨v, hfg i hi v hv, hs, hj⟩⟩⟩
def lvL : List (List ByteArray) := [[⟨#[111, 114]⟩], [⟨#[97, 110, 100]⟩], [], [⟨#[61, 61]⟩, ⟨#[33, 61]⟩, ⟨#[60]⟩, ⟨#[60, 61]⟩, ⟨#[62]⟩, ⟨#[62, 61]⟩], [⟨#[43]⟩, ⟨#[45]⟩], [⟨#[42]⟩, ⟨#[47]⟩]]
def lvF (i : Nat) : DV := .slc 1 (lvL.getD i []).length (stF (lvL.getD i []))
abbrev lvD : DV := .slc 1 6 lvF
def st1 (l : List ByteArray) : DV := .slc 1 l.length (elemF false 1 (l.map fun s => ds s))
theorem st1_rel {l : List ByteArray} {k : IH} {v : Value} (h : DV.rel k (st1 l) v) : DV.rel k (.slc 1 l.length (stF l)) v := by
  refine DV.rel_slc_congr (fun i hi => ?_) h
  unfold elemF stF
  simp [List.getD, List.getElem?_eq_getElem hi]
def lvR (i : Nat) : DV := elemF false 1 [st1 [⟨#[111, 114]⟩], st1 [⟨#[97, 110, 100]⟩], .con (.slice none 0 0), st1 [⟨#[61, 61]⟩, ⟨#[33, 61]⟩, ⟨#[60]⟩, ⟨#[60, 61]⟩, ⟨#[62]⟩, ⟨#[62, 61]⟩], st1 [⟨#[43]⟩, ⟨#[45]⟩], st1 [⟨#[42]⟩, ⟨#[47]⟩]] i
theorem f160 : FnOK Tryz.prog G 160 [] lvD := by
  refine FnOKres (r := .slc 1 6 lvR) (FnOK.walk (orc := ({ d := fun _ _ => none } : Orc)) (keep := []) follows Tryz.func160 rfl Tryz.call160 ?_) fun k v hv => ?_
  · refine of_eqH (b := (((.slc 1 6 (elemF false 1 [(.slc 1 1 (elemF false 1 [(ds ({ data := #[(111 : UInt8), (114 : UInt8)] }))])), (.slc 1 1 (elemF false 1 [(ds ({ data := #[(97 : UInt8), (110 : UInt8), (100 : UInt8)] }))])), (.con (.slice none 0 0)), (.slc 1 6 (elemF false 1 [(ds ({ data := #[(61 : UInt8), (61 : UInt8)] })), (ds ({ data := #[(33 : UInt8), (61 : UInt8)] })), (ds ({ data := #[(60 : UInt8)] })), (ds ({ data := #[(60 : UInt8), (61 : UInt8)] })), (ds ({ data := #[(62 : UInt8)] })), (ds ({ data := #[(62 : UInt8), (61 : UInt8)] }))])), (.slc 1 2 (elemF false 1 [(ds ({ data := #[(43 : UInt8)] })), (ds ({ data := #[(45 : UInt8)] }))])), (.slc 1 2 (elemF false 1 [(ds ({ data := #[(42 : UInt8)] })), (ds ({ data := #[(47 : UInt8)] }))]))])) : DV) = (.slc 1 6 lvR))) (by kernel_rfl) ?_
    rfl
  · refine rel_slc_imp (fun i hi v hv => ?_) hv
    rcases i with _ | _ | _ | _ | _ | _ | i
    · exact st1_rel hv
    · exact st1_rel hv
    · exact nil_slc hv
    · exact st1_rel hv
    · exact st1_rel hv
    · exact st1_rel hv
    · omega
abbrev bn : AV := .box 1000000 0
def lvP (s : ByteArray) (l : List ByteArray) : Bool := anyB l s
def lvX (s : ByteArray) : Int := if lvL.any (lvP s) then ((lvL.takeWhile fun l => !lvP s l).length : Int) else -1
def orcL1 (r : Bool) : Oracle := fun f a => match f, a with
  | 31, [_, _] => some (db r)
  | _, _ => none
def orcLd : Oracle := fun f a => match f, a with
  | 121, [] => some binD
  | 160, [] => some lvD
  | _, _ => none
theorem f161 (l : List ByteArray) (s : ByteArray) (hl : l.length ≤ 1000000) : FnM Tryz.prog G 161 [.d (.slc 1 l.length (stF l)), bn] [(1000000, [vs s])] (.d (db (lvP s l))) [(1000000, [vs s])] := by
  refine FnM.walk (orc := orcL1 (anyB l s)) (keep := []) [] follows (by kernel_rfl) Tryz.func161 rfl Tryz.call161 ?_
  refine of_eqH (b := (FnOK Tryz.prog G 31 [(.slc 1 (List.length l) (stF l)), (ds s)] (db (anyB l s)) ∧ ((((vb (anyB l s)) : AV) = (vb (lvP s l))) ∧ ((((some [(vs s)]) : (Option (List AV))) = (some [(vs s)])) ∧ True)))) (by kernel_rfl) ?_
  exact ⟨f31 l s hl, rfl, rfl, trivial⟩
noncomputable def mL (s : ByteArray) (i : Nat) (f : FuncId) (a : List AV) (pre : List (Nat × List AV)) : Option (AV × List (Nat × List AV)) := match f with
  | 161 => some (.d (db (lvP s (lvL.getD i []))), pre)
  | 159 => some (.d (di (lvX s)), pre)
  | _ => none
noncomputable def orcL (s : ByteArray) (i : Nat) : Orc := { d := orcLd, m := mL s i }
noncomputable def S159 (s : ByteArray) (k : Nat) : AS := ⟨regs Tryz.f159.ntmps [(0, .d lvD), (1, .clo (.func 161) [] [bn]), (7, vi (6 : Nat)), (8, vi k)], [(1000000, [vs s])]⟩
theorem lv_hit {s : ByteArray} {k : Nat} (hk : k < 6) (hno : ∀ i, i < k → lvP s (lvL.getD i []) = false) (h : lvP s (lvL.getD k []) = true) : lvX s = k := by
  have h1 : lvL.any (lvP s) = true := List.any_eq_true.2 ⟨lvL.getD k [], by rw [List.getD, List.getElem?_eq_getElem (show k < lvL.length from hk)]; exact List.getElem_mem _, h⟩
  unfold lvX
  rw [if_pos h1]
  have : ∀ (l : List (List ByteArray)) (k : Nat) (hk : k < l.length), (∀ i, i < k → lvP s (l.getD i []) = false) → lvP s (l.getD k []) = true → (l.takeWhile fun x => !lvP s x).length = k := by
    intro l
    induction l with
    | nil => intro k hk; simp at hk
    | cons x l ih =>
      intro k hk h2 h3
      cases k with
      | zero =>
        have h3 : lvP s x = true := h3
        rw [List.takeWhile_cons, h3]; simp
      | succ k =>
        have h4 : lvP s x = false := h2 0 (by omega)
        rw [List.takeWhile_cons]
        simp only [h4, Bool.not_false, if_true, List.length_cons]
        rw [ih k (by simpa using hk) (fun i h5 => h2 (i + 1) (by omega)) h3]
  rw [this lvL k hk hno h]
theorem lv_none {s : ByteArray} (hno : ∀ i, i < 6 → lvP s (lvL.getD i []) = false) : lvX s = -1 := by
  have h1 : lvL.any (lvP s) = false := by
    rw [Bool.eq_false_iff]
    intro h
    obtain ⟨x, hx, hd⟩ := List.any_eq_true.1 h
    obtain ⟨i, hi, rfl⟩ := List.getElem_of_mem hx
    have := hno i hi
    rw [List.getD, List.getElem?_eq_getElem hi] at this
    rw [show lvP s lvL[i] = false from this] at hd
    cases hd
  unfold lvX
  rw [h1]; rfl
theorem f159 (s : ByteArray) : FnM Tryz.prog G 159 [.d lvD, .clo (.func 161) [] [bn]] [(1000000, [vs s])] (.d (di (lvX s))) [(1000000, [vs s])] := by
  refine FnM.walk (orc := orcL s 0) (keep := []) [] follows (by kernel_rfl) Tryz.func159 rfl Tryz.call159 ?_
  refine of_eqH (b := AWP Tryz.prog G [.code (cAt (bodyOf Tryz.f159) [1, 0, 1, 0]), (.blk 0), .code (cAt (bodyOf Tryz.f159) [1, 1])] ⟨regs 19 [(0, (.d (.slc 1 6 lvF))), (1, (.clo (.func 161) [] [(.box 1000000 0)])), (4, (vi 0)), (6, (.d (.slc 1 6 lvF))), (7, (vi 6)), (8, (vi 0))], [(1000000, [(vs s)])]⟩ (RetM Tryz.prog Tryz.f159 [] (AV.d (di (lvX s))) [((1000000 : Nat), [vs s])])) (by kernel_rfl) ?_
  refine AWP.loop (c := cAt (bodyOf Tryz.f159) [1, 0, 1, 0, 0]) (by kernel_rfl) (S159 s) (fun k => k ≤ 6 ∧ ∀ i, i < k → lvP s (lvL.getD i []) = false) (fun k => 6 - k) 0 ?_ ⟨Nat.zero_le _, fun i hi => by omega⟩ ?_
  · refine of_eq (b := (((((.d (.slc 1 6 lvF)) : AV) = (.d (.slc 1 6 lvF))) ∧ ((((.clo (.func 161) [] [(.box 1000000 0)]) : AV) = (.clo (.func 161) [] [(.box 1000000 0)])) ∧ ((((vi 6) : AV) = (vi 6)) ∧ ((((vi 0) : AV) = (vi 0)) ∧ True)))) ∧ ((((some [(vs s)]) : (Option (List AV))) = (some [(vs s)])) ∧ True))) (by kernel_rfl) ?_
    exact ⟨⟨rfl, rfl, rfl, rfl, trivial⟩, rfl, trivial⟩
  · rintro k ⟨hk, hkd⟩
    refine walk (orc := orcL s k) (keep := []) (cuts := []) (n := 1000) follows ?_
    refine of_eqH3 ((.slc 1 (List.length (List.getD lvL (Int.toNat (↑k : Int)) [])) (stF (List.getD lvL (Int.toNat (↑k : Int)) []))) : DV) (decide ((↑k : Int) < (6 : Int))) ((.clo (.func 161) [] [(.box 1000000 0)]) : AV) (fun Za Zb Zc => (((Zb = true) → (((((0 : Int) ≤ (↑k : Int)) ∧ ((↑k : Int) < (↑(6 : Nat) : Int))) ∧ FnM Tryz.prog G 161 [(.d Za), (.box 1000000 0)] [(1000000, [(vs s)])] (vb (lvP s (List.getD lvL k []))) [(1000000, [(vs s)])]) ∧ ((((lvP s (List.getD lvL k [])) = true) → ((((vi ((↑k : Int))) : AV) = (vi (lvX s))) ∧ ((((some [(vs s)]) : (Option (List AV))) = (some [(vs s)])) ∧ True))) ∧ (((lvP s (List.getD lvL k [])) = false) → ((I64 ((↑k : Int) + (1 : Int))) ∧ Again (S159 s) (fun k => k ≤ (6 : Nat) ∧ ∀ (i : Nat), i < k → lvP s (List.getD lvL i []) = false) (fun k => (6 : Nat) - k) k ⟨[(.d (.slc 1 6 lvF)), Zc, .any, .any, .any, (vi ((↑k : Int))), .any, (vi 6), (vi ((↑k : Int) + (1 : Int))), (vb Zb), (vi ((↑k : Int))), Zc, (.d (.slc 1 6 lvF)), (vi ((↑k : Int))), (.d (.ptr [Za])), (.d Za), (vb (lvP s (List.getD lvL k []))), .any, (vi ((↑k : Int) + (1 : Int)))], [(1000000, [(vs s)])]⟩))))) ∧ ((Zb = false) → AWP Tryz.prog G [.code (cAt (bodyOf Tryz.f159) [1, 1])] ⟨regs 19 [(0, (.d (.slc 1 6 lvF))), (1, Zc), (7, (vi 6)), (8, (vi ((↑k : Int)))), (9, (vb Zb))], [(1000000, [(vs s)])]⟩ (RetM Tryz.prog Tryz.f159 [] (AV.d (di (lvX s))) [((1000000 : Nat), [vs s])])))) (by kernel_rfl) ?_
    simp only [Int.toNat_natCast]
    refine ⟨fun h => ?_, fun h => ?_⟩
    · have hk2 : k < 6 := by have := of_decide_eq_true h; omega
      have hl : (lvL.getD k []).length ≤ 1000000 := by
        rcases k with _ | _ | _ | _ | _ | _ | k <;> first | decide | omega
      refine ⟨⟨⟨by omega, by omega⟩, f161 _ s hl⟩, fun h2 => ?_, fun h2 => ⟨⟨by omega, by omega⟩, Again.mk (k + 1) ?_ ⟨hk2, fun i hi => ?_⟩ (by omega)⟩⟩
      · rw [lv_hit hk2 hkd h2]
        first | exact ⟨rfl, rfl, trivial⟩ | exact ⟨rfl, trivial⟩ | simp
      · refine of_eq (b := (((((.d (.slc 1 6 lvF)) : AV) = (.d (.slc 1 6 lvF))) ∧ ((((.clo (.func 161) [] [(.box 1000000 0)]) : AV) = (.clo (.func 161) [] [(.box 1000000 0)])) ∧ ((((vi 6) : AV) = (vi 6)) ∧ ((((vi ((↑k : Int) + (1 : Int))) : AV) = (vi ((↑(k + (1 : Nat)) : Int)))) ∧ True)))) ∧ ((((some [(vs s)]) : (Option (List AV))) = (some [(vs s)])) ∧ True))) (by kernel_rfl) ?_
        exact ⟨⟨rfl, rfl, rfl, rfl, trivial⟩, rfl, trivial⟩
      · rcases Nat.lt_or_ge i k with h1 | h1
        · exact hkd i h1
        · obtain rfl : i = k := by omega
          exact h2
    · simp only [decide_eq_false_iff_not] at h
      refine walk (orc := orcL s k) (keep := []) (cuts := []) (n := 1000) follows ?_
      refine of_eqH (b := ((((vi (-1)) : AV) = (vi (lvX s))) ∧ ((((some [(vs s)]) : (Option (List AV))) = (some [(vs s)])) ∧ True))) (by kernel_rfl) ?_
      rw [lv_none (fun i hi => hkd i (by omega))]
      first | exact ⟨rfl, rfl, trivial⟩ | exact ⟨rfl, trivial⟩ | simp
def lvI (k : Int) : Int := if k = 18 then 2 else if k = 5 then 6 else if opB k then lvX (opS k) else 7
theorem f124 (m : Nat) (x : Ex) : FnOK Tryz.prog G 124 [exD m x] (di (lvI x.k)) := by
  refine FnOK.walk (orc := orcL (opS x.k) 0) (keep := []) follows Tryz.func124 rfl Tryz.call124 ?_
  refine of_eqH1 (keyI (Value.int IntKind.i64 (Ex.k x))) (fun Za => ((((Ex.k x == (18 : Int)) = true) → (((di 2) : DV) = (di (lvI (Ex.k x))))) ∧ (((Ex.k x == (18 : Int)) = false) → ((((Ex.k x == (5 : Int)) = true) → (((di 6) : DV) = (di (lvI (Ex.k x))))) ∧ (((Ex.k x == (5 : Int)) = false) → ((FnOK Tryz.prog G 121 [] (.mp (some .i64) (fun v => DV.con (Value.string (opS (keyI v)))) (fun v => opB (keyI v))) ∧ (((opB Za) = false) → (DV.imp (DV.con (Value.string { data := #[] })) (DV.con (Value.string (opS Za)))))) ∧ ((((opB Za) = true) → ((FnOK Tryz.prog G 160 [] (.slc 1 6 lvF) ∧ FnM Tryz.prog G 159 [(.d (.slc 1 6 lvF)), (.clo (.func 161) [] [(.box 1000000 0)])] [(1000000, [(vs (opS Za))])] (vi (lvX (opS (Ex.k x)))) [(1000000, [(vs (opS Za))])]) ∧ (((di (lvX (opS (Ex.k x)))) : DV) = (di (lvI (Ex.k x)))))) ∧ (((opB Za) = false) → (((di 7) : DV) = (di (lvI (Ex.k x)))))))))))) (by kernel_rfl) ?_
  unfold lvI
  repeat' (first | (with_reducible refine And.intro ?_ ?_) | (with_reducible intro _))
  all_goals (try simp only [beq_iff_eq, beq_eq_false_iff_ne, ne_eq] at *)
  all_goals first
    | exact f121
    | exact f160
    | exact f159 _
    | contradiction
    | exact imp_eq (congrArg ds (opS_zero (by assumption)))
    | (refine congrArg di ?_; simp [*]; done)
    | (refine congrArg di ?_; rw [if_neg (by assumption), if_neg (by assumption), if_pos (by assumption)])
    | (refine congrArg di ?_; rw [if_neg (by assumption), if_neg (by assumption), if_neg (by rw [show opB x.k = false by assumption]; decide)])
end Go.Proofs
set_option autoImplicit false
namespace Go.Proofs
open Go Go.Ab Go.RowKit
set_option maxHeartbeats 4000000
set_option maxRecDepth 100000
variable {G : IH}
/-! The text of an expression. -/
def wth (least : Int) (p : Int × ByteArray) : ByteArray := if p.1 < least then (⟨#[40]⟩ : ByteArray) ++ p.2 ++ (⟨#[41]⟩ : ByteArray) else p.2
def g0 (l : List (Int × ByteArray)) (i : Nat) : Int × ByteArray := l.getD i (0, .empty)
def fstL (k : Int) : Int := if lvI k = 3 then lvI k + 1 else lvI k
def comS : ByteArray := ⟨#[44, 32]⟩
def fmtK (k : Int) (s : ByteArray) (n d : Int) (fl : List (Int × ByteArray)) : ByteArray :=
  if k = 1 then numT n d else if k = 2 then s else if k = 3 then ⟨#[116, 114, 117, 101]⟩ else if k = 4 then ⟨#[102, 97, 108, 115, 101]⟩
  else if k = 5 then (⟨#[45]⟩ : ByteArray) ++ wth 6 (g0 fl 0) else if k = 18 then (⟨#[110, 111, 116, 32]⟩ : ByteArray) ++ wth 2 (g0 fl 0)
  else if k = 10 then (⟨#[109, 105, 110, 40]⟩ : ByteArray) ++ joinS (fl.map (·.2)) comS ++ (⟨#[41]⟩ : ByteArray)
  else if k = 11 then (⟨#[109, 97, 120, 40]⟩ : ByteArray) ++ joinS (fl.map (·.2)) comS ++ (⟨#[41]⟩ : ByteArray)
  else wth (fstL k) (g0 fl 0) ++ (⟨#[32]⟩ : ByteArray) ++ opS k ++ (⟨#[32]⟩ : ByteArray) ++ wth (lvI k + 1) (g0 fl 1)
mutual
def fmtE : Ex → ByteArray
  | .mk k s n d _ l => fmtK k s n d (fmtL l)
def fmtL : List Ex → List (Int × ByteArray)
  | [] => []
  | x :: l => (lvI x.k, fmtE x) :: fmtL l
end
theorem fmtE_eq (x : Ex) : fmtE x = fmtK x.k x.s x.n x.d (fmtL x.kids) := by cases x; simp only [fmtE, Ex.k, Ex.s, Ex.n, Ex.d, Ex.kids]
theorem fmtL_map : ∀ l : List Ex, fmtL l = l.map fun y => (lvI y.k, fmtE y)
  | [] => rfl
  | x :: l => by simp only [fmtL, List.map_cons, fmtL_map l]
theorem g0_kid {l : List Ex} {i : Nat} (hi : i < l.length) : g0 (fmtL l) i = (lvI (l.getD i ex0).k, fmtE (l.getD i ex0)) := by
  unfold g0
  rw [fmtL_map, List.getD, List.getD, List.getElem?_map, List.getElem?_eq_getElem hi]; rfl
def totL : List (Int × ByteArray) → Nat
  | [] => 0
  | p :: l => p.2.size + 4 + totL l
theorem wth_size (v : Int) (p : Int × ByteArray) : (wth v p).size ≤ p.2.size + 2 := by
  unfold wth
  split
  · rw [ByteArray.size_append, ByteArray.size_append]
    show 1 + p.2.size + 1 ≤ _
    omega
  · omega
theorem tot_get : ∀ (l : List (Int × ByteArray)), (g0 l 0).2.size + (g0 l 1).2.size ≤ totL l
  | [] => Nat.zero_le _
  | [p] => by show p.2.size + 0 ≤ _; simp only [totL]; omega
  | p :: q :: l => by show p.2.size + q.2.size ≤ _; simp only [totL]; omega
theorem tot_get0 (l : List (Int × ByteArray)) : (g0 l 0).2.size ≤ totL l := by have := tot_get l; omega
theorem join_len : ∀ (l : List ByteArray), (Lib.join (l.map (·.data.toList)) comS.data.toList).length ≤ (l.map fun s => s.size + 2).sum
  | [] => by simp [Lib.join_nil]
  | [s] => by
    simp only [List.map_cons, List.map_nil, Lib.join_one, List.sum_cons, List.sum_nil]
    rw [size_list]; omega
  | s :: t :: l => by
    have ih := join_len (t :: l)
    have e : Lib.join ((s :: t :: l).map (·.data.toList)) comS.data.toList = s.data.toList ++ (comS.data.toList ++ Lib.join ((t :: l).map (·.data.toList)) comS.data.toList) := by
      simp [Lib.join, List.intercalate, List.intersperse]
    rw [e, List.length_append, List.length_append, size_list]
    have : comS.data.toList.length = 2 := rfl
    simp only [List.map_cons, List.sum_cons] at ih ⊢
    omega
theorem joinS_size (l : List (Int × ByteArray)) : (joinS (l.map (·.2)) comS).size ≤ totL l := by
  have h := join_len (l.map (·.2))
  have e : ∀ l : List (Int × ByteArray), ((l.map (·.2)).map fun s => s.size + 2).sum ≤ totL l := by
    intro l
    induction l with
    | nil => simp [totL]
    | cons p l ih => simp only [List.map_cons, List.sum_cons, totL]; omega
  have := e l
  unfold joinS
  show (Array.mk _).size ≤ _
  simp only [List.size_toArray] at *
  omega
theorem opS_size (k : Int) : (opS k).size ≤ 3 := by
  have h : ∀ (c : Bool) (a b : ByteArray), a.size ≤ 3 → b.size ≤ 3 → (bif c then a else b).size ≤ 3 := fun c a b h1 h2 => by cases c <;> assumption
  unfold opS
  repeat (refine h _ _ _ (by decide) ?_)
  decide
theorem fmtK_size (k : Int) (s : ByteArray) (n d : Int) (fl : List (Int × ByteArray)) (hs : s.size ≤ 1000) : (fmtK k s n d fl).size ≤ 1010 + totL fl := by
  have h1 := sizeN n d
  have t1 := tot_get fl
  have t0 := tot_get0 fl
  have j := joinS_size fl
  have o := opS_size k
  have w1 := wth_size 6 (g0 fl 0)
  have w2 := wth_size 2 (g0 fl 0)
  have w3 := wth_size (fstL k) (g0 fl 0)
  have w4 := wth_size (lvI k + 1) (g0 fl 1)
  unfold fmtK
  repeat' split
  all_goals (try simp only [ByteArray.size_append])
  · omega
  · omega
  · show 4 ≤ _; omega
  · show 5 ≤ _; omega
  · show 1 + _ ≤ _; omega
  · show 4 + _ ≤ _; omega
  · show 4 + _ + 1 ≤ _; omega
  · show 4 + _ + 1 ≤ _; omega
  · show _ + 1 + _ + 1 + _ ≤ _; omega
mutual
theorem fmtE_size : ∀ x : Ex, txE x → (fmtE x).size + 4 ≤ 1100 * nds x
  | .mk k s n d a l, h => by
    simp only [txE] at h
    have h1 := fmtK_size k s n d (fmtL l) h.1
    have h2 := fmtL_size l h.2
    simp only [fmtE, nds]; omega
theorem fmtL_size : ∀ l : List Ex, txL l → totL (fmtL l) ≤ 1100 * ndsL l
  | [], _ => by simp [fmtL, totL]
  | x :: l, h => by
    simp only [txL] at h
    have h1 := fmtE_size x h.1
    have h2 := fmtL_size l h.2
    simp only [fmtL, totL, ndsL]; omega
end
theorem Sm.size {x : Ex} (h : Sm x) : (fmtE x).size ≤ 1100000 := by
  have := fmtE_size x h.tx
  have := h.nd
  omega
noncomputable def orcFmd (j : ByteArray) : Oracle := fun f a => match f, a with
  | 118, [fr n d] => some (.tup [ds (numT n d), db (numB n d)])
  | 122, [e, .con (.int .i64 v)] => some (ds (wth v (lvI (rdE e).k, fmtE (rdE e))))
  | 74, [e] => some (ds (fmtE (rdE e)))
  | 124, [e] => some (di (lvI (rdE e).k))
  | 121, [] => some binD
  | 123, [_, _] => some (ds j)
  | _, _ => none
theorem f122_of {m : Nat} {y : Ex} (hy : ht y ≤ m) (hsz : (fmtE y).size ≤ 10000000) (h : FnOK Tryz.prog G 74 [exD m y] (ds (fmtE y))) (v : Int) : FnOK Tryz.prog G 122 [exD m y, di v] (ds (wth v (lvI y.k, fmtE y))) := by
  have e : rdE (exV y.k y.s y.n y.d y.pos y.kids.length (lay (exG m) y.kids)) = y := rdE_eq hy
  refine FnOK.walk (orc := orcFmd .empty) (keep := []) follows Tryz.func122 rfl Tryz.call122 ?_
  refine of_eqH2 (rdE (DV.agg [DV.con (Value.int IntKind.i64 (Ex.k y)), DV.con (Value.string (Ex.s y)), DV.con (Value.int IntKind.i64 (Ex.n y)), DV.con (Value.int IntKind.i64 (Ex.d y)), DV.con (Value.int IntKind.i64 (Ex.pos y)), DV.slc (6 : Nat) (List.length (Ex.kids y)) (lay (exG m) (Ex.kids y))])) ((.agg [(di (Ex.k y)), (ds (Ex.s y)), (di (Ex.n y)), (di (Ex.d y)), (di (Ex.pos y)), (.slc 6 (List.length (Ex.kids y)) (lay (exG m) (Ex.kids y)))]) : DV) (fun Za Zb => (FnOK Tryz.prog G 124 [Zb] (di (lvI (Ex.k Za))) ∧ ((((decide (lvI (Ex.k Za) < v)) = true) → ((FnOK Tryz.prog G 74 [Zb] (ds (fmtE Za)) ∧ ((ByteArray.size { data := #[(40 : UInt8)] } + ByteArray.size (fmtE Za) ≤ (9223372036854775807 : Nat)) ∧ (ByteArray.size ({ data := #[(40 : UInt8)] } ++ fmtE Za) + ByteArray.size { data := #[(41 : UInt8)] } ≤ (9223372036854775807 : Nat)))) ∧ (((ds ({ data := #[(40 : UInt8)] } ++ fmtE Za ++ { data := #[(41 : UInt8)] })) : DV) = (ds (wth v (lvI (Ex.k y), fmtE y)))))) ∧ (((decide (lvI (Ex.k Za) < v)) = false) → (FnOK Tryz.prog G 74 [Zb] (ds (fmtE Za)) ∧ (((ds (fmtE Za)) : DV) = (ds (wth v (lvI (Ex.k y), fmtE y))))))))) (by kernel_rfl) ?_
  simp only [e]
  unfold wth
  refine ⟨f124 m y, fun h1 => ⟨⟨h, ?_, ?_⟩, ?_⟩, fun h1 => ⟨h, ?_⟩⟩
  · show 1 + _ ≤ _; omega
  · rw [ByteArray.size_append]; show 1 + _ + 1 ≤ _; omega
  · rw [if_pos (of_decide_eq_true h1)]
  · rw [if_neg (of_decide_eq_false h1)]
abbrev stK : RK := ⟨false, 9, false, none⟩
def rowRec (f0 : Nat → DV) (agg : Bool) (sz : Nat) (g : Nat → List DV) : Nat → Nat → DV
  | 0 => f0
  | k + 1 => fun i => bif Nat.blt i k then rowRec f0 agg sz g k i else elemF agg sz (g k) (i - k)
theorem rowRec_get {f0 : Nat → DV} {agg : Bool} {sz : Nat} {g : Nat → List DV} : ∀ {k i : Nat}, i < k → rowRec f0 agg sz g k i = elemF agg sz (g i) 0
  | k + 1, i, h => by
    show (bif Nat.blt i k then rowRec f0 agg sz g k i else elemF agg sz (g k) (i - k)) = _
    cases hb : Nat.blt i k with
    | true => rw [Nat.blt_eq] at hb; exact rowRec_get hb
    | false =>
      have hb : ¬ i < k := by rw [← Nat.blt_eq, hb]; decide
      obtain rfl : i = k := by omega
      rw [Nat.sub_self]; rfl
def txR (x : Ex) : Nat → Nat → DV := rowRec (fun _ => DV.con undef) false 1 fun j => [ds (fmtE (x.kids.getD j ex0))]
noncomputable def S74 (m : Nat) (x : Ex) (k : Nat) : AS := ⟨regs Tryz.f74.ntmps [(1, .box 1 0), (5, .vec 900 1 0 k), (49, .d (.slc 6 x.kids.length (lay (exG m) x.kids))), (50, vi x.kids.length), (51, vi k)], [(1, exC m x), (900, [.arr stK 1 (txR x k)])]⟩
theorem snd_one {x : Ex} (h : sndE x = true) (hk : x.k = 5 ∨ x.k = 18) : x.kids.length = 1 := by
  rw [sndE_eq] at h
  unfold sndK at h
  rw [if_neg (by omega), if_neg (by omega), if_neg (by omega), if_pos hk] at h
  unfold kdK at h
  simp only [Bool.and_eq_true, decide_eq_true_eq] at h
  omega
theorem snd_two {x : Ex} (h : sndE x = true) (hk : ¬ x.k = 1 ∧ ¬ x.k = 2 ∧ ¬ x.k = 3 ∧ ¬ x.k = 4 ∧ ¬ x.k = 5 ∧ ¬ x.k = 18 ∧ ¬ x.k = 10 ∧ ¬ x.k = 11) : x.kids.length = 2 ∧ opB x.k = true := by
  obtain ⟨h1, h2, h3, h4, h5, h6, h7, h8⟩ := hk
  rw [sndE_eq] at h
  unfold sndK at h
  rw [if_neg h1, if_neg h2, if_neg (by omega), if_neg (by omega), if_neg (by omega)] at h
  unfold kdK at h
  simp only [Bool.and_eq_true, decide_eq_true_eq] at h
  exact ⟨by omega, h.1⟩
theorem sndL_mem : ∀ {l : List Ex} {i : Nat}, sndL l = true → i < l.length → sndE (l.getD i ex0) = true
  | x :: l, i, h, hi => by
    simp only [sndL, Bool.and_eq_true] at h
    cases i with
    | zero => exact h.1
    | succ i => exact sndL_mem (i := i) h.2 (by simpa using hi)
theorem snd_kid {x : Ex} (h : sndE x = true) {i : Nat} (hi : i < x.kids.length) : sndE (x.kids.getD i ex0) = true := by
  refine sndL_mem ?_ hi
  rw [sndE_eq] at h
  unfold sndK kdK at h
  revert h
  repeat' split
  · intro h; simp only [Bool.and_eq_true, decide_eq_true_eq] at h; omega
  · intro h; simp only [Bool.and_eq_true, decide_eq_true_eq] at h; omega
  all_goals (intro h; simp only [Bool.and_eq_true] at h)
  · exact h.2
  · exact h.2
  · exact h.2
  · exact h.2.2
theorem rec_next {x : Ex} (k : Nat) {d : DV} (h : d = ds (fmtE (x.kids.getD k ex0))) : (fun i => bif Nat.blt i k then txR x k i else elemF false 1 [d] (i - k)) = txR x (k + 1) := by
  subst h; rfl
theorem Sm.tot {x : Ex} (h : Sm x) : totL (fmtL x.kids) ≤ 1100000 := by
  have h1 := h.nd
  have h2 := h.tx
  cases x
  simp only [txE] at h2
  have := fmtL_size _ h2.2
  simp only [Ex.kids, nds] at *
  omega
theorem fmtL_snd (l : List Ex) : (fmtL l).map (·.2) = l.map fmtE := by
  rw [fmtL_map, List.map_map]; rfl
theorem f123_of (x : Ex) (hl : x.kids.length ≤ 1000) (hs : (joinS ((fmtL x.kids).map (·.2)) comS).size ≤ 10000000) : FnOK Tryz.prog G 123 [.slc 1 x.kids.length fun i => txR x x.kids.length (0 + i), ds comS] (ds (joinS ((fmtL x.kids).map (·.2)) comS)) := by
  have hlen : ((fmtL x.kids).map (·.2)).length = x.kids.length := by rw [fmtL_snd, List.length_map]
  refine (f123 ((fmtL x.kids).map (·.2)) comS (by omega) ?_).args fun k us h => ?_
  · unfold joinS at hs
    have hs : (Array.mk _).size ≤ _ := hs
    simp only [List.size_toArray] at hs
    omega
  · obtain ⟨v, us', rfl, hv, hr⟩ := h
    refine ⟨v, us', rfl, ?_, hr⟩
    rw [hlen]
    refine DV.rel_slc_congr (fun i hi => ?_) hv
    rw [Nat.zero_add]
    unfold txR stF
    rw [rowRec_get hi, fmtL_snd]
    show ds (fmtE (x.kids.getD i ex0)) = ds ((x.kids.map fmtE).getD i .empty)
    rw [List.getD, List.getElem?_eq_getElem hi, List.getD, List.getElem?_map, List.getElem?_eq_getElem hi]
    rfl
theorem lvX_le (s : ByteArray) : -1 ≤ lvX s ∧ lvX s ≤ 6 := by
  unfold lvX
  have : (lvL.takeWhile fun l => !lvP s l).length ≤ 6 := (List.takeWhile_sublist _).length_le
  split <;> omega
theorem lvI_le (k : Int) : -1 ≤ lvI k ∧ lvI k ≤ 8 := by
  have := lvX_le (opS k)
  unfold lvI
  repeat' split
  all_goals omega
theorem f74 (hT : Tab G) (m : Nat) : ∀ (x : Ex), ht x ≤ m → Sm x → sndE x = true → FnOK Tryz.prog G 74 [exD m x] (ds (fmtE x)) := by
  induction m using Nat.strongRecOn with
  | _ m ih =>
  intro x hx hs hsn
  have hl := hs.len.1
  have e : rdE (exV x.k x.s x.n x.d x.pos x.kids.length (lay (exG m) x.kids)) = x := rdE_eq hx
  have h74 : ∀ i, i < x.kids.length → FnOK Tryz.prog G 74 [kidA m x i] (ds (fmtE (x.kids.getD i ex0))) := fun i hi =>
    kidOK (Q := fun d => FnOK Tryz.prog G 74 [d] _) hx hi fun m' h1 h2 => ih m' h1 _ h2 (hs.kid hi) (snd_kid hsn hi)
  have h122 : ∀ i, i < x.kids.length → ∀ v, FnOK Tryz.prog G 122 [kidA m x i, di v] (ds (wth v (g0 (fmtL x.kids) i))) := fun i hi v => by
    rw [g0_kid hi]
    exact kidOK (Q := fun d => FnOK Tryz.prog G 122 [d, di v] _) hx hi fun m' h1 h2 => f122_of h2 (by have := (hs.kid hi).size; omega) (ih m' h1 _ h2 (hs.kid hi) (snd_kid hsn hi)) v
  refine FnOK.walk (orc := orcFmd (joinS ((fmtL x.kids).map (·.2)) comS)) (keep := []) follows Tryz.func74 rfl Tryz.call74 ?_
  refine of_eqH9 (lvI (Ex.k (rdE (DV.agg [DV.con (Value.int IntKind.i64 (Ex.k (List.getD (Ex.kids x) (Int.toNat (0 : Int)) ex0))), DV.con (Value.string (Ex.s (List.getD (Ex.kids x) (Int.toNat (0 : Int)) ex0))), DV.con (Value.int IntKind.i64 (Ex.n (List.getD (Ex.kids x) (Int.toNat (0 : Int)) ex0))), DV.con (Value.int IntKind.i64 (Ex.d (List.getD (Ex.kids x) (Int.toNat (0 : Int)) ex0))), DV.con (Value.int IntKind.i64 (Ex.pos (List.getD (Ex.kids x) (Int.toNat (0 : Int)) ex0))), DV.slc (6 : Nat) (List.length (Ex.kids (List.getD (Ex.kids x) (Int.toNat (0 : Int)) ex0))) (exG m (Ex.kids (List.getD (Ex.kids x) (Int.toNat (0 : Int)) ex0)))]))), fmtE (rdE (DV.agg [DV.con (Value.int IntKind.i64 (Ex.k (List.getD (Ex.kids x) (Int.toNat (0 : Int)) ex0))), DV.con (Value.string (Ex.s (List.getD (Ex.kids x) (Int.toNat (0 : Int)) ex0))), DV.con (Value.int IntKind.i64 (Ex.n (List.getD (Ex.kids x) (Int.toNat (0 : Int)) ex0))), DV.con (Value.int IntKind.i64 (Ex.d (List.getD (Ex.kids x) (Int.toNat (0 : Int)) ex0))), DV.con (Value.int IntKind.i64 (Ex.pos (List.getD (Ex.kids x) (Int.toNat (0 : Int)) ex0))), DV.slc (6 : Nat) (List.length (Ex.kids (List.getD (Ex.kids x) (Int.toNat (0 : Int)) ex0))) (exG m (Ex.kids (List.getD (Ex.kids x) (Int.toNat (0 : Int)) ex0)))]))) (Ex.k (rdE (DV.agg [DV.con (Value.int IntKind.i64 (Ex.k x)), DV.con (Value.string (Ex.s x)), DV.con (Value.int IntKind.i64 (Ex.n x)), DV.con (Value.int IntKind.i64 (Ex.d x)), DV.con (Value.int IntKind.i64 (Ex.pos x)), DV.slc (6 : Nat) (List.length (Ex.kids x)) (lay (exG m) (Ex.kids x))]))) (rdE (DV.agg [DV.con (Value.int IntKind.i64 (Ex.k (List.getD (Ex.kids x) (Int.toNat (1 : Int)) ex0))), DV.con (Value.string (Ex.s (List.getD (Ex.kids x) (Int.toNat (1 : Int)) ex0))), DV.con (Value.int IntKind.i64 (Ex.n (List.getD (Ex.kids x) (Int.toNat (1 : Int)) ex0))), DV.con (Value.int IntKind.i64 (Ex.d (List.getD (Ex.kids x) (Int.toNat (1 : Int)) ex0))), DV.con (Value.int IntKind.i64 (Ex.pos (List.getD (Ex.kids x) (Int.toNat (1 : Int)) ex0))), DV.slc (6 : Nat) (List.length (Ex.kids (List.getD (Ex.kids x) (Int.toNat (1 : Int)) ex0))) (exG m (Ex.kids (List.getD (Ex.kids x) (Int.toNat (1 : Int)) ex0)))])) ((.agg [(di (Ex.k (List.getD (Ex.kids x) (Int.toNat (0 : Int)) ex0))), (ds (Ex.s (List.getD (Ex.kids x) (Int.toNat (0 : Int)) ex0))), (di (Ex.n (List.getD (Ex.kids x) (Int.toNat (0 : Int)) ex0))), (di (Ex.d (List.getD (Ex.kids x) (Int.toNat (0 : Int)) ex0))), (di (Ex.pos (List.getD (Ex.kids x) (Int.toNat (0 : Int)) ex0))), (.slc 6 (List.length (Ex.kids (List.getD (Ex.kids x) (Int.toNat (0 : Int)) ex0))) (exG m (Ex.kids (List.getD (Ex.kids x) (Int.toNat (0 : Int)) ex0))))]) : DV) ((.agg [(di (Ex.k (List.getD (Ex.kids x) (Int.toNat (1 : Int)) ex0))), (ds (Ex.s (List.getD (Ex.kids x) (Int.toNat (1 : Int)) ex0))), (di (Ex.n (List.getD (Ex.kids x) (Int.toNat (1 : Int)) ex0))), (di (Ex.d (List.getD (Ex.kids x) (Int.toNat (1 : Int)) ex0))), (di (Ex.pos (List.getD (Ex.kids x) (Int.toNat (1 : Int)) ex0))), (.slc 6 (List.length (Ex.kids (List.getD (Ex.kids x) (Int.toNat (1 : Int)) ex0))) (exG m (Ex.kids (List.getD (Ex.kids x) (Int.toNat (1 : Int)) ex0))))]) : DV) (keyI (Value.int IntKind.i64 (Ex.k x))) ((.agg [(di (Ex.k x)), (ds (Ex.s x)), (di (Ex.n x)), (di (Ex.d x)), (di (Ex.pos x)), (.slc 6 (List.length (Ex.kids x)) (lay (exG m) (Ex.kids x)))]) : DV) (↑(List.length (Ex.kids x)) : Int) ((.d (.slc 6 (List.length (Ex.kids x)) (lay (exG m) (Ex.kids x)))) : AV) (fun Za Zb Zc Zd Ze Zf Zg Zh Zi => ((((Ex.k x == (1 : Int)) = true) → (FnOK Tryz.prog G 118 [(.agg [(di (Ex.n x)), (di (Ex.d x))])] (.tup [(ds (numT (Ex.n x) (Ex.d x))), (db (numB (Ex.n x) (Ex.d x)))]) ∧ (((ds (numT (Ex.n x) (Ex.d x))) : DV) = (ds (fmtE x))))) ∧ (((Ex.k x == (1 : Int)) = false) → ((((Ex.k x == (2 : Int)) = true) → (((ds (Ex.s x)) : DV) = (ds (fmtE x)))) ∧ (((Ex.k x == (2 : Int)) = false) → ((((Ex.k x == (3 : Int)) = true) → (((ds ({ data := #[(116 : UInt8), (114 : UInt8), (117 : UInt8), (101 : UInt8)] })) : DV) = (ds (fmtE x)))) ∧ (((Ex.k x == (3 : Int)) = false) → ((((Ex.k x == (4 : Int)) = true) → (((ds ({ data := #[(102 : UInt8), (97 : UInt8), (108 : UInt8), (115 : UInt8), (101 : UInt8)] })) : DV) = (ds (fmtE x)))) ∧ (((Ex.k x == (4 : Int)) = false) → ((((Ex.k x == (5 : Int)) = true) → (((((0 : Int) ≤ (0 : Int)) ∧ ((0 : Int) < Zh)) ∧ (FnOK Tryz.prog G 122 [Zd, (di 6)] (ds (wth (6 : Int) Za)) ∧ (ByteArray.size { data := #[(45 : UInt8)] } + ByteArray.size (wth (6 : Int) Za) ≤ (9223372036854775807 : Nat)))) ∧ (((ds ({ data := #[(45 : UInt8)] } ++ wth (6 : Int) Za)) : DV) = (ds (fmtE x))))) ∧ (((Ex.k x == (5 : Int)) = false) → ((((Ex.k x == (18 : Int)) = true) → (((((0 : Int) ≤ (0 : Int)) ∧ ((0 : Int) < Zh)) ∧ (FnOK Tryz.prog G 122 [Zd, (di 2)] (ds (wth (2 : Int) Za)) ∧ (ByteArray.size { data := #[(110 : UInt8), (111 : UInt8), (116 : UInt8), (32 : UInt8)] } + ByteArray.size (wth (2 : Int) Za) ≤ (9223372036854775807 : Nat)))) ∧ (((ds ({ data := #[(110 : UInt8), (111 : UInt8), (116 : UInt8), (32 : UInt8)] } ++ wth (2 : Int) Za)) : DV) = (ds (fmtE x))))) ∧ (((Ex.k x == (18 : Int)) = false) → ((((Ex.k x == (10 : Int)) = true) → ((((Ex.k x == (10 : Int)) = true) → AWP Tryz.prog G [.code (cAt (bodyOf Tryz.f74) [1, 0, 1, 0, 1, 1, 1, 1, 1, 1, 1, 1, 1, 1, 1, 1, 1, 0, 1, 0, 1, 0]), (.blk 1), .code (cAt (bodyOf Tryz.f74) [1, 0, 1, 0, 1, 1, 1, 1, 1, 1, 1, 1, 1, 1, 1, 1, 1, 0, 1, 1]), (.blk 0), .code (cAt (bodyOf Tryz.f74) [1, 1])] ⟨regs 100 [(0, (.d Zg)), (1, (.box 1 0)), (2, (vs ({ data := #[] }))), (5, (.d (.con (.slice none 0 0)))), (10, (.box 1 0)), (11, (vi (Ex.k x))), (12, (vb (Ex.k x == (1 : Int)))), (13, (vb (Ex.k x == (1 : Int)))), (21, (vb (Ex.k x == (2 : Int)))), (22, (vb (Ex.k x == (2 : Int)))), (25, (vb (Ex.k x == (3 : Int)))), (26, (vb (Ex.k x == (3 : Int)))), (27, (vb (Ex.k x == (4 : Int)))), (28, (vb (Ex.k x == (4 : Int)))), (29, (vb (Ex.k x == (5 : Int)))), (30, (vb (Ex.k x == (5 : Int)))), (37, (vb (Ex.k x == (18 : Int)))), (38, (vb (Ex.k x == (18 : Int)))), (45, (vb (Ex.k x == (10 : Int)))), (46, (vb (Ex.k x == (10 : Int)))), (48, (.box 1 5)), (49, Zi), (50, (vi (Zh))), (51, (vi 0))], [(1, [(vi (Ex.k x)), (vs (Ex.s x)), (vi (Ex.n x)), (vi (Ex.d x)), (vi (Ex.pos x)), Zi])]⟩ (Ret Tryz.prog Tryz.f74 (ds (fmtE x)))) ∧ (((Ex.k x == (10 : Int)) = false) → (FnOK Tryz.prog G 124 [Zg] (di (lvI Zb)) ∧ ((((lvI Zb == (3 : Int)) = true) → ((I64 (lvI Zb + (1 : Int))) ∧ (((((0 : Int) ≤ (0 : Int)) ∧ ((0 : Int) < Zh)) ∧ (FnOK Tryz.prog G 122 [Zd, (di (lvI Zb + (1 : Int)))] (ds (wth (lvI Zb + (1 : Int)) Za)) ∧ ((ByteArray.size (wth (lvI Zb + (1 : Int)) Za) + ByteArray.size { data := #[(32 : UInt8)] } ≤ (9223372036854775807 : Nat)) ∧ (FnOK Tryz.prog G 121 [] (.mp (some .i64) (fun v => DV.con (Value.string (opS (keyI v)))) (fun v => opB (keyI v))) ∧ ((((opB Zf) = false) → (DV.imp (DV.con (Value.string { data := #[] })) (DV.con (Value.string (opS Zf))))) ∧ ((ByteArray.size (wth (lvI Zb + (1 : Int)) Za ++ { data := #[(32 : UInt8)] }) + ByteArray.size (opS Zf) ≤ (9223372036854775807 : Nat)) ∧ ((ByteArray.size (wth (lvI Zb + (1 : Int)) Za ++ { data := #[(32 : UInt8)] } ++ opS Zf) + ByteArray.size { data := #[(32 : UInt8)] } ≤ (9223372036854775807 : Nat)) ∧ ((((0 : Int) ≤ (1 : Int)) ∧ ((1 : Int) < Zh)) ∧ ((I64 (lvI Zb + (1 : Int))) ∧ (FnOK Tryz.prog G 122 [Ze, (di (lvI Zb + (1 : Int)))] (ds (wth (lvI Zb + (1 : Int)) (lvI (Ex.k Zc), fmtE Zc))) ∧ (ByteArray.size (wth (lvI Zb + (1 : Int)) Za ++ { data := #[(32 : UInt8)] } ++ opS Zf ++ { data := #[(32 : UInt8)] }) + ByteArray.size (wth (lvI Zb + (1 : Int)) (lvI (Ex.k Zc), fmtE Zc)) ≤ (9223372036854775807 : Nat)))))))))))) ∧ (((ds (wth (lvI Zb + (1 : Int)) Za ++ { data := #[(32 : UInt8)] } ++ opS Zf ++ { data := #[(32 : UInt8)] } ++ wth (lvI Zb + (1 : Int)) (lvI (Ex.k Zc), fmtE Zc))) : DV) = (ds (fmtE x)))))) ∧ (((lvI Zb == (3 : Int)) = false) → (((((0 : Int) ≤ (0 : Int)) ∧ ((0 : Int) < Zh)) ∧ (FnOK Tryz.prog G 122 [Zd, (di (lvI Zb))] (ds (wth (lvI Zb) Za)) ∧ ((ByteArray.size (wth (lvI Zb) Za) + ByteArray.size { data := #[(32 : UInt8)] } ≤ (9223372036854775807 : Nat)) ∧ (FnOK Tryz.prog G 121 [] (.mp (some .i64) (fun v => DV.con (Value.string (opS (keyI v)))) (fun v => opB (keyI v))) ∧ ((((opB Zf) = false) → (DV.imp (DV.con (Value.string { data := #[] })) (DV.con (Value.string (opS Zf))))) ∧ ((ByteArray.size (wth (lvI Zb) Za ++ { data := #[(32 : UInt8)] }) + ByteArray.size (opS Zf) ≤ (9223372036854775807 : Nat)) ∧ ((ByteArray.size (wth (lvI Zb) Za ++ { data := #[(32 : UInt8)] } ++ opS Zf) + ByteArray.size { data := #[(32 : UInt8)] } ≤ (9223372036854775807 : Nat)) ∧ ((((0 : Int) ≤ (1 : Int)) ∧ ((1 : Int) < Zh)) ∧ ((I64 (lvI Zb + (1 : Int))) ∧ (FnOK Tryz.prog G 122 [Ze, (di (lvI Zb + (1 : Int)))] (ds (wth (lvI Zb + (1 : Int)) (lvI (Ex.k Zc), fmtE Zc))) ∧ (ByteArray.size (wth (lvI Zb) Za ++ { data := #[(32 : UInt8)] } ++ opS Zf ++ { data := #[(32 : UInt8)] }) + ByteArray.size (wth (lvI Zb + (1 : Int)) (lvI (Ex.k Zc), fmtE Zc)) ≤ (9223372036854775807 : Nat)))))))))))) ∧ (((ds (wth (lvI Zb) Za ++ { data := #[(32 : UInt8)] } ++ opS Zf ++ { data := #[(32 : UInt8)] } ++ wth (lvI Zb + (1 : Int)) (lvI (Ex.k Zc), fmtE Zc))) : DV) = (ds (fmtE x)))))))))) ∧ (((Ex.k x == (10 : Int)) = false) → ((((Ex.k x == (11 : Int)) = true) → AWP Tryz.prog G [.code (cAt (bodyOf Tryz.f74) [1, 0, 1, 0, 1, 1, 1, 1, 1, 1, 1, 1, 1, 1, 1, 1, 1, 0, 1, 0, 1, 0]), (.blk 1), .code (cAt (bodyOf Tryz.f74) [1, 0, 1, 0, 1, 1, 1, 1, 1, 1, 1, 1, 1, 1, 1, 1, 1, 0, 1, 1]), (.blk 0), .code (cAt (bodyOf Tryz.f74) [1, 1])] ⟨regs 100 [(0, (.d Zg)), (1, (.box 1 0)), (2, (vs ({ data := #[] }))), (5, (.d (.con (.slice none 0 0)))), (10, (.box 1 0)), (11, (vi (Ex.k x))), (12, (vb (Ex.k x == (1 : Int)))), (13, (vb (Ex.k x == (1 : Int)))), (21, (vb (Ex.k x == (2 : Int)))), (22, (vb (Ex.k x == (2 : Int)))), (25, (vb (Ex.k x == (3 : Int)))), (26, (vb (Ex.k x == (3 : Int)))), (27, (vb (Ex.k x == (4 : Int)))), (28, (vb (Ex.k x == (4 : Int)))), (29, (vb (Ex.k x == (5 : Int)))), (30, (vb (Ex.k x == (5 : Int)))), (37, (vb (Ex.k x == (18 : Int)))), (38, (vb (Ex.k x == (18 : Int)))), (45, (vb (Ex.k x == (11 : Int)))), (46, (vb (Ex.k x == (10 : Int)))), (47, (vb (Ex.k x == (11 : Int)))), (48, (.box 1 5)), (49, Zi), (50, (vi (Zh))), (51, (vi 0))], [(1, [(vi (Ex.k x)), (vs (Ex.s x)), (vi (Ex.n x)), (vi (Ex.d x)), (vi (Ex.pos x)), Zi])]⟩ (Ret Tryz.prog Tryz.f74 (ds (fmtE x)))) ∧ (((Ex.k x == (11 : Int)) = false) → (FnOK Tryz.prog G 124 [Zg] (di (lvI Zb)) ∧ ((((lvI Zb == (3 : Int)) = true) → ((I64 (lvI Zb + (1 : Int))) ∧ (((((0 : Int) ≤ (0 : Int)) ∧ ((0 : Int) < Zh)) ∧ (FnOK Tryz.prog G 122 [Zd, (di (lvI Zb + (1 : Int)))] (ds (wth (lvI Zb + (1 : Int)) Za)) ∧ ((ByteArray.size (wth (lvI Zb + (1 : Int)) Za) + ByteArray.size { data := #[(32 : UInt8)] } ≤ (9223372036854775807 : Nat)) ∧ (FnOK Tryz.prog G 121 [] (.mp (some .i64) (fun v => DV.con (Value.string (opS (keyI v)))) (fun v => opB (keyI v))) ∧ ((((opB Zf) = false) → (DV.imp (DV.con (Value.string { data := #[] })) (DV.con (Value.string (opS Zf))))) ∧ ((ByteArray.size (wth (lvI Zb + (1 : Int)) Za ++ { data := #[(32 : UInt8)] }) + ByteArray.size (opS Zf) ≤ (9223372036854775807 : Nat)) ∧ ((ByteArray.size (wth (lvI Zb + (1 : Int)) Za ++ { data := #[(32 : UInt8)] } ++ opS Zf) + ByteArray.size { data := #[(32 : UInt8)] } ≤ (9223372036854775807 : Nat)) ∧ ((((0 : Int) ≤ (1 : Int)) ∧ ((1 : Int) < Zh)) ∧ ((I64 (lvI Zb + (1 : Int))) ∧ (FnOK Tryz.prog G 122 [Ze, (di (lvI Zb + (1 : Int)))] (ds (wth (lvI Zb + (1 : Int)) (lvI (Ex.k Zc), fmtE Zc))) ∧ (ByteArray.size (wth (lvI Zb + (1 : Int)) Za ++ { data := #[(32 : UInt8)] } ++ opS Zf ++ { data := #[(32 : UInt8)] }) + ByteArray.size (wth (lvI Zb + (1 : Int)) (lvI (Ex.k Zc), fmtE Zc)) ≤ (9223372036854775807 : Nat)))))))))))) ∧ (((ds (wth (lvI Zb + (1 : Int)) Za ++ { data := #[(32 : UInt8)] } ++ opS Zf ++ { data := #[(32 : UInt8)] } ++ wth (lvI Zb + (1 : Int)) (lvI (Ex.k Zc), fmtE Zc))) : DV) = (ds (fmtE x)))))) ∧ (((lvI Zb == (3 : Int)) = false) → (((((0 : Int) ≤ (0 : Int)) ∧ ((0 : Int) < Zh)) ∧ (FnOK Tryz.prog G 122 [Zd, (di (lvI Zb))] (ds (wth (lvI Zb) Za)) ∧ ((ByteArray.size (wth (lvI Zb) Za) + ByteArray.size { data := #[(32 : UInt8)] } ≤ (9223372036854775807 : Nat)) ∧ (FnOK Tryz.prog G 121 [] (.mp (some .i64) (fun v => DV.con (Value.string (opS (keyI v)))) (fun v => opB (keyI v))) ∧ ((((opB Zf) = false) → (DV.imp (DV.con (Value.string { data := #[] })) (DV.con (Value.string (opS Zf))))) ∧ ((ByteArray.size (wth (lvI Zb) Za ++ { data := #[(32 : UInt8)] }) + ByteArray.size (opS Zf) ≤ (9223372036854775807 : Nat)) ∧ ((ByteArray.size (wth (lvI Zb) Za ++ { data := #[(32 : UInt8)] } ++ opS Zf) + ByteArray.size { data := #[(32 : UInt8)] } ≤ (9223372036854775807 : Nat)) ∧ ((((0 : Int) ≤ (1 : Int)) ∧ ((1 : Int) < Zh)) ∧ ((I64 (lvI Zb + (1 : Int))) ∧ (FnOK Tryz.prog G 122 [Ze, (di (lvI Zb + (1 : Int)))] (ds (wth (lvI Zb + (1 : Int)) (lvI (Ex.k Zc), fmtE Zc))) ∧ (ByteArray.size (wth (lvI Zb) Za ++ { data := #[(32 : UInt8)] } ++ opS Zf ++ { data := #[(32 : UInt8)] }) + ByteArray.size (wth (lvI Zb + (1 : Int)) (lvI (Ex.k Zc), fmtE Zc)) ≤ (9223372036854775807 : Nat)))))))))))) ∧ (((ds (wth (lvI Zb) Za ++ { data := #[(32 : UInt8)] } ++ opS Zf ++ { data := #[(32 : UInt8)] } ++ wth (lvI Zb + (1 : Int)) (lvI (Ex.k Zc), fmtE Zc))) : DV) = (ds (fmtE x)))))))))))))))))))))))) (by kernel_rfl) ?_
  simp only [e]
  have ef := fmtE_eq x
  unfold fmtK at ef
  simp only [beq_iff_eq, beq_eq_false_iff_ne, ne_eq]
  have q0 : ∀ (_ : 0 < x.kids.length), rdE (kidA m x (Int.toNat (0 : Int))) = x.kids.getD 0 ex0 := fun h => kid_rd hx h
  have q1 : ∀ (_ : 1 < x.kids.length), rdE (kidA m x (Int.toNat (1 : Int))) = x.kids.getD 1 ex0 := fun h => kid_rd hx h
  refine ⟨fun h1 => ⟨f118 hT _ _, ?_⟩, fun n1 => ⟨fun h2 => ?_, fun n2 => ⟨fun h3 => ?_, fun n3 => ⟨fun h4 => ?_, fun n4 => ⟨fun h5 => ?_, fun n5 => ⟨fun h18 => ?_, fun n18 => ?_⟩⟩⟩⟩⟩⟩
  · rw [ef, if_pos h1]
  · rw [ef, if_neg n1, if_pos h2]
  · rw [ef, if_neg n1, if_neg n2, if_pos h3]
  · rw [ef, if_neg n1, if_neg n2, if_neg n3, if_pos h4]
  · have hl1 := snd_one hsn (.inl h5)
    have hl0 : 0 < x.kids.length := by omega
    simp only [q0 hl0]
    rw [ef, if_neg n1, if_neg n2, if_neg n3, if_neg n4, if_pos h5]
    have hh := h122 0 hl0 6
    rw [g0_kid hl0] at hh ⊢
    have w := wth_size 6 (lvI (x.kids.getD 0 ex0).k, fmtE (x.kids.getD 0 ex0))
    have := (hs.kid hl0).size
    refine ⟨⟨⟨by omega, by omega⟩, hh, ?_⟩, rfl⟩
    show 1 + _ ≤ _
    simp only at w
    omega
  · have hl1 := snd_one hsn (.inr h18)
    have hl0 : 0 < x.kids.length := by omega
    simp only [q0 hl0]
    rw [ef, if_neg n1, if_neg n2, if_neg n3, if_neg n4, if_neg n5, if_pos h18]
    have hh := h122 0 hl0 2
    rw [g0_kid hl0] at hh ⊢
    have w := wth_size 2 (lvI (x.kids.getD 0 ex0).k, fmtE (x.kids.getD 0 ex0))
    have := (hs.kid hl0).size
    refine ⟨⟨⟨by omega, by omega⟩, hh, ?_⟩, rfl⟩
    show 4 + _ ≤ _
    simp only at w
    omega
  · have htot := hs.tot
    have hjs := joinS_size (fmtL x.kids)
    have h123 : FnOK Tryz.prog G 123 [.slc 1 x.kids.length fun i => txR x x.kids.length (0 + i), ds comS] (ds (joinS ((fmtL x.kids).map (·.2)) comS)) := f123_of x hl (by omega)
    refine ⟨fun h10 => ⟨fun _ => ?_, fun hn => absurd h10 hn⟩, fun n10 => ⟨fun h11 => ?_, fun n11 => ?_⟩⟩
    · refine AWP.pre (.nilRow _ 5 900 1 stK (txR x 0) (by kernel_rfl) (by kernel_rfl)) ?_
      refine AWP.loop (c := cAt (bodyOf Tryz.f74) [1, 0, 1, 0, 1, 1, 1, 1, 1, 1, 1, 1, 1, 1, 1, 1, 1, 0, 1, 0, 1, 0, 0]) (by kernel_rfl) (S74 m x) (fun k => k ≤ x.kids.length) (fun k => x.kids.length - k) 0 ?_ (Nat.zero_le _) ?_
      · refine of_eq1 ((.d (.slc 6 (List.length (Ex.kids x)) (lay (exG m) (Ex.kids x)))) : AV) (fun Za => (((((.box 1 0) : AV) = (.box 1 0)) ∧ ((((.vec 900 1 0 0) : AV) = (.vec 900 1 0 0)) ∧ (((Za : AV) = Za) ∧ ((((vi ((↑(List.length (Ex.kids x)) : Int))) : AV) = (vi ((↑(List.length (Ex.kids x)) : Int)))) ∧ ((((vi 0) : AV) = (vi 0)) ∧ True))))) ∧ ((((some [(vi (Ex.k x)), (vs (Ex.s x)), (vi (Ex.n x)), (vi (Ex.d x)), (vi (Ex.pos x)), Za]) : (Option (List AV))) = (some [(vi (Ex.k x)), (vs (Ex.s x)), (vi (Ex.n x)), (vi (Ex.d x)), (vi (Ex.pos x)), Za])) ∧ ((((some [(.arr ⟨false, 9, false, none⟩ 1 (txR x (0 : Nat)))]) : (Option (List AV))) = (some [(.arr ⟨false, 9, false, none⟩ 1 (txR x (0 : Nat)))])) ∧ True)))) (by kernel_rfl) ?_
        exact ⟨⟨rfl, rfl, rfl, rfl, rfl, trivial⟩, rfl, rfl, trivial⟩
      · intro k hk
        refine walk (orc := orcFmd (joinS ((fmtL x.kids).map (·.2)) comS)) (keep := []) (cuts := []) (n := 1000) follows ?_
        refine of_eqH3 (List.getD (Ex.kids x) (Int.toNat (↑k : Int)) ex0) (↑(List.length (Ex.kids x)) : Int) ((.d (.slc 6 (List.length (Ex.kids x)) (lay (exG m) (Ex.kids x)))) : AV) (fun Za Zb Zc => ((((decide ((↑k : Int) < Zb)) = true) → ((((0 : Int) ≤ (↑k : Int)) ∧ ((↑k : Int) < Zb)) ∧ ((FnOK Tryz.prog G 74 [(.agg [(di (Ex.k Za)), (ds (Ex.s Za)), (di (Ex.n Za)), (di (Ex.d Za)), (di (Ex.pos Za)), (.slc 6 (List.length (Ex.kids Za)) (exG m (Ex.kids Za)))])] (ds (fmtE (rdE (DV.agg [DV.con (Value.int IntKind.i64 (Ex.k Za)), DV.con (Value.string (Ex.s Za)), DV.con (Value.int IntKind.i64 (Ex.n Za)), DV.con (Value.int IntKind.i64 (Ex.d Za)), DV.con (Value.int IntKind.i64 (Ex.pos Za)), DV.slc (6 : Nat) (List.length (Ex.kids Za)) (exG m (Ex.kids Za))])))) ∧ ((((k + (1 : Nat)) * (16 : Nat) ≤ (1099511627776 : Nat)) ∧ (k + (1 : Nat) ≤ (1099511627776 : Nat))) ∧ (∀ (i : Nat), i < (1 : Nat) → elemOK false (1 : Nat) (elemF false (1 : Nat) [DV.con (Value.string (fmtE (rdE (DV.agg [DV.con (Value.int IntKind.i64 (Ex.k Za)), DV.con (Value.string (Ex.s Za)), DV.con (Value.int IntKind.i64 (Ex.n Za)), DV.con (Value.int IntKind.i64 (Ex.d Za)), DV.con (Value.int IntKind.i64 (Ex.pos Za)), DV.slc (6 : Nat) (List.length (Ex.kids Za)) (exG m (Ex.kids Za))]))))] i) = true))) ∧ ((I64 ((↑k : Int) + (1 : Int))) ∧ Again (S74 m x) (fun k => k ≤ List.length (Ex.kids x)) (fun k => List.length (Ex.kids x) - k) k ⟨regs 100 [(1, (.box 1 0)), (5, (.vec 59 1 0 (k + (1 : Nat)))), (7, (.box 7 0)), (49, Zc), (50, (vi (Zb))), (51, (vi ((↑k : Int) + (1 : Int)))), (52, (vb (decide ((↑k : Int) < Zb)))), (53, (.d (.ptr [(di (Ex.k Za)), (ds (Ex.s Za)), (di (Ex.n Za)), (di (Ex.d Za)), (di (Ex.pos Za)), (.slc 6 (List.length (Ex.kids Za)) (exG m (Ex.kids Za)))]))), (54, (.d (.agg [(di (Ex.k Za)), (ds (Ex.s Za)), (di (Ex.n Za)), (di (Ex.d Za)), (di (Ex.pos Za)), (.slc 6 (List.length (Ex.kids Za)) (exG m (Ex.kids Za)))]))), (55, (.vec 900 1 0 k)), (56, (.d (.agg [(di (Ex.k Za)), (ds (Ex.s Za)), (di (Ex.n Za)), (di (Ex.d Za)), (di (Ex.pos Za)), (.slc 6 (List.length (Ex.kids Za)) (exG m (Ex.kids Za)))]))), (57, (vs (fmtE (rdE (DV.agg [DV.con (Value.int IntKind.i64 (Ex.k Za)), DV.con (Value.string (Ex.s Za)), DV.con (Value.int IntKind.i64 (Ex.n Za)), DV.con (Value.int IntKind.i64 (Ex.d Za)), DV.con (Value.int IntKind.i64 (Ex.pos Za)), DV.slc (6 : Nat) (List.length (Ex.kids Za)) (exG m (Ex.kids Za))]))))), (58, (.d (.slc 1 1 (elemF false 1 [(ds (fmtE (rdE (DV.agg [DV.con (Value.int IntKind.i64 (Ex.k Za)), DV.con (Value.string (Ex.s Za)), DV.con (Value.int IntKind.i64 (Ex.n Za)), DV.con (Value.int IntKind.i64 (Ex.d Za)), DV.con (Value.int IntKind.i64 (Ex.pos Za)), DV.slc (6 : Nat) (List.length (Ex.kids Za)) (exG m (Ex.kids Za))]))))])))), (59, (.vec 59 1 0 (k + (1 : Nat)))), (60, (vi ((↑k : Int) + (1 : Int))))], [(59, [(.arr ⟨false, 9, false, none⟩ 1 (fun i => bif Nat.blt i k then txR x k i else elemF false (1 : Nat) [DV.con (Value.string (fmtE (rdE (DV.agg [DV.con (Value.int IntKind.i64 (Ex.k Za)), DV.con (Value.string (Ex.s Za)), DV.con (Value.int IntKind.i64 (Ex.n Za)), DV.con (Value.int IntKind.i64 (Ex.d Za)), DV.con (Value.int IntKind.i64 (Ex.pos Za)), DV.slc (6 : Nat) (List.length (Ex.kids Za)) (exG m (Ex.kids Za))]))))] (i - k)))]), (7, [(vi (Ex.k Za)), (vs (Ex.s Za)), (vi (Ex.n Za)), (vi (Ex.d Za)), (vi (Ex.pos Za)), (.d (.slc 6 (List.length (Ex.kids Za)) (exG m (Ex.kids Za))))]), (1, [(vi (Ex.k x)), (vs (Ex.s x)), (vi (Ex.n x)), (vi (Ex.d x)), (vi (Ex.pos x)), Zc]), (900, [.dead])]⟩)))) ∧ (((decide ((↑k : Int) < Zb)) = false) → AWP Tryz.prog G [.code (cAt (bodyOf Tryz.f74) [1, 0, 1, 0, 1, 1, 1, 1, 1, 1, 1, 1, 1, 1, 1, 1, 1, 0, 1, 1]), (.blk 0), .code (cAt (bodyOf Tryz.f74) [1, 1])] ⟨regs 100 [(1, (.box 1 0)), (5, (.vec 900 1 0 k)), (49, Zc), (50, (vi (Zb))), (51, (vi ((↑k : Int)))), (52, (vb (decide ((↑k : Int) < Zb))))], [(1, [(vi (Ex.k x)), (vs (Ex.s x)), (vi (Ex.n x)), (vi (Ex.d x)), (vi (Ex.pos x)), Zc]), (900, [(.arr ⟨false, 9, false, none⟩ 1 (txR x k))])]⟩ (Ret Tryz.prog Tryz.f74 (ds (fmtE x)))))) (by kernel_rfl) ?_
        simp only [Int.toNat_natCast]
        refine ⟨fun h => ?_, fun h => ?_⟩
        · have hk2 : k < x.kids.length := by have := of_decide_eq_true h; omega
          refine ⟨⟨by omega, by omega⟩, ⟨?_, ⟨by omega, by omega⟩, fun i hi => (by obtain rfl : i = 0 := (by omega); rfl)⟩, ⟨by omega, by omega⟩, Again.mkR [(59, 900)] rfl (k + 1) ?_ hk2 (by omega)⟩
          · show FnOK Tryz.prog G 74 [kidA m x k] (ds (fmtE (rdE (kidA m x k))))
            rw [kid_rd hx hk2]
            exact h74 k hk2
          · refine of_eq1 ((.d (.slc 6 (List.length (Ex.kids x)) (lay (exG m) (Ex.kids x)))) : AV) (fun Za => (((((.box 1 0) : AV) = (.box 1 0)) ∧ ((((.vec 900 1 0 (k + (1 : Nat))) : AV) = (.vec 900 1 0 (k + (1 : Nat)))) ∧ (((Za : AV) = Za) ∧ ((((vi ((↑(List.length (Ex.kids x)) : Int))) : AV) = (vi ((↑(List.length (Ex.kids x)) : Int)))) ∧ ((((vi ((↑k : Int) + (1 : Int))) : AV) = (vi ((↑(k + (1 : Nat)) : Int)))) ∧ True))))) ∧ ((((some [(vi (Ex.k x)), (vs (Ex.s x)), (vi (Ex.n x)), (vi (Ex.d x)), (vi (Ex.pos x)), Za]) : (Option (List AV))) = (some [(vi (Ex.k x)), (vs (Ex.s x)), (vi (Ex.n x)), (vi (Ex.d x)), (vi (Ex.pos x)), Za])) ∧ ((((some [(.arr ⟨false, 9, false, none⟩ 1 (fun i => bif Nat.blt i k then txR x k i else elemF false (1 : Nat) [DV.con (Value.string (fmtE (rdE (DV.agg [DV.con (Value.int IntKind.i64 (Ex.k (List.getD (Ex.kids x) k ex0))), DV.con (Value.string (Ex.s (List.getD (Ex.kids x) k ex0))), DV.con (Value.int IntKind.i64 (Ex.n (List.getD (Ex.kids x) k ex0))), DV.con (Value.int IntKind.i64 (Ex.d (List.getD (Ex.kids x) k ex0))), DV.con (Value.int IntKind.i64 (Ex.pos (List.getD (Ex.kids x) k ex0))), DV.slc (6 : Nat) (List.length (Ex.kids (List.getD (Ex.kids x) k ex0))) (exG m (Ex.kids (List.getD (Ex.kids x) k ex0)))]))))] (i - k)))]) : (Option (List AV))) = (some [(.arr ⟨false, 9, false, none⟩ 1 (txR x (k + (1 : Nat))))])) ∧ True)))) (by kernel_rfl) ?_
            refine ⟨⟨rfl, rfl, rfl, rfl, rfl, trivial⟩, rfl, ?_, trivial⟩
            refine congrArg (fun f => some [AV.arr stK 1 f]) (rec_next k ?_)
            show ds (fmtE (rdE (kidA m x k))) = _
            rw [kid_rd hx hk2]
        · simp only [decide_eq_false_iff_not] at h
          obtain rfl : k = x.kids.length := by omega
          refine walk (orc := orcFmd (joinS ((fmtL x.kids).map (·.2)) comS)) (keep := []) (cuts := []) (n := 1000) follows ?_
          refine of_eqH2 (List.map (fun x => Prod.snd x) (fmtL (Ex.kids x))) ((.slc 1 (List.length (Ex.kids x)) (fun i => txR x (List.length (Ex.kids x)) ((0 : Nat) + i))) : DV) (fun Za Zb => ((((Ex.k x == (10 : Int)) = true) → ((FnOK Tryz.prog G 123 [Zb, (ds ({ data := #[(44 : UInt8), (32 : UInt8)] }))] (ds (joinS Za comS)) ∧ ((ByteArray.size { data := #[(109 : UInt8), (105 : UInt8), (110 : UInt8), (40 : UInt8)] } + ByteArray.size (joinS Za comS) ≤ (9223372036854775807 : Nat)) ∧ (ByteArray.size ({ data := #[(109 : UInt8), (105 : UInt8), (110 : UInt8), (40 : UInt8)] } ++ joinS Za comS) + ByteArray.size { data := #[(41 : UInt8)] } ≤ (9223372036854775807 : Nat)))) ∧ (((ds ({ data := #[(109 : UInt8), (105 : UInt8), (110 : UInt8), (40 : UInt8)] } ++ joinS Za comS ++ { data := #[(41 : UInt8)] })) : DV) = (ds (fmtE x))))) ∧ (((Ex.k x == (10 : Int)) = false) → ((FnOK Tryz.prog G 123 [Zb, (ds ({ data := #[(44 : UInt8), (32 : UInt8)] }))] (ds (joinS Za comS)) ∧ ((ByteArray.size { data := #[(109 : UInt8), (97 : UInt8), (120 : UInt8), (40 : UInt8)] } + ByteArray.size (joinS Za comS) ≤ (9223372036854775807 : Nat)) ∧ (ByteArray.size ({ data := #[(109 : UInt8), (97 : UInt8), (120 : UInt8), (40 : UInt8)] } ++ joinS Za comS) + ByteArray.size { data := #[(41 : UInt8)] } ≤ (9223372036854775807 : Nat)))) ∧ (((ds ({ data := #[(109 : UInt8), (97 : UInt8), (120 : UInt8), (40 : UInt8)] } ++ joinS Za comS ++ { data := #[(41 : UInt8)] })) : DV) = (ds (fmtE x))))))) (by kernel_rfl) ?_
          simp only [beq_iff_eq, beq_eq_false_iff_ne, ne_eq]
          refine ⟨fun _ => ⟨⟨h123, ?_, ?_⟩, ?_⟩, fun hn => absurd h10 hn⟩
          · show 4 + _ ≤ _; omega
          · rw [ByteArray.size_append]; show 4 + _ + 1 ≤ _; omega
          · rw [ef, if_neg n1, if_neg n2, if_neg n3, if_neg n4, if_neg n5, if_neg n18, if_pos h10]
    · refine AWP.pre (.nilRow _ 5 900 1 stK (txR x 0) (by kernel_rfl) (by kernel_rfl)) ?_
      refine AWP.loop (c := cAt (bodyOf Tryz.f74) [1, 0, 1, 0, 1, 1, 1, 1, 1, 1, 1, 1, 1, 1, 1, 1, 1, 0, 1, 0, 1, 0, 0]) (by kernel_rfl) (S74 m x) (fun k => k ≤ x.kids.length) (fun k => x.kids.length - k) 0 ?_ (Nat.zero_le _) ?_
      · refine of_eq1 ((.d (.slc 6 (List.length (Ex.kids x)) (lay (exG m) (Ex.kids x)))) : AV) (fun Za => (((((.box 1 0) : AV) = (.box 1 0)) ∧ ((((.vec 900 1 0 0) : AV) = (.vec 900 1 0 0)) ∧ (((Za : AV) = Za) ∧ ((((vi ((↑(List.length (Ex.kids x)) : Int))) : AV) = (vi ((↑(List.length (Ex.kids x)) : Int)))) ∧ ((((vi 0) : AV) = (vi 0)) ∧ True))))) ∧ ((((some [(vi (Ex.k x)), (vs (Ex.s x)), (vi (Ex.n x)), (vi (Ex.d x)), (vi (Ex.pos x)), Za]) : (Option (List AV))) = (some [(vi (Ex.k x)), (vs (Ex.s x)), (vi (Ex.n x)), (vi (Ex.d x)), (vi (Ex.pos x)), Za])) ∧ ((((some [(.arr ⟨false, 9, false, none⟩ 1 (txR x (0 : Nat)))]) : (Option (List AV))) = (some [(.arr ⟨false, 9, false, none⟩ 1 (txR x (0 : Nat)))])) ∧ True)))) (by kernel_rfl) ?_
        exact ⟨⟨rfl, rfl, rfl, rfl, rfl, trivial⟩, rfl, rfl, trivial⟩
      · intro k hk
        refine walk (orc := orcFmd (joinS ((fmtL x.kids).map (·.2)) comS)) (keep := []) (cuts := []) (n := 1000) follows ?_
        refine of_eqH3 (List.getD (Ex.kids x) (Int.toNat (↑k : Int)) ex0) (↑(List.length (Ex.kids x)) : Int) ((.d (.slc 6 (List.length (Ex.kids x)) (lay (exG m) (Ex.kids x)))) : AV) (fun Za Zb Zc => ((((decide ((↑k : Int) < Zb)) = true) → ((((0 : Int) ≤ (↑k : Int)) ∧ ((↑k : Int) < Zb)) ∧ ((FnOK Tryz.prog G 74 [(.agg [(di (Ex.k Za)), (ds (Ex.s Za)), (di (Ex.n Za)), (di (Ex.d Za)), (di (Ex.pos Za)), (.slc 6 (List.length (Ex.kids Za)) (exG m (Ex.kids Za)))])] (ds (fmtE (rdE (DV.agg [DV.con (Value.int IntKind.i64 (Ex.k Za)), DV.con (Value.string (Ex.s Za)), DV.con (Value.int IntKind.i64 (Ex.n Za)), DV.con (Value.int IntKind.i64 (Ex.d Za)), DV.con (Value.int IntKind.i64 (Ex.pos Za)), DV.slc (6 : Nat) (List.length (Ex.kids Za)) (exG m (Ex.kids Za))])))) ∧ ((((k + (1 : Nat)) * (16 : Nat) ≤ (1099511627776 : Nat)) ∧ (k + (1 : Nat) ≤ (1099511627776 : Nat))) ∧ (∀ (i : Nat), i < (1 : Nat) → elemOK false (1 : Nat) (elemF false (1 : Nat) [DV.con (Value.string (fmtE (rdE (DV.agg [DV.con (Value.int IntKind.i64 (Ex.k Za)), DV.con (Value.string (Ex.s Za)), DV.con (Value.int IntKind.i64 (Ex.n Za)), DV.con (Value.int IntKind.i64 (Ex.d Za)), DV.con (Value.int IntKind.i64 (Ex.pos Za)), DV.slc (6 : Nat) (List.length (Ex.kids Za)) (exG m (Ex.kids Za))]))))] i) = true))) ∧ ((I64 ((↑k : Int) + (1 : Int))) ∧ Again (S74 m x) (fun k => k ≤ List.length (Ex.kids x)) (fun k => List.length (Ex.kids x) - k) k ⟨regs 100 [(1, (.box 1 0)), (5, (.vec 59 1 0 (k + (1 : Nat)))), (7, (.box 7 0)), (49, Zc), (50, (vi (Zb))), (51, (vi ((↑k : Int) + (1 : Int)))), (52, (vb (decide ((↑k : Int) < Zb)))), (53, (.d (.ptr [(di (Ex.k Za)), (ds (Ex.s Za)), (di (Ex.n Za)), (di (Ex.d Za)), (di (Ex.pos Za)), (.slc 6 (List.length (Ex.kids Za)) (exG m (Ex.kids Za)))]))), (54, (.d (.agg [(di (Ex.k Za)), (ds (Ex.s Za)), (di (Ex.n Za)), (di (Ex.d Za)), (di (Ex.pos Za)), (.slc 6 (List.length (Ex.kids Za)) (exG m (Ex.kids Za)))]))), (55, (.vec 900 1 0 k)), (56, (.d (.agg [(di (Ex.k Za)), (ds (Ex.s Za)), (di (Ex.n Za)), (di (Ex.d Za)), (di (Ex.pos Za)), (.slc 6 (List.length (Ex.kids Za)) (exG m (Ex.kids Za)))]))), (57, (vs (fmtE (rdE (DV.agg [DV.con (Value.int IntKind.i64 (Ex.k Za)), DV.con (Value.string (Ex.s Za)), DV.con (Value.int IntKind.i64 (Ex.n Za)), DV.con (Value.int IntKind.i64 (Ex.d Za)), DV.con (Value.int IntKind.i64 (Ex.pos Za)), DV.slc (6 : Nat) (List.length (Ex.kids Za)) (exG m (Ex.kids Za))]))))), (58, (.d (.slc 1 1 (elemF false 1 [(ds (fmtE (rdE (DV.agg [DV.con (Value.int IntKind.i64 (Ex.k Za)), DV.con (Value.string (Ex.s Za)), DV.con (Value.int IntKind.i64 (Ex.n Za)), DV.con (Value.int IntKind.i64 (Ex.d Za)), DV.con (Value.int IntKind.i64 (Ex.pos Za)), DV.slc (6 : Nat) (List.length (Ex.kids Za)) (exG m (Ex.kids Za))]))))])))), (59, (.vec 59 1 0 (k + (1 : Nat)))), (60, (vi ((↑k : Int) + (1 : Int))))], [(59, [(.arr ⟨false, 9, false, none⟩ 1 (fun i => bif Nat.blt i k then txR x k i else elemF false (1 : Nat) [DV.con (Value.string (fmtE (rdE (DV.agg [DV.con (Value.int IntKind.i64 (Ex.k Za)), DV.con (Value.string (Ex.s Za)), DV.con (Value.int IntKind.i64 (Ex.n Za)), DV.con (Value.int IntKind.i64 (Ex.d Za)), DV.con (Value.int IntKind.i64 (Ex.pos Za)), DV.slc (6 : Nat) (List.length (Ex.kids Za)) (exG m (Ex.kids Za))]))))] (i - k)))]), (7, [(vi (Ex.k Za)), (vs (Ex.s Za)), (vi (Ex.n Za)), (vi (Ex.d Za)), (vi (Ex.pos Za)), (.d (.slc 6 (List.length (Ex.kids Za)) (exG m (Ex.kids Za))))]), (1, [(vi (Ex.k x)), (vs (Ex.s x)), (vi (Ex.n x)), (vi (Ex.d x)), (vi (Ex.pos x)), Zc]), (900, [.dead])]⟩)))) ∧ (((decide ((↑k : Int) < Zb)) = false) → AWP Tryz.prog G [.code (cAt (bodyOf Tryz.f74) [1, 0, 1, 0, 1, 1, 1, 1, 1, 1, 1, 1, 1, 1, 1, 1, 1, 0, 1, 1]), (.blk 0), .code (cAt (bodyOf Tryz.f74) [1, 1])] ⟨regs 100 [(1, (.box 1 0)), (5, (.vec 900 1 0 k)), (49, Zc), (50, (vi (Zb))), (51, (vi ((↑k : Int)))), (52, (vb (decide ((↑k : Int) < Zb))))], [(1, [(vi (Ex.k x)), (vs (Ex.s x)), (vi (Ex.n x)), (vi (Ex.d x)), (vi (Ex.pos x)), Zc]), (900, [(.arr ⟨false, 9, false, none⟩ 1 (txR x k))])]⟩ (Ret Tryz.prog Tryz.f74 (ds (fmtE x)))))) (by kernel_rfl) ?_
        simp only [Int.toNat_natCast]
        refine ⟨fun h => ?_, fun h => ?_⟩
        · have hk2 : k < x.kids.length := by have := of_decide_eq_true h; omega
          refine ⟨⟨by omega, by omega⟩, ⟨?_, ⟨by omega, by omega⟩, fun i hi => (by obtain rfl : i = 0 := (by omega); rfl)⟩, ⟨by omega, by omega⟩, Again.mkR [(59, 900)] rfl (k + 1) ?_ hk2 (by omega)⟩
          · show FnOK Tryz.prog G 74 [kidA m x k] (ds (fmtE (rdE (kidA m x k))))
            rw [kid_rd hx hk2]
            exact h74 k hk2
          · refine of_eq1 ((.d (.slc 6 (List.length (Ex.kids x)) (lay (exG m) (Ex.kids x)))) : AV) (fun Za => (((((.box 1 0) : AV) = (.box 1 0)) ∧ ((((.vec 900 1 0 (k + (1 : Nat))) : AV) = (.vec 900 1 0 (k + (1 : Nat)))) ∧ (((Za : AV) = Za) ∧ ((((vi ((↑(List.length (Ex.kids x)) : Int))) : AV) = (vi ((↑(List.length (Ex.kids x)) : Int)))) ∧ ((((vi ((↑k : Int) + (1 : Int))) : AV) = (vi ((↑(k + (1 : Nat)) : Int)))) ∧ True))))) ∧ ((((some [(vi (Ex.k x)), (vs (Ex.s x)), (vi (Ex.n x)), (vi (Ex.d x)), (vi (Ex.pos x)), Za]) : (Option (List AV))) = (some [(vi (Ex.k x)), (vs (Ex.s x)), (vi (Ex.n x)), (vi (Ex.d x)), (vi (Ex.pos x)), Za])) ∧ ((((some [(.arr ⟨false, 9, false, none⟩ 1 (fun i => bif Nat.blt i k then txR x k i else elemF false (1 : Nat) [DV.con (Value.string (fmtE (rdE (DV.agg [DV.con (Value.int IntKind.i64 (Ex.k (List.getD (Ex.kids x) k ex0))), DV.con (Value.string (Ex.s (List.getD (Ex.kids x) k ex0))), DV.con (Value.int IntKind.i64 (Ex.n (List.getD (Ex.kids x) k ex0))), DV.con (Value.int IntKind.i64 (Ex.d (List.getD (Ex.kids x) k ex0))), DV.con (Value.int IntKind.i64 (Ex.pos (List.getD (Ex.kids x) k ex0))), DV.slc (6 : Nat) (List.length (Ex.kids (List.getD (Ex.kids x) k ex0))) (exG m (Ex.kids (List.getD (Ex.kids x) k ex0)))]))))] (i - k)))]) : (Option (List AV))) = (some [(.arr ⟨false, 9, false, none⟩ 1 (txR x (k + (1 : Nat))))])) ∧ True)))) (by kernel_rfl) ?_
            refine ⟨⟨rfl, rfl, rfl, rfl, rfl, trivial⟩, rfl, ?_, trivial⟩
            refine congrArg (fun f => some [AV.arr stK 1 f]) (rec_next k ?_)
            show ds (fmtE (rdE (kidA m x k))) = _
            rw [kid_rd hx hk2]
        · simp only [decide_eq_false_iff_not] at h
          obtain rfl : k = x.kids.length := by omega
          refine walk (orc := orcFmd (joinS ((fmtL x.kids).map (·.2)) comS)) (keep := []) (cuts := []) (n := 1000) follows ?_
          refine of_eqH2 (List.map (fun x => Prod.snd x) (fmtL (Ex.kids x))) ((.slc 1 (List.length (Ex.kids x)) (fun i => txR x (List.length (Ex.kids x)) ((0 : Nat) + i))) : DV) (fun Za Zb => ((((Ex.k x == (10 : Int)) = true) → ((FnOK Tryz.prog G 123 [Zb, (ds ({ data := #[(44 : UInt8), (32 : UInt8)] }))] (ds (joinS Za comS)) ∧ ((ByteArray.size { data := #[(109 : UInt8), (105 : UInt8), (110 : UInt8), (40 : UInt8)] } + ByteArray.size (joinS Za comS) ≤ (9223372036854775807 : Nat)) ∧ (ByteArray.size ({ data := #[(109 : UInt8), (105 : UInt8), (110 : UInt8), (40 : UInt8)] } ++ joinS Za comS) + ByteArray.size { data := #[(41 : UInt8)] } ≤ (9223372036854775807 : Nat)))) ∧ (((ds ({ data := #[(109 : UInt8), (105 : UInt8), (110 : UInt8), (40 : UInt8)] } ++ joinS Za comS ++ { data := #[(41 : UInt8)] })) : DV) = (ds (fmtE x))))) ∧ (((Ex.k x == (10 : Int)) = false) → ((FnOK Tryz.prog G 123 [Zb, (ds ({ data := #[(44 : UInt8), (32 : UInt8)] }))] (ds (joinS Za comS)) ∧ ((ByteArray.size { data := #[(109 : UInt8), (97 : UInt8), (120 : UInt8), (40 : UInt8)] } + ByteArray.size (joinS Za comS) ≤ (9223372036854775807 : Nat)) ∧ (ByteArray.size ({ data := #[(109 : UInt8), (97 : UInt8), (120 : UInt8), (40 : UInt8)] } ++ joinS Za comS) + ByteArray.size { data := #[(41 : UInt8)] } ≤ (9223372036854775807 : Nat)))) ∧ (((ds ({ data := #[(109 : UInt8), (97 : UInt8), (120 : UInt8), (40 : UInt8)] } ++ joinS Za comS ++ { data := #[(41 : UInt8)] })) : DV) = (ds (fmtE x))))))) (by kernel_rfl) ?_
          simp only [beq_iff_eq, beq_eq_false_iff_ne, ne_eq]
          refine ⟨fun h => absurd h n10, fun _ => ⟨⟨h123, ?_, ?_⟩, ?_⟩⟩
          · show 4 + _ ≤ _; omega
          · rw [ByteArray.size_append]; show 4 + _ + 1 ≤ _; omega
          · rw [ef, if_neg n1, if_neg n2, if_neg n3, if_neg n4, if_neg n5, if_neg n18, if_neg n10, if_pos h11]
    · obtain ⟨hl2, hob⟩ := snd_two hsn ⟨n1, n2, n3, n4, n5, n18, n10, n11⟩
      have hl0 : 0 < x.kids.length := by omega
      have hl1 : 1 < x.kids.length := by omega
      simp only [q0 hl0, q1 hl1]
      have ef2 : fmtE x = wth (fstL x.k) (g0 (fmtL x.kids) 0) ++ (⟨#[32]⟩ : ByteArray) ++ opS x.k ++ (⟨#[32]⟩ : ByteArray) ++ wth (lvI x.k + 1) (g0 (fmtL x.kids) 1) := by
        rw [ef, if_neg n1, if_neg n2, if_neg n3, if_neg n4, if_neg n5, if_neg n18, if_neg n10, if_neg n11]
      have hh0 := h122 0 hl0
      have hh1 := h122 1 hl1
      have w0 := fun v => wth_size v (g0 (fmtL x.kids) 0)
      have w1 := fun v => wth_size v (g0 (fmtL x.kids) 1)
      have ht := tot_get (fmtL x.kids)
      have ho := opS_size x.k
      have hlv : -1 ≤ lvI x.k ∧ lvI x.k ≤ 8 := lvI_le _
      rw [g0_kid hl0] at hh0 w0 ef2 ht
      rw [g0_kid hl1] at hh1 w1 ef2 ht
      unfold fstL at ef2
      have ko : opB (keyI (Value.int IntKind.i64 x.k)) = true := hob
      refine ⟨f124 m x, fun h3 => ?_, fun h3 => ?_⟩
      · have s0 := w0 (lvI x.k + 1)
        have s1 := w1 (lvI x.k + 1)
        simp only at s0 s1 ht
        rw [if_pos h3] at ef2
        have hk : keyI (Value.int IntKind.i64 x.k) = x.k := rfl
        refine ⟨⟨by omega, by omega⟩, ⟨⟨by omega, by omega⟩, hh0 _, ?_, f121, fun hf => ?_, ?_, ?_, ⟨by omega, by omega⟩, ⟨by omega, by omega⟩, hh1 _, ?_⟩, ?_⟩
        · show _ + 1 ≤ _; omega
        · rw [ko] at hf; cases hf
        · rw [ByteArray.size_append, hk]; show _ + 1 + _ ≤ _; omega
        · rw [ByteArray.size_append, ByteArray.size_append, hk]; show _ + 1 + _ + 1 ≤ _; omega
        · rw [ByteArray.size_append, ByteArray.size_append, ByteArray.size_append, hk]; show _ + 1 + _ + 1 + _ ≤ _; omega
        · rw [ef2]; rfl
      · have s0 := w0 (lvI x.k)
        have s1 := w1 (lvI x.k + 1)
        simp only at s0 s1 ht
        rw [if_neg h3] at ef2
        have hk : keyI (Value.int IntKind.i64 x.k) = x.k := rfl
        refine ⟨⟨⟨by omega, by omega⟩, hh0 _, ?_, f121, fun hf => ?_, ?_, ?_, ⟨by omega, by omega⟩, ⟨by omega, by omega⟩, hh1 _, ?_⟩, ?_⟩
        · show _ + 1 ≤ _; omega
        · rw [ko] at hf; cases hf
        · rw [ByteArray.size_append, hk]; show _ + 1 + _ ≤ _; omega
        · rw [ByteArray.size_append, ByteArray.size_append, hk]; show _ + 1 + _ + 1 ≤ _; omega
        · rw [ByteArray.size_append, ByteArray.size_append, ByteArray.size_append, hk]; show _ + 1 + _ + 1 + _ ≤ _; omega
        · rw [ef2]; rfl
end Go.Proofs