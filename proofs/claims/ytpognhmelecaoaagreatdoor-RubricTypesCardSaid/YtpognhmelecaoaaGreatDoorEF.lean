import Derived.Test.YtpognhmelecaoaaGreatDoorAcD
import Derived.Test.YtpognhmelecaoaaGreatDoorEE
set_option autoImplicit false
namespace Go.Proofs
open Go Go.Ab Go.RowKit
set_option maxHeartbeats 4000000
set_option maxRecDepth 100000
variable {G : IH}
def noO : Oracle := fun _ _ => none
def isN (s : ByteArray) (x : Fc) : Bool := decide (x.name = s)
def fndI (L : List Fc) (s : ByteArray) : Int := idI (isN s) L
noncomputable def S55 (L : List Fc) (s : ByteArray) (k : Nat) : AS := ⟨regs Tryz.f55.ntmps [(0, .d (fcsD L)), (1, .d (ds s)), (5, vi k)], []⟩
theorem f55 (L : List Fc) (s : ByteArray) (hl : L.length ≤ 100000) : FnOK Tryz.prog G 55 [fcsD L, ds s] (di (fndI L s)) := by
  refine FnOK.walk (orc := noO) (keep := []) follows Tryz.func55 rfl Tryz.call55 ?_
  refine of_tr (fun ZT ZW ZQ _ => ZW [cd Tryz.f55 [1, 0, 1, 0], (.blk 0), cd Tryz.f55 [1, 1]] (stS ZT []) ZQ) (by kernel_rfl) ?_
  refine AWP.loop (c := cAt (bodyOf Tryz.f55) [1, 0, 1, 0, 0]) (by kernel_rfl) (S55 L s) (fun k => k ≤ L.length ∧ ∀ i, i < k → isN s (L.getD i fc0) = false) (fun k => L.length - k) 0 ?_ ⟨Nat.zero_le _, fun i hi => absurd hi (Nat.not_lt_zero _)⟩ ?_
  · exact AS.leA (by kernel_rfl)
  · rintro k ⟨hk, hkd⟩
    refine walk (orc := noO) (keep := []) (cuts := []) (n := 1000) follows ?_
    refine of_rd (fun ZT ZW ZQ _ ZA _ => ((((decide ((↑k : Int) < ↑L.length)) = true) → (((0 ≤ (↑k : Int)) ∧ ((↑k : Int) < ↑L.length)) ∧ ((((L.getD (↑k : Int).toNat fc0).name.toList == s.toList) = true) → (((di (↑k)) : DV) = (di (fndI L s)))) ∧ ((((L.getD (↑k : Int).toNat fc0).name.toList == s.toList) = false) → ((I64 (↑k + 1)) ∧ (ZA (stS ZT [0, 1])))))) ∧ (((decide ((↑k : Int) < ↑L.length)) = false) → ZW [cd Tryz.f55 [1, 1]] (stS ZT [1]) ZQ))) (by kernel_rfl) ?_
    simp only [Int.toNat_natCast, toList_beq]
    refine ⟨fun h => ?_, fun h => ?_⟩
    · have hk2 : k < L.length := by have := of_decide_eq_true h; omega
      refine ⟨⟨by omega, by omega⟩, fun h2 => ?_, fun h2 => ⟨⟨by omega, by omega⟩, Again.mk (k + 1) ?_ ⟨hk2, fun i hi => ?_⟩ (by omega)⟩⟩
      · unfold fndI
        rw [(idI_hit hk2 hkd h2).2]
      · exact AS.leA (by kernel_rfl)
      · rcases Nat.lt_or_ge i k with h4 | h4
        · exact hkd i h4
        · obtain rfl : i = k := by omega
          exact h2
    · simp only [decide_eq_false_iff_not] at h
      have hst := idI_none (p := isN s) (L := L) (x0 := fc0) fun i hi => hkd i (by omega)
      refine walk (orc := noO) (keep := []) (cuts := []) (n := 1000) follows ?_
      refine of_tr (fun _ _ _ _ => (((di (-1)) : DV) = (di (fndI L s)))) (by kernel_rfl) ?_
      unfold fndI
      rw [hst.2]
/-! Equal slices of strings. -/
theorem getD_ext {α : Type} {x0 : α} {a b : List α} (hl : a.length = b.length) (h : ∀ i, i < a.length → a.getD i x0 = b.getD i x0) : a = b := by
  refine List.ext_getElem hl fun i h1 h2 => ?_
  have := h i h1
  rw [List.getD, List.getD, List.getElem?_eq_getElem h1, List.getElem?_eq_getElem h2] at this
  exact this
/-! Few descriptions. -/
def smF (x : Fc) : Bool := decide (x.name.size ≤ 40) && decide (x.words.length ≤ 20) && x.words.all fun s => decide (s.size ≤ 40)
def fewF (L : List Fc) : Bool := L.all smF && decide (L.length ≤ 16)
structure FcW (x : Fc) : Prop where
  nm : x.name.size ≤ 9223372036854775807
  ln : x.words.length ≤ 9223372036854775807
  wd : ∀ i, i < x.words.length → (x.words.getD i .empty).size ≤ 9223372036854775807
theorem all_getD {α : Type} {x0 : α} {p : α → Bool} {L : List α} (h : ∀ i, i < L.length → p (L.getD i x0) = true) : L.all p = true := by
  rw [List.all_eq_true]
  intro x hx
  obtain ⟨i, hi, rfl⟩ := List.getElem_of_mem hx
  have := h i hi
  rw [List.getD, List.getElem?_eq_getElem hi] at this
  exact this
theorem all_miss {α : Type} {x0 : α} {p : α → Bool} {L : List α} {i : Nat} (hi : i < L.length) (h : p (L.getD i x0) = false) : L.all p = false := by
  rw [Bool.eq_false_iff]
  intro hh
  have := List.all_eq_true.1 hh (L.getD i x0) (by rw [List.getD, List.getElem?_eq_getElem hi]; exact List.getElem_mem hi)
  rw [h] at this; cases this
noncomputable def S20 (L : List Fc) (k : Nat) : AS := ⟨regs Tryz.f20.ntmps [(0, .d (fcsD L)), (3, vi k)], []⟩
noncomputable def S20i (L : List Fc) (k j : Nat) : AS := ⟨regs Tryz.f20.ntmps [(0, .d (fcsD L)), (3, vi k), (4, vi j)], []⟩
theorem f20 (L : List Fc) (hl : L.length ≤ 9223372036854775807) (hw : ∀ i, i < L.length → FcW (L.getD i fc0)) : FnOK Tryz.prog G 20 [fcsD L] (db (fewF L)) := by
  refine FnOK.walk (orc := noO) (keep := []) follows Tryz.func20 rfl Tryz.call20 ?_
  refine of_tr (fun ZT ZW ZQ _ => ZW [cd Tryz.f20 [1, 0, 1, 0], (.blk 0), cd Tryz.f20 [1, 1]] (stS ZT []) ZQ) (by kernel_rfl) ?_
  refine AWP.loop (c := cAt (bodyOf Tryz.f20) [1, 0, 1, 0, 0]) (by kernel_rfl) (S20 L) (fun k => k ≤ L.length ∧ ∀ i, i < k → smF (L.getD i fc0) = true) (fun k => L.length - k) 0 ?_ ⟨Nat.zero_le _, fun i hi => absurd hi (Nat.not_lt_zero _)⟩ ?_
  · exact AS.leA (by kernel_rfl)
  · rintro k ⟨hk, hkd⟩
    refine walk (orc := noO) (keep := []) (cuts := []) (n := 1000) follows ?_
    refine of_rd (fun ZT ZW ZQ _ _ ZR => (fun Za => ((((decide ((↑k : Int) < ↑L.length)) = true) → ((((0 ≤ (↑k : Int)) ∧ ((↑k : Int) < ↑L.length)) ∧ (((!decide ((↑(L.getD (↑k : Int).toNat fc0).name.size : Int) > 40)) = true) → ((0 ≤ (↑k : Int)) ∧ ((↑k : Int) < ↑L.length)))) ∧ ((Za = true) → (((db false) : DV) = (db (fewF L)))) ∧ ((Za = false) → ZW [cd Tryz.f20 [1, 0, 1, 0, 0, 1, 0, 0, 1, 1, 0], (.blk 2), (.blk 1), cd Tryz.f20 [1, 0, 1, 0, 0, 1, 1]] (stS ZT [0, 1]) ZR))) ∧ (((decide ((↑k : Int) < ↑L.length)) = false) → ZW [cd Tryz.f20 [1, 1]] (stS ZT [1]) ZQ))) (decide ((↑(L.getD (↑k : Int).toNat fc0).name.size : Int) > 40) || decide ((↑(L.getD (↑k : Int).toNat fc0).words.length : Int) > 20))) (by kernel_rfl) ?_
    simp only [Int.toNat_natCast]
    refine ⟨fun h => ?_, fun h => ?_⟩
    · have hk2 : k < L.length := by have := of_decide_eq_true h; omega
      have hwk := hw k hk2
      have hw1 := hwk.nm
      have hw2 := hwk.ln
      refine ⟨⟨⟨by omega, by omega⟩, fun _ => ⟨by omega, by omega⟩⟩, fun h2 => ?_, fun h2 => ?_⟩
      · unfold fewF
        rw [all_miss (x0 := fc0) hk2]
        · rfl
        · unfold smF
          simp only [Bool.or_eq_true, decide_eq_true_eq] at h2
          rcases h2 with h2 | h2
          · rw [decide_eq_false (by omega)]; rfl
          · rw [decide_eq_false (by omega : ¬ _ ≤ 20), Bool.and_false]; rfl
      · simp only [Bool.or_eq_false_iff, decide_eq_false_iff_not] at h2
        refine AWP.loop (c := cAt (bodyOf Tryz.f20) [1, 0, 1, 0, 0, 1, 0, 0, 1, 1, 0, 0]) (by kernel_rfl) (S20i L k) (fun j => j ≤ (L.getD k fc0).words.length ∧ ∀ i, i < j → ((L.getD k fc0).words.getD i .empty).size ≤ 40) (fun j => (L.getD k fc0).words.length - j) 0 ?_ ⟨Nat.zero_le _, fun i hi => absurd hi (Nat.not_lt_zero _)⟩ ?_
        · exact AS.leA (by kernel_rfl)
        · rintro j ⟨hj, hjd⟩
          refine walk (orc := noO) (keep := []) (cuts := []) (n := 1000) follows ?_
          refine of_rd (fun ZT ZW ZQ _ ZA _ => (fun Za => (((0 ≤ (↑k : Int)) ∧ ((↑k : Int) < ↑L.length)) ∧ (((decide ((↑j : Int) < ↑(L.getD (↑k : Int).toNat fc0).words.length)) = true) → ((((0 ≤ (↑k : Int)) ∧ ((↑k : Int) < ↑L.length)) ∧ (0 ≤ (↑j : Int)) ∧ ((↑j : Int) < ↑(L.getD (↑k : Int).toNat fc0).words.length)) ∧ ((Za = true) → (((db false) : DV) = (db (fewF L)))) ∧ ((Za = false) → ((I64 (↑j + 1)) ∧ (ZA (stS ZT [0, 1])))))) ∧ (((decide ((↑j : Int) < ↑(L.getD (↑k : Int).toNat fc0).words.length)) = false) → ZW [(.blk 1), cd Tryz.f20 [1, 0, 1, 0, 0, 1, 1]] (stS ZT [1]) ZQ))) (decide ((↑((L.getD (↑k : Int).toNat fc0).words.getD (↑j : Int).toNat ByteArray.empty).size : Int) > 40))) (by kernel_rfl) ?_
          simp only [Int.toNat_natCast]
          refine ⟨⟨by omega, by omega⟩, fun h3 => ?_, fun h3 => ?_⟩
          · have hj2 : j < (L.getD k fc0).words.length := by have := of_decide_eq_true h3; omega
            have hw3 := hwk.wd j hj2
            refine ⟨⟨⟨by omega, by omega⟩, ⟨by omega, by omega⟩⟩, fun h4 => ?_, fun h4 => ⟨⟨by omega, by omega⟩, Again.mk (j + 1) ?_ ⟨hj2, fun i hi => ?_⟩ (by omega)⟩⟩
            · have h4 := of_decide_eq_true h4
              unfold fewF
              rw [all_miss (x0 := fc0) hk2]
              · rfl
              · unfold smF
                rw [all_miss (x0 := ByteArray.empty) hj2 (decide_eq_false (by omega)), Bool.and_false]
            · exact AS.leA (by kernel_rfl)
            · rcases Nat.lt_or_ge i j with h5 | h5
              · exact hjd i h5
              · obtain rfl : i = j := by omega
                have h4 := of_decide_eq_false h4
                omega
          · have h3 := of_decide_eq_false h3
            refine walk (orc := noO) (keep := []) (cuts := []) (n := 1000) follows ?_
            refine of_rd (fun ZT _ _ _ ZA _ => ((I64 (↑k + 1)) ∧ (ZA (stS ZT [])))) (by kernel_rfl) ?_
            refine ⟨⟨by omega, by omega⟩, Again.mk (k + 1) ?_ ⟨hk2, fun i hi => ?_⟩ (by omega)⟩
            · exact AS.leA (by kernel_rfl)
            · rcases Nat.lt_or_ge i k with h5 | h5
              · exact hkd i h5
              · obtain rfl : i = k := by omega
                unfold smF
                rw [decide_eq_true (by omega), decide_eq_true (by omega : _ ≤ 20), all_getD (x0 := ByteArray.empty) fun i hi => decide_eq_true (hjd i (by omega))]; rfl
    · simp only [decide_eq_false_iff_not] at h
      refine walk (orc := noO) (keep := []) (cuts := []) (n := 1000) follows ?_
      refine of_tr (fun _ _ _ _ => (((db (decide ((↑L.length : Int) ≤ 16))) : DV) = (db (fewF L)))) (by kernel_rfl) ?_
      unfold fewF
      rw [all_getD (x0 := fc0) fun i hi => hkd i (by omega), Bool.true_and]
      refine congrArg db ?_
      rw [decide_eq_decide]; omega
end Go.Proofs
set_option autoImplicit false
namespace Go.Proofs
open Go Go.Ab Go.RowKit
set_option maxHeartbeats 4000000
set_option maxRecDepth 100000
variable {G : IH}
def eqW (a b : List ByteArray) : Bool := decide (a = b)
theorem rec_and (x y : Bool) : (Bool.rec false y x : Bool) = (x && y) := by cases x <;> rfl
/-! The standard facts. -/
theorem fc_rel {k : IH} {a : ByteArray} {b c d e f : Int} {l : List ByteArray} {w : DV} (hw : ∀ v, DV.rel k w v → DV.rel k (wdD l) v) {v : Value} (h : DV.rel k (.agg [ds a, di b, di c, di d, di e, di f, w]) v) : DV.rel k (fcD ⟨a, b, c, d, e, f, l⟩) v := by
  obtain ⟨vs, e, r⟩ := h
  refine ⟨vs, e, ?_⟩
  obtain ⟨v1, u1, e1, r1, v2, u2, e2, r2, v3, u3, e3, r3, v4, u4, e4, r4, v5, u5, e5, r5, v6, u6, e6, r6, v7, u7, e7, r7, h0⟩ := r
  exact ⟨v1, u1, e1, r1, v2, u2, e2, r2, v3, u3, e3, r3, v4, u4, e4, r4, v5, u5, e5, r5, v6, u6, e6, r6, v7, u7, e7, hw _ r7, h0⟩
theorem fc_nil {k : IH} {a : ByteArray} {b c d e f : Int} {v : Value} (h : DV.rel k (.agg [ds a, di b, di c, di d, di e, di f, .con (.slice none 0 0)]) v) : DV.rel k (fcD ⟨a, b, c, d, e, f, []⟩) v :=
  fc_rel (fun _ h => nil_slc h) h
abbrev numX (s : ByteArray) (a b : Int) : DV := .agg [ds s, di 0, di a, di 1, di b, di 1, .con (.slice none 0 0)]
theorem f58 (s : ByteArray) (a b : Int) : FnOK Tryz.prog G 58 [ds s, di a, di b] (numX s a b) := by
  refine FnOK.walk (orc := noO) (keep := []) follows Tryz.func58 rfl Tryz.call58 ?_
  refine of_tr (fun _ _ _ _ => (ZS ((numX s a b) : DV))) (by kernel_rfl) ?_
  rfl
noncomputable def orcSt : Oracle := fun f a => match f, a with
  | 57, [.con (.string s), .con (.int .i64 a), .con (.int .i64 b)] => some (numX s a b)
  | 58, [.con (.string s), .con (.int .i64 a), .con (.int .i64 b)] => some (numX s a b)
  | _, _ => none
def vrdL : List ByteArray := [⟨#[109, 97, 108, 102, 111, 114, 109, 101, 100]⟩, ⟨#[108, 97, 114, 103, 101]⟩, ⟨#[117, 110, 100, 101, 99, 105, 100, 101, 100]⟩, ⟨#[119, 114, 111, 110, 103]⟩, ⟨#[99, 111, 114, 114, 101, 99, 116]⟩]
def stdL : List Fc := [⟨⟨#[118, 101, 114, 100, 105, 99, 116]⟩, 2, 0, 0, 0, 0, vrdL⟩, ⟨⟨#[112, 97, 115, 115, 101, 100]⟩, 0, 0, 1, 64, 1, []⟩, ⟨⟨#[116, 101, 115, 116, 115]⟩, 0, 0, 1, 64, 1, []⟩, ⟨⟨#[99, 111, 118, 101, 114, 97, 103, 101]⟩, 0, 0, 1, 100, 1, []⟩, ⟨⟨#[100, 105, 115, 116, 97, 110, 99, 101]⟩, 0, 0, 1, 512, 1, []⟩, ⟨⟨#[114, 101, 112, 97, 105, 114]⟩, 0, 0, 1, 4, 1, []⟩, ⟨⟨#[104, 105, 110, 116, 115]⟩, 0, 0, 1, 5, 1, []⟩, ⟨⟨#[108, 97, 116, 101]⟩, 0, 0, 1, 1000000000, 1, []⟩, ⟨⟨#[97, 116, 116, 101, 109, 112, 116]⟩, 0, 1, 1, 16, 1, []⟩, ⟨⟨#[101, 120, 116, 101, 110, 100, 101, 100]⟩, 1, 0, 0, 0, 0, []⟩, ⟨⟨#[102, 105, 114, 115, 116]⟩, 1, 0, 0, 0, 0, []⟩]
def stdC : List DV := [ds ⟨#[118, 101, 114, 100, 105, 99, 116]⟩, di 2, di 0, di 0, di 0, di 0, st1 vrdL, ds ⟨#[112, 97, 115, 115, 101, 100]⟩, di 0, di 0, di 1, di 64, di 1, .con (.slice none 0 0), ds ⟨#[116, 101, 115, 116, 115]⟩, di 0, di 0, di 1, di 64, di 1, .con (.slice none 0 0), ds ⟨#[99, 111, 118, 101, 114, 97, 103, 101]⟩, di 0, di 0, di 1, di 100, di 1, .con (.slice none 0 0), ds ⟨#[100, 105, 115, 116, 97, 110, 99, 101]⟩, di 0, di 0, di 1, di 512, di 1, .con (.slice none 0 0), ds ⟨#[114, 101, 112, 97, 105, 114]⟩, di 0, di 0, di 1, di 4, di 1, .con (.slice none 0 0), ds ⟨#[104, 105, 110, 116, 115]⟩, di 0, di 0, di 1, di 5, di 1, .con (.slice none 0 0), ds ⟨#[108, 97, 116, 101]⟩, di 0, di 0, di 1, di 1000000000, di 1, .con (.slice none 0 0), ds ⟨#[97, 116, 116, 101, 109, 112, 116]⟩, di 0, di 1, di 1, di 16, di 1, .con (.slice none 0 0), ds ⟨#[101, 120, 116, 101, 110, 100, 101, 100]⟩, di 1, di 0, di 0, di 0, di 0, .con (.slice none 0 0), ds ⟨#[102, 105, 114, 115, 116]⟩, di 1, di 0, di 0, di 0, di 0, .con (.slice none 0 0)]
def stdR : DV := .slc 7 11 (elemF true 7 stdC)
theorem stdR_rel (k : IH) (v : Value) (h : DV.rel k stdR v) : DV.rel k (fcsD stdL) v := by
  refine rel_slc_imp (n := 11) (f := elemF true 7 stdC) (g := fcF stdL) (fun i hi v hv => ?_) h
  rcases i with _ | _ | _ | _ | _ | _ | _ | _ | _ | _ | _ | i
  · exact fc_rel (fun _ h => st1_rel h) hv
  · exact fc_nil hv
  · exact fc_nil hv
  · exact fc_nil hv
  · exact fc_nil hv
  · exact fc_nil hv
  · exact fc_nil hv
  · exact fc_nil hv
  · exact fc_nil hv
  · exact fc_nil hv
  · exact fc_nil hv
  · omega
theorem f25 : FnOK Tryz.prog G 25 [] (fcsD stdL) := by
  have key : ∀ r : DV, (∀ k v, DV.rel k r v → DV.rel k (fcsD stdL) v) → r = stdR → FnOK Tryz.prog G 25 [] (fcsD stdL) := by
    intro r hr e
    refine FnOKres (r := r) (FnOK.walk (orc := orcSt) (keep := []) follows Tryz.func25 rfl Tryz.call25 ?_) hr
    refine of_tr (fun _ _ _ ZK => (fun Za Zb Zc Zd Ze Zf Zg Zh => ((ZK 58 [Zd, (di 0), (di 64)] (.agg [Zd, (di 0), (di 0), (di 1), (di 64), (di 1), (.con (.slice none 0 0))]) ∧ ZK 58 [Zf, (di 0), (di 64)] (.agg [Zf, (di 0), (di 0), (di 1), (di 64), (di 1), (.con (.slice none 0 0))]) ∧ ZK 58 [Za, (di 0), (di 100)] (.agg [Za, (di 0), (di 0), (di 1), (di 100), (di 1), (.con (.slice none 0 0))]) ∧ ZK 58 [Zb, (di 0), (di 512)] (.agg [Zb, (di 0), (di 0), (di 1), (di 512), (di 1), (.con (.slice none 0 0))]) ∧ ZK 58 [Ze, (di 0), (di 4)] (.agg [Ze, (di 0), (di 0), (di 1), (di 4), (di 1), (.con (.slice none 0 0))]) ∧ ZK 58 [Zg, (di 0), (di 5)] (.agg [Zg, (di 0), (di 0), (di 1), (di 5), (di 1), (.con (.slice none 0 0))]) ∧ ZK 58 [Zh, (di 0), (di 1000000000)] (.agg [Zh, (di 0), (di 0), (di 1), (di 1000000000), (di 1), (.con (.slice none 0 0))]) ∧ ZK 58 [Zc, (di 1), (di 16)] (.agg [Zc, (di 0), (di 1), (di 1), (di 16), (di 1), (.con (.slice none 0 0))])) ∧ ((.slc 7 11 (elemF true 7 [(ds (ByteArray.mk #[118, 101, 114, 100, 105, 99, 116])), (di 2), (di 0), (di 0), (di 0), (di 0), (.slc 1 5 (elemF false 1 [(ds (ByteArray.mk #[109, 97, 108, 102, 111, 114, 109, 101, 100])), (ds (ByteArray.mk #[108, 97, 114, 103, 101])), (ds (ByteArray.mk #[117, 110, 100, 101, 99, 105, 100, 101, 100])), (ds (ByteArray.mk #[119, 114, 111, 110, 103])), (ds (ByteArray.mk #[99, 111, 114, 114, 101, 99, 116]))])), Zd, (di 0), (di 0), (di 1), (di 64), (di 1), (.con (.slice none 0 0)), Zf, (di 0), (di 0), (di 1), (di 64), (di 1), (.con (.slice none 0 0)), Za, (di 0), (di 0), (di 1), (di 100), (di 1), (.con (.slice none 0 0)), Zb, (di 0), (di 0), (di 1), (di 512), (di 1), (.con (.slice none 0 0)), Ze, (di 0), (di 0), (di 1), (di 4), (di 1), (.con (.slice none 0 0)), Zg, (di 0), (di 0), (di 1), (di 5), (di 1), (.con (.slice none 0 0)), Zh, (di 0), (di 0), (di 1), (di 1000000000), (di 1), (.con (.slice none 0 0)), Zc, (di 0), (di 1), (di 1), (di 16), (di 1), (.con (.slice none 0 0)), (ds (ByteArray.mk #[101, 120, 116, 101, 110, 100, 101, 100])), (di 1), (di 0), (di 0), (di 0), (di 0), (.con (.slice none 0 0)), (ds (ByteArray.mk #[102, 105, 114, 115, 116])), (di 1), (di 0), (di 0), (di 0), (di 0), (.con (.slice none 0 0))])) : DV) = r)) (ds (ByteArray.mk #[99, 111, 118, 101, 114, 97, 103, 101])) (ds (ByteArray.mk #[100, 105, 115, 116, 97, 110, 99, 101])) (ds (ByteArray.mk #[97, 116, 116, 101, 109, 112, 116])) (ds (ByteArray.mk #[112, 97, 115, 115, 101, 100])) (ds (ByteArray.mk #[114, 101, 112, 97, 105, 114])) (ds (ByteArray.mk #[116, 101, 115, 116, 115])) (ds (ByteArray.mk #[104, 105, 110, 116, 115])) (ds (ByteArray.mk #[108, 97, 116, 101]))) (by kernel_rfl) ?_
    refine ⟨⟨f58 _ _ _, f58 _ _ _, f58 _ _ _, f58 _ _ _, f58 _ _ _, f58 _ _ _, f58 _ _ _, f58 _ _ _⟩, ?_⟩
    rw [e]; rfl
  exact key _ (fun k v hv => stdR_rel k v hv) rfl
end Go.Proofs
set_option autoImplicit false
namespace Go.Proofs
open Go Go.Ab Go.RowKit
set_option maxHeartbeats 4000000
/-! The reference's ValidFacts, and the program's. -/
def wordsOK (L : List Fc) (ws : List ByteArray) : Prop := ∀ j, j < ws.length → nameB (ws.getD j .empty) = true ∧ ws.getD j .empty ∉ ws.take j ∧ ¬ fndI L (ws.getD j .empty) ≥ 0
def rgA (L : List Fc) (k : Nat) (x : Fc) : Prop := nameB x.name = true ∧ fndI L x.name = k ∧ ((x.kind = 0 ∧ ok2O x.ln x.ld x.hn x.hd = true ∧ cmpO x.ln x.ld x.hn x.hd ≤ 0 ∧ x.words.length = 0) ∨
  (x.kind = 1 ∧ zeroB x = true ∧ x.words.length = 0) ∨ (x.kind = 2 ∧ zeroB x = true ∧ 1 ≤ x.words.length ∧ x.words.length ≤ 16 ∧ wordsOK L x.words))
theorem anyB_mem (l : List ByteArray) (s : ByteArray) : anyB l s = true ↔ s ∈ l := by
  unfold anyB
  rw [List.any_eq_true]
  simp only [decide_eq_true_eq]
  exact ⟨fun ⟨x, h, e⟩ => e ▸ h, fun h => ⟨s, h, rfl⟩⟩
theorem nodup_iff {l : List ByteArray} : l.Nodup ↔ ∀ j, j < l.length → l.getD j .empty ∉ l.take j := by
  constructor
  · intro h j hj hm
    exact nodup_not hj hm h
  · intro h
    have : ∀ k, k ≤ l.length → (l.take k).Nodup := by
      intro k
      induction k with
      | zero => intro _; simp
      | succ k ih => intro hk; exact nodup_step hk (ih (by omega)) (h k hk)
    have := this l.length (Nat.le_refl _)
    rwa [List.take_length] at this
theorem fnd_neg (L : List Fc) (s : ByteArray) : ¬ fndI L s ≥ 0 ↔ s ∉ namesL L := by
  have h := idI_ge (isN s) L
  have e : L.any (isN s) = true ↔ s ∈ namesL L := by
    rw [List.any_eq_true]
    unfold namesL isN
    simp only [decide_eq_true_eq, List.mem_map]
  unfold fndI
  rw [← e, ← h, decide_eq_true_eq]
theorem fnd_name {L : List Fc} {k : Nat} (hk : k < L.length) : fndI L (L.getD k fc0).name = k ↔ (namesL L).getD k .empty ∉ (namesL L).take k := by
  have hn : (namesL L).getD k .empty = (L.getD k fc0).name := by
    unfold namesL
    rw [List.getD, List.getD, List.getElem?_map, List.getElem?_eq_getElem hk]; rfl
  rw [hn]
  have hm : (L.getD k fc0).name ∈ (namesL L).take k ↔ ∃ i, i < k ∧ (L.getD i fc0).name = (L.getD k fc0).name := by
    unfold namesL
    rw [← List.map_take, List.mem_map]
    constructor
    · rintro ⟨x, hx, e⟩
      obtain ⟨i, hi, rfl⟩ := List.getElem_of_mem hx
      rw [List.length_take] at hi
      refine ⟨i, by omega, ?_⟩
      rw [List.getElem_take] at e
      rw [← e, List.getD, List.getElem?_eq_getElem (by omega)]; rfl
    · rintro ⟨i, hi, e⟩
      refine ⟨L.getD i fc0, ?_, e⟩
      rw [List.getD, List.getElem?_eq_getElem (by omega)]
      exact List.mem_take_iff_getElem.2 ⟨i, by omega, rfl⟩
  rw [hm]
  constructor
  · rintro h ⟨i, hi, e⟩
    have key : ∀ i, i < k → isN (L.getD k fc0).name (L.getD i fc0) = false := by
      intro i
      induction i using Nat.strongRecOn with
      | _ i ih =>
        intro hi
        rw [Bool.eq_false_iff]
        intro ht
        have h2 := (idI_hit (x0 := fc0) (by omega) (fun j hj => ih j hj (by omega)) ht).2
        have h3 : fndI L (L.getD k fc0).name = i := h2
        omega
    have h4 := key i hi
    unfold isN at h4
    rw [decide_eq_true e] at h4
    cases h4
  · intro h
    refine (idI_hit (x0 := fc0) hk (fun i hi => ?_) ?_).2
    · unfold isN
      rw [decide_eq_false]
      exact fun e => h ⟨i, hi, e⟩
    · unfold isN; simp
theorem vf_ref {L : List Fc} (h32 : L.length ≤ 32) : vfB L = true ↔ ∀ k, k < L.length → rgA L k (L.getD k fc0) := by
  have hw : ∀ ws : List ByteArray, (ws.any fun s => anyB (namesL L) s) = false ↔ ∀ j, j < ws.length → ¬ fndI L (ws.getD j .empty) ≥ 0 := by
    intro ws
    constructor
    · intro h j hj
      rw [fnd_neg, ← anyB_mem]
      intro hh
      rw [List.any_eq_false] at h
      refine h (ws.getD j .empty) ?_ hh
      rw [List.getD, List.getElem?_eq_getElem hj]; exact List.getElem_mem hj
    · intro h
      rw [List.any_eq_false]
      intro x hx hh
      obtain ⟨j, hj, rfl⟩ := List.getElem_of_mem hx
      have := h j hj
      rw [List.getD, List.getElem?_eq_getElem hj, fnd_neg, ← anyB_mem] at this
      exact this hh
  have hn : ∀ ws : List ByteArray, (ws.any fun s => !nameB s) = false ↔ ∀ j, j < ws.length → nameB (ws.getD j .empty) = true := by
    intro ws
    constructor
    · intro h j hj
      rw [List.any_eq_false] at h
      have := h (ws.getD j .empty) (by rw [List.getD, List.getElem?_eq_getElem hj]; exact List.getElem_mem hj)
      simpa using this
    · intro h
      rw [List.any_eq_false]
      intro x hx
      obtain ⟨j, hj, rfl⟩ := List.getElem_of_mem hx
      have := h j hj
      rw [List.getD, List.getElem?_eq_getElem hj] at this
      simpa using this
  have hone : ∀ (k : Nat) (x : Fc), (badB (namesL L) x = false ∧ fndI L x.name = k) ↔ rgA L k x := by
    intro k x
    unfold badB dscB rgA wordsOK
    rw [Bool.or_eq_false_iff, Bool.not_eq_false', Bool.and_eq_true]
    constructor
    · rintro ⟨⟨⟨h1, h2⟩, h3⟩, h4⟩
      refine ⟨h1, h4, ?_⟩
      by_cases k0 : x.kind = 0
      · rw [if_pos k0] at h2
        simp only [Bool.and_eq_true, decide_eq_true_eq] at h2
        exact .inl ⟨k0, h2.1.1, h2.1.2, h2.2⟩
      · rw [if_neg k0] at h2
        by_cases k1 : x.kind = 1
        · rw [if_pos k1] at h2
          simp only [Bool.and_eq_true, decide_eq_true_eq] at h2
          exact .inr (.inl ⟨k1, h2.1, h2.2⟩)
        · rw [if_neg k1] at h2
          by_cases k2 : x.kind = 2
          · rw [if_pos k2] at h2
            simp only [Bool.and_eq_true, decide_eq_true_eq, Bool.not_eq_true'] at h2
            obtain ⟨⟨⟨⟨z, l1⟩, l2⟩, nd⟩, nm⟩ := h2
            exact .inr (.inr ⟨k2, z, l1, l2, fun j hj => ⟨(hn _).1 nm j hj, nodup_iff.1 nd j hj, (hw _).1 h3 j hj⟩⟩)
          · rw [if_neg k2] at h2; cases h2
    · rintro ⟨h1, h4, h⟩
      rcases h with ⟨k0, a, b, c⟩ | ⟨k1, a, b⟩ | ⟨k2, z, l1, l2, w⟩
      · have hnil := List.eq_nil_of_length_eq_zero c
        rw [if_pos k0]
        refine ⟨⟨⟨h1, ?_⟩, by rw [hnil]; rfl⟩, h4⟩
        simp only [Bool.and_eq_true, decide_eq_true_eq]
        exact ⟨⟨a, b⟩, c⟩
      · have hnil := List.eq_nil_of_length_eq_zero b
        rw [if_neg (by omega), if_pos k1]
        refine ⟨⟨⟨h1, ?_⟩, by rw [hnil]; rfl⟩, h4⟩
        simp only [Bool.and_eq_true, decide_eq_true_eq]
        exact ⟨a, b⟩
      · rw [if_neg (by omega), if_neg (by omega), if_pos k2]
        refine ⟨⟨⟨h1, ?_⟩, (hw _).2 fun j hj => (w j hj).2.2⟩, h4⟩
        simp only [Bool.and_eq_true, decide_eq_true_eq, Bool.not_eq_true']
        exact ⟨⟨⟨⟨z, l1⟩, l2⟩, nodup_iff.2 fun j hj => (w j hj).2.1⟩, (hn _).2 fun j hj => (w j hj).1⟩
  unfold vfB ndB
  rw [decide_eq_true h32, Bool.true_and, Bool.and_eq_true, decide_eq_true_eq, Bool.not_eq_true', List.any_eq_false, nodup_iff, namesL_len]
  constructor
  · rintro ⟨h1, h2⟩ k hk
    refine (hone k _).1 ⟨?_, (fnd_name hk).2 (h1 k hk)⟩
    have := h2 (L.getD k fc0) (by rw [List.getD, List.getElem?_eq_getElem hk]; exact List.getElem_mem hk)
    simpa using this
  · intro h
    refine ⟨fun k hk => (fnd_name hk).1 ((hone k _).2 (h k hk)).2, fun x hx => ?_⟩
    obtain ⟨k, hk, rfl⟩ := List.getElem_of_mem hx
    have := ((hone k _).2 (h k hk)).1
    rw [List.getD, List.getElem?_eq_getElem hk] at this
    simpa using this
end Go.Proofs
set_option autoImplicit false
namespace Go.Proofs
open Go Go.Ab Go.RowKit
set_option maxHeartbeats 4000000
set_option maxRecDepth 100000
variable {G : IH}
noncomputable def orcRv (L : List Fc) : Oracle := fun f a => match f, a with
  | 54, [.con (.string s)] => some (db (nameB s))
  | 55, [_, .con (.string s)] => some (di (fndI L s))
  | 19, [fr a b, fr c d] => some (.tup [di (cmpO a b c d), db (ok2O a b c d)])
  | 56, [w, .con (.string s)] => some (db (anyB (rdW w) s))
  | _, _ => none
abbrev fcC (x : Fc) : List AV := [.d (ds x.name), vi x.kind, vi x.ln, vi x.ld, vi x.hn, vi x.hd, .d (wdD x.words)]
noncomputable def S22 (L : List Fc) (k : Nat) : AS := ⟨regs Tryz.f22.ntmps [(0, .d (fcsD L)), (3, .box 3 0), (4, vi k)], [(3, [vi 0, vi 0])]⟩
noncomputable def S22i (L : List Fc) (k j : Nat) : AS := ⟨regs Tryz.f22.ntmps [(0, .d (fcsD L)), (3, .box 3 0), (4, vi k), (5, .box 5 0), (8, vi j)], [(3, [vi 0, vi 0]), (5, fcC (L.getD k fc0))]⟩
theorem rdW_take {l : List ByteArray} {j : Nat} (h : j ≤ l.length) : rdW (.slc 1 j fun i => stF l (0 + i)) = l.take j := by
  unfold rdW
  refine List.ext_getElem (by simp; omega) fun i h1 h2 => ?_
  rw [List.getElem_map, List.getElem_range, List.getElem_take]
  unfold stF
  have hi : i < l.length := by simp at h2; omega
  show rdS (ds (l.getD (0 + i) .empty)) = l[i]
  rw [Nat.zero_add, List.getD, List.getElem?_eq_getElem hi]; rfl
theorem stF_take {l : List ByteArray} {i j : Nat} (hi : i < j) : stF l (0 + i) = stF (l.take j) i := by
  unfold stF
  rw [Nat.zero_add, List.getD, List.getD, List.getElem?_take_of_lt hi]
theorem f22 (hT : Tab G) (L : List Fc) (h : ∀ i, i < L.length → FcS (L.getD i fc0)) (hl : L.length ≤ 1000) : FnOK Tryz.prog G 22 [fcsD L] (db (vfB L)) := by
  refine FnOK.walk (orc := orcRv L) (keep := []) follows Tryz.func22 rfl Tryz.call22 ?_
  refine of_tr (fun ZT ZW ZQ _ => ((((decide ((↑L.length : Int) > 32)) = true) → (((db false) : DV) = (db (vfB L)))) ∧ (((decide ((↑L.length : Int) > 32)) = false) → ZW [cd Tryz.f22 [1, 1, 1, 0, 1, 0], (.blk 0), cd Tryz.f22 [1, 1, 1, 1]] (stS ZT [1]) ZQ))) (by kernel_rfl) ?_
  refine ⟨fun h32 => ?_, fun h32 => ?_⟩
  · have h32 := of_decide_eq_true h32
    unfold vfB
    rw [decide_eq_false (by omega)]; rfl
  have h32 := of_decide_eq_false h32
  have hvf := vf_ref (L := L) (by omega)
  have hfalse : ∀ k, k < L.length → ¬ rgA L k (L.getD k fc0) → db false = db (vfB L) := by
    intro k hk hn
    refine congrArg db ?_
    cases hv : vfB L with
    | false => rfl
    | true => exact absurd (hvf.1 hv k hk) hn
  refine AWP.loop (c := cAt (bodyOf Tryz.f22) [1, 1, 1, 0, 1, 0, 0]) (by kernel_rfl) (S22 L) (fun k => k ≤ L.length ∧ ∀ i, i < k → rgA L i (L.getD i fc0)) (fun k => L.length - k) 0 ?_ ⟨Nat.zero_le _, fun i hi => absurd hi (Nat.not_lt_zero _)⟩ ?_
  · exact AS.leA (by kernel_rfl)
  · rintro k ⟨hk, hkd⟩
    refine walk (orc := orcRv L) (keep := []) (cuts := []) (n := 1000) follows ?_
    refine of_rd (fun ZT ZW ZQ ZK ZA ZR => (fun Za Zb Zc Zd => ((((decide ((↑k : Int) < ↑L.length)) = true) → (((0 ≤ (↑k : Int)) ∧ ((↑k : Int) < ↑L.length)) ∧ (ZK 54 [(ds (L.getD (↑k : Int).toNat fc0).name)] (db (nameB (L.getD (↑k : Int).toNat fc0).name)) ∧ (((!!nameB (L.getD (↑k : Int).toNat fc0).name) = true) → ZK 55 [(.slc 7 L.length (fcF L)), (ds (L.getD (↑k : Int).toNat fc0).name)] (di (fndI L (L.getD (↑k : Int).toNat fc0).name)))) ∧ ((Zd = true) → (((db false) : DV) = (db (vfB L)))) ∧ ((Zd = false) → (((((L.getD (↑k : Int).toNat fc0).kind == 0) = true) → (ZK 19 [(.agg [(di (L.getD (↑k : Int).toNat fc0).ln), (di (L.getD (↑k : Int).toNat fc0).ld)]), (.agg [(di (L.getD (↑k : Int).toNat fc0).hn), (di (L.getD (↑k : Int).toNat fc0).hd)])] (.tup [(di (cmpO (L.getD (↑k : Int).toNat fc0).ln (L.getD (↑k : Int).toNat fc0).ld (L.getD (↑k : Int).toNat fc0).hn (L.getD (↑k : Int).toNat fc0).hd)), (db (ok2O (L.getD (↑k : Int).toNat fc0).ln (L.getD (↑k : Int).toNat fc0).ld (L.getD (↑k : Int).toNat fc0).hn (L.getD (↑k : Int).toNat fc0).hd))]) ∧ (((!ok2O (Fc.ln Za) (Fc.ld Za) (Fc.hn Za) (Fc.hd Za) || decide (cmpO (Fc.ln Za) (Fc.ld Za) (Fc.hn Za) (Fc.hd Za) > 0) || decide ((↑(List.length (Fc.words Za)) : Int) > 0)) = true) → (((db false) : DV) = (db (vfB L)))) ∧ (((!ok2O (Fc.ln Za) (Fc.ld Za) (Fc.hn Za) (Fc.hd Za) || decide (cmpO (Fc.ln Za) (Fc.ld Za) (Fc.hn Za) (Fc.hd Za) > 0) || decide ((↑(List.length (Fc.words Za)) : Int) > 0)) = false) → ((I64 (↑k + 1)) ∧ (ZA (stS ZT [0, 1, 0, 1])))))) ∧ ((((L.getD (↑k : Int).toNat fc0).kind == 0) = false) → (((((L.getD (↑k : Int).toNat fc0).kind == 1) = true) → ((((!Bool.rec false (Zb.ld == 0) (Zb.ln == 0) || !Bool.rec false (Zb.hd == 0) (Zb.hn == 0) || decide (Zc > 0)) = true) → (((db false) : DV) = (db (vfB L)))) ∧ (((!Bool.rec false (Zb.ld == 0) (Zb.ln == 0) || !Bool.rec false (Zb.hd == 0) (Zb.hn == 0) || decide (Zc > 0)) = false) → ((I64 (↑k + 1)) ∧ (ZA (stS ZT [0, 1, 1, 0, 1])))))) ∧ ((((L.getD (↑k : Int).toNat fc0).kind == 1) = false) → (((((L.getD (↑k : Int).toNat fc0).kind == 2) = true) → ((((!Bool.rec false (Zb.ld == 0) (Zb.ln == 0) || !Bool.rec false (Zb.hd == 0) (Zb.hn == 0) || decide (Zc < 1) || decide (Zc > 16)) = true) → (((db false) : DV) = (db (vfB L)))) ∧ (((!Bool.rec false (Zb.ld == 0) (Zb.ln == 0) || !Bool.rec false (Zb.hd == 0) (Zb.hn == 0) || decide (Zc < 1) || decide (Zc > 16)) = false) → ZW [cd Tryz.f22 [1, 1, 1, 0, 1, 0, 0, 1, 0, 0, 1, 1, 1, 0, 1, 1, 1, 1, 1, 0, 1, 1, 0], (.blk 3), (.blk 2), (.blk 1), cd Tryz.f22 [1, 1, 1, 0, 1, 0, 0, 1, 1]] (stS ZT [0, 1, 1, 1, 0, 1]) ZR))) ∧ ((((L.getD (↑k : Int).toNat fc0).kind == 2) = false) → (((db false) : DV) = (db (vfB L)))))))))))) ∧ (((decide ((↑k : Int) < ↑L.length)) = false) → ZW [cd Tryz.f22 [1, 1, 1, 1]] (stS ZT [1]) ZQ))) (List.getD L (Int.toNat (↑k : Int)) fc0) (L.getD ((↑k : Int) : Int).toNat fc0) (↑(L.getD (↑k : Int).toNat fc0).words.length : Int) (!nameB (L.getD (↑k : Int).toNat fc0).name || fndI L (L.getD (↑k : Int).toNat fc0).name != ↑k)) (by kernel_rfl) ?_
    simp only [Int.toNat_natCast, toList_beq, rdW_eq]
    refine ⟨fun h1 => ?_, fun h1 => ?_⟩
    · have hk2 : k < L.length := by have := of_decide_eq_true h1; omega
      have hF := h k hk2
      have hnext : rgA L k (L.getD k fc0) → ∀ i, i < k + 1 → rgA L i (L.getD i fc0) := fun hr i hi => by
        rcases Nat.lt_or_ge i k with h4 | h4
        · exact hkd i h4
        · obtain rfl : i = k := by omega
          exact hr
      have hF2 := hF.ln
      refine ⟨⟨by omega, by omega⟩, ⟨f54 hT _ hF.nm, fun _ => f55 L _ (by omega)⟩, fun h2 => hfalse k hk2 ?_, fun h2 => ?_⟩
      · rintro ⟨a, b, _⟩
        rw [a, b] at h2
        simp at h2
      · simp only [Bool.or_eq_false_iff, Bool.not_eq_false', bne_eq_false_iff_eq] at h2
        obtain ⟨hnm, hfd⟩ := h2
        simp only [rec_and, beq_iff_eq, beq_eq_false_iff_ne, ne_eq]
        refine ⟨fun k0 => ⟨f19 _ _ _ _, fun h3 => hfalse k hk2 ?_, fun h3 => ⟨⟨by omega, by omega⟩, Again.mk (k + 1) ?_ ⟨hk2, hnext ⟨hnm, hfd, .inl ⟨k0, ?_⟩⟩⟩ (by omega)⟩⟩, fun k0 => ⟨fun k1 => ⟨fun h3 => hfalse k hk2 ?_, fun h3 => ⟨⟨by omega, by omega⟩, Again.mk (k + 1) ?_ ⟨hk2, hnext ⟨hnm, hfd, .inr (.inl ⟨k1, ?_⟩)⟩⟩ (by omega)⟩⟩, fun k1 => ⟨fun k2 => ⟨fun h3 => hfalse k hk2 ?_, fun h3 => ?_⟩, fun k2 => hfalse k hk2 ?_⟩⟩⟩
        · rintro ⟨_, _, ⟨_, a, b, c⟩ | ⟨e, _⟩ | ⟨e, _⟩⟩
          · rw [a, decide_eq_false (by omega), decide_eq_false (by omega)] at h3
            cases h3
          · omega
          · omega
        · exact AS.leA (by kernel_rfl)
        · simp only [Bool.or_eq_false_iff, Bool.not_eq_false', decide_eq_false_iff_not] at h3
          exact ⟨h3.1.1, by omega, by omega⟩
        · rintro ⟨_, _, ⟨e, _⟩ | ⟨_, a, b⟩ | ⟨e, _⟩⟩
          · omega
          · unfold zeroB at a
            simp only [Bool.and_eq_true] at a
            rw [a.1.1, a.1.2, a.2.1, a.2.2, decide_eq_false (by omega)] at h3
            cases h3
          · omega
        · exact AS.leA (by kernel_rfl)
        · simp only [Bool.or_eq_false_iff, Bool.not_eq_false', decide_eq_false_iff_not] at h3
          unfold zeroB
          rw [Bool.and_comm (_ == 0) (_ == 0)] at h3
          refine ⟨?_, by omega⟩
          have a := h3.1.1
          have b := h3.1.2
          simp only [Bool.and_eq_true] at a b ⊢
          exact ⟨⟨a.2, a.1⟩, b⟩
        · rintro ⟨_, _, ⟨e, _⟩ | ⟨e, _⟩ | ⟨_, a, b, c, _⟩⟩
          · omega
          · omega
          · unfold zeroB at a
            simp only [Bool.and_eq_true] at a
            rw [a.1.1, a.1.2, a.2.1, a.2.2, decide_eq_false (by omega), decide_eq_false (by omega)] at h3
            cases h3
        · simp only [Bool.or_eq_false_iff, Bool.not_eq_false', decide_eq_false_iff_not, Bool.and_eq_true] at h3
          obtain ⟨⟨⟨z1, z2⟩, l1⟩, l2⟩ := h3
          have hz : zeroB (L.getD k fc0) = true := by
            unfold zeroB
            simp only [Bool.and_eq_true]
            exact ⟨z1, z2⟩
          refine AWP.loop (c := cAt (bodyOf Tryz.f22) [1, 1, 1, 0, 1, 0, 0, 1, 0, 0, 1, 1, 1, 0, 1, 1, 1, 1, 1, 0, 1, 1, 0, 0]) (by kernel_rfl) (S22i L k) (fun j => j ≤ (L.getD k fc0).words.length ∧ ∀ i, i < j → nameB ((L.getD k fc0).words.getD i .empty) = true ∧ (L.getD k fc0).words.getD i .empty ∉ (L.getD k fc0).words.take i ∧ ¬ fndI L ((L.getD k fc0).words.getD i .empty) ≥ 0) (fun j => (L.getD k fc0).words.length - j) 0 ?_ ⟨Nat.zero_le _, fun i hi => absurd hi (Nat.not_lt_zero _)⟩ ?_
          · refine AS.leZ [] [1] (b := ((T0 ∧ T0 ∧ T0 ∧ T0 ∧ T0 ∧ True) ∧ T0 ∧ ((some [(vs (L.getD (↑k : Int).toNat fc0).name), (vi (L.getD (↑k : Int).toNat fc0).kind), (vi (L.getD (↑k : Int).toNat fc0).ln), (vi (L.getD (↑k : Int).toNat fc0).ld), (vi (L.getD (↑k : Int).toNat fc0).hn), (vi (L.getD (↑k : Int).toNat fc0).hd), (.d (.slc 1 (L.getD (↑k : Int).toNat fc0).words.length (stF (L.getD (↑k : Int).toNat fc0).words)))]) : (Option (List AV))) = (some [(vs (L.getD k fc0).name), (vi (L.getD k fc0).kind), (vi (L.getD k fc0).ln), (vi (L.getD k fc0).ld), (vi (L.getD k fc0).hn), (vi (L.getD k fc0).hd), (.d (.slc 1 (L.getD k fc0).words.length (stF (L.getD k fc0).words)))]) ∧ True)) (by kernel_rfl) (by kernel_rfl) ?_
            exact ⟨⟨rfl, rfl, rfl, rfl, rfl, trivial⟩, rfl, rfl, trivial⟩
          · rintro j ⟨hj, hjd⟩
            refine walk (orc := orcRv L) (keep := []) (cuts := []) (n := 1000) follows ?_
            refine of_rd (fun ZT ZW ZQ ZK ZA _ => (fun Za Zb Zc => ((((decide ((↑j : Int) < ↑(L.getD k fc0).words.length)) = true) → ((((0 ≤ (↑j : Int)) ∧ ((↑j : Int) < ↑(L.getD k fc0).words.length)) ∧ ZK 54 [(ds Za)] (db (nameB Za)) ∧ (((!!nameB Za) = true) → (((0 : Int) ≤ (0 : Int)) ∧ (0 ≤ (↑j : Int)) ∧ ((↑j : Int) ≤ ↑(L.getD k fc0).words.length))) ∧ (((!!nameB Za) = true) → ((0 ≤ (↑j : Int)) ∧ ((↑j : Int) < ↑(L.getD k fc0).words.length))) ∧ (((!!nameB Za) = true) → ZK 56 [(.slc 1 ((↑j : Int) - 0).toNat (fun i => stF (L.getD k fc0).words (Int.toNat 0 + i))), (ds Za)] (db (anyB Zb Za))) ∧ (((!(!nameB Zc || anyB Zb Za)) = true) → ((0 ≤ (↑j : Int)) ∧ ((↑j : Int) < ↑(L.getD k fc0).words.length))) ∧ (((!(!nameB Zc || anyB Zb Za)) = true) → ZK 55 [(.slc 7 L.length (fcF L)), (ds Za)] (di (fndI L Za)))) ∧ (((!nameB Zc || anyB Zb Za || decide (fndI L Za ≥ 0)) = true) → (((db false) : DV) = (db (vfB L)))) ∧ (((!nameB Zc || anyB Zb Za || decide (fndI L Za ≥ 0)) = false) → ((I64 (↑j + 1)) ∧ (ZA (stS ZT [0, 1])))))) ∧ (((decide ((↑j : Int) < ↑(L.getD k fc0).words.length)) = false) → ZW [(.blk 2), (.blk 1), cd Tryz.f22 [1, 1, 1, 0, 1, 0, 0, 1, 1]] (stS ZT [1]) ZQ))) ((L.getD k fc0).words.getD (↑j : Int).toNat ByteArray.empty) (rdW (DV.slc 1 ((↑j : Int) - 0).toNat fun i => stF (L.getD k fc0).words (Int.toNat 0 + i))) ((L.getD k fc0).words.getD ((↑j : Int) : Int).toNat ByteArray.empty)) (by kernel_rfl) ?_
            simp only [Int.toNat_natCast, toList_beq, rdW_eq, rdW_take hj]
            refine ⟨fun h4 => ?_, fun h4 => ?_⟩
            · have hj2 : j < (L.getD k fc0).words.length := by have := of_decide_eq_true h4; omega
              have ej : ((j : Int) - 0).toNat = j := by omega
              have es : rdW (.slc 1 ((j : Int) - 0).toNat fun i => stF (L.getD k fc0).words (Int.toNat 0 + i)) = (L.getD k fc0).words.take j := by
                rw [ej]; exact rdW_take hj
              have h56 : FnOK Tryz.prog G 56 [.slc 1 ((j : Int) - 0).toNat fun i => stF (L.getD k fc0).words (Int.toNat 0 + i), ds ((L.getD k fc0).words.getD j .empty)] (db (anyB ((L.getD k fc0).words.take j) ((L.getD k fc0).words.getD j .empty))) := by
                have htl : ((L.getD k fc0).words.take j).length = j := by rw [List.length_take]; omega
                refine (f56 ((L.getD k fc0).words.take j) ((L.getD k fc0).words.getD j .empty) (by omega)).args fun kk us => DV.rels_cons (fun v hv => ?_) (fun _ h => h) us
                rw [htl]
                rw [ej] at hv
                refine DV.rel_slc_congr (fun i hi => ?_) hv
                exact stF_take hi
              simp only [es]
              have hbad : (!nameB ((L.getD k fc0).words.getD j .empty) || anyB ((L.getD k fc0).words.take j) ((L.getD k fc0).words.getD j .empty) || decide (fndI L ((L.getD k fc0).words.getD j .empty) ≥ 0)) = false ↔ (nameB ((L.getD k fc0).words.getD j .empty) = true ∧ (L.getD k fc0).words.getD j .empty ∉ (L.getD k fc0).words.take j ∧ ¬ fndI L ((L.getD k fc0).words.getD j .empty) ≥ 0) := by
                rw [Bool.or_eq_false_iff, Bool.or_eq_false_iff, Bool.not_eq_false', decide_eq_false_iff_not, ← anyB_mem, Bool.not_eq_true, and_assoc]
              refine ⟨⟨⟨by omega, by omega⟩, f54 hT _ (hF.wd j hj2), fun _ => ⟨by omega, by omega, by omega⟩, fun _ => ⟨by omega, by omega⟩, fun _ => h56, fun _ => ⟨by omega, by omega⟩, fun _ => f55 L _ (by omega)⟩, fun h5 => hfalse k hk2 ?_, fun h5 => ⟨⟨by omega, by omega⟩, Again.mk (j + 1) ?_ ⟨hj2, fun i hi => ?_⟩ (by omega)⟩⟩
              · rintro ⟨_, _, ⟨e, _⟩ | ⟨e, _⟩ | ⟨_, _, _, _, w⟩⟩
                · omega
                · omega
                · rw [hbad.2 (w j hj2)] at h5; cases h5
              · exact AS.leA (by kernel_rfl)
              · rcases Nat.lt_or_ge i j with h6 | h6
                · exact hjd i h6
                · obtain rfl : i = j := by omega
                  exact hbad.1 h5
            · have h4 := of_decide_eq_false h4
              refine walk (orc := orcRv L) (keep := []) (cuts := []) (n := 1000) follows ?_
              refine of_rd (fun ZT _ _ _ ZA _ => ((I64 (↑k + 1)) ∧ (ZA (stS ZT [])))) (by kernel_rfl) ?_
              refine ⟨⟨by omega, by omega⟩, Again.mk (k + 1) ?_ ⟨hk2, hnext ⟨hnm, hfd, .inr (.inr ⟨k2, hz, by omega, by omega, fun i hi => hjd i (by omega)⟩)⟩⟩ (by omega)⟩
              exact AS.leA (by kernel_rfl)
        · rintro ⟨_, _, ⟨e, _⟩ | ⟨e, _⟩ | ⟨e, _⟩⟩
          · exact k0 e
          · exact k1 e
          · exact k2 e
    · simp only [decide_eq_false_iff_not] at h1
      refine walk (orc := orcRv L) (keep := []) (cuts := []) (n := 1000) follows ?_
      refine of_tr (fun _ _ _ _ => (((db true) : DV) = (db (vfB L)))) (by kernel_rfl) ?_
      rw [hvf.2 fun i hi => hkd i (by omega)]
end Go.Proofs
