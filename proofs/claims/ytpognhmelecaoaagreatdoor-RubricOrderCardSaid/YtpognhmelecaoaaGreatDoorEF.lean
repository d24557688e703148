import Derived.Test.YtpognhmelecaoaaGreatDoorAcD
import Derived.Test.YtpognhmelecaoaaGreatDoorEE
set_option autoImplicit false
namespace Go.Proofs
open Go Go.Ab Go.RowKit
set_option maxHeartbeats 4000000
set_option maxRecDepth 100000
variable {G : IH}
def noO : Oracle := fun _ _ => none
/-! Equal slices of strings. -/
theorem getD_ext {α : Type} {x0 : α} {a b : List α} (hl : a.length = b.length) (h : ∀ i, i < a.length → a.getD i x0 = b.getD i x0) : a = b := by
  refine List.ext_getElem hl fun i h1 h2 => ?_
  have := h i h1
  rw [List.getD, List.getD, List.getElem?_eq_getElem h1, List.getElem?_eq_getElem h2] at this
  exact this
/-! Few descriptions. -/
def smF (x : Fc) : Bool := decide (x.name.size ≤ 40) && decide (x.words.length ≤ 20) && x.words.all fun s => decide (s.size ≤ 40)
def fewF (L : List Fc) : Bool := L.all smF && decide (L.length ≤ 16)
structure FcW (x : Fc) : Prop where
  nm : x.name.size ≤ 9223372036854775807
  ln : x.words.length ≤ 9223372036854775807
  wd : ∀ i, i < x.words.length → (x.words.getD i .empty).size ≤ 9223372036854775807
theorem all_getD {α : Type} {x0 : α} {p : α → Bool} {L : List α} (h : ∀ i, i < L.length → p (L.getD i x0) = true) : L.all p = true := by
  rw [List.all_eq_true]
  intro x hx
  obtain ⟨i, hi, rfl⟩ := List.getElem_of_mem hx
  have := h i hi
  rw [List.getD, List.getElem?_eq_getElem hi] at this
  exact this
theorem all_miss {α : Type} {x0 : α} {p : α → Bool} {L : List α} {i : Nat} (hi : i < L.length) (h : p (L.getD i x0) = false) : L.all p = false := by
  rw [Bool.eq_false_iff]
  intro hh
  have := List.all_eq_true.1 hh (L.getD i x0) (by rw [List.getD, List.getElem?_eq_getElem hi]; exact List.getElem_mem hi)
  rw [h] at this; cases this
noncomputable def S20 (L : List Fc) (k : Nat) : AS := ⟨regs Tryz.f20.ntmps [(0, .d (fcsD L)), (3, vi k)], []⟩
noncomputable def S20i (L : List Fc) (k j : Nat) : AS := ⟨regs Tryz.f20.ntmps [(0, .d (fcsD L)), (3, vi k), (4, vi j)], []⟩
theorem f20 (L : List Fc) (hl : L.length ≤ 9223372036854775807) (hw : ∀ i, i < L.length → FcW (L.getD i fc0)) : FnOK Tryz.prog G 20 [fcsD L] (db (fewF L)) := by
  refine FnOK.walk (orc := noO) (keep := []) follows Tryz.func20 rfl Tryz.call20 ?_
  refine of_tr (fun ZT ZW ZQ _ => ZW [cd Tryz.f20 [1, 0, 1, 0], (.blk 0), cd Tryz.f20 [1, 1]] (stS ZT []) ZQ) (by kernel_rfl) ?_
  refine AWP.loop (c := cAt (bodyOf Tryz.f20) [1, 0, 1, 0, 0]) (by kernel_rfl) (S20 L) (fun k => k ≤ L.length ∧ ∀ i, i < k → smF (L.getD i fc0) = true) (fun k => L.length - k) 0 ?_ ⟨Nat.zero_le _, fun i hi => absurd hi (Nat.not_lt_zero _)⟩ ?_
  · exact AS.leA (by kernel_rfl)
  · rintro k ⟨hk, hkd⟩
    refine walk (orc := noO) (keep := []) (cuts := []) (n := 1000) follows ?_
    refine of_rd (fun ZT ZW ZQ _ _ ZR => (fun Za => ((((decide ((↑k : Int) < ↑L.length)) = true) → ((((0 ≤ (↑k : Int)) ∧ ((↑k : Int) < ↑L.length)) ∧ (((!decide ((↑(L.getD (↑k : Int).toNat fc0).name.size : Int) > 40)) = true) → ((0 ≤ (↑k : Int)) ∧ ((↑k : Int) < ↑L.length)))) ∧ ((Za = true) → (((db false) : DV) = (db (fewF L)))) ∧ ((Za = false) → ZW [cd Tryz.f20 [1, 0, 1, 0, 0, 1, 0, 0, 1, 1, 0], (.blk 2), (.blk 1), cd Tryz.f20 [1, 0, 1, 0, 0, 1, 1]] (stS ZT [0, 1]) ZR))) ∧ (((decide ((↑k : Int) < ↑L.length)) = false) → ZW [cd Tryz.f20 [1, 1]] (stS ZT [1]) ZQ))) (decide ((↑(L.getD (↑k : Int).toNat fc0).name.size : Int) > 40) || decide ((↑(L.getD (↑k : Int).toNat fc0).words.length : Int) > 20))) (by kernel_rfl) ?_
    simp only [Int.toNat_natCast]
    refine ⟨fun h => ?_, fun h => ?_⟩
    · have hk2 : k < L.length := by have := of_decide_eq_true h; omega
      have hwk := hw k hk2
      have hw1 := hwk.nm
      have hw2 := hwk.ln
      refine ⟨⟨⟨by omega, by omega⟩, fun _ => ⟨by omega, by omega⟩⟩, fun h2 => ?_, fun h2 => ?_⟩
      · unfold fewF
        rw [all_miss (x0 := fc0) hk2]
        · rfl
        · unfold smF
          simp only [Bool.or_eq_true, decide_eq_true_eq] at h2
          rcases h2 with h2 | h2
          · rw [decide_eq_false (by omega)]; rfl
          · rw [decide_eq_false (by omega : ¬ _ ≤ 20), Bool.and_false]; rfl
      · simp only [Bool.or_eq_false_iff, decide_eq_false_iff_not] at h2
        refine AWP.loop (c := cAt (bodyOf Tryz.f20) [1, 0, 1, 0, 0, 1, 0, 0, 1, 1, 0, 0]) (by kernel_rfl) (S20i L k) (fun j => j ≤ (L.getD k fc0).words.length ∧ ∀ i, i < j → ((L.getD k fc0).words.getD i .empty).size ≤ 40) (fun j => (L.getD k fc0).words.length - j) 0 ?_ ⟨Nat.zero_le _, fun i hi => absurd hi (Nat.not_lt_zero _)⟩ ?_
        · exact AS.leA (by kernel_rfl)
        · rintro j ⟨hj, hjd⟩
          refine walk (orc := noO) (keep := []) (cuts := []) (n := 1000) follows ?_
          refine of_rd (fun ZT ZW ZQ _ ZA _ => (fun Za => (((0 ≤ (↑k : Int)) ∧ ((↑k : Int) < ↑L.length)) ∧ (((decide ((↑j : Int) < ↑(L.getD (↑k : Int).toNat fc0).words.length)) = true) → ((((0 ≤ (↑k : Int)) ∧ ((↑k : Int) < ↑L.length)) ∧ (0 ≤ (↑j : Int)) ∧ ((↑j : Int) < ↑(L.getD (↑k : Int).toNat fc0).words.length)) ∧ ((Za = true) → (((db false) : DV) = (db (fewF L)))) ∧ ((Za = false) → ((I64 (↑j + 1)) ∧ (ZA (stS ZT [0, 1])))))) ∧ (((decide ((↑j : Int) < ↑(L.getD (↑k : Int).toNat fc0).words.length)) = false) → ZW [(.blk 1), cd Tryz.f20 [1, 0, 1, 0, 0, 1, 1]] (stS ZT [1]) ZQ))) (decide ((↑((L.getD (↑k : Int).toNat fc0).words.getD (↑j : Int).toNat ByteArray.empty).size : Int) > 40))) (by kernel_rfl) ?_
          simp only [Int.toNat_natCast]
          refine ⟨⟨by omega, by omega⟩, fun h3 => ?_, fun h3 => ?_⟩
          · have hj2 : j < (L.getD k fc0).words.length := by have := of_decide_eq_true h3; omega
            have hw3 := hwk.wd j hj2
            refine ⟨⟨⟨by omega, by omega⟩, ⟨by omega, by omega⟩⟩, fun h4 => ?_, fun h4 => ⟨⟨by omega, by omega⟩, Again.mk (j + 1) ?_ ⟨hj2, fun i hi => ?_⟩ (by omega)⟩⟩
            · have h4 := of_decide_eq_true h4
              unfold fewF
              rw [all_miss (x0 := fc0) hk2]
              · rfl
              · unfold smF
                rw [all_miss (x0 := ByteArray.empty) hj2 (decide_eq_false (by omega)), Bool.and_false]
            · exact AS.leA (by kernel_rfl)
            · rcases Nat.lt_or_ge i j with h5 | h5
              · exact hjd i h5
              · obtain rfl : i = j := by omega
                have h4 := of_decide_eq_false h4
                omega
          · have h3 := of_decide_eq_false h3
            refine walk (orc := noO) (keep := []) (cuts := []) (n := 1000) follows ?_
            refine of_rd (fun ZT _ _ _ ZA _ => ((I64 (↑k + 1)) ∧ (ZA (stS ZT [])))) (by kernel_rfl) ?_
            refine ⟨⟨by omega, by omega⟩, Again.mk (k + 1) ?_ ⟨hk2, fun i hi => ?_⟩ (by omega)⟩
            · exact AS.leA (by kernel_rfl)
            · rcases Nat.lt_or_ge i k with h5 | h5
              · exact hkd i h5
              · obtain rfl : i = k := by omega
                unfold smF
                rw [decide_eq_true (by omega), decide_eq_true (by omega : _ ≤ 20), all_getD (x0 := ByteArray.empty) fun i hi => decide_eq_true (hjd i (by omega))]; rfl
    · simp only [decide_eq_false_iff_not] at h
      refine walk (orc := noO) (keep := []) (cuts := []) (n := 1000) follows ?_
      refine of_tr (fun _ _ _ _ => (((db (decide ((↑L.length : Int) ≤ 16))) : DV) = (db (fewF L)))) (by kernel_rfl) ?_
      unfold fewF
      rw [all_getD (x0 := fc0) fun i hi => hkd i (by omega), Bool.true_and]
      refine congrArg db ?_
      rw [decide_eq_decide]; omega
end Go.Proofs
set_option autoImplicit false
namespace Go.Proofs
open Go Go.Ab Go.RowKit
set_option maxHeartbeats 4000000
set_option maxRecDepth 100000
variable {G : IH}
def eqW (a b : List ByteArray) : Bool := decide (a = b)
/-! The standard facts. -/
theorem fc_rel {k : IH} {a : ByteArray} {b c d e f : Int} {l : List ByteArray} {w : DV} (hw : ∀ v, DV.rel k w v → DV.rel k (wdD l) v) {v : Value} (h : DV.rel k (.agg [ds a, di b, di c, di d, di e, di f, w]) v) : DV.rel k (fcD ⟨a, b, c, d, e, f, l⟩) v := by
  obtain ⟨vs, e, r⟩ := h
  refine ⟨vs, e, ?_⟩
  obtain ⟨v1, u1, e1, r1, v2, u2, e2, r2, v3, u3, e3, r3, v4, u4, e4, r4, v5, u5, e5, r5, v6, u6, e6, r6, v7, u7, e7, r7, h0⟩ := r
  exact ⟨v1, u1, e1, r1, v2, u2, e2, r2, v3, u3, e3, r3, v4, u4, e4, r4, v5, u5, e5, r5, v6, u6, e6, r6, v7, u7, e7, hw _ r7, h0⟩
theorem fc_nil {k : IH} {a : ByteArray} {b c d e f : Int} {v : Value} (h : DV.rel k (.agg [ds a, di b, di c, di d, di e, di f, .con (.slice none 0 0)]) v) : DV.rel k (fcD ⟨a, b, c, d, e, f, []⟩) v :=
  fc_rel (fun _ h => nil_slc h) h
abbrev numX (s : ByteArray) (a b : Int) : DV := .agg [ds s, di 0, di a, di 1, di b, di 1, .con (.slice none 0 0)]
theorem f58 (s : ByteArray) (a b : Int) : FnOK Tryz.prog G 58 [ds s, di a, di b] (numX s a b) := by
  refine FnOK.walk (orc := noO) (keep := []) follows Tryz.func58 rfl Tryz.call58 ?_
  refine of_tr (fun _ _ _ _ => (ZS ((numX s a b) : DV))) (by kernel_rfl) ?_
  rfl
noncomputable def orcSt : Oracle := fun f a => match f, a with
  | 57, [.con (.string s), .con (.int .i64 a), .con (.int .i64 b)] => some (numX s a b)
  | 58, [.con (.string s), .con (.int .i64 a), .con (.int .i64 b)] => some (numX s a b)
  | _, _ => none
def vrdL : List ByteArray := [⟨#[109, 97, 108, 102, 111, 114, 109, 101, 100]⟩, ⟨#[108, 97, 114, 103, 101]⟩, ⟨#[117, 110, 100, 101, 99, 105, 100, 101, 100]⟩, ⟨#[119, 114, 111, 110, 103]⟩, ⟨#[99, 111, 114, 114, 101, 99, 116]⟩]
def stdL : List Fc := [⟨⟨#[118, 101, 114, 100, 105, 99, 116]⟩, 2, 0, 0, 0, 0, vrdL⟩, ⟨⟨#[112, 97, 115, 115, 101, 100]⟩, 0, 0, 1, 64, 1, []⟩, ⟨⟨#[116, 101, 115, 116, 115]⟩, 0, 0, 1, 64, 1, []⟩, ⟨⟨#[99, 111, 118, 101, 114, 97, 103, 101]⟩, 0, 0, 1, 100, 1, []⟩, ⟨⟨#[100, 105, 115, 116, 97, 110, 99, 101]⟩, 0, 0, 1, 512, 1, []⟩, ⟨⟨#[114, 101, 112, 97, 105, 114]⟩, 0, 0, 1, 4, 1, []⟩, ⟨⟨#[104, 105, 110, 116, 115]⟩, 0, 0, 1, 5, 1, []⟩, ⟨⟨#[108, 97, 116, 101]⟩, 0, 0, 1, 1000000000, 1, []⟩, ⟨⟨#[97, 116, 116, 101, 109, 112, 116]⟩, 0, 1, 1, 16, 1, []⟩, ⟨⟨#[101, 120, 116, 101, 110, 100, 101, 100]⟩, 1, 0, 0, 0, 0, []⟩, ⟨⟨#[102, 105, 114, 115, 116]⟩, 1, 0, 0, 0, 0, []⟩]
def stdC : List DV := [ds ⟨#[118, 101, 114, 100, 105, 99, 116]⟩, di 2, di 0, di 0, di 0, di 0, st1 vrdL, ds ⟨#[112, 97, 115, 115, 101, 100]⟩, di 0, di 0, di 1, di 64, di 1, .con (.slice none 0 0), ds ⟨#[116, 101, 115, 116, 115]⟩, di 0, di 0, di 1, di 64, di 1, .con (.slice none 0 0), ds ⟨#[99, 111, 118, 101, 114, 97, 103, 101]⟩, di 0, di 0, di 1, di 100, di 1, .con (.slice none 0 0), ds ⟨#[100, 105, 115, 116, 97, 110, 99, 101]⟩, di 0, di 0, di 1, di 512, di 1, .con (.slice none 0 0), ds ⟨#[114, 101, 112, 97, 105, 114]⟩, di 0, di 0, di 1, di 4, di 1, .con (.slice none 0 0), ds ⟨#[104, 105, 110, 116, 115]⟩, di 0, di 0, di 1, di 5, di 1, .con (.slice none 0 0), ds ⟨#[108, 97, 116, 101]⟩, di 0, di 0, di 1, di 1000000000, di 1, .con (.slice none 0 0), ds ⟨#[97, 116, 116, 101, 109, 112, 116]⟩, di 0, di 1, di 1, di 16, di 1, .con (.slice none 0 0), ds ⟨#[101, 120, 116, 101, 110, 100, 101, 100]⟩, di 1, di 0, di 0, di 0, di 0, .con (.slice none 0 0), ds ⟨#[102, 105, 114, 115, 116]⟩, di 1, di 0, di 0, di 0, di 0, .con (.slice none 0 0)]
def stdR : DV := .slc 7 11 (elemF true 7 stdC)
theorem stdR_rel (k : IH) (v : Value) (h : DV.rel k stdR v) : DV.rel k (fcsD stdL) v := by
  refine rel_slc_imp (n := 11) (f := elemF true 7 stdC) (g := fcF stdL) (fun i hi v hv => ?_) h
  rcases i with _ | _ | _ | _ | _ | _ | _ | _ | _ | _ | _ | i
  · exact fc_rel (fun _ h => st1_rel h) hv
  · exact fc_nil hv
  · exact fc_nil hv
  · exact fc_nil hv
  · exact fc_nil hv
  · exact fc_nil hv
  · exact fc_nil hv
  · exact fc_nil hv
  · exact fc_nil hv
  · exact fc_nil hv
  · exact fc_nil hv
  · omega
theorem f25 : FnOK Tryz.prog G 25 [] (fcsD stdL) := by
  have key : ∀ r : DV, (∀ k v, DV.rel k r v → DV.rel k (fcsD stdL) v) → r = stdR → FnOK Tryz.prog G 25 [] (fcsD stdL) := by
    intro r hr e
    refine FnOKres (r := r) (FnOK.walk (orc := orcSt) (keep := []) follows Tryz.func25 rfl Tryz.call25 ?_) hr
    refine of_tr (fun _ _ _ ZK => (fun Za Zb Zc Zd Ze Zf Zg Zh => ((ZK 58 [Zd, (di 0), (di 64)] (.agg [Zd, (di 0), (di 0), (di 1), (di 64), (di 1), (.con (.slice none 0 0))]) ∧ ZK 58 [Zf, (di 0), (di 64)] (.agg [Zf, (di 0), (di 0), (di 1), (di 64), (di 1), (.con (.slice none 0 0))]) ∧ ZK 58 [Za, (di 0), (di 100)] (.agg [Za, (di 0), (di 0), (di 1), (di 100), (di 1), (.con (.slice none 0 0))]) ∧ ZK 58 [Zb, (di 0), (di 512)] (.agg [Zb, (di 0), (di 0), (di 1), (di 512), (di 1), (.con (.slice none 0 0))]) ∧ ZK 58 [Ze, (di 0), (di 4)] (.agg [Ze, (di 0), (di 0), (di 1), (di 4), (di 1), (.con (.slice none 0 0))]) ∧ ZK 58 [Zg, (di 0), (di 5)] (.agg [Zg, (di 0), (di 0), (di 1), (di 5), (di 1), (.con (.slice none 0 0))]) ∧ ZK 58 [Zh, (di 0), (di 1000000000)] (.agg [Zh, (di 0), (di 0), (di 1), (di 1000000000), (di 1), (.con (.slice none 0 0))]) ∧ ZK 58 [Zc, (di 1), (di 16)] (.agg [Zc, (di 0), (di 1), (di 1), (di 16), (di 1), (.con (.slice none 0 0))])) ∧ ((.slc 7 11 (elemF true 7 [(ds (ByteArray.mk #[118, 101, 114, 100, 105, 99, 116])), (di 2), (di 0), (di 0), (di 0), (di 0), (.slc 1 5 (elemF false 1 [(ds (ByteArray.mk #[109, 97, 108, 102, 111, 114, 109, 101, 100])), (ds (ByteArray.mk #[108, 97, 114, 103, 101])), (ds (ByteArray.mk #[117, 110, 100, 101, 99, 105, 100, 101, 100])), (ds (ByteArray.mk #[119, 114, 111, 110, 103])), (ds (ByteArray.mk #[99, 111, 114, 114, 101, 99, 116]))])), Zd, (di 0), (di 0), (di 1), (di 64), (di 1), (.con (.slice none 0 0)), Zf, (di 0), (di 0), (di 1), (di 64), (di 1), (.con (.slice none 0 0)), Za, (di 0), (di 0), (di 1), (di 100), (di 1), (.con (.slice none 0 0)), Zb, (di 0), (di 0), (di 1), (di 512), (di 1), (.con (.slice none 0 0)), Ze, (di 0), (di 0), (di 1), (di 4), (di 1), (.con (.slice none 0 0)), Zg, (di 0), (di 0), (di 1), (di 5), (di 1), (.con (.slice none 0 0)), Zh, (di 0), (di 0), (di 1), (di 1000000000), (di 1), (.con (.slice none 0 0)), Zc, (di 0), (di 1), (di 1), (di 16), (di 1), (.con (.slice none 0 0)), (ds (ByteArray.mk #[101, 120, 116, 101, 110, 100, 101, 100])), (di 1), (di 0), (di 0), (di 0), (di 0), (.con (.slice none 0 0)), (ds (ByteArray.mk #[102, 105, 114, 115, 116])), (di 1), (di 0), (di 0), (di 0), (di 0), (.con (.slice none 0 0))])) : DV) = r)) (ds (ByteArray.mk #[99, 111, 118, 101, 114, 97, 103, 101])) (ds (ByteArray.mk #[100, 105, 115, 116, 97, 110, 99, 101])) (ds (ByteArray.mk #[97, 116, 116, 101, 109, 112, 116])) (ds (ByteArray.mk #[112, 97, 115, 115, 101, 100])) (ds (ByteArray.mk #[114, 101, 112, 97, 105, 114])) (ds (ByteArray.mk #[116, 101, 115, 116, 115])) (ds (ByteArray.mk #[104, 105, 110, 116, 115])) (ds (ByteArray.mk #[108, 97, 116, 101]))) (by kernel_rfl) ?_
    refine ⟨⟨f58 _ _ _, f58 _ _ _, f58 _ _ _, f58 _ _ _, f58 _ _ _, f58 _ _ _, f58 _ _ _, f58 _ _ _⟩, ?_⟩
    rw [e]; rfl
  exact key _ (fun k v hv => stdR_rel k v hv) rfl
end Go.Proofs
set_option autoImplicit false
namespace Go.Proofs
open Go Go.Ab Go.RowKit
set_option maxHeartbeats 4000000
/-! The reference's ValidFacts, and the program's. -/
end Go.Proofs
set_option autoImplicit false
namespace Go.Proofs
open Go Go.Ab Go.RowKit
set_option maxHeartbeats 4000000
set_option maxRecDepth 100000
variable {G : IH}
end Go.Proofs
