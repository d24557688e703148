import Derived.Test.YtpognhmelecaoaaGreatDoorAcD
import Derived.Test.YtpognhmelecaoaaGreatDoorED
import Derived.Test.YtpognhmelecaoaaGreatDoorFB
set_option autoImplicit false
namespace Go.Proofs
open Go Go.Ab Go.RowKit
set_option maxHeartbeats 4000000
set_option maxRecDepth 100000
variable {G : IH}
def mB (l : List ByteArray) : Nat → Value → Bool
  | 0 => fun _ => false
  | k + 1 => fun v => keyEq v (.string (l.getD k .empty)) || mB l k v
theorem mB_str {l : List ByteArray} {k : Nat} (hk : k ≤ l.length) (s : ByteArray) : mB l k (.string s) = true ↔ s ∈ l.take k := by
  induction k with
  | zero => simp [mB]
  | succ k ih =>
    have h : k < l.length := hk
    have e : keyEq (.string s) (.string (l.getD k .empty)) = decide (s = l.getD k .empty) := rfl
    simp only [mB, e, Bool.or_eq_true, ih (by omega)]
    rw [List.take_succ_eq_append_getElem h, List.getD, List.getElem?_eq_getElem h]
    simp only [decide_eq_true_eq, List.mem_append, List.mem_singleton, Option.getD_some]
    exact ⟨fun h => h.symm, fun h => h.symm⟩
theorem putF_mB (l : List ByteArray) (k : Nat) : putF (.string (l.getD k .empty)) (.con (.bool true)) (fun v => .con (.bool (mB l k v))) = fun v => .con (.bool (mB l (k + 1) v)) := by
  funext v
  unfold putF
  simp only [mB]
  cases keyEq v (.string (l.getD k .empty)) <;> rfl
theorem nodup_step {l : List ByteArray} {k : Nat} (hk : k < l.length) (h : (l.take k).Nodup) (hn : l.getD k .empty ∉ l.take k) : (l.take (k + 1)).Nodup := by
  rw [List.take_succ_eq_append_getElem hk]
  rw [List.getD, List.getElem?_eq_getElem hk] at hn
  have hn : l[k] ∉ l.take k := hn
  rw [List.nodup_append]
  refine ⟨h, by simp, fun a ha b hb => ?_⟩
  rw [List.mem_singleton] at hb
  subst hb
  exact fun e => hn (e ▸ ha)
theorem nodup_not {l : List ByteArray} {k : Nat} (hk : k < l.length) (hn : l.getD k .empty ∈ l.take k) : ¬ l.Nodup := by
  intro h
  have h2 : (l.take (k + 1)).Nodup := h.sublist (List.take_sublist _ _)
  rw [List.take_succ_eq_append_getElem hk, List.nodup_append] at h2
  rw [List.getD, List.getElem?_eq_getElem hk] at hn
  exact h2.2.2 _ hn _ (List.mem_singleton.2 rfl) rfl
noncomputable def S48 (l : List ByteArray) (k : Nat) : AS := ⟨regs Tryz.f48.ntmps [(3, .mapv 6), (7, .d (.slc 1 l.length (stF l))), (8, vi l.length), (9, vi k)], [(6, [.mp none (fun v => .con (.bool (mB l k v))) (mB l k)])]⟩
theorem f48 (l : List ByteArray) (hl : l.length ≤ 100000) : FnOK Tryz.prog G 48 [.slc 1 l.length (stF l)] (db (decide l.Nodup)) := by
  refine FnOK.walk (orc := ({ d := fun _ _ => none } : Orc)) (keep := []) follows Tryz.func48 rfl Tryz.call48 ?_
  refine of_tr (fun ZT ZW ZQ _ => ZW [cd Tryz.f48 [1, 1, 0, 1, 0], (.blk 0), cd Tryz.f48 [1, 1, 1]] (stS ZT []) ZQ) (by kernel_rfl) ?_
  refine AWP.loop (c := cAt (bodyOf Tryz.f48) [1, 1, 0, 1, 0, 0]) (by kernel_rfl) (S48 l) (fun k => k ≤ l.length ∧ (l.take k).Nodup) (fun k => l.length - k) 0 ?_ ⟨Nat.zero_le _, by simp⟩ ?_
  · refine AS.leZ [] [0] (b := ((T0 ∧ T0 ∧ T0 ∧ T0 ∧ True) ∧ ((some [(.mp none (fun x => DV.con (Value.bool false)) (fun x => false))]) : (Option (List AV))) = (some [(.mp none (fun v => DV.con (Value.bool (mB l 0 v))) (mB l 0))]) ∧ True)) (by kernel_rfl) (by kernel_rfl) ?_
    exact ⟨⟨rfl, rfl, rfl, rfl, trivial⟩, rfl, trivial⟩
  · rintro k ⟨hk, hkn⟩
    refine walk (orc := ({ d := fun _ _ => none } : Orc)) (keep := []) (cuts := []) (n := 1000) follows ?_
    refine of_rd (fun ZT ZW ZQ _ ZA _ => (fun Za => ((((decide ((↑k : Int) < ↑l.length)) = true) → (((0 ≤ (↑k : Int)) ∧ ((↑k : Int) < ↑l.length)) ∧ ((Za = false) → ((DV.con (Value.bool false)).imp (DV.con (Value.bool Za)))) ∧ ((Za = true) → (((db false) : DV) = (db (decide l.Nodup)))) ∧ ((Za = false) → ((I64 (↑k + 1)) ∧ (ZA (stS ZT [0, 1])))))) ∧ (((decide ((↑k : Int) < ↑l.length)) = false) → ZW [cd Tryz.f48 [1, 1, 1]] (stS ZT [1]) ZQ))) (mB l k (Value.string (l.getD (↑k : Int).toNat ByteArray.empty)))) (by kernel_rfl) ?_
    simp only [Int.toNat_natCast]
    have hm := mB_str hk (l.getD k .empty)
    refine ⟨fun h1 => ?_, fun h1 => ?_⟩
    · have hk2 : k < l.length := by have := of_decide_eq_true h1; omega
      refine ⟨⟨by omega, by omega⟩, fun h2 => imp_eq (by rw [h2]), fun h2 => ?_, fun h2 => ⟨⟨by omega, by omega⟩, Again.mk (k + 1) ?_ ⟨hk2, nodup_step hk2 hkn fun hh => (by rw [hm.2 hh] at h2; cases h2)⟩ (by omega)⟩⟩
      · rw [decide_eq_false (nodup_not hk2 (hm.1 h2))]
      · refine AS.leZ [] [0] (b := ((T0 ∧ T0 ∧ T0 ∧ T0 ∧ True) ∧ ((some [(.mp none (putF (Value.string (l.getD (↑k : Int).toNat ByteArray.empty)) (DV.con (Value.bool true)) fun v => DV.con (Value.bool (mB l k v))) (putH (Value.string (l.getD (↑k : Int).toNat ByteArray.empty)) (mB l k)))]) : (Option (List AV))) = (some [(.mp none (fun v => DV.con (Value.bool (mB l (k + 1) v))) (mB l (k + 1)))]) ∧ True)) (by kernel_rfl) (by kernel_rfl) ?_
        refine ⟨⟨rfl, rfl, rfl, rfl, trivial⟩, ?_, trivial⟩
        refine congrArg (fun f => some [AV.mp none f (mB l (k + 1))]) (putF_mB l k)
    · simp only [decide_eq_false_iff_not] at h1
      obtain rfl : k = l.length := by omega
      refine walk (orc := ({ d := fun _ _ => none } : Orc)) (keep := []) (cuts := []) (n := 1000) follows ?_
      refine of_tr (fun _ _ _ _ => (((db true) : DV) = (db (decide l.Nodup)))) (by kernel_rfl) ?_
      rw [List.take_length] at hkn
      rw [decide_eq_true hkn]
end Go.Proofs
set_option autoImplicit false
namespace Go.Proofs
open Go Go.Ab Go.RowKit
set_option maxHeartbeats 4000000
set_option maxRecDepth 100000
variable {G : IH}
/-! Descriptions of facts. -/
structure Fc where
  name : ByteArray
  kind : Int
  ln : Int
  ld : Int
  hn : Int
  hd : Int
  words : List ByteArray
  deriving DecidableEq
abbrev fc0 : Fc := ⟨.empty, 0, 0, 0, 0, 0, []⟩
abbrev wdD (l : List ByteArray) : DV := .slc 1 l.length (stF l)
abbrev fcD (x : Fc) : DV := .agg [ds x.name, di x.kind, di x.ln, di x.ld, di x.hn, di x.hd, wdD x.words]
def fcF (L : List Fc) (i : Nat) : DV := fcD (L.getD i fc0)
abbrev fcsD (L : List Fc) : DV := .slc 7 L.length (fcF L)
/-! The first element with a property. -/
def idI {α : Type} (p : α → Bool) (l : List α) : Int := if l.any p then ((l.takeWhile fun x => !p x).length : Int) else -1
theorem idI_hit {α : Type} {x0 : α} {p : α → Bool} {L : List α} {k : Nat} (hk : k < L.length) (hno : ∀ i, i < k → p (L.getD i x0) = false) (h : p (L.getD k x0) = true) : L.any p = true ∧ idI p L = k := by
  have e : ∀ i (h : i < L.length), L.getD i x0 = L[i] := fun i h => by rw [List.getD, List.getElem?_eq_getElem h]; rfl
  have h1 : L.any p = true := by
    rw [List.any_eq_true]
    exact ⟨L[k], List.getElem_mem hk, by rw [← e k hk]; exact h⟩
  refine ⟨h1, ?_⟩
  unfold idI
  rw [if_pos h1]
  have : ∀ (l : List α) (k : Nat) (hk : k < l.length), (∀ i (h : i < l.length), i < k → p l[i] = false) → p l[k] = true → (l.takeWhile fun x => !p x).length = k := by
    intro l
    induction l with
    | nil => intro k hk; simp at hk
    | cons x l ih =>
      intro k hk h2 h3
      cases k with
      | zero =>
        simp only [List.getElem_cons_zero] at h3
        rw [List.takeWhile_cons, h3]; simp
      | succ k =>
        have h4 := h2 0 (by simp) (by omega)
        simp only [List.getElem_cons_zero] at h4
        rw [List.takeWhile_cons]
        simp only [h4, Bool.not_false, if_true, List.length_cons]
        rw [ih k (by simpa using hk) (fun i h5 h6 => by
          have := h2 (i + 1) (by simpa using h5) (by omega)
          simpa using this) (by simpa using h3)]
  rw [this L k hk (fun i h5 h6 => by rw [← e i h5]; exact hno i h6) (by rw [← e k hk]; exact h)]
theorem idI_none {α : Type} {x0 : α} {p : α → Bool} {L : List α} (hno : ∀ i, i < L.length → p (L.getD i x0) = false) : L.any p = false ∧ idI p L = -1 := by
  have h1 : L.any p = false := by
    rw [Bool.eq_false_iff]
    intro h
    obtain ⟨x, hx, hd⟩ := List.any_eq_true.1 h
    obtain ⟨i, hi, rfl⟩ := List.getElem_of_mem hx
    have := hno i hi
    rw [List.getD, List.getElem?_eq_getElem hi] at this
    rw [show p L[i] = false from this] at hd
    cases hd
  refine ⟨h1, ?_⟩
  unfold idI
  rw [if_neg (by rw [h1]; simp)]
theorem idI_ge {α : Type} (p : α → Bool) (L : List α) : decide (idI p L ≥ 0) = L.any p := by
  unfold idI
  cases h : L.any p with
  | true => rw [if_pos rfl, decide_eq_true_eq]; omega
  | false => rfl
def rdS (d : DV) : ByteArray := match d with | .con (.string s) => s | _ => .empty
def rdW (d : DV) : List ByteArray := match d with | .slc _ n f => (List.range n).map fun i => rdS (f i) | _ => []
theorem rdW_eq (l : List ByteArray) : rdW (wdD l) = l := by
  unfold rdW
  refine List.ext_getElem (by simp) fun i h1 h2 => ?_
  rw [List.getElem_map, List.getElem_range]
  unfold stF
  rw [List.getD, List.getElem?_eq_getElem h2]; rfl
/-! Slices of strings and a test. -/
noncomputable def orcW (p : ByteArray → Bool) (l : List ByteArray) : Oracle := fun f a => match f, a with
  | 100, [.con (.string s)] => some (db (p s))
  | 53, [.con (.string s), _] => some (db (p s))
  | 101, [_, _] => some (di (idI p l))
  | _, _ => none
noncomputable def S101a (l : List ByteArray) (k : Nat) : AS := ⟨regs Tryz.f101.ntmps [(0, .d (wdD l)), (1, .d (.con (.func (.func 100) #[] #[]))), (7, vi l.length), (8, vi k)], []⟩
theorem f101a (p : ByteArray → Bool) (l : List ByteArray) (hl : l.length ≤ 1000000) (hc : ∀ i, i < l.length → FnOK Tryz.prog G 100 [ds (l.getD i .empty)] (db (p (l.getD i .empty)))) : FnOK Tryz.prog G 101 [wdD l, (.con (.func (.func 100) #[] #[]))] (di (idI p l)) := by
  refine FnOK.walk (orc := orcW p l) (keep := []) follows Tryz.func101 rfl Tryz.call101 ?_
  refine of_tr (fun ZT ZW ZQ _ => ZW [cd Tryz.f101 [1, 0, 1, 0], (.blk 0), cd Tryz.f101 [1, 1]] (stS ZT []) ZQ) (by kernel_rfl) ?_
  refine AWP.loop (c := cAt (bodyOf Tryz.f101) [1, 0, 1, 0, 0]) (by kernel_rfl) (S101a l) (fun k => k ≤ l.length ∧ ∀ i, i < k → p (l.getD i .empty) = false) (fun k => l.length - k) 0 ?_ ⟨Nat.zero_le _, fun i hi => by omega⟩ ?_
  · exact AS.leA (by kernel_rfl)
  · rintro k ⟨hk, hkd⟩
    refine walk (orc := orcW p l) (keep := []) (cuts := []) (n := 1000) follows ?_
    refine of_rd (fun ZT ZW ZQ ZK ZA _ => (fun Za => ((((decide ((↑k : Int) < ↑l.length)) = true) → ((((0 ≤ (↑k : Int)) ∧ ((↑k : Int) < ↑l.length)) ∧ ZK 100 [(ds Za)] (db (p Za))) ∧ (((p Za) = true) → (((di (↑k)) : DV) = (di (idI p l)))) ∧ (((p Za) = false) → ((I64 (↑k + 1)) ∧ (ZA (stS ZT [0, 1])))))) ∧ (((decide ((↑k : Int) < ↑l.length)) = false) → ZW [cd Tryz.f101 [1, 1]] (stS ZT [1]) ZQ))) (l.getD (↑k : Int).toNat ByteArray.empty)) (by kernel_rfl) ?_
    simp only [Int.toNat_natCast]
    refine ⟨fun h => ?_, fun h => ?_⟩
    · have hk2 : k < l.length := by have := of_decide_eq_true h; omega
      refine ⟨⟨⟨by omega, by omega⟩, hc k hk2⟩, fun h2 => ?_, fun h2 => ⟨⟨by omega, by omega⟩, Again.mk (k + 1) ?_ ⟨hk2, fun i hi => ?_⟩ (by omega)⟩⟩
      · rw [(idI_hit hk2 hkd h2).2]
      · exact AS.leA (by kernel_rfl)
      · rcases Nat.lt_or_ge i k with h4 | h4
        · exact hkd i h4
        · obtain rfl : i = k := by omega
          exact h2
    · simp only [decide_eq_false_iff_not] at h
      have hst := idI_none (p := p) (L := l) (x0 := .empty) fun i hi => hkd i (by omega)
      refine walk (orc := orcW p l) (keep := []) (cuts := []) (n := 1000) follows ?_
      refine of_tr (fun _ _ _ _ => (((di (-1)) : DV) = (di (idI p l)))) (by kernel_rfl) ?_
      rw [hst.2]
theorem f52a (p : ByteArray → Bool) (l : List ByteArray) (hl : l.length ≤ 1000000) (hc : ∀ i, i < l.length → FnOK Tryz.prog G 100 [ds (l.getD i .empty)] (db (p (l.getD i .empty)))) : FnOK Tryz.prog G 52 [wdD l, (.con (.func (.func 100) #[] #[]))] (db (l.any p)) := by
  refine FnOK.walk (orc := orcW p l) (keep := []) follows Tryz.func52 rfl Tryz.call52 ?_
  refine of_tr (fun _ _ _ ZK => (ZK 101 [(.slc 1 l.length (stF l)), (.con (.func (.func 100) ⟨[]⟩ ⟨[]⟩))] (di (idI p l)) ∧ ((db (decide (idI p l ≥ 0))) : DV) = (db (l.any p)))) (by kernel_rfl) ?_
  refine ⟨f101a p l hl hc, ?_⟩
  rw [idI_ge]
noncomputable def S101b (l : List ByteArray) (c : DV) (k : Nat) : AS := ⟨regs Tryz.f101.ntmps [(0, .d (wdD l)), (1, .d (.clo (.func 53) [] [c])), (7, vi l.length), (8, vi k)], []⟩
theorem f101b (p : ByteArray → Bool) (l : List ByteArray) (c : DV) (hl : l.length ≤ 1000000) (hc : ∀ i, i < l.length → FnOK Tryz.prog G 53 [ds (l.getD i .empty), c] (db (p (l.getD i .empty)))) : FnOK Tryz.prog G 101 [wdD l, (.clo (.func 53) [] [c])] (di (idI p l)) := by
  refine FnOK.walk (orc := orcW p l) (keep := []) follows Tryz.func101 rfl Tryz.call101 ?_
  refine of_tr (fun ZT ZW ZQ _ => ZW [cd Tryz.f101 [1, 0, 1, 0], (.blk 0), cd Tryz.f101 [1, 1]] (stS ZT []) ZQ) (by kernel_rfl) ?_
  refine AWP.loop (c := cAt (bodyOf Tryz.f101) [1, 0, 1, 0, 0]) (by kernel_rfl) (S101b l c) (fun k => k ≤ l.length ∧ ∀ i, i < k → p (l.getD i .empty) = false) (fun k => l.length - k) 0 ?_ ⟨Nat.zero_le _, fun i hi => by omega⟩ ?_
  · exact AS.leA (by kernel_rfl)
  · rintro k ⟨hk, hkd⟩
    refine walk (orc := orcW p l) (keep := []) (cuts := []) (n := 1000) follows ?_
    refine of_rd (fun ZT ZW ZQ ZK ZA _ => (fun Za => ((((decide ((↑k : Int) < ↑l.length)) = true) → ((((0 ≤ (↑k : Int)) ∧ ((↑k : Int) < ↑l.length)) ∧ ZK 53 [(ds Za), c] (db (p Za))) ∧ (((p Za) = true) → (((di (↑k)) : DV) = (di (idI p l)))) ∧ (((p Za) = false) → ((I64 (↑k + 1)) ∧ (ZA (stS ZT [0, 1])))))) ∧ (((decide ((↑k : Int) < ↑l.length)) = false) → ZW [cd Tryz.f101 [1, 1]] (stS ZT [1]) ZQ))) (l.getD (↑k : Int).toNat ByteArray.empty)) (by kernel_rfl) ?_
    simp only [Int.toNat_natCast]
    refine ⟨fun h => ?_, fun h => ?_⟩
    · have hk2 : k < l.length := by have := of_decide_eq_true h; omega
      refine ⟨⟨⟨by omega, by omega⟩, hc k hk2⟩, fun h2 => ?_, fun h2 => ⟨⟨by omega, by omega⟩, Again.mk (k + 1) ?_ ⟨hk2, fun i hi => ?_⟩ (by omega)⟩⟩
      · rw [(idI_hit hk2 hkd h2).2]
      · exact AS.leA (by kernel_rfl)
      · rcases Nat.lt_or_ge i k with h4 | h4
        · exact hkd i h4
        · obtain rfl : i = k := by omega
          exact h2
    · simp only [decide_eq_false_iff_not] at h
      have hst := idI_none (p := p) (L := l) (x0 := .empty) fun i hi => hkd i (by omega)
      refine walk (orc := orcW p l) (keep := []) (cuts := []) (n := 1000) follows ?_
      refine of_tr (fun _ _ _ _ => (((di (-1)) : DV) = (di (idI p l)))) (by kernel_rfl) ?_
      rw [hst.2]
theorem f52b (p : ByteArray → Bool) (l : List ByteArray) (c : DV) (hl : l.length ≤ 1000000) (hc : ∀ i, i < l.length → FnOK Tryz.prog G 53 [ds (l.getD i .empty), c] (db (p (l.getD i .empty)))) : FnOK Tryz.prog G 52 [wdD l, (.clo (.func 53) [] [c])] (db (l.any p)) := by
  refine FnOK.walk (orc := orcW p l) (keep := []) follows Tryz.func52 rfl Tryz.call52 ?_
  refine of_tr (fun _ _ _ ZK => (ZK 101 [(.slc 1 l.length (stF l)), (.clo (.func 53) [] [c])] (di (idI p l)) ∧ ((db (decide (idI p l ≥ 0))) : DV) = (db (l.any p)))) (by kernel_rfl) ?_
  refine ⟨f101b p l c hl hc, ?_⟩
  rw [idI_ge]
noncomputable def orcF (p : Fc → Bool) (l : List Fc) : Oracle := fun f a => match f, a with
  | 50, [.agg [.con (.string a), .con (.int .i64 b), .con (.int .i64 c), .con (.int .i64 d), .con (.int .i64 e), .con (.int .i64 f), w], _] => some (db (p ⟨a, b, c, d, e, f, rdW w⟩))
  | 97, [_, _] => some (di (idI p l))
  | _, _ => none
noncomputable def S97a (l : List Fc) (c : DV) (k : Nat) : AS := ⟨regs Tryz.f97.ntmps [(0, .d (fcsD l)), (1, .d (.clo (.func 50) [] [c])), (7, vi l.length), (8, vi k)], []⟩
theorem f97a (p : Fc → Bool) (l : List Fc) (c : DV) (hl : l.length ≤ 1000000) (hc : ∀ i, i < l.length → FnOK Tryz.prog G 50 [fcD (l.getD i fc0), c] (db (p (l.getD i fc0)))) : FnOK Tryz.prog G 97 [fcsD l, (.clo (.func 50) [] [c])] (di (idI p l)) := by
  refine FnOK.walk (orc := orcF p l) (keep := []) follows Tryz.func97 rfl Tryz.call97 ?_
  refine of_tr (fun ZT ZW ZQ _ => ZW [cd Tryz.f97 [1, 0, 1, 0], (.blk 0), cd Tryz.f97 [1, 1]] (stS ZT []) ZQ) (by kernel_rfl) ?_
  refine AWP.loop (c := cAt (bodyOf Tryz.f97) [1, 0, 1, 0, 0]) (by kernel_rfl) (S97a l c) (fun k => k ≤ l.length ∧ ∀ i, i < k → p (l.getD i fc0) = false) (fun k => l.length - k) 0 ?_ ⟨Nat.zero_le _, fun i hi => by omega⟩ ?_
  · exact AS.leA (by kernel_rfl)
  · rintro k ⟨hk, hkd⟩
    refine walk (orc := orcF p l) (keep := []) (cuts := []) (n := 1000) follows ?_
    refine of_rd (fun ZT ZW ZQ ZK ZA _ => (fun Za => ((((decide ((↑k : Int) < ↑l.length)) = true) → ((((0 ≤ (↑k : Int)) ∧ ((↑k : Int) < ↑l.length)) ∧ ZK 50 [(fcD (l.getD (↑k : Int).toNat fc0)), c] (db Za)) ∧ ((Za = true) → (((di (↑k)) : DV) = (di (idI p l)))) ∧ ((Za = false) → ((I64 (↑k + 1)) ∧ (ZA (stS ZT [0, 1])))))) ∧ (((decide ((↑k : Int) < ↑l.length)) = false) → ZW [cd Tryz.f97 [1, 1]] (stS ZT [1]) ZQ))) (p (Fc.mk (l.getD (↑k : Int).toNat fc0).name (l.getD (↑k : Int).toNat fc0).kind (l.getD (↑k : Int).toNat fc0).ln (l.getD (↑k : Int).toNat fc0).ld (l.getD (↑k : Int).toNat fc0).hn (l.getD (↑k : Int).toNat fc0).hd (rdW (wdD (l.getD (↑k : Int).toNat fc0).words))))) (by kernel_rfl) ?_
    simp only [Int.toNat_natCast, rdW_eq]
    refine ⟨fun h => ?_, fun h => ?_⟩
    · have hk2 : k < l.length := by have := of_decide_eq_true h; omega
      refine ⟨⟨⟨by omega, by omega⟩, hc k hk2⟩, fun h2 => ?_, fun h2 => ⟨⟨by omega, by omega⟩, Again.mk (k + 1) ?_ ⟨hk2, fun i hi => ?_⟩ (by omega)⟩⟩
      · rw [(idI_hit hk2 hkd h2).2]
      · exact AS.leA (by kernel_rfl)
      · rcases Nat.lt_or_ge i k with h4 | h4
        · exact hkd i h4
        · obtain rfl : i = k := by omega
          exact h2
    · simp only [decide_eq_false_iff_not] at h
      have hst := idI_none (p := p) (L := l) (x0 := fc0) fun i hi => hkd i (by omega)
      refine walk (orc := orcF p l) (keep := []) (cuts := []) (n := 1000) follows ?_
      refine of_tr (fun _ _ _ _ => (((di (-1)) : DV) = (di (idI p l)))) (by kernel_rfl) ?_
      rw [hst.2]
theorem f49a (p : Fc → Bool) (l : List Fc) (c : DV) (hl : l.length ≤ 1000000) (hc : ∀ i, i < l.length → FnOK Tryz.prog G 50 [fcD (l.getD i fc0), c] (db (p (l.getD i fc0)))) : FnOK Tryz.prog G 49 [fcsD l, (.clo (.func 50) [] [c])] (db (l.any p)) := by
  refine FnOK.walk (orc := orcF p l) (keep := []) follows Tryz.func49 rfl Tryz.call49 ?_
  refine of_tr (fun _ _ _ ZK => (ZK 97 [(.slc 7 l.length (fcF l)), (.clo (.func 50) [] [c])] (di (idI p l)) ∧ ((db (decide (idI p l ≥ 0))) : DV) = (db (l.any p)))) (by kernel_rfl) ?_
  refine ⟨f97a p l c hl hc, ?_⟩
  rw [idI_ge]
end Go.Proofs
set_option autoImplicit false
namespace Go.Proofs
open Go Go.Ab Go.RowKit
set_option maxHeartbeats 4000000
set_option maxRecDepth 100000
variable {G : IH}
structure FcS (x : Fc) : Prop where
  nm : x.name.size ≤ 1000
  ln : x.words.length ≤ 1000
  wd : ∀ i, i < x.words.length → (x.words.getD i .empty).size ≤ 1000
def zeroB (x : Fc) : Bool := (x.ln == 0 && x.ld == 0) && (x.hn == 0 && x.hd == 0)
def dscB (x : Fc) : Bool := nameB x.name && (if x.kind = 0 then ok2 x.ln x.ld x.hn x.hd && decide (cmpF x.ln x.ld x.hn x.hd ≤ 0) && decide (x.words.length = 0)
  else if x.kind = 1 then zeroB x && decide (x.words.length = 0)
  else if x.kind = 2 then zeroB x && decide (1 ≤ x.words.length) && decide (x.words.length ≤ 16) && decide x.words.Nodup && !x.words.any (fun s => !nameB s)
  else false)
def ok2O (a b c d : Int) : Bool := ok2 a b c d
def cmpO (a b c d : Int) : Int := cmpF a b c d
def ndB (l : List ByteArray) : Bool := decide l.Nodup
noncomputable def orcDs : Oracle := fun f a => match f, a with
  | 98, [.con (.string s)] => some (db (nameB s))
  | 99, [fr a b, fr c d] => some (.tup [di (cmpO a b c d), db (ok2O a b c d)])
  | 48, [w] => some (db (ndB (rdW w)))
  | 52, [w, .con (.func (.func 100) #[] #[])] => some (db ((rdW w).any fun s => !nameB s))
  | _, _ => none
theorem f100 (hT : Tab G) (s : ByteArray) (hs : s.size ≤ 1000) : FnOK Tryz.prog G 100 [ds s] (db (!nameB s)) := by
  refine FnOK.walk (orc := orcDs) (keep := []) follows Tryz.func100 rfl Tryz.call100 ?_
  refine of_tr (fun _ _ _ ZK => (ZK 98 [(ds s)] (db (nameB s)) ∧ (ZS ((db !nameB s) : DV)))) (by kernel_rfl) ?_
  exact ⟨f98 hT s hs, rfl⟩
theorem f51 (hT : Tab G) (x : Fc) (h : FcS x) : FnOK Tryz.prog G 51 [fcD x] (db (dscB x)) := by
  refine FnOK.walk (orc := orcDs) (keep := []) follows Tryz.func51 rfl Tryz.call51 ?_
  refine of_tr (fun _ _ _ ZK => (fun Za => (ZK 98 [(ds x.name)] (db (nameB x.name)) ∧ (((!nameB x.name) = true) → (((db false) : DV) = (db (dscB x)))) ∧ (((!nameB x.name) = false) → ((((x.kind == 0) = true) → (ZK 99 [(.agg [(di x.ln), (di x.ld)]), (.agg [(di x.hn), (di x.hd)])] (.tup [(di (cmpO x.ln x.ld x.hn x.hd)), (db (ok2O x.ln x.ld x.hn x.hd))]) ∧ ((db (ok2O x.ln x.ld x.hn x.hd && decide (cmpO x.ln x.ld x.hn x.hd ≤ 0) && (↑x.words.length : Int) == 0)) : DV) = (db (dscB x)))) ∧ (((x.kind == 0) = false) → ((((x.kind == 1) = true) → (((db (Bool.rec false (x.ld == 0) (x.ln == 0) && Bool.rec false (x.hd == 0) (x.hn == 0) && (↑x.words.length : Int) == 0)) : DV) = (db (dscB x)))) ∧ (((x.kind == 1) = false) → ((((x.kind == 2) = true) → (((((Bool.rec false (x.ld == 0) (x.ln == 0) && Bool.rec false (x.hd == 0) (x.hn == 0) && decide ((↑x.words.length : Int) ≥ 1) && decide ((↑x.words.length : Int) ≤ 16)) = true) → ZK 48 [(.slc 1 x.words.length (stF x.words))] (db (ndB Za))) ∧ (((Bool.rec false (x.ld == 0) (x.ln == 0) && Bool.rec false (x.hd == 0) (x.hn == 0) && decide ((↑x.words.length : Int) ≥ 1) && decide ((↑x.words.length : Int) ≤ 16) && ndB Za) = true) → ZK 52 [(.slc 1 x.words.length (stF x.words)), (.con (.func (.func 100) ⟨[]⟩ ⟨[]⟩))] (db (Za.any fun s => !nameB s)))) ∧ ((db (Bool.rec false (x.ld == 0) (x.ln == 0) && Bool.rec false (x.hd == 0) (x.hn == 0) && decide ((↑x.words.length : Int) ≥ 1) && decide ((↑x.words.length : Int) ≤ 16) && ndB Za && !Za.any fun s => !nameB s)) : DV) = (db (dscB x)))) ∧ (((x.kind == 2) = false) → (((db false) : DV) = (db (dscB x)))))))))))) (rdW (DV.slc 1 x.words.length (stF x.words)))) (by kernel_rfl) ?_
  simp only [rdW_eq]
  have z1 : (Bool.rec false (x.ld == 0) (x.ln == 0) : Bool) = (x.ln == 0 && x.ld == 0) := by cases (x.ln == 0) <;> rfl
  have z2 : (Bool.rec false (x.hd == 0) (x.hn == 0) : Bool) = (x.hn == 0 && x.hd == 0) := by cases (x.hn == 0) <;> rfl
  have w0 : ((x.words.length : Int) == 0) = decide (x.words.length = 0) := by rw [Bool.eq_iff_iff, beq_iff_eq, decide_eq_true_eq]; omega
  have w1 : decide ((x.words.length : Int) ≥ 1) = decide (1 ≤ x.words.length) := by rw [decide_eq_decide]; omega
  have w2 : decide ((x.words.length : Int) ≤ 16) = decide (x.words.length ≤ 16) := by rw [decide_eq_decide]; omega
  rw [z1, z2, w0, w1, w2]
  simp only [beq_iff_eq, beq_eq_false_iff_ne, ne_eq]
  have hl := h.ln
  unfold dscB zeroB
  refine ⟨f98 hT _ h.nm, fun hn => ?_, fun hn => ⟨fun k0 => ⟨f99 _ _ _ _, ?_⟩, fun k0 => ⟨fun k1 => ?_, fun k1 => ⟨fun k2 => ⟨⟨fun _ => f48 _ (by omega), fun _ => f52a (fun s => !nameB s) x.words (by omega) fun i hi => f100 hT _ (h.wd i hi)⟩, ?_⟩, fun k2 => ?_⟩⟩⟩⟩
  · rw [Bool.not_eq_true'] at hn
    rw [hn]; rfl
  · rw [Bool.not_eq_false'] at hn
    rw [hn, if_pos k0]; rfl
  · rw [Bool.not_eq_false'] at hn
    rw [hn, if_neg k0, if_pos k1]; rfl
  · rw [Bool.not_eq_false'] at hn
    rw [hn, if_neg k0, if_neg k1, if_pos k2]; rfl
  · rw [Bool.not_eq_false'] at hn
    rw [hn, if_neg k0, if_neg k1, if_neg k2]; rfl
noncomputable def orcVf : Oracle := fun f a => match f, a with
  | 31, [w, .con (.string s)] => some (db (anyB (rdW w) s))
  | 51, [.agg [.con (.string a), .con (.int .i64 b), .con (.int .i64 c), .con (.int .i64 d), .con (.int .i64 e), .con (.int .i64 f), w]] => some (db (dscB ⟨a, b, c, d, e, f, rdW w⟩))
  | 52, [w, .clo (.func 53) [] [.ptr [l]]] => some (db ((rdW w).any fun s => anyB (rdW l) s))
  | 48, [w] => some (db (ndB (rdW w)))
  | _, _ => none
theorem f53 (l : List ByteArray) (s : ByteArray) (hl : l.length ≤ 100000) : FnOK Tryz.prog G 53 [ds s, .ptr [wdD l]] (db (anyB l s)) := by
  refine FnOK.walk (orc := orcVf) (keep := []) follows Tryz.func53 rfl Tryz.call53 ?_
  refine of_tr (fun _ _ _ ZK => (ZK 31 [(.slc 1 l.length (stF l)), (ds s)] (db (anyB (rdW (DV.slc 1 l.length (stF l))) s)) ∧ ((db (anyB (rdW (DV.slc 1 l.length (stF l))) s)) : DV) = (db (anyB l s)))) (by kernel_rfl) ?_
  simp only [rdW_eq]
  exact ⟨f31 l s (by omega), trivial⟩
def badB (names : List ByteArray) (x : Fc) : Bool := !dscB x || x.words.any fun s => anyB names s
theorem f50 (hT : Tab G) (l : List ByteArray) (x : Fc) (h : FcS x) (hl : l.length ≤ 100000) : FnOK Tryz.prog G 50 [fcD x, .ptr [wdD l]] (db (badB l x)) := by
  refine FnOK.walk (orc := orcVf) (keep := []) follows Tryz.func50 rfl Tryz.call50 ?_
  refine of_tr (fun _ _ _ ZK => (fun Za => ((ZK 51 [(fcD x)] (db (dscB (Fc.mk x.name x.kind x.ln x.ld x.hn x.hd Za))) ∧ (((!!dscB (Fc.mk x.name x.kind x.ln x.ld x.hn x.hd Za)) = true) → ZK 52 [(.slc 1 x.words.length (stF x.words)), (.clo (.func 53) [] [(.ptr [(.slc 1 l.length (stF l))])])] (db (Za.any fun s => anyB (rdW (DV.slc 1 l.length (stF l))) s)))) ∧ ((db (!dscB (Fc.mk x.name x.kind x.ln x.ld x.hn x.hd Za) || Za.any fun s => anyB (rdW (DV.slc 1 l.length (stF l))) s)) : DV) = (db (badB l x)))) (rdW (DV.slc 1 x.words.length (stF x.words)))) (by kernel_rfl) ?_
  simp only [rdW_eq]
  have := h.ln
  exact ⟨⟨f51 hT x h, fun _ => f52b (fun s => anyB l s) x.words (.ptr [wdD l]) (by omega) fun i hi => f53 l _ hl⟩, rfl⟩
def namesL (L : List Fc) : List ByteArray := L.map (·.name)
def rowNm (L : List Fc) : Nat → Nat → DV := rowRec (fun _ => DV.con undef) false 1 fun j => [ds (L.getD j fc0).name]
theorem rowNm_get {L : List Fc} {k i : Nat} (h : i < k) (hk : k ≤ L.length) : rowNm L k (0 + i) = stF (namesL L) i := by
  rw [Nat.zero_add]
  unfold rowNm stF namesL
  rw [rowRec_get h, List.getD, List.getD, List.getElem?_map, List.getElem?_eq_getElem (by omega)]
  rfl
theorem namesL_len (L : List Fc) : (namesL L).length = L.length := by unfold namesL; rw [List.length_map]
def orc21 (a b : Bool) : Oracle := fun f x => match f, x with
  | 48, [_] => some (db a)
  | 49, [_, _] => some (db b)
  | _, _ => none
noncomputable def S21 (L : List Fc) (k : Nat) : AS := ⟨regs Tryz.f21.ntmps [(0, .d (fcsD L)), (3, .box 3 0), (6, .d (fcsD L)), (7, vi L.length), (8, vi k)], [(3, [.vec 900 1 0 k]), (900, [.arr stK 1 (rowNm L k)])]⟩
def vfB (L : List Fc) : Bool := decide (L.length ≤ 32) && ndB (namesL L) && !L.any (badB (namesL L))
theorem f21 (hT : Tab G) (L : List Fc) (h : ∀ i, i < L.length → FcS (L.getD i fc0)) (hl : L.length ≤ 1000) : FnOK Tryz.prog G 21 [fcsD L] (db (vfB L)) := by
  refine FnOK.walk (orc := orc21 (ndB (namesL L)) (L.any (badB (namesL L)))) (keep := []) follows Tryz.func21 rfl Tryz.call21 ?_
  refine of_tr (fun ZT ZW ZQ _ => ZW [cd Tryz.f21 [1, 1, 0, 1, 0], (.blk 0), cd Tryz.f21 [1, 1, 1]] (stS ZT []) ZQ) (by kernel_rfl) ?_
  refine AWP.pre (.nilCell _ 3 0 900 1 stK (rowNm L 0) (by kernel_rfl) (by kernel_rfl)) ?_
  refine AWP.loop (c := cAt (bodyOf Tryz.f21) [1, 1, 0, 1, 0, 0]) (by kernel_rfl) (S21 L) (fun k => k ≤ L.length) (fun k => L.length - k) 0 ?_ (Nat.zero_le _) ?_
  · exact AS.leA (by kernel_rfl)
  · intro k hk
    refine walk (orc := orc21 (ndB (namesL L)) (L.any (badB (namesL L)))) (keep := []) (cuts := []) (n := 1000) follows ?_
    refine of_rd (fun ZT ZW ZQ _ ZA _ => ((((decide ((↑k : Int) < ↑L.length)) = true) → (((0 ≤ (↑k : Int)) ∧ ((↑k : Int) < ↑L.length)) ∧ ((((k + 1) * 16 ≤ 1099511627776) ∧ (k + 1 ≤ 1099511627776)) ∧ (∀ (i : Nat), i < 1 → elemOK false 1 (elemF false 1 [DV.con (Value.string (L.getD (↑k : Int).toNat fc0).name)] i) = true)) ∧ (I64 (↑k + 1)) ∧ (ZA (stS ZT [0])))) ∧ (((decide ((↑k : Int) < ↑L.length)) = false) → ZW [cd Tryz.f21 [1, 1, 1]] (stS ZT [1]) ZQ))) (by kernel_rfl) ?_
    simp only [Int.toNat_natCast]
    refine ⟨fun h1 => ?_, fun h1 => ?_⟩
    · have hk2 : k < L.length := by have := of_decide_eq_true h1; omega
      refine ⟨⟨by omega, by omega⟩, ⟨⟨by omega, by omega⟩, fun i hi => (by obtain rfl : i = 0 := (by omega); rfl)⟩, ⟨by omega, by omega⟩, Again.mkR [(16, 900)] rfl (k + 1) ?_ hk2 (by omega)⟩
      refine AS.leZ [] [1] (b := ((T0 ∧ T0 ∧ T0 ∧ T0 ∧ T0 ∧ True) ∧ T0 ∧ ((some [(.arr ⟨false, 9, false, none⟩ 1 (fun i => bif i.blt k then rowNm L k i else elemF false 1 [DV.con (Value.string (L.getD (↑k : Int).toNat fc0).name)] (i - k)))]) : (Option (List AV))) = (some [(.arr ⟨false, 9, false, none⟩ 1 (rowNm L (k + 1)))]) ∧ True)) (by kernel_rfl) (by kernel_rfl) ?_
      exact ⟨⟨rfl, rfl, rfl, rfl, rfl, trivial⟩, rfl, rfl, trivial⟩
    · simp only [decide_eq_false_iff_not] at h1
      obtain rfl : k = L.length := by omega
      have hdat : ∀ k v, DV.rel k (.slc 1 L.length fun i => rowNm L L.length (0 + i)) v → DV.rel k (wdD (namesL L)) v := fun k v hv => by
        unfold wdD
        rw [namesL_len]
        exact DV.rel_slc_congr (fun i hi => rowNm_get hi (Nat.le_refl _)) hv
      refine AWP.freeze (agg := stK) (sz := 1) (f := rowNm L L.length) 900 (by kernel_rfl) ?_
      refine AWP.freezeB (dl := [.slc 1 L.length fun i => rowNm L L.length (0 + i)]) 3 (by kernel_rfl) rfl ?_
      refine walk (orc := orc21 (ndB (namesL L)) (L.any (badB (namesL L)))) (keep := []) (cuts := []) (n := 1000) follows ?_
      refine of_tr (fun _ _ _ ZK => ((((!decide ((↑L.length : Int) > 32)) = true) → ZK 48 [(.slc 1 L.length (fun i => rowNm L L.length (0 + i)))] (db (ndB (namesL L)))) ∧ (((decide ((↑L.length : Int) > 32) || !ndB (namesL L)) = true) → (((db false) : DV) = (db (vfB L)))) ∧ (((decide ((↑L.length : Int) > 32) || !ndB (namesL L)) = false) → (ZK 49 [(.slc 7 L.length (fcF L)), (.clo (.func 50) [] [(.ptr [(.slc 1 L.length (fun i => rowNm L L.length (0 + i)))])])] (db (L.any (badB (namesL L)))) ∧ ((db (!L.any (badB (namesL L)))) : DV) = (db (vfB L)))))) (by kernel_rfl) ?_
      have hn : (namesL L).length = L.length := namesL_len L
      have h48 : FnOK Tryz.prog G 48 [wdD (namesL L)] (db (ndB (namesL L))) := f48 _ (by omega)
      have h49 := f49a (G := G) (badB (namesL L)) L (.ptr [wdD (namesL L)]) (by omega) fun i hi => f50 hT (namesL L) _ (h i hi) (by omega)
      have e32 : decide ((L.length : Int) > 32) = !decide (L.length ≤ 32) := by rw [← decide_not, decide_eq_decide]; omega
      rw [e32]
      unfold vfB
      refine ⟨fun _ => h48.args fun k us => DV.rels_cons (hdat k) (fun _ h => h) us, fun hh => ?_, fun hh => ⟨h49.args fun k us => DV.rels_cons (fun _ h => h) (DV.rels_cons (fun v hv => ?_) fun _ h => h) us, ?_⟩⟩
      · refine congrArg db ?_
        revert hh
        cases decide (L.length ≤ 32) <;> cases ndB (namesL L) <;> simp
      · obtain ⟨va, vc, e, ra, rc⟩ := hv
        refine ⟨va, vc, e, ra, DV.rels_cons (fun v hv => ?_) (fun _ h => h) vc rc⟩
        obtain ⟨b, off, e, vs, r, c⟩ := hv
        exact ⟨b, off, e, vs, DV.rels_cons (hdat k) (fun _ h => h) vs r, c⟩
      · refine congrArg db ?_
        revert hh
        cases decide (L.length ≤ 32) <;> cases ndB (namesL L) <;> simp
end Go.Proofs
