import Derived.Test.YtpognhmelecaoaaGreatDoorAcD
import Derived.Test.YtpognhmelecaoaaGreatDoorEF
set_option autoImplicit false
namespace Go.Proofs
open Go Go.Ab Go.RowKit
set_option maxHeartbeats 4000000
set_option maxRecDepth 100000
variable {G : IH}
/-! The world: descriptions by name, and words. The lists have the last one first. -/
def fM : List Fc → Value → Fc
  | [] => fun _ => fc0
  | x :: l => fun v => bif keyEq v (.string x.name) then x else fM l v
def fH : List Fc → Value → Bool
  | [] => fun _ => false
  | x :: l => fun v => keyEq v (.string x.name) || fH l v
def wL : List ByteArray → Value → Bool
  | [] => fun _ => false
  | s :: l => fun v => keyEq v (.string s) || wL l v
abbrev fV (l : List Fc) : Value → DV := fun v => fcD (fM l v)
abbrev wV (l : List ByteArray) : Value → DV := fun v => .con (.bool (wL l v))
theorem putF_fV (l : List Fc) (x : Fc) : putF (.string x.name) (fcD x) (fV l) = fV (x :: l) := by
  funext v
  unfold putF
  simp only [fV, fM]
  cases keyEq v (.string x.name) <;> rfl
theorem putF_wV (l : List ByteArray) (s : ByteArray) : putF (.string s) (.con (.bool true)) (wV l) = wV (s :: l) := by
  funext v
  unfold putF
  simp only [wV, wL]
  cases keyEq v (.string s) <;> rfl
abbrev wrD (l : List Fc) (ws : List ByteArray) : DV := .ptr [.mp none (fV l) (fH l), .mp none (wV ws) (wL ws)]
def revF (L : List Fc) (k : Nat) : List Fc := (L.take k).reverse
def revW (L : List Fc) (k : Nat) : List ByteArray := ((L.take k).flatMap (·.words)).reverse
theorem revF_succ {L : List Fc} {k : Nat} (h : k < L.length) : revF L (k + 1) = L.getD k fc0 :: revF L k := by
  unfold revF
  rw [List.take_succ_eq_append_getElem h, List.reverse_append, List.getD, List.getElem?_eq_getElem h]; rfl
def revJ (L : List Fc) (k j : Nat) : List ByteArray := ((L.getD k fc0).words.take j).reverse ++ revW L k
theorem revJ_succ {L : List Fc} {k j : Nat} (h : j < (L.getD k fc0).words.length) : revJ L k (j + 1) = (L.getD k fc0).words.getD j .empty :: revJ L k j := by
  unfold revJ
  generalize (L.getD k fc0).words = ws at *
  rw [List.take_succ_eq_append_getElem h, List.reverse_append, List.getD, List.getElem?_eq_getElem h]; rfl
theorem revJ_all {L : List Fc} {k : Nat} (h : k < L.length) : revJ L k (L.getD k fc0).words.length = revW L (k + 1) := by
  unfold revJ revW
  rw [List.take_length, List.take_succ_eq_append_getElem h, List.flatMap_append, List.reverse_append, List.getD, List.getElem?_eq_getElem h]
  simp
noncomputable def S41 (L : List Fc) (k : Nat) : AS := ⟨regs Tryz.f41.ntmps [(3, .box 11 0), (12, .d (fcsD L)), (13, vi L.length), (14, vi k)], [(11, [.mapv 8, .mapv 9]), (8, [.mp none (fV (revF L k)) (fH (revF L k))]), (9, [.mp none (wV (revW L k)) (wL (revW L k))])]⟩
noncomputable def S41i (L : List Fc) (k j : Nat) : AS := ⟨regs Tryz.f41.ntmps [(3, .box 11 0), (12, .d (fcsD L)), (13, vi L.length), (14, vi k), (26, .d (wdD (L.getD k fc0).words)), (27, vi (L.getD k fc0).words.length), (28, vi j)], [(11, [.mapv 8, .mapv 9]), (8, [.mp none (fV (revF L (k + 1))) (fH (revF L (k + 1)))]), (9, [.mp none (wV (revJ L k j)) (wL (revJ L k j))])]⟩
abbrev wrL (L : List Fc) : DV := wrD (revF L L.length) (revW L L.length)
theorem f41 (L : List Fc) (hl : L.length ≤ 100000) (hw : ∀ i, i < L.length → (L.getD i fc0).words.length ≤ 100000) : FnOK Tryz.prog G 41 [fcsD L] (wrL L) := by
  refine FnOK.walk (orc := noO) (keep := []) follows Tryz.func41 rfl Tryz.call41 ?_
  refine of_eqH (b := AWP Tryz.prog G [cd Tryz.f41 [1, 1, 0, 1, 0], (.blk 0), cd Tryz.f41 [1, 1, 1]] ⟨regs 40 [(0, (.d (.slc 7 L.length (fcF L)))), (2, (.d (.con (.pointer none)))), (3, (.box 11 0)), (8, (.mapv 8)), (9, (.mapv 9)), (10, (.agg [(.mapv 8), (.mapv 9)])), (11, (.box 11 0)), (12, (.d (.slc 7 L.length (fcF L)))), (13, (vi (↑L.length))), (14, (vi 0))], [(11, [(.mapv 8), (.mapv 9)]), (9, [(.mp none (fun x => DV.con (Value.bool false)) (fun x => false))]), (8, [(.mp none (fun x => DV.agg (List.map DV.con [Value.string (ByteArray.mk #[]), Value.int IntKind.i64 0, Value.int IntKind.i64 0, Value.int IntKind.i64 0, Value.int IntKind.i64 0, Value.int IntKind.i64 0, Value.slice none 0 0])) (fun x => false))])]⟩ (Ret Tryz.prog Tryz.f41 (wrL L))) (by kernel_rfl) ?_
  refine AWP.pre (.mapF _ 8 (fV []) rfl fun _ h => (by cases h)) ?_
  refine AWP.loop (c := cAt (bodyOf Tryz.f41) [1, 1, 0, 1, 0, 0]) (by kernel_rfl) (S41 L) (fun k => k ≤ L.length) (fun k => L.length - k) 0 ?_ (Nat.zero_le _) ?_
  · refine AS.leZ [] [1, 2] (b := ((T0 ∧ T0 ∧ T0 ∧ T0 ∧ True) ∧ T0 ∧ ((some [(.mp none (fV []) (fun x => false))]) : (Option (List AV))) = (some [(.mp none (fV (revF L 0)) (fH (revF L 0)))]) ∧ ((some [(.mp none (fun x => DV.con (Value.bool false)) (fun x => false))]) : (Option (List AV))) = (some [(.mp none (wV (revW L 0)) (wL (revW L 0)))]) ∧ True)) (by kernel_rfl) (by kernel_rfl) ?_
    exact ⟨⟨rfl, rfl, rfl, rfl, trivial⟩, rfl, rfl, rfl, trivial⟩
  · intro k hk
    refine walk (orc := noO) (keep := []) (cuts := []) (n := 1000) follows ?_
    refine of_eqH2 ((.slc 1 (L.getD (↑k : Int).toNat fc0).words.length (stF (L.getD (↑k : Int).toNat fc0).words)) : DV) (decide ((↑k : Int) < ↑L.length)) (fun Za Zb => (((Zb = true) → (((0 ≤ (↑k : Int)) ∧ ((↑k : Int) < ↑L.length)) ∧ AWP Tryz.prog G [cd Tryz.f41 [1, 1, 0, 1, 0, 0, 1, 1, 0, 0, 1, 1, 1, 0], (.blk 2), (.blk 1), cd Tryz.f41 [1, 1, 0, 1, 0, 0, 1, 1, 1]] ⟨regs 40 [(3, (.box 11 0)), (5, (.box 5 0)), (12, (.d (.slc 7 L.length (fcF L)))), (13, (vi (↑L.length))), (14, (vi (↑k))), (15, (vb Zb)), (16, (.d (.ptr [(ds (L.getD (↑k : Int).toNat fc0).name), (di (L.getD (↑k : Int).toNat fc0).kind), (di (L.getD (↑k : Int).toNat fc0).ln), (di (L.getD (↑k : Int).toNat fc0).ld), (di (L.getD (↑k : Int).toNat fc0).hn), (di (L.getD (↑k : Int).toNat fc0).hd), Za]))), (17, (.d (fcD (L.getD (↑k : Int).toNat fc0)))), (18, (.box 11 0)), (19, (.box 11 0)), (20, (.box 11 0)), (21, (.mapv 8)), (22, (.box 5 0)), (23, (vs (L.getD (↑k : Int).toNat fc0).name)), (24, (.d (fcD (L.getD (↑k : Int).toNat fc0)))), (25, (.box 5 6)), (26, (.d Za)), (27, (vi (↑(L.getD (↑k : Int).toNat fc0).words.length))), (28, (vi 0))], [(5, [(vs (L.getD (↑k : Int).toNat fc0).name), (vi (L.getD (↑k : Int).toNat fc0).kind), (vi (L.getD (↑k : Int).toNat fc0).ln), (vi (L.getD (↑k : Int).toNat fc0).ld), (vi (L.getD (↑k : Int).toNat fc0).hn), (vi (L.getD (↑k : Int).toNat fc0).hd), (.d Za)]), (11, [(.mapv 8), (.mapv 9)]), (8, [(.mp none (putF (Value.string (L.getD (↑k : Int).toNat fc0).name) (fcD (L.getD (↑k : Int).toNat fc0)) (fV (revF L k))) (putH (Value.string (L.getD (↑k : Int).toNat fc0).name) (fH (revF L k))))]), (9, [(.mp none (wV (revW L k)) (wL (revW L k)))])]⟩ (RoundQ Tryz.prog G [(.blk 0), cd Tryz.f41 [1, 1, 1]] (Ret Tryz.prog Tryz.f41 (wrL L)) (S41 L) (fun k => k ≤ L.length) (fun k => L.length - k) k))) ∧ ((Zb = false) → AWP Tryz.prog G [cd Tryz.f41 [1, 1, 1]] ⟨regs 40 [(3, (.box 11 0)), (12, (.d (.slc 7 L.length (fcF L)))), (13, (vi (↑L.length))), (14, (vi (↑k))), (15, (vb Zb))], [(11, [(.mapv 8), (.mapv 9)]), (8, [(.mp none (fV (revF L k)) (fH (revF L k)))]), (9, [(.mp none (wV (revW L k)) (wL (revW L k)))])]⟩ (Ret Tryz.prog Tryz.f41 (wrL L))))) (by kernel_rfl) ?_
    simp only [Int.toNat_natCast]
    refine ⟨fun h1 => ?_, fun h1 => ?_⟩
    · have hk2 : k < L.length := by have := of_decide_eq_true h1; omega
      have hwk := hw k hk2
      refine ⟨⟨by omega, by omega⟩, ?_⟩
      refine AWP.loop (c := cAt (bodyOf Tryz.f41) [1, 1, 0, 1, 0, 0, 1, 1, 0, 0, 1, 1, 1, 0, 0]) (by kernel_rfl) (S41i L k) (fun j => j ≤ (L.getD k fc0).words.length) (fun j => (L.getD k fc0).words.length - j) 0 ?_ (Nat.zero_le _) ?_
      · refine AS.leZ [] [1, 2] (b := ((T0 ∧ T0 ∧ T0 ∧ T0 ∧ T0 ∧ T0 ∧ T0 ∧ True) ∧ T0 ∧ ((some [(.mp none (putF (Value.string (L.getD k fc0).name) (fcD (L.getD k fc0)) (fV (revF L k))) (putH (Value.string (L.getD k fc0).name) (fH (revF L k))))]) : (Option (List AV))) = (some [(.mp none (fV (revF L (k + 1))) (fH (revF L (k + 1))))]) ∧ ((some [(.mp none (wV (revW L k)) (wL (revW L k)))]) : (Option (List AV))) = (some [(.mp none (wV (revJ L k 0)) (wL (revJ L k 0)))]) ∧ True)) (by kernel_rfl) (by kernel_rfl) ?_
        refine ⟨⟨rfl, rfl, rfl, rfl, rfl, rfl, rfl, trivial⟩, rfl, ?_, rfl, trivial⟩
        rw [revF_succ hk2, ← putF_fV]
        rfl
      · intro j hj
        refine walk (orc := noO) (keep := []) (cuts := []) (n := 1000) follows ?_
        refine of_eqH2 ((L.getD k fc0).words.getD (↑j : Int).toNat ByteArray.empty) (decide ((↑j : Int) < ↑(L.getD k fc0).words.length)) (fun Za Zb => (((Zb = true) → (((0 ≤ (↑j : Int)) ∧ ((↑j : Int) < ↑(L.getD k fc0).words.length)) ∧ (I64 (↑j + 1)) ∧ Again (S41i L k) (fun j => j ≤ (L.getD k fc0).words.length) (fun j => (L.getD k fc0).words.length - j) j ⟨regs 40 [(3, (.box 11 0)), (7, (vs Za)), (12, (.d (.slc 7 L.length (fcF L)))), (13, (vi (↑L.length))), (14, (vi (↑k))), (26, (.d (.slc 1 (L.getD k fc0).words.length (stF (L.getD k fc0).words)))), (27, (vi (↑(L.getD k fc0).words.length))), (28, (vi (↑j + 1))), (29, (vb Zb)), (30, (.d (.ptr [(ds Za)]))), (31, (vs Za)), (32, (.box 11 0)), (33, (.box 11 0)), (34, (.box 11 1)), (35, (.mapv 9)), (36, (vs Za)), (37, (vi (↑j + 1)))], [(11, [(.mapv 8), (.mapv 9)]), (8, [(.mp none (fV (revF L (k + 1))) (fH (revF L (k + 1))))]), (9, [(.mp none (putF (Value.string Za) (DV.con (Value.bool true)) (wV (revJ L k j))) (putH (Value.string Za) (wL (revJ L k j))))])]⟩)) ∧ ((Zb = false) → AWP Tryz.prog G [(.blk 1), cd Tryz.f41 [1, 1, 0, 1, 0, 0, 1, 1, 1]] ⟨regs 40 [(3, (.box 11 0)), (12, (.d (.slc 7 L.length (fcF L)))), (13, (vi (↑L.length))), (14, (vi (↑k))), (26, (.d (.slc 1 (L.getD k fc0).words.length (stF (L.getD k fc0).words)))), (27, (vi (↑(L.getD k fc0).words.length))), (28, (vi (↑j))), (29, (vb Zb))], [(11, [(.mapv 8), (.mapv 9)]), (8, [(.mp none (fV (revF L (k + 1))) (fH (revF L (k + 1))))]), (9, [(.mp none (wV (revJ L k j)) (wL (revJ L k j)))])]⟩ (RoundQ Tryz.prog G [(.blk 0), cd Tryz.f41 [1, 1, 1]] (Ret Tryz.prog Tryz.f41 (wrL L)) (S41 L) (fun k => k ≤ L.length) (fun k => L.length - k) k)))) (by kernel_rfl) ?_
        simp only [Int.toNat_natCast]
        refine ⟨fun h2 => ?_, fun h2 => ?_⟩
        · have hj2 : j < (L.getD k fc0).words.length := by have := of_decide_eq_true h2; omega
          refine ⟨⟨by omega, by omega⟩, ⟨by omega, by omega⟩, Again.mk (j + 1) ?_ hj2 (by omega)⟩
          refine AS.leZ [] [2] (b := ((T0 ∧ T0 ∧ T0 ∧ T0 ∧ T0 ∧ T0 ∧ T0 ∧ True) ∧ T0 ∧ T0 ∧ ((some [(.mp none (putF (Value.string ((L.getD k fc0).words.getD j ByteArray.empty)) (DV.con (Value.bool true)) (wV (revJ L k j))) (putH (Value.string ((L.getD k fc0).words.getD j ByteArray.empty)) (wL (revJ L k j))))]) : (Option (List AV))) = (some [(.mp none (wV (revJ L k (j + 1))) (wL (revJ L k (j + 1))))]) ∧ True)) (by kernel_rfl) (by kernel_rfl) ?_
          refine ⟨⟨rfl, rfl, rfl, rfl, rfl, rfl, rfl, trivial⟩, rfl, rfl, ?_, trivial⟩
          rw [revJ_succ hj2, ← putF_wV]
          rfl
        · have h2 := of_decide_eq_false h2
          obtain rfl : j = (L.getD k fc0).words.length := by omega
          refine walk (orc := noO) (keep := []) (cuts := []) (n := 1000) follows ?_
          refine of_rd (fun ZT _ _ _ ZA _ => ((I64 (↑k + 1)) ∧ (ZA (stS ZT [])))) (by kernel_rfl) ?_
          refine ⟨⟨by omega, by omega⟩, Again.mk (k + 1) ?_ hk2 (by omega)⟩
          refine AS.leZ [] [2] (b := ((T0 ∧ T0 ∧ T0 ∧ T0 ∧ True) ∧ T0 ∧ T0 ∧ ((some [(.mp none (wV (revJ L k (L.getD k fc0).words.length)) (wL (revJ L k (L.getD k fc0).words.length)))]) : (Option (List AV))) = (some [(.mp none (wV (revW L (k + 1))) (wL (revW L (k + 1))))]) ∧ True)) (by kernel_rfl) (by kernel_rfl) ?_
          refine ⟨⟨rfl, rfl, rfl, rfl, trivial⟩, rfl, rfl, ?_, trivial⟩
          rw [revJ_all hk2]
    · simp only [decide_eq_false_iff_not] at h1
      obtain rfl : k = L.length := by omega
      refine walk (orc := noO) (keep := []) (cuts := []) (n := 1000) follows ?_
      refine of_tr (fun _ _ _ _ => (ZS ((wrL L) : DV))) (by kernel_rfl) ?_
      rfl
end Go.Proofs
set_option autoImplicit false
namespace Go.Proofs
open Go Go.Ab Go.RowKit
set_option maxHeartbeats 4000000
set_option maxRecDepth 100000
variable {G : IH}
/-! Kinds of values; slices.Equal. -/
abbrev inD (l : List Int) : DV := .slc 1 l.length (inF l)
def rdI (d : DV) : Int := match d with | .con (.int _ n) => n | _ => 0
def rdL (d : DV) : List Int := match d with | .slc _ n f => (List.range n).map fun i => rdI (f i) | _ => []
theorem rdL_eq (l : List Int) : rdL (inD l) = l := by
  unfold rdL
  refine List.ext_getElem (by simp) fun i h1 h2 => ?_
  rw [List.getElem_map, List.getElem_range]
  unfold inF
  rw [List.getD, List.getElem?_eq_getElem h2]; rfl
noncomputable def orcJ (p : Int → Bool) (l : List Int) : Oracle := fun f a => match f, a with
  | 126, [.con (.int .i64 n), _] => some (db (p n))
  | 162, [_, _] => some (di (idI p l))
  | _, _ => none
noncomputable def S162a (l : List Int) (c : DV) (k : Nat) : AS := ⟨regs Tryz.f162.ntmps [(0, .d (inD l)), (1, .d (.clo (.func 126) [] [c])), (7, vi l.length), (8, vi k)], []⟩
theorem f162a (p : Int → Bool) (l : List Int) (c : DV) (hl : l.length ≤ 1000000) (hc : ∀ i, i < l.length → FnOK Tryz.prog G 126 [di (l.getD i 0), c] (db (p (l.getD i 0)))) : FnOK Tryz.prog G 162 [inD l, (.clo (.func 126) [] [c])] (di (idI p l)) := by
  refine FnOK.walk (orc := orcJ p l) (keep := []) follows Tryz.func162 rfl Tryz.call162 ?_
  refine of_tr (fun ZT ZW ZQ _ => ZW [cd Tryz.f162 [1, 0, 1, 0], (.blk 0), cd Tryz.f162 [1, 1]] (stS ZT []) ZQ) (by kernel_rfl) ?_
  refine AWP.loop (c := cAt (bodyOf Tryz.f162) [1, 0, 1, 0, 0]) (by kernel_rfl) (S162a l c) (fun k => k ≤ l.length ∧ ∀ i, i < k → p (l.getD i 0) = false) (fun k => l.length - k) 0 ?_ ⟨Nat.zero_le _, fun i hi => by omega⟩ ?_
  · exact AS.leA (by kernel_rfl)
  · rintro k ⟨hk, hkd⟩
    refine walk (orc := orcJ p l) (keep := []) (cuts := []) (n := 1000) follows ?_
    refine of_rd (fun ZT ZW ZQ ZK ZA _ => ((((decide ((↑k : Int) < ↑l.length)) = true) → ((((0 ≤ (↑k : Int)) ∧ ((↑k : Int) < ↑l.length)) ∧ ZK 126 [(di (l.getD (↑k : Int).toNat 0)), c] (db (p (l.getD (↑k : Int).toNat 0)))) ∧ (((p (l.getD (↑k : Int).toNat 0)) = true) → (((di (↑k)) : DV) = (di (idI p l)))) ∧ (((p (l.getD (↑k : Int).toNat 0)) = false) → ((I64 (↑k + 1)) ∧ (ZA (stS ZT [0, 1])))))) ∧ (((decide ((↑k : Int) < ↑l.length)) = false) → ZW [cd Tryz.f162 [1, 1]] (stS ZT [1]) ZQ))) (by kernel_rfl) ?_
    simp only [Int.toNat_natCast]
    refine ⟨fun h => ?_, fun h => ?_⟩
    · have hk2 : k < l.length := by have := of_decide_eq_true h; omega
      refine ⟨⟨⟨by omega, by omega⟩, hc k hk2⟩, fun h2 => ?_, fun h2 => ⟨⟨by omega, by omega⟩, Again.mk (k + 1) ?_ ⟨hk2, fun i hi => ?_⟩ (by omega)⟩⟩
      · rw [(idI_hit hk2 hkd h2).2]
      · exact AS.leA (by kernel_rfl)
      · rcases Nat.lt_or_ge i k with h4 | h4
        · exact hkd i h4
        · obtain rfl : i = k := by omega
          exact h2
    · simp only [decide_eq_false_iff_not] at h
      have hst := idI_none (p := p) (L := l) (x0 := 0) fun i hi => hkd i (by omega)
      refine walk (orc := orcJ p l) (keep := []) (cuts := []) (n := 1000) follows ?_
      refine of_tr (fun _ _ _ _ => (((di (-1)) : DV) = (di (idI p l)))) (by kernel_rfl) ?_
      rw [hst.2]
theorem f125a (p : Int → Bool) (l : List Int) (c : DV) (hl : l.length ≤ 1000000) (hc : ∀ i, i < l.length → FnOK Tryz.prog G 126 [di (l.getD i 0), c] (db (p (l.getD i 0)))) : FnOK Tryz.prog G 125 [inD l, (.clo (.func 126) [] [c])] (db (l.any p)) := by
  refine FnOK.walk (orc := orcJ p l) (keep := []) follows Tryz.func125 rfl Tryz.call125 ?_
  refine of_tr (fun _ _ _ ZK => (ZK 162 [(.slc 1 l.length (inF l)), (.clo (.func 126) [] [c])] (di (idI p l)) ∧ ((db (decide (idI p l ≥ 0))) : DV) = (db (l.any p)))) (by kernel_rfl) ?_
  refine ⟨f162a p l c hl hc, ?_⟩
  rw [idI_ge]
theorem f126 (a v : Int) : FnOK Tryz.prog G 126 [di a, .ptr [di v]] (db (a != v)) := by
  refine FnOK.walk (orc := noO) (keep := []) follows Tryz.func126 rfl Tryz.call126 ?_
  refine of_tr (fun _ _ _ _ => (ZS ((db (a != v)) : DV))) (by kernel_rfl) ?_
  rfl
def allK (l : List Int) (v : Int) : Bool := !l.any fun a => a != v
noncomputable def orcKd : Oracle := fun f a => match f, a with
  | 79, [l, .con (.int .i64 v)] => some (db (allK (rdL l) v))
  | 125, [l, .clo (.func 126) [] [.ptr [.con (.int .i64 v)]]] => some (db ((rdL l).any fun a => a != v))
  | _, _ => none
theorem f79 (l : List Int) (v : Int) (hl : l.length ≤ 100000) : FnOK Tryz.prog G 79 [inD l, di v] (db (allK l v)) := by
  refine FnOK.of_body Tryz.func79 rfl Tryz.call79 ?_
  refine walk (orc := orcKd) (keep := []) (cuts := [1]) (n := 1000) follows ?_
  refine of_tr (fun ZT ZW ZQ _ => ZW [cd Tryz.f79 [1]] (stS ZT []) ZQ) (by kernel_rfl) ?_
  refine AWP.freezeB (dl := [di v]) 3 (by kernel_rfl) rfl ?_
  refine walk (orc := orcKd) (keep := []) (cuts := []) (n := 1000) follows ?_
  refine of_tr (fun _ _ _ ZK => (ZK 125 [(.slc 1 l.length (inF l)), (.clo (.func 126) [] [(.ptr [(di v)])])] (db ((rdL (DV.slc 1 l.length (inF l))).any fun a => a != v)) ∧ ((db (!(rdL (DV.slc 1 l.length (inF l))).any fun a => a != v)) : DV) = (db (allK l v)))) (by kernel_rfl) ?_
  simp only [rdL_eq]
  refine ⟨f125a (fun a => a != v) l (.ptr [di v]) (by omega) fun i hi => f126 _ _, rfl⟩
theorem f76 (m : Nat) (e : Ex) (l : List Int) (v : Int) : FnOK Tryz.prog G 76 [exD m e, inD l, .ptr [di v]] (.tup [di v, di 0]) := by
  refine FnOK.walk (orc := orcKd) (keep := []) follows Tryz.func76 rfl Tryz.call76 ?_
  refine of_tr (fun _ _ _ _ => (ZS ((.tup [(di v), (di 0)]) : DV))) (by kernel_rfl) ?_
  rfl
theorem f75 (v : Int) : FnOK Tryz.prog G 75 [di v] (.clo (.func 76) [] [.ptr [di v]]) := by
  refine FnOK.walk (orc := orcKd) (keep := []) follows Tryz.func75 rfl Tryz.call75 ?_
  refine of_tr (fun _ _ _ _ => (ZS ((.clo (.func 76) [] [(.ptr [(di v)])]) : DV))) (by kernel_rfl) ?_
  rfl
theorem f77 (a b : Int) : FnOK Tryz.prog G 77 [di a, di b] (.clo (.func 78) [] [.ptr [di a], .ptr [di b]]) := by
  refine FnOK.walk (orc := orcKd) (keep := []) follows Tryz.func77 rfl Tryz.call77 ?_
  refine of_tr (fun _ _ _ _ => (ZS ((.clo (.func 78) [] [(.ptr [(di a)]), (.ptr [(di b)])]) : DV))) (by kernel_rfl) ?_
  rfl
def kxA (l : List Int) (a b : Int) : Int := if allK l a then b else 0
def kxE (l : List Int) (a : Int) : Int := if allK l a then 0 else 5
theorem f78 (m : Nat) (e : Ex) (l : List Int) (a b : Int) (hl : l.length ≤ 100000) : FnOK Tryz.prog G 78 [exD m e, inD l, .ptr [di a], .ptr [di b]] (.tup [di (kxA l a b), di (kxE l a)]) := by
  refine FnOK.walk (orc := orcKd) (keep := []) follows Tryz.func78 rfl Tryz.call78 ?_
  refine of_tr (fun _ _ _ ZK => (ZK 79 [(.slc 1 l.length (inF l)), (di a)] (db (allK (rdL (DV.slc 1 l.length (inF l))) a)) ∧ (((!allK (rdL (DV.slc 1 l.length (inF l))) a) = true) → (((.tup [(di 0), (di 5)]) : DV) = (.tup [(di (kxA l a b)), (di (kxE l a))]))) ∧ (((!allK (rdL (DV.slc 1 l.length (inF l))) a) = false) → (((.tup [(di b), (di 0)]) : DV) = (.tup [(di (kxA l a b)), (di (kxE l a))]))))) (by kernel_rfl) ?_
  simp only [rdL_eq]
  refine ⟨f79 l a hl, fun h => ?_, fun h => ?_⟩
  · rw [Bool.not_eq_true'] at h
    unfold kxA kxE
    rw [h]; rfl
  · rw [Bool.not_eq_false'] at h
    unfold kxA kxE
    rw [h]; rfl
noncomputable def S163 (a b : List ByteArray) (k : Nat) : AS := ⟨regs Tryz.f163.ntmps [(0, .d (wdD a)), (1, .d (wdD b)), (12, vi a.length), (13, vi k)], []⟩
theorem f163 (a b : List ByteArray) (ha : a.length ≤ 100000) : FnOK Tryz.prog G 163 [wdD a, wdD b] (db (eqW a b)) := by
  unfold eqW
  refine FnOK.walk (orc := noO) (keep := []) follows Tryz.func163 rfl Tryz.call163 ?_
  refine of_tr (fun ZT ZW ZQ _ => (((((↑a.length : Int) != ↑b.length) = true) → (((db false) : DV) = (db (decide (a = b))))) ∧ ((((↑a.length : Int) != ↑b.length) = false) → ZW [cd Tryz.f163 [1, 1, 0, 1, 0], (.blk 0), cd Tryz.f163 [1, 1, 1]] (stS ZT [1]) ZQ))) (by kernel_rfl) ?_
  refine ⟨fun hne => ?_, fun heq => ?_⟩
  · rw [decide_eq_false]
    rintro rfl
    simp at hne
  have heq : a.length = b.length := by
    have h0 : (a.length : Int) = b.length := by simpa using heq
    omega
  refine AWP.loop (c := cAt (bodyOf Tryz.f163) [1, 1, 0, 1, 0, 0]) (by kernel_rfl) (S163 a b) (fun k => k ≤ a.length ∧ ∀ i, i < k → a.getD i .empty = b.getD i .empty) (fun k => a.length - k) 0 ?_ ⟨Nat.zero_le _, fun i hi => absurd hi (Nat.not_lt_zero _)⟩ ?_
  · exact AS.leA (by kernel_rfl)
  · rintro k ⟨hk, hkd⟩
    refine walk (orc := noO) (keep := []) (cuts := []) (n := 1000) follows ?_
    refine of_rd (fun ZT ZW ZQ _ ZA _ => (fun Za => ((((decide ((↑k : Int) < ↑a.length)) = true) → ((((0 ≤ (↑k : Int)) ∧ ((↑k : Int) < ↑a.length)) ∧ (0 ≤ (↑k : Int)) ∧ ((↑k : Int) < ↑b.length)) ∧ ((Za = true) → (((db false) : DV) = (db (decide (a = b))))) ∧ ((Za = false) → ((I64 (↑k + 1)) ∧ (ZA (stS ZT [0, 1])))))) ∧ (((decide ((↑k : Int) < ↑a.length)) = false) → ZW [cd Tryz.f163 [1, 1, 1]] (stS ZT [1]) ZQ))) (!(a.getD (↑k : Int).toNat ByteArray.empty).toList == (b.getD (↑k : Int).toNat ByteArray.empty).toList)) (by kernel_rfl) ?_
    simp only [Int.toNat_natCast, toList_beq]
    refine ⟨fun h => ?_, fun h => ?_⟩
    · have hk2 : k < a.length := by have := of_decide_eq_true h; omega
      refine ⟨⟨⟨by omega, by omega⟩, ⟨by omega, by omega⟩⟩, fun h2 => ?_, fun h2 => ⟨⟨by omega, by omega⟩, Again.mk (k + 1) ?_ ⟨hk2, fun i hi => ?_⟩ (by omega)⟩⟩
      · rw [decide_eq_false]
        rintro rfl
        simp at h2
      · exact AS.leA (by kernel_rfl)
      · rcases Nat.lt_or_ge i k with h4 | h4
        · exact hkd i h4
        · obtain rfl : i = k := by omega
          simpa using h2
    · simp only [decide_eq_false_iff_not] at h
      refine walk (orc := noO) (keep := []) (cuts := []) (n := 1000) follows ?_
      refine of_tr (fun _ _ _ _ => (((db true) : DV) = (db (decide (a = b))))) (by kernel_rfl) ?_
      rw [decide_eq_true (getD_ext heq fun i hi => hkd i (by omega))]
end Go.Proofs
set_option autoImplicit false
namespace Go.Proofs
open Go Go.Ab Go.RowKit
set_option maxHeartbeats 4000000
set_option maxRecDepth 100000
variable {G : IH}
/-! Names in the world. -/
def nmK (l : List Fc) (ws : List ByteArray) (s : ByteArray) : Int × Int := if fH l (.string s) then ((fM l (.string s)).kind, 0) else if wL ws (.string s) then (2, 0) else (0, 4)
theorem fM_miss {l : List Fc} {s : ByteArray} (h : fH l (.string s) = false) : fM l (.string s) = fc0 := by
  induction l with
  | nil => rfl
  | cons x l ih =>
    simp only [fH, Bool.or_eq_false_iff] at h
    simp only [fM, h.1, cond_false]
    exact ih h.2
theorem zd_imp {l : List Fc} {s : ByteArray} (h : fH l (.string s) = false) : DV.imp (.agg [ds .empty, di 0, di 0, di 0, di 0, di 0, .con (.slice none 0 0)]) (fcD (fM l (.string s))) := fun _ _ hv => by
  rw [fM_miss h]
  exact fc_nil hv
theorem f80 (l : List Fc) (ws : List ByteArray) (m : Nat) (x : Ex) (ks : List Int) : FnOK Tryz.prog G 80 [wrD l ws, exD m x, inD ks] (.tup [di (nmK l ws x.s).1, di (nmK l ws x.s).2]) := by
  refine FnOK.walk (orc := noO) (keep := []) follows Tryz.func80 rfl Tryz.call80 ?_
  refine of_tr (fun _ _ _ _ => (fun Za => ((((fH l (Value.string x.s)) = false) → ((DV.agg (List.map DV.con [Value.string (ByteArray.mk #[]), Value.int IntKind.i64 0, Value.int IntKind.i64 0, Value.int IntKind.i64 0, Value.int IntKind.i64 0, Value.int IntKind.i64 0, Value.slice none 0 0])).imp (fV l (Value.string x.s)))) ∧ (((fH l (Value.string x.s)) = true) → (((.tup [(di (fM l (Value.string x.s)).kind), (di 0)]) : DV) = Za)) ∧ (((fH l (Value.string x.s)) = false) → ((((wL ws (Value.string x.s)) = false) → ((DV.con (Value.bool false)).imp (wV ws (Value.string x.s)))) ∧ (((wL ws (Value.string x.s)) = true) → (((.tup [(di 2), (di 0)]) : DV) = Za)) ∧ (((wL ws (Value.string x.s)) = false) → (((.tup [(di 0), (di 4)]) : DV) = Za)))))) ((.tup [(di (nmK l ws x.s).fst), (di (nmK l ws x.s).snd)]) : DV)) (by kernel_rfl) ?_
  unfold nmK
  refine ⟨fun h => zd_imp h, fun h => ?_, fun h => ⟨fun h2 => imp_eq (by show DV.con (.bool (wL ws (.string x.s))) = _; rw [h2]), fun h2 => ?_, fun h2 => ?_⟩⟩
  · rw [if_pos h]
  · rw [if_neg (by rw [h]; decide), if_pos h2]
  · rw [if_neg (by rw [h]; decide), if_neg (by rw [h2]; decide)]
def cmK (l : List Fc) (a b : ByteArray) (p q : Int) : Bool := if (p != q || p != 2) = true then p == q else
  if fH l (.string a) && fH l (.string b) then eqW (fM l (.string a)).words (fM l (.string b)).words
  else if fH l (.string a) then anyB (fM l (.string a)).words b else if fH l (.string b) then anyB (fM l (.string b)).words a else false
noncomputable def orcCm : Oracle := fun f a => match f, a with
  | 163, [v, w] => some (db (eqW (rdW v) (rdW w)))
  | 31, [w, .con (.string s)] => some (db (anyB (rdW w) s))
  | _, _ => none
theorem f127 (l : List Fc) (ws : List ByteArray) (m m' : Nat) (a b : Ex) (ks : List Int) (hk : ks.length = 2) (hl : ∀ v, (fM l v).words.length ≤ 100000) : FnOK Tryz.prog G 127 [wrD l ws, exD m a, exD m' b, inD ks] (db (cmK l a.s b.s (ks.getD 0 0) (ks.getD 1 0))) := by
  refine FnOK.walk (orc := orcCm) (keep := []) follows Tryz.func127 rfl Tryz.call127 ?_
  refine of_tr (fun _ _ _ ZK => (fun Za Zb Zc Zd Ze Zf Zg => (((((0 : Int) ≤ (0 : Int)) ∧ (0 < (↑ks.length : Int))) ∧ (((0 : Int) ≤ (1 : Int)) ∧ (1 < (↑ks.length : Int))) ∧ (((!ks.getD (Int.toNat 0) 0 != ks.getD (Int.toNat 1) 0) = true) → (((0 : Int) ≤ (0 : Int)) ∧ (0 < (↑ks.length : Int))))) ∧ ((Zg = true) → (((((0 : Int) ≤ (0 : Int)) ∧ (0 < (↑ks.length : Int))) ∧ ((0 : Int) ≤ (1 : Int)) ∧ (1 < (↑ks.length : Int))) ∧ ((db (ks.getD (Int.toNat 0) 0 == ks.getD (Int.toNat 1) 0)) : DV) = Zd)) ∧ ((Zg = false) → ((((fH l (Value.string a.s)) = false) → (Zc.imp (fV l (Value.string a.s)))) ∧ (((fH l (Value.string b.s)) = false) → (Zc.imp (fV l (Value.string b.s)))) ∧ (((fH l (Value.string a.s) && fH l (Value.string b.s)) = true) → (ZK 163 [Ze, Zf] (db (eqW Za Zb)) ∧ ((db (eqW Za Zb)) : DV) = Zd)) ∧ (((fH l (Value.string a.s) && fH l (Value.string b.s)) = false) → ((((fH l (Value.string a.s)) = true) → (ZK 31 [Ze, (ds b.s)] (db (anyB Za b.s)) ∧ ((db (anyB Za b.s)) : DV) = Zd)) ∧ (((fH l (Value.string a.s)) = false) → ((((fH l (Value.string b.s)) = true) → (ZK 31 [Zf, (ds a.s)] (db (anyB Zb a.s)) ∧ ((db (anyB Zb a.s)) : DV) = Zd)) ∧ (((fH l (Value.string b.s)) = false) → (((db false) : DV) = Zd)))))))))) (rdW (DV.slc 1 (fM l (Value.string a.s)).words.length (stF (fM l (Value.string a.s)).words))) (rdW (DV.slc 1 (fM l (Value.string b.s)).words.length (stF (fM l (Value.string b.s)).words))) (DV.agg (List.map DV.con [Value.string (ByteArray.mk #[]), Value.int IntKind.i64 0, Value.int IntKind.i64 0, Value.int IntKind.i64 0, Value.int IntKind.i64 0, Value.int IntKind.i64 0, Value.slice none 0 0])) (db (cmK l a.s b.s (ks.getD 0 0) (ks.getD 1 0))) ((.slc 1 (fM l (Value.string a.s)).words.length (stF (fM l (Value.string a.s)).words)) : DV) ((.slc 1 (fM l (Value.string b.s)).words.length (stF (fM l (Value.string b.s)).words)) : DV) (ks.getD (Int.toNat 0) 0 != ks.getD (Int.toNat 1) 0 || ks.getD (Int.toNat 0) 0 != 2)) (by kernel_rfl) ?_
  simp only [rdW_eq]
  unfold cmK
  have e0 : Int.toNat 0 = 0 := rfl
  have e1 : Int.toNat 1 = 1 := rfl
  rw [e0, e1]
  have hwa := hl (.string a.s)
  have hwb := hl (.string b.s)
  refine ⟨⟨⟨by omega, by omega⟩, ⟨by omega, by omega⟩, fun _ => ⟨by omega, by omega⟩⟩, fun h => ⟨⟨⟨by omega, by omega⟩, ⟨by omega, by omega⟩⟩, ?_⟩, fun h => ⟨fun h1 => zd_imp h1, fun h1 => zd_imp h1, fun h1 => ⟨f163 _ _ hwa, ?_⟩, fun h1 => ⟨fun h2 => ⟨f31 _ _ (by omega), ?_⟩, fun h2 => ⟨fun h3 => ⟨f31 _ _ (by omega), ?_⟩, fun h3 => ?_⟩⟩⟩⟩
  · rw [if_pos h]
  · rw [if_neg (by rw [h]; decide), if_pos h1]
  · rw [if_neg (by rw [h]; decide), if_neg (by rw [h1]; decide), if_pos h2]
  · rw [if_neg (by rw [h]; decide), if_neg (by rw [h1]; decide), if_neg (by rw [h2]; decide), if_pos h3]
  · rw [if_neg (by rw [h]; decide), if_neg (by rw [h1]; decide), if_neg (by rw [h2]; decide), if_neg (by rw [h3]; decide)]
noncomputable def orcEq (l : List Fc) : Oracle := fun f a => match f, a with
  | 127, [_, e, g, k] => some (db (cmK l (rdE e).s (rdE g).s ((rdL k).getD 0 0) ((rdL k).getD 1 0)))
  | _, _ => none
theorem f81 (l : List Fc) (ws : List ByteArray) (m : Nat) (x : Ex) (ks : List Int) (hx : ht x ≤ m) (hk : ks.length = 2) (hk2 : x.kids.length = 2) (hl : ∀ v, (fM l v).words.length ≤ 100000) : FnOK Tryz.prog G 81 [wrD l ws, exD m x, inD ks] (.tup [di (if cmK l (x.kids.getD 0 ex0).s (x.kids.getD 1 ex0).s (ks.getD 0 0) (ks.getD 1 0) then 1 else 0), di (if cmK l (x.kids.getD 0 ex0).s (x.kids.getD 1 ex0).s (ks.getD 0 0) (ks.getD 1 0) then 0 else 5)]) := by
  have q0 : ∀ (_ : 0 < x.kids.length), rdE (kidA m x (Int.toNat (0 : Int))) = x.kids.getD 0 ex0 := fun h => kid_rd hx h
  have q1 : ∀ (_ : 1 < x.kids.length), rdE (kidA m x (Int.toNat (1 : Int))) = x.kids.getD 1 ex0 := fun h => kid_rd hx h
  refine FnOK.walk (orc := orcEq l) (keep := []) follows Tryz.func81 rfl Tryz.call81 ?_
  refine of_tr (fun _ _ _ ZK => (fun Za => (((((0 : Int) ≤ (0 : Int)) ∧ (0 < (↑x.kids.length : Int))) ∧ (((0 : Int) ≤ (1 : Int)) ∧ (1 < (↑x.kids.length : Int))) ∧ ZK 127 [(.ptr [(.mp none (fV l) (fH l)), (.mp none (wV ws) (wL ws))]), (ndA m (x.kids.getD (Int.toNat 0) ex0)), (ndA m (x.kids.getD (Int.toNat 1) ex0)), (.slc 1 ks.length (inF ks))] (db (cmK l (rdE (ndA m (x.kids.getD (Int.toNat 0) ex0))).s (rdE (ndA m (x.kids.getD (Int.toNat 1) ex0))).s ((rdL (DV.slc 1 ks.length (inF ks))).getD 0 0) ((rdL (DV.slc 1 ks.length (inF ks))).getD 1 0)))) ∧ ((Za = true) → (((.tup [(di 0), (di 5)]) : DV) = (.tup [(di (if cmK l (x.kids.getD 0 ex0).s (x.kids.getD 1 ex0).s (ks.getD 0 0) (ks.getD 1 0) = true then 1 else 0)), (di (if cmK l (x.kids.getD 0 ex0).s (x.kids.getD 1 ex0).s (ks.getD 0 0) (ks.getD 1 0) = true then 0 else 5))]))) ∧ ((Za = false) → (((.tup [(di 1), (di 0)]) : DV) = (.tup [(di (if cmK l (x.kids.getD 0 ex0).s (x.kids.getD 1 ex0).s (ks.getD 0 0) (ks.getD 1 0) = true then 1 else 0)), (di (if cmK l (x.kids.getD 0 ex0).s (x.kids.getD 1 ex0).s (ks.getD 0 0) (ks.getD 1 0) = true then 0 else 5))]))))) (!cmK l (rdE (ndA m (x.kids.getD (Int.toNat 0) ex0))).s (rdE (ndA m (x.kids.getD (Int.toNat 1) ex0))).s ((rdL (DV.slc 1 ks.length (inF ks))).getD 0 0) ((rdL (DV.slc 1 ks.length (inF ks))).getD 1 0))) (by kernel_rfl) ?_
  simp only [rdL_eq, q0 (by omega), q1 (by omega)]
  have h127 : FnOK Tryz.prog G 127 [wrD l ws, kidA m x 0, kidA m x 1, inD ks] (db (cmK l (x.kids.getD 0 ex0).s (x.kids.getD 1 ex0).s (ks.getD 0 0) (ks.getD 1 0))) :=
    kidOK (Q := fun d => FnOK Tryz.prog G 127 [wrD l ws, d, kidA m x 1, inD ks] _) hx (by omega) fun m1 h1 h2 =>
      kidOK (Q := fun d => FnOK Tryz.prog G 127 [wrD l ws, exD m1 _, d, inD ks] _) hx (by omega) fun m2 h3 h4 => f127 l ws m1 m2 _ _ ks hk hl
  refine ⟨⟨⟨by omega, by omega⟩, ⟨by omega, by omega⟩, h127⟩, fun h => ?_, fun h => ?_⟩
  · rw [Bool.not_eq_true'] at h
    rw [h]; rfl
  · rw [Bool.not_eq_false'] at h
    rw [h]; rfl
end Go.Proofs
