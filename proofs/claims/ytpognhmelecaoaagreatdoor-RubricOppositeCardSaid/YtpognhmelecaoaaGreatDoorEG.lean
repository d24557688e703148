import Derived.Test.YtpognhmelecaoaaGreatDoorAcC
import Derived.Test.YtpognhmelecaoaaGreatDoorEF
set_option autoImplicit false
namespace Go.Proofs
open Go Go.Ab Go.RowKit
set_option maxHeartbeats 4000000
set_option maxRecDepth 100000
variable {G : IH}
/-! The world: descriptions by name, and words. The lists have the last one first. -/
def fM : List Fc → Value → Fc
  | [] => fun _ => fc0
  | x :: l => fun v => bif keyEq v (.string x.name) then x else fM l v
def fH : List Fc → Value → Bool
  | [] => fun _ => false
  | x :: l => fun v => keyEq v (.string x.name) || fH l v
def wL : List ByteArray → Value → Bool
  | [] => fun _ => false
  | s :: l => fun v => keyEq v (.string s) || wL l v
abbrev fV (l : List Fc) : Value → DV := fun v => fcD (fM l v)
abbrev wV (l : List ByteArray) : Value → DV := fun v => .con (.bool (wL l v))
theorem putF_fV (l : List Fc) (x : Fc) : putF (.string x.name) (fcD x) (fV l) = fV (x :: l) := by
  funext v
  unfold putF
  simp only [fV, fM]
  cases keyEq v (.string x.name) <;> rfl
theorem putF_wV (l : List ByteArray) (s : ByteArray) : putF (.string s) (.con (.bool true)) (wV l) = wV (s :: l) := by
  funext v
  unfold putF
  simp only [wV, wL]
  cases keyEq v (.string s) <;> rfl
abbrev wrD (l : List Fc) (ws : List ByteArray) : DV := .ptr [.mp none (fV l) (fH l), .mp none (wV ws) (wL ws)]
def revF (L : List Fc) (k : Nat) : List Fc := (L.take k).reverse
def revW (L : List Fc) (k : Nat) : List ByteArray := ((L.take k).flatMap (·.words)).reverse
theorem revF_succ {L : List Fc} {k : Nat} (h : k < L.length) : revF L (k + 1) = L.getD k fc0 :: revF L k := by
  unfold revF
  rw [List.take_succ_eq_append_getElem h, List.reverse_append, List.getD, List.getElem?_eq_getElem h]; rfl
def revJ (L : List Fc) (k j : Nat) : List ByteArray := ((L.getD k fc0).words.take j).reverse ++ revW L k
theorem revJ_succ {L : List Fc} {k j : Nat} (h : j < (L.getD k fc0).words.length) : revJ L k (j + 1) = (L.getD k fc0).words.getD j .empty :: revJ L k j := by
  unfold revJ
  generalize (L.getD k fc0).words = ws at *
  rw [List.take_succ_eq_append_getElem h, List.reverse_append, List.getD, List.getElem?_eq_getElem h]; rfl
theorem revJ_all {L : List Fc} {k : Nat} (h : k < L.length) : revJ L k (L.getD k fc0).words.length = revW L (k + 1) := by
  unfold revJ revW
  rw [List.take_length, List.take_succ_eq_append_getElem h, List.flatMap_append, List.reverse_append, List.getD, List.getElem?_eq_getElem h]
  simp
noncomputable def S41 (L : List Fc) (k : Nat) : AS := ⟨regs Tryz.f41.ntmps [(3, .box 11 0), (12, .d (fcsD L)), (13, vi L.length), (14, vi k)], [(11, [.mapv 8, .mapv 9]), (8, [.mp none (fV (revF L k)) (fH (revF L k))]), (9, [.mp none (wV (revW L k)) (wL (revW L k))])]⟩
noncomputable def S41i (L : List Fc) (k j : Nat) : AS := ⟨regs Tryz.f41.ntmps [(3, .box 11 0), (12, .d (fcsD L)), (13, vi L.length), (14, vi k), (26, .d (wdD (L.getD k fc0).words)), (27, vi (L.getD k fc0).words.length), (28, vi j)], [(11, [.mapv 8, .mapv 9]), (8, [.mp none (fV (revF L (k + 1))) (fH (revF L (k + 1)))]), (9, [.mp none (wV (revJ L k j)) (wL (revJ L k j))])]⟩
abbrev wrL (L : List Fc) : DV := wrD (revF L L.length) (revW L L.length)
theorem f41 (L : List Fc) (hl : L.length ≤ 100000) (hw : ∀ i, i < L.length → (L.getD i fc0).words.length ≤ 100000) : FnOK Tryz.prog G 41 [fcsD L] (wrL L) := by
  refine FnOK.walk (orc := noO) (keep := []) follows Tryz.func41 rfl Tryz.call41 ?_
  refine of_eqH (b := AWP Tryz.prog G [.code (cAt (bodyOf Tryz.f41) [1, 1, 0, 1, 0]), (.blk 0), .code (cAt (bodyOf Tryz.f41) [1, 1, 1])] ⟨regs 40 [(0, (.d (.slc 7 (List.length L) (fcF L)))), (2, (.d (.con (.pointer none)))), (3, (.box 11 0)), (8, (.mapv 8)), (9, (.mapv 9)), (10, (.agg [(.mapv 8), (.mapv 9)])), (11, (.box 11 0)), (12, (.d (.slc 7 (List.length L) (fcF L)))), (13, (vi ((↑(List.length L) : Int)))), (14, (vi 0))], [(11, [(.mapv 8), (.mapv 9)]), (9, [(.mp none (fun x => DV.con (Value.bool false)) (fun x => false))]), (8, [(.mp none (fun x => DV.agg (List.map DV.con [Value.string { data := #[] }, Value.int IntKind.i64 (0 : Int), Value.int IntKind.i64 (0 : Int), Value.int IntKind.i64 (0 : Int), Value.int IntKind.i64 (0 : Int), Value.int IntKind.i64 (0 : Int), Value.slice none (0 : Nat) (0 : Nat)])) (fun x => false))])]⟩ (Ret Tryz.prog Tryz.f41 (wrL L))) (by kernel_rfl) ?_
  refine AWP.pre (.mapF _ 8 (fV []) rfl fun _ h => (by cases h)) ?_
  refine AWP.loop (c := cAt (bodyOf Tryz.f41) [1, 1, 0, 1, 0, 0]) (by kernel_rfl) (S41 L) (fun k => k ≤ L.length) (fun k => L.length - k) 0 ?_ (Nat.zero_le _) ?_
  · refine of_eq (b := (((((.box 11 0) : AV) = (.box 11 0)) ∧ ((((.d (.slc 7 (List.length L) (fcF L))) : AV) = (.d (.slc 7 (List.length L) (fcF L)))) ∧ ((((vi ((↑(List.length L) : Int))) : AV) = (vi ((↑(List.length L) : Int)))) ∧ ((((vi 0) : AV) = (vi 0)) ∧ True)))) ∧ ((((some [(.mapv 8), (.mapv 9)]) : (Option (List AV))) = (some [(.mapv 8), (.mapv 9)])) ∧ ((((some [(.mp none (fV []) (fun x => false))]) : (Option (List AV))) = (some [(.mp none (fV (revF L (0 : Nat))) (fH (revF L (0 : Nat))))])) ∧ ((((some [(.mp none (fun x => DV.con (Value.bool false)) (fun x => false))]) : (Option (List AV))) = (some [(.mp none (wV (revW L (0 : Nat))) (wL (revW L (0 : Nat))))])) ∧ True))))) (by kernel_rfl) ?_
    exact ⟨⟨rfl, rfl, rfl, rfl, trivial⟩, rfl, rfl, rfl, trivial⟩
  · intro k hk
    refine walk (orc := noO) (keep := []) (cuts := []) (n := 1000) follows ?_
    refine of_eqH2 (List.getD L (Int.toNat (↑k : Int)) fc0) (decide ((↑k : Int) < (↑(List.length L) : Int))) (fun Za Zb => (((Zb = true) → ((((0 : Int) ≤ (↑k : Int)) ∧ ((↑k : Int) < (↑(List.length L) : Int))) ∧ AWP Tryz.prog G [.code (cAt (bodyOf Tryz.f41) [1, 1, 0, 1, 0, 0, 1, 1, 0, 0, 1, 1, 1, 0]), (.blk 2), (.blk 1), .code (cAt (bodyOf Tryz.f41) [1, 1, 0, 1, 0, 0, 1, 1, 1])] ⟨regs 40 [(3, (.box 11 0)), (5, (.box 5 0)), (12, (.d (.slc 7 (List.length L) (fcF L)))), (13, (vi ((↑(List.length L) : Int)))), (14, (vi ((↑k : Int)))), (15, (vb Zb)), (16, (.d (.ptr [(ds (Fc.name Za)), (di (Fc.kind Za)), (di (Fc.ln Za)), (di (Fc.ld Za)), (di (Fc.hn Za)), (di (Fc.hd Za)), (.slc 1 (List.length (Fc.words Za)) (stF (Fc.words Za)))]))), (17, (.d (fcD Za))), (18, (.box 11 0)), (19, (.box 11 0)), (20, (.box 11 0)), (21, (.mapv 8)), (22, (.box 5 0)), (23, (vs (Fc.name Za))), (24, (.d (fcD Za))), (25, (.box 5 6)), (26, (.d (.slc 1 (List.length (Fc.words Za)) (stF (Fc.words Za))))), (27, (vi ((↑(List.length (Fc.words Za)) : Int)))), (28, (vi 0))], [(5, [(vs (Fc.name Za)), (vi (Fc.kind Za)), (vi (Fc.ln Za)), (vi (Fc.ld Za)), (vi (Fc.hn Za)), (vi (Fc.hd Za)), (.d (.slc 1 (List.length (Fc.words Za)) (stF (Fc.words Za))))]), (11, [(.mapv 8), (.mapv 9)]), (8, [(.mp none (putF (Value.string (Fc.name Za)) (fcD Za) (fV (revF L k))) (putH (Value.string (Fc.name Za)) (fH (revF L k))))]), (9, [(.mp none (wV (revW L k)) (wL (revW L k)))])]⟩ (RoundQ Tryz.prog G [(.blk 0), .code (cAt (bodyOf Tryz.f41) [1, 1, 1])] (Ret Tryz.prog Tryz.f41 (wrL L)) (S41 L) (fun k => k ≤ List.length L) (fun k => List.length L - k) k))) ∧ ((Zb = false) → AWP Tryz.prog G [.code (cAt (bodyOf Tryz.f41) [1, 1, 1])] ⟨regs 40 [(3, (.box 11 0)), (12, (.d (.slc 7 (List.length L) (fcF L)))), (13, (vi ((↑(List.length L) : Int)))), (14, (vi ((↑k : Int)))), (15, (vb Zb))], [(11, [(.mapv 8), (.mapv 9)]), (8, [(.mp none (fV (revF L k)) (fH (revF L k)))]), (9, [(.mp none (wV (revW L k)) (wL (revW L k)))])]⟩ (Ret Tryz.prog Tryz.f41 (wrL L))))) (by kernel_rfl) ?_
    simp only [Int.toNat_natCast]
    refine ⟨fun h1 => ?_, fun h1 => ?_⟩
    · have hk2 : k < L.length := by have := of_decide_eq_true h1; omega
      have hwk := hw k hk2
      refine ⟨⟨by omega, by omega⟩, ?_⟩
      refine AWP.loop (c := cAt (bodyOf Tryz.f41) [1, 1, 0, 1, 0, 0, 1, 1, 0, 0, 1, 1, 1, 0, 0]) (by kernel_rfl) (S41i L k) (fun j => j ≤ (L.getD k fc0).words.length) (fun j => (L.getD k fc0).words.length - j) 0 ?_ (Nat.zero_le _) ?_
      · refine of_eq1 (Fc.words (List.getD L k fc0)) (fun Za => (((((.box 11 0) : AV) = (.box 11 0)) ∧ ((((.d (.slc 7 (List.length L) (fcF L))) : AV) = (.d (.slc 7 (List.length L) (fcF L)))) ∧ ((((vi ((↑(List.length L) : Int))) : AV) = (vi ((↑(List.length L) : Int)))) ∧ ((((vi ((↑k : Int))) : AV) = (vi ((↑k : Int)))) ∧ ((((.d (.slc 1 (List.length Za) (stF Za))) : AV) = (.d (.slc 1 (List.length Za) (stF Za)))) ∧ ((((vi ((↑(List.length Za) : Int))) : AV) = (vi ((↑(List.length Za) : Int)))) ∧ ((((vi 0) : AV) = (vi 0)) ∧ True))))))) ∧ ((((some [(.mapv 8), (.mapv 9)]) : (Option (List AV))) = (some [(.mapv 8), (.mapv 9)])) ∧ ((((some [(.mp none (putF (Value.string (Fc.name (List.getD L k fc0))) (fcD (List.getD L k fc0)) (fV (revF L k))) (putH (Value.string (Fc.name (List.getD L k fc0))) (fH (revF L k))))]) : (Option (List AV))) = (some [(.mp none (fV (revF L (k + (1 : Nat)))) (fH (revF L (k + (1 : Nat)))))])) ∧ ((((some [(.mp none (wV (revW L k)) (wL (revW L k)))]) : (Option (List AV))) = (some [(.mp none (wV (revJ L k (0 : Nat))) (wL (revJ L k (0 : Nat))))])) ∧ True))))) (by kernel_rfl) ?_
        refine ⟨⟨rfl, rfl, rfl, rfl, rfl, rfl, rfl, trivial⟩, rfl, ?_, rfl, trivial⟩
        rw [revF_succ hk2, ← putF_fV]
        rfl
      · intro j hj
        refine walk (orc := noO) (keep := []) (cuts := []) (n := 1000) follows ?_
        refine of_eqH1 (Fc.words (List.getD L k fc0)) (fun Za => ((((decide ((↑j : Int) < (↑(List.length Za) : Int))) = true) → ((((0 : Int) ≤ (↑j : Int)) ∧ ((↑j : Int) < (↑(List.length Za) : Int))) ∧ ((I64 ((↑j : Int) + (1 : Int))) ∧ Again (S41i L k) (fun j => j ≤ List.length Za) (fun j => List.length Za - j) j ⟨regs 40 [(3, (.box 11 0)), (7, (vs (List.getD Za (Int.toNat (↑j : Int)) ByteArray.empty))), (12, (.d (.slc 7 (List.length L) (fcF L)))), (13, (vi ((↑(List.length L) : Int)))), (14, (vi ((↑k : Int)))), (26, (.d (.slc 1 (List.length Za) (stF Za)))), (27, (vi ((↑(List.length Za) : Int)))), (28, (vi ((↑j : Int) + (1 : Int)))), (29, (vb (decide ((↑j : Int) < (↑(List.length Za) : Int))))), (30, (.d (.ptr [(ds (List.getD Za (Int.toNat (↑j : Int)) ByteArray.empty))]))), (31, (vs (List.getD Za (Int.toNat (↑j : Int)) ByteArray.empty))), (32, (.box 11 0)), (33, (.box 11 0)), (34, (.box 11 1)), (35, (.mapv 9)), (36, (vs (List.getD Za (Int.toNat (↑j : Int)) ByteArray.empty))), (37, (vi ((↑j : Int) + (1 : Int))))], [(11, [(.mapv 8), (.mapv 9)]), (8, [(.mp none (fV (revF L (k + (1 : Nat)))) (fH (revF L (k + (1 : Nat)))))]), (9, [(.mp none (putF (Value.string (List.getD Za (Int.toNat (↑j : Int)) ByteArray.empty)) (DV.con (Value.bool true)) (wV (revJ L k j))) (putH (Value.string (List.getD Za (Int.toNat (↑j : Int)) ByteArray.empty)) (wL (revJ L k j))))])]⟩))) ∧ (((decide ((↑j : Int) < (↑(List.length Za) : Int))) = false) → AWP Tryz.prog G [(.blk 1), .code (cAt (bodyOf Tryz.f41) [1, 1, 0, 1, 0, 0, 1, 1, 1])] ⟨regs 40 [(3, (.box 11 0)), (12, (.d (.slc 7 (List.length L) (fcF L)))), (13, (vi ((↑(List.length L) : Int)))), (14, (vi ((↑k : Int)))), (26, (.d (.slc 1 (List.length Za) (stF Za)))), (27, (vi ((↑(List.length Za) : Int)))), (28, (vi ((↑j : Int)))), (29, (vb (decide ((↑j : Int) < (↑(List.length Za) : Int)))))], [(11, [(.mapv 8), (.mapv 9)]), (8, [(.mp none (fV (revF L (k + (1 : Nat)))) (fH (revF L (k + (1 : Nat)))))]), (9, [(.mp none (wV (revJ L k j)) (wL (revJ L k j)))])]⟩ (RoundQ Tryz.prog G [(.blk 0), .code (cAt (bodyOf Tryz.f41) [1, 1, 1])] (Ret Tryz.prog Tryz.f41 (wrL L)) (S41 L) (fun k => k ≤ List.length L) (fun k => List.length L - k) k)))) (by kernel_rfl) ?_
        simp only [Int.toNat_natCast]
        refine ⟨fun h2 => ?_, fun h2 => ?_⟩
        · have hj2 : j < (L.getD k fc0).words.length := by have := of_decide_eq_true h2; omega
          refine ⟨⟨by omega, by omega⟩, ⟨by omega, by omega⟩, Again.mk (j + 1) ?_ hj2 (by omega)⟩
          refine of_eq2 (Fc.words (List.getD L k fc0)) (some [(.mp none (fV (revF L (k + (1 : Nat)))) (fH (revF L (k + (1 : Nat)))))]) (fun Za Zb => (((((.box 11 0) : AV) = (.box 11 0)) ∧ ((((.d (.slc 7 (List.length L) (fcF L))) : AV) = (.d (.slc 7 (List.length L) (fcF L)))) ∧ ((((vi ((↑(List.length L) : Int))) : AV) = (vi ((↑(List.length L) : Int)))) ∧ ((((vi ((↑k : Int))) : AV) = (vi ((↑k : Int)))) ∧ ((((.d (.slc 1 (List.length Za) (stF Za))) : AV) = (.d (.slc 1 (List.length Za) (stF Za)))) ∧ ((((vi ((↑(List.length Za) : Int))) : AV) = (vi ((↑(List.length Za) : Int)))) ∧ ((((vi ((↑j : Int) + (1 : Int))) : AV) = (vi ((↑(j + (1 : Nat)) : Int)))) ∧ True))))))) ∧ ((((some [(.mapv 8), (.mapv 9)]) : (Option (List AV))) = (some [(.mapv 8), (.mapv 9)])) ∧ (((Zb : (Option (List AV))) = Zb) ∧ ((((some [(.mp none (putF (Value.string (List.getD Za j ByteArray.empty)) (DV.con (Value.bool true)) (wV (revJ L k j))) (putH (Value.string (List.getD Za j ByteArray.empty)) (wL (revJ L k j))))]) : (Option (List AV))) = (some [(.mp none (wV (revJ L k (j + (1 : Nat)))) (wL (revJ L k (j + (1 : Nat)))))])) ∧ True))))) (by kernel_rfl) ?_
          refine ⟨⟨rfl, rfl, rfl, rfl, rfl, rfl, rfl, trivial⟩, rfl, rfl, ?_, trivial⟩
          rw [revJ_succ hj2, ← putF_wV]
          rfl
        · have h2 := of_decide_eq_false h2
          obtain rfl : j = (L.getD k fc0).words.length := by omega
          refine walk (orc := noO) (keep := []) (cuts := []) (n := 1000) follows ?_
          refine of_eqH1 (List.length (Fc.words (List.getD L k fc0))) (fun Za => ((I64 ((↑k : Int) + (1 : Int))) ∧ Again (S41 L) (fun k => k ≤ List.length L) (fun k => List.length L - k) k ⟨regs 40 [(3, (.box 11 0)), (12, (.d (.slc 7 (List.length L) (fcF L)))), (13, (vi ((↑(List.length L) : Int)))), (14, (vi ((↑k : Int) + (1 : Int)))), (26, (.d (.slc 1 Za (stF (Fc.words (List.getD L k fc0)))))), (27, (vi ((↑Za : Int)))), (28, (vi ((↑Za : Int)))), (29, (vb (decide ((↑Za : Int) < (↑Za : Int))))), (38, (vi ((↑k : Int) + (1 : Int))))], [(11, [(.mapv 8), (.mapv 9)]), (8, [(.mp none (fV (revF L (k + (1 : Nat)))) (fH (revF L (k + (1 : Nat)))))]), (9, [(.mp none (wV (revJ L k Za)) (wL (revJ L k Za)))])]⟩)) (by kernel_rfl) ?_
          refine ⟨⟨by omega, by omega⟩, Again.mk (k + 1) ?_ hk2 (by omega)⟩
          refine of_eq1 (some [(.mp none (fV (revF L (k + (1 : Nat)))) (fH (revF L (k + (1 : Nat)))))]) (fun Za => (((((.box 11 0) : AV) = (.box 11 0)) ∧ ((((.d (.slc 7 (List.length L) (fcF L))) : AV) = (.d (.slc 7 (List.length L) (fcF L)))) ∧ ((((vi ((↑(List.length L) : Int))) : AV) = (vi ((↑(List.length L) : Int)))) ∧ ((((vi ((↑k : Int) + (1 : Int))) : AV) = (vi ((↑(k + (1 : Nat)) : Int)))) ∧ True)))) ∧ ((((some [(.mapv 8), (.mapv 9)]) : (Option (List AV))) = (some [(.mapv 8), (.mapv 9)])) ∧ (((Za : (Option (List AV))) = Za) ∧ ((((some [(.mp none (wV (revJ L k (List.length (Fc.words (List.getD L k fc0))))) (wL (revJ L k (List.length (Fc.words (List.getD L k fc0))))))]) : (Option (List AV))) = (some [(.mp none (wV (revW L (k + (1 : Nat)))) (wL (revW L (k + (1 : Nat)))))])) ∧ True))))) (by kernel_rfl) ?_
          refine ⟨⟨rfl, rfl, rfl, rfl, trivial⟩, rfl, rfl, ?_, trivial⟩
          rw [revJ_all hk2]
    · simp only [decide_eq_false_iff_not] at h1
      obtain rfl : k = L.length := by omega
      refine walk (orc := noO) (keep := []) (cuts := []) (n := 1000) follows ?_
      refine of_eqH (b := (((.ptr [(.mp none (fV (revF L (List.length L))) (fH (revF L (List.length L)))), (.mp none (wV (revW L (List.length L))) (wL (revW L (List.length L))))]) : DV) = (wrL L))) (by kernel_rfl) ?_
      rfl
end Go.Proofs
set_option autoImplicit false
namespace Go.Proofs
open Go Go.Ab Go.RowKit
set_option maxHeartbeats 4000000
set_option maxRecDepth 100000
variable {G : IH}
/-! Kinds of values; slices.Equal. -/
abbrev inD (l : List Int) : DV := .slc 1 l.length (inF l)
def rdI (d : DV) : Int := match d with | .con (.int _ n) => n | _ => 0
def rdL (d : DV) : List Int := match d with | .slc _ n f => (List.range n).map fun i => rdI (f i) | _ => []
theorem rdL_eq (l : List Int) : rdL (inD l) = l := by
  unfold rdL
  refine List.ext_getElem (by simp) fun i h1 h2 => ?_
  rw [List.getElem_map, List.getElem_range]
  unfold inF
  rw [List.getD, List.getElem?_eq_getElem h2]; rfl
noncomputable def orcJ (p : Int → Bool) (l : List Int) : Oracle := fun f a => match f, a with
  | 126, [.con (.int .i64 n), _] => some (db (p n))
  | 162, [_, _] => some (di (idI p l))
  | _, _ => none
noncomputable def S162a (l : List Int) (c : DV) (k : Nat) : AS := ⟨regs Tryz.f162.ntmps [(0, .d (inD l)), (1, .d (.clo (.func 126) [] [c])), (7, vi l.length), (8, vi k)], []⟩
theorem f162a (p : Int → Bool) (l : List Int) (c : DV) (hl : l.length ≤ 1000000) (hc : ∀ i, i < l.length → FnOK Tryz.prog G 126 [di (l.getD i 0), c] (db (p (l.getD i 0)))) : FnOK Tryz.prog G 162 [inD l, (.clo (.func 126) [] [c])] (di (idI p l)) := by
  refine FnOK.walk (orc := orcJ p l) (keep := []) follows Tryz.func162 rfl Tryz.call162 ?_
  refine of_eqH (b := AWP Tryz.prog G [.code (cAt (bodyOf Tryz.f162) [1, 0, 1, 0]), (.blk 0), .code (cAt (bodyOf Tryz.f162) [1, 1])] ⟨regs 19 [(0, (.d (.slc 1 (List.length l) (inF l)))), (1, (.d (.clo (.func 126) [] [c]))), (4, (vi 0)), (6, (.d (.slc 1 (List.length l) (inF l)))), (7, (vi ((↑(List.length l) : Int)))), (8, (vi 0))], []⟩ (Ret Tryz.prog Tryz.f162 (di (idI p l)))) (by kernel_rfl) ?_
  refine AWP.loop (c := cAt (bodyOf Tryz.f162) [1, 0, 1, 0, 0]) (by kernel_rfl) (S162a l c) (fun k => k ≤ l.length ∧ ∀ i, i < k → p (l.getD i 0) = false) (fun k => l.length - k) 0 ?_ ⟨Nat.zero_le _, fun i hi => by omega⟩ ?_
  · refine of_eq (b := (((((.d (.slc 1 (List.length l) (inF l))) : AV) = (.d (.slc 1 (List.length l) (inF l)))) ∧ ((((.d (.clo (.func 126) [] [c])) : AV) = (.d (.clo (.func 126) [] [c]))) ∧ ((((vi ((↑(List.length l) : Int))) : AV) = (vi ((↑(List.length l) : Int)))) ∧ ((((vi 0) : AV) = (vi 0)) ∧ True)))) ∧ True)) (by kernel_rfl) ?_
    exact ⟨⟨rfl, rfl, rfl, rfl, trivial⟩, trivial⟩
  · rintro k ⟨hk, hkd⟩
    refine walk (orc := orcJ p l) (keep := []) (cuts := []) (n := 1000) follows ?_
    refine of_eqH2 (List.getD l (Int.toNat (↑k : Int)) (0 : Int)) (decide ((↑k : Int) < (↑(List.length l) : Int))) (fun Za Zb => (((Zb = true) → (((((0 : Int) ≤ (↑k : Int)) ∧ ((↑k : Int) < (↑(List.length l) : Int))) ∧ FnOK Tryz.prog G 126 [(di Za), c] (db (p Za))) ∧ ((((p Za) = true) → (((di ((↑k : Int))) : DV) = (di (idI p l)))) ∧ (((p Za) = false) → ((I64 ((↑k : Int) + (1 : Int))) ∧ Again (S162a l c) (fun k => k ≤ List.length l ∧ ∀ (i : Nat), i < k → p (List.getD l i (0 : Int)) = false) (fun k => List.length l - k) k ⟨[(.d (.slc 1 (List.length l) (inF l))), (.d (.clo (.func 126) [] [c])), .any, .any, .any, (vi ((↑k : Int))), .any, (vi ((↑(List.length l) : Int))), (vi ((↑k : Int) + (1 : Int))), (vb Zb), (vi ((↑k : Int))), (.d (.clo (.func 126) [] [c])), (.d (.slc 1 (List.length l) (inF l))), (vi ((↑k : Int))), (.d (.ptr [(di Za)])), (vi Za), (vb (p Za)), .any, (vi ((↑k : Int) + (1 : Int)))], []⟩))))) ∧ ((Zb = false) → AWP Tryz.prog G [.code (cAt (bodyOf Tryz.f162) [1, 1])] ⟨regs 19 [(0, (.d (.slc 1 (List.length l) (inF l)))), (1, (.d (.clo (.func 126) [] [c]))), (7, (vi ((↑(List.length l) : Int)))), (8, (vi ((↑k : Int)))), (9, (vb Zb))], []⟩ (Ret Tryz.prog Tryz.f162 (di (idI p l)))))) (by kernel_rfl) ?_
    simp only [Int.toNat_natCast]
    refine ⟨fun h => ?_, fun h => ?_⟩
    · have hk2 : k < l.length := by have := of_decide_eq_true h; omega
      refine ⟨⟨⟨by omega, by omega⟩, hc k hk2⟩, fun h2 => ?_, fun h2 => ⟨⟨by omega, by omega⟩, Again.mk (k + 1) ?_ ⟨hk2, fun i hi => ?_⟩ (by omega)⟩⟩
      · rw [(idI_hit hk2 hkd h2).2]
      · refine of_eq (b := (((((.d (.slc 1 (List.length l) (inF l))) : AV) = (.d (.slc 1 (List.length l) (inF l)))) ∧ ((((.d (.clo (.func 126) [] [c])) : AV) = (.d (.clo (.func 126) [] [c]))) ∧ ((((vi ((↑(List.length l) : Int))) : AV) = (vi ((↑(List.length l) : Int)))) ∧ ((((vi ((↑k : Int) + (1 : Int))) : AV) = (vi ((↑(k + (1 : Nat)) : Int)))) ∧ True)))) ∧ True)) (by kernel_rfl) ?_
        exact ⟨⟨rfl, rfl, rfl, rfl, trivial⟩, trivial⟩
      · rcases Nat.lt_or_ge i k with h4 | h4
        · exact hkd i h4
        · obtain rfl : i = k := by omega
          exact h2
    · simp only [decide_eq_false_iff_not] at h
      have hst := idI_none (p := p) (L := l) (x0 := 0) fun i hi => hkd i (by omega)
      refine walk (orc := orcJ p l) (keep := []) (cuts := []) (n := 1000) follows ?_
      refine of_eqH (b := (((di (-1)) : DV) = (di (idI p l)))) (by kernel_rfl) ?_
      rw [hst.2]
theorem f125a (p : Int → Bool) (l : List Int) (c : DV) (hl : l.length ≤ 1000000) (hc : ∀ i, i < l.length → FnOK Tryz.prog G 126 [di (l.getD i 0), c] (db (p (l.getD i 0)))) : FnOK Tryz.prog G 125 [inD l, (.clo (.func 126) [] [c])] (db (l.any p)) := by
  refine FnOK.walk (orc := orcJ p l) (keep := []) follows Tryz.func125 rfl Tryz.call125 ?_
  refine of_eqH (b := (FnOK Tryz.prog G 162 [(.slc 1 (List.length l) (inF l)), (.clo (.func 126) [] [c])] (di (idI p l)) ∧ (((db (decide (idI p l ≥ (0 : Int)))) : DV) = (db (List.any l p))))) (by kernel_rfl) ?_
  refine ⟨f162a p l c hl hc, ?_⟩
  rw [idI_ge]
theorem f126 (a v : Int) : FnOK Tryz.prog G 126 [di a, .ptr [di v]] (db (a != v)) := by
  refine FnOK.walk (orc := noO) (keep := []) follows Tryz.func126 rfl Tryz.call126 ?_
  refine of_eqH (b := (((db (a != v)) : DV) = (db (a != v)))) (by kernel_rfl) ?_
  rfl
def allK (l : List Int) (v : Int) : Bool := !l.any fun a => a != v
noncomputable def orcKd : Oracle := fun f a => match f, a with
  | 79, [l, .con (.int .i64 v)] => some (db (allK (rdL l) v))
  | 125, [l, .clo (.func 126) [] [.ptr [.con (.int .i64 v)]]] => some (db ((rdL l).any fun a => a != v))
  | _, _ => none
theorem f79 (l : List Int) (v : Int) (hl : l.length ≤ 100000) : FnOK Tryz.prog G 79 [inD l, di v] (db (allK l v)) := by
  refine FnOK.of_body Tryz.func79 rfl Tryz.call79 ?_
  refine walk (orc := orcKd) (keep := []) (cuts := [1]) (n := 1000) follows ?_
  refine of_eqH (b := AWP Tryz.prog G [.code (cAt (bodyOf Tryz.f79) [1])] ⟨[(.d (.slc 1 (List.length l) (inF l))), (vi v), .any, (.box 3 0), (vb false), .any, .any, .any, .any], [(3, [(vi v)])]⟩ (Ret Tryz.prog Tryz.f79 (db (allK l v)))) (by kernel_rfl) ?_
  refine AWP.freezeB (dl := [di v]) 3 (by kernel_rfl) rfl ?_
  refine walk (orc := orcKd) (keep := []) (cuts := []) (n := 1000) follows ?_
  refine of_eqH (b := (FnOK Tryz.prog G 125 [(.slc 1 (List.length l) (inF l)), (.clo (.func 126) [] [(.ptr [(di v)])])] (db (List.any (rdL (DV.slc (1 : Nat) (List.length l) (inF l))) fun a => a != v)) ∧ (((db (!List.any (rdL (DV.slc (1 : Nat) (List.length l) (inF l))) fun a => a != v)) : DV) = (db (allK l v))))) (by kernel_rfl) ?_
  simp only [rdL_eq]
  refine ⟨f125a (fun a => a != v) l (.ptr [di v]) (by omega) fun i hi => f126 _ _, rfl⟩
theorem f76 (m : Nat) (e : Ex) (l : List Int) (v : Int) : FnOK Tryz.prog G 76 [exD m e, inD l, .ptr [di v]] (.tup [di v, di 0]) := by
  refine FnOK.walk (orc := orcKd) (keep := []) follows Tryz.func76 rfl Tryz.call76 ?_
  refine of_eqH (b := (((.tup [(di v), (di 0)]) : DV) = (.tup [(di v), (di (0 : Int))]))) (by kernel_rfl) ?_
  rfl
theorem f75 (v : Int) : FnOK Tryz.prog G 75 [di v] (.clo (.func 76) [] [.ptr [di v]]) := by
  refine FnOK.walk (orc := orcKd) (keep := []) follows Tryz.func75 rfl Tryz.call75 ?_
  refine of_eqH (b := (((.clo (.func 76) [] [(.ptr [(di v)])]) : DV) = (.clo (.func 76) [] [(.ptr [(di v)])]))) (by kernel_rfl) ?_
  rfl
theorem f77 (a b : Int) : FnOK Tryz.prog G 77 [di a, di b] (.clo (.func 78) [] [.ptr [di a], .ptr [di b]]) := by
  refine FnOK.walk (orc := orcKd) (keep := []) follows Tryz.func77 rfl Tryz.call77 ?_
  refine of_eqH (b := (((.clo (.func 78) [] [(.ptr [(di a)]), (.ptr [(di b)])]) : DV) = (.clo (.func 78) [] [(.ptr [(di a)]), (.ptr [(di b)])]))) (by kernel_rfl) ?_
  rfl
def kxA (l : List Int) (a b : Int) : Int := if allK l a then b else 0
def kxE (l : List Int) (a : Int) : Int := if allK l a then 0 else 5
theorem f78 (m : Nat) (e : Ex) (l : List Int) (a b : Int) (hl : l.length ≤ 100000) : FnOK Tryz.prog G 78 [exD m e, inD l, .ptr [di a], .ptr [di b]] (.tup [di (kxA l a b), di (kxE l a)]) := by
  refine FnOK.walk (orc := orcKd) (keep := []) follows Tryz.func78 rfl Tryz.call78 ?_
  refine of_eqH1 (rdL (DV.slc (1 : Nat) (List.length l) (inF l))) (fun Za => (FnOK Tryz.prog G 79 [(.slc 1 (List.length l) (inF l)), (di a)] (db (allK Za a)) ∧ ((((!allK Za a) = true) → (((.tup [(di 0), (di 5)]) : DV) = (.tup [(di (kxA l a b)), (di (kxE l a))]))) ∧ (((!allK Za a) = false) → (((.tup [(di b), (di 0)]) : DV) = (.tup [(di (kxA l a b)), (di (kxE l a))])))))) (by kernel_rfl) ?_
  simp only [rdL_eq]
  refine ⟨f79 l a hl, fun h => ?_, fun h => ?_⟩
  · rw [Bool.not_eq_true'] at h
    unfold kxA kxE
    rw [h]; rfl
  · rw [Bool.not_eq_false'] at h
    unfold kxA kxE
    rw [h]; rfl
noncomputable def S163 (a b : List ByteArray) (k : Nat) : AS := ⟨regs Tryz.f163.ntmps [(0, .d (wdD a)), (1, .d (wdD b)), (12, vi a.length), (13, vi k)], []⟩
theorem f163 (a b : List ByteArray) (ha : a.length ≤ 100000) : FnOK Tryz.prog G 163 [wdD a, wdD b] (db (eqW a b)) := by
  unfold eqW
  refine FnOK.walk (orc := noO) (keep := []) follows Tryz.func163 rfl Tryz.call163 ?_
  refine of_eqH1 ((↑(List.length a) : Int) != (↑(List.length b) : Int)) (fun Za => (((Za = true) → (((db false) : DV) = (db (decide (a = b))))) ∧ ((Za = false) → AWP Tryz.prog G [.code (cAt (bodyOf Tryz.f163) [1, 1, 0, 1, 0]), (.blk 0), .code (cAt (bodyOf Tryz.f163) [1, 1, 1])] ⟨regs 26 [(0, (.d (.slc 1 (List.length a) (stF a)))), (1, (.d (.slc 1 (List.length b) (stF b)))), (4, (vb false)), (6, (.d (.slc 1 (List.length a) (stF a)))), (7, (vi ((↑(List.length a) : Int)))), (8, (.d (.slc 1 (List.length b) (stF b)))), (9, (vi ((↑(List.length b) : Int)))), (10, (vb Za)), (11, (.d (.slc 1 (List.length a) (stF a)))), (12, (vi ((↑(List.length a) : Int)))), (13, (vi 0))], []⟩ (Ret Tryz.prog Tryz.f163 (db (decide (a = b))))))) (by kernel_rfl) ?_
  refine ⟨fun hne => ?_, fun heq => ?_⟩
  · rw [decide_eq_false]
    rintro rfl
    simp at hne
  have heq : a.length = b.length := by
    have h0 : (a.length : Int) = b.length := by simpa using heq
    omega
  refine AWP.loop (c := cAt (bodyOf Tryz.f163) [1, 1, 0, 1, 0, 0]) (by kernel_rfl) (S163 a b) (fun k => k ≤ a.length ∧ ∀ i, i < k → a.getD i .empty = b.getD i .empty) (fun k => a.length - k) 0 ?_ ⟨Nat.zero_le _, fun i hi => absurd hi (Nat.not_lt_zero _)⟩ ?_
  · refine of_eq (b := (((((.d (.slc 1 (List.length a) (stF a))) : AV) = (.d (.slc 1 (List.length a) (stF a)))) ∧ ((((.d (.slc 1 (List.length b) (stF b))) : AV) = (.d (.slc 1 (List.length b) (stF b)))) ∧ ((((vi ((↑(List.length a) : Int))) : AV) = (vi ((↑(List.length a) : Int)))) ∧ ((((vi 0) : AV) = (vi 0)) ∧ True)))) ∧ True)) (by kernel_rfl) ?_
    exact ⟨⟨rfl, rfl, rfl, rfl, trivial⟩, trivial⟩
  · rintro k ⟨hk, hkd⟩
    refine walk (orc := noO) (keep := []) (cuts := []) (n := 1000) follows ?_
    refine of_eqH2 (!ByteArray.toList (List.getD a (Int.toNat (↑k : Int)) ByteArray.empty) == ByteArray.toList (List.getD b (Int.toNat (↑k : Int)) ByteArray.empty)) (decide ((↑k : Int) < (↑(List.length a) : Int))) (fun Za Zb => (((Zb = true) → (((((0 : Int) ≤ (↑k : Int)) ∧ ((↑k : Int) < (↑(List.length a) : Int))) ∧ (((0 : Int) ≤ (↑k : Int)) ∧ ((↑k : Int) < (↑(List.length b) : Int)))) ∧ (((Za = true) → (((db false) : DV) = (db (decide (a = b))))) ∧ ((Za = false) → ((I64 ((↑k : Int) + (1 : Int))) ∧ Again (S163 a b) (fun k => k ≤ List.length a ∧ ∀ (i : Nat), i < k → List.getD a i ByteArray.empty = List.getD b i ByteArray.empty) (fun k => List.length a - k) k ⟨regs 26 [(0, (.d (.slc 1 (List.length a) (stF a)))), (1, (.d (.slc 1 (List.length b) (stF b)))), (5, (vi ((↑k : Int)))), (12, (vi ((↑(List.length a) : Int)))), (13, (vi ((↑k : Int) + (1 : Int)))), (14, (vb Zb)), (15, (vi ((↑k : Int)))), (16, (.d (.slc 1 (List.length a) (stF a)))), (17, (vi ((↑k : Int)))), (18, (.d (.ptr [(ds (List.getD a (Int.toNat (↑k : Int)) ByteArray.empty))]))), (19, (vs (List.getD a (Int.toNat (↑k : Int)) ByteArray.empty))), (20, (.d (.slc 1 (List.length b) (stF b)))), (21, (vi ((↑k : Int)))), (22, (.d (.ptr [(ds (List.getD b (Int.toNat (↑k : Int)) ByteArray.empty))]))), (23, (vs (List.getD b (Int.toNat (↑k : Int)) ByteArray.empty))), (24, (vb Za)), (25, (vi ((↑k : Int) + (1 : Int))))], []⟩))))) ∧ ((Zb = false) → AWP Tryz.prog G [.code (cAt (bodyOf Tryz.f163) [1, 1, 1])] ⟨regs 26 [(0, (.d (.slc 1 (List.length a) (stF a)))), (1, (.d (.slc 1 (List.length b) (stF b)))), (12, (vi ((↑(List.length a) : Int)))), (13, (vi ((↑k : Int)))), (14, (vb Zb))], []⟩ (Ret Tryz.prog Tryz.f163 (db (decide (a = b))))))) (by kernel_rfl) ?_
    simp only [Int.toNat_natCast, toList_beq]
    refine ⟨fun h => ?_, fun h => ?_⟩
    · have hk2 : k < a.length := by have := of_decide_eq_true h; omega
      refine ⟨⟨⟨by omega, by omega⟩, ⟨by omega, by omega⟩⟩, fun h2 => ?_, fun h2 => ⟨⟨by omega, by omega⟩, Again.mk (k + 1) ?_ ⟨hk2, fun i hi => ?_⟩ (by omega)⟩⟩
      · rw [decide_eq_false]
        rintro rfl
        simp at h2
      · refine of_eq (b := (((((.d (.slc 1 (List.length a) (stF a))) : AV) = (.d (.slc 1 (List.length a) (stF a)))) ∧ ((((.d (.slc 1 (List.length b) (stF b))) : AV) = (.d (.slc 1 (List.length b) (stF b)))) ∧ ((((vi ((↑(List.length a) : Int))) : AV) = (vi ((↑(List.length a) : Int)))) ∧ ((((vi ((↑k : Int) + (1 : Int))) : AV) = (vi ((↑(k + (1 : Nat)) : Int)))) ∧ True)))) ∧ True)) (by kernel_rfl) ?_
        exact ⟨⟨rfl, rfl, rfl, rfl, trivial⟩, trivial⟩
      · rcases Nat.lt_or_ge i k with h4 | h4
        · exact hkd i h4
        · obtain rfl : i = k := by omega
          simpa using h2
    · simp only [decide_eq_false_iff_not] at h
      refine walk (orc := noO) (keep := []) (cuts := []) (n := 1000) follows ?_
      refine of_eqH (b := (((db true) : DV) = (db (decide (a = b))))) (by kernel_rfl) ?_
      rw [decide_eq_true (getD_ext heq fun i hi => hkd i (by omega))]
end Go.Proofs
set_option autoImplicit false
namespace Go.Proofs
open Go Go.Ab Go.RowKit
set_option maxHeartbeats 4000000
set_option maxRecDepth 100000
variable {G : IH}
/-! Names in the world. -/
def nmK (l : List Fc) (ws : List ByteArray) (s : ByteArray) : Int × Int := if fH l (.string s) then ((fM l (.string s)).kind, 0) else if wL ws (.string s) then (2, 0) else (0, 4)
theorem fM_miss {l : List Fc} {s : ByteArray} (h : fH l (.string s) = false) : fM l (.string s) = fc0 := by
  induction l with
  | nil => rfl
  | cons x l ih =>
    simp only [fH, Bool.or_eq_false_iff] at h
    simp only [fM, h.1, cond_false]
    exact ih h.2
theorem zd_imp {l : List Fc} {s : ByteArray} (h : fH l (.string s) = false) : DV.imp (.agg [ds .empty, di 0, di 0, di 0, di 0, di 0, .con (.slice none 0 0)]) (fcD (fM l (.string s))) := fun _ _ hv => by
  rw [fM_miss h]
  exact fc_nil hv
theorem f80 (l : List Fc) (ws : List ByteArray) (m : Nat) (x : Ex) (ks : List Int) : FnOK Tryz.prog G 80 [wrD l ws, exD m x, inD ks] (.tup [di (nmK l ws x.s).1, di (nmK l ws x.s).2]) := by
  refine FnOK.walk (orc := noO) (keep := []) follows Tryz.func80 rfl Tryz.call80 ?_
  refine of_eqH1 ((.tup [(di (Prod.fst (nmK l ws (Ex.s x)))), (di (Prod.snd (nmK l ws (Ex.s x))))]) : DV) (fun Za => ((((fH l (Value.string (Ex.s x))) = false) → (DV.imp (DV.agg (List.map DV.con [Value.string { data := #[] }, Value.int IntKind.i64 (0 : Int), Value.int IntKind.i64 (0 : Int), Value.int IntKind.i64 (0 : Int), Value.int IntKind.i64 (0 : Int), Value.int IntKind.i64 (0 : Int), Value.slice none (0 : Nat) (0 : Nat)])) (fV l (Value.string (Ex.s x))))) ∧ ((((fH l (Value.string (Ex.s x))) = true) → (((.tup [(di (Fc.kind (fM l (Value.string (Ex.s x))))), (di 0)]) : DV) = Za)) ∧ (((fH l (Value.string (Ex.s x))) = false) → ((((wL ws (Value.string (Ex.s x))) = false) → (DV.imp (DV.con (Value.bool false)) (wV ws (Value.string (Ex.s x))))) ∧ ((((wL ws (Value.string (Ex.s x))) = true) → (((.tup [(di 2), (di 0)]) : DV) = Za)) ∧ (((wL ws (Value.string (Ex.s x))) = false) → (((.tup [(di 0), (di 4)]) : DV) = Za)))))))) (by kernel_rfl) ?_
  unfold nmK
  refine ⟨fun h => zd_imp h, fun h => ?_, fun h => ⟨fun h2 => imp_eq (by show DV.con (.bool (wL ws (.string x.s))) = _; rw [h2]), fun h2 => ?_, fun h2 => ?_⟩⟩
  · rw [if_pos h]
  · rw [if_neg (by rw [h]; decide), if_pos h2]
  · rw [if_neg (by rw [h]; decide), if_neg (by rw [h2]; decide)]
def cmK (l : List Fc) (a b : ByteArray) (p q : Int) : Bool := if (p != q || p != 2) = true then p == q else
  if fH l (.string a) && fH l (.string b) then eqW (fM l (.string a)).words (fM l (.string b)).words
  else if fH l (.string a) then anyB (fM l (.string a)).words b else if fH l (.string b) then anyB (fM l (.string b)).words a else false
noncomputable def orcCm : Oracle := fun f a => match f, a with
  | 163, [v, w] => some (db (eqW (rdW v) (rdW w)))
  | 31, [w, .con (.string s)] => some (db (anyB (rdW w) s))
  | _, _ => none
theorem f127 (l : List Fc) (ws : List ByteArray) (m m' : Nat) (a b : Ex) (ks : List Int) (hk : ks.length = 2) (hl : ∀ v, (fM l v).words.length ≤ 100000) : FnOK Tryz.prog G 127 [wrD l ws, exD m a, exD m' b, inD ks] (db (cmK l a.s b.s (ks.getD 0 0) (ks.getD 1 0))) := by
  refine FnOK.walk (orc := orcCm) (keep := []) follows Tryz.func127 rfl Tryz.call127 ?_
  refine of_eqH4 (Fc.words (fM l (Value.string (Ex.s a)))) (Fc.words (fM l (Value.string (Ex.s b)))) (db (cmK l (Ex.s a) (Ex.s b) (List.getD ks (0 : Nat) (0 : Int)) (List.getD ks (1 : Nat) (0 : Int)))) (List.getD ks (Int.toNat (0 : Int)) (0 : Int) != List.getD ks (Int.toNat (1 : Int)) (0 : Int) || List.getD ks (Int.toNat (0 : Int)) (0 : Int) != (2 : Int)) (fun Za Zb Zc Zd => (((((0 : Int) ≤ (0 : Int)) ∧ ((0 : Int) < (↑(List.length ks) : Int))) ∧ ((((0 : Int) ≤ (1 : Int)) ∧ ((1 : Int) < (↑(List.length ks) : Int))) ∧ (((!List.getD ks (Int.toNat (0 : Int)) (0 : Int) != List.getD ks (Int.toNat (1 : Int)) (0 : Int)) = true) → (((0 : Int) ≤ (0 : Int)) ∧ ((0 : Int) < (↑(List.length ks) : Int)))))) ∧ (((Zd = true) → (((((0 : Int) ≤ (0 : Int)) ∧ ((0 : Int) < (↑(List.length ks) : Int))) ∧ (((0 : Int) ≤ (1 : Int)) ∧ ((1 : Int) < (↑(List.length ks) : Int)))) ∧ (((db (List.getD ks (Int.toNat (0 : Int)) (0 : Int) == List.getD ks (Int.toNat (1 : Int)) (0 : Int))) : DV) = Zc))) ∧ ((Zd = false) → ((((fH l (Value.string (Ex.s a))) = false) → (DV.imp (DV.agg (List.map DV.con [Value.string { data := #[] }, Value.int IntKind.i64 (0 : Int), Value.int IntKind.i64 (0 : Int), Value.int IntKind.i64 (0 : Int), Value.int IntKind.i64 (0 : Int), Value.int IntKind.i64 (0 : Int), Value.slice none (0 : Nat) (0 : Nat)])) (fV l (Value.string (Ex.s a))))) ∧ ((((fH l (Value.string (Ex.s b))) = false) → (DV.imp (DV.agg (List.map DV.con [Value.string { data := #[] }, Value.int IntKind.i64 (0 : Int), Value.int IntKind.i64 (0 : Int), Value.int IntKind.i64 (0 : Int), Value.int IntKind.i64 (0 : Int), Value.int IntKind.i64 (0 : Int), Value.slice none (0 : Nat) (0 : Nat)])) (fV l (Value.string (Ex.s b))))) ∧ ((((fH l (Value.string (Ex.s a)) && fH l (Value.string (Ex.s b))) = true) → (FnOK Tryz.prog G 163 [(.slc 1 (List.length Za) (stF Za)), (.slc 1 (List.length Zb) (stF Zb))] (db (eqW (rdW (DV.slc (1 : Nat) (List.length Za) (stF Za))) (rdW (DV.slc (1 : Nat) (List.length Zb) (stF Zb))))) ∧ (((db (eqW (rdW (DV.slc (1 : Nat) (List.length Za) (stF Za))) (rdW (DV.slc (1 : Nat) (List.length Zb) (stF Zb))))) : DV) = Zc))) ∧ (((fH l (Value.string (Ex.s a)) && fH l (Value.string (Ex.s b))) = false) → ((((fH l (Value.string (Ex.s a))) = true) → (FnOK Tryz.prog G 31 [(.slc 1 (List.length Za) (stF Za)), (ds (Ex.s b))] (db (anyB (rdW (DV.slc (1 : Nat) (List.length Za) (stF Za))) (Ex.s b))) ∧ (((db (anyB (rdW (DV.slc (1 : Nat) (List.length Za) (stF Za))) (Ex.s b))) : DV) = Zc))) ∧ (((fH l (Value.string (Ex.s a))) = false) → ((((fH l (Value.string (Ex.s b))) = true) → (FnOK Tryz.prog G 31 [(.slc 1 (List.length Zb) (stF Zb)), (ds (Ex.s a))] (db (anyB (rdW (DV.slc (1 : Nat) (List.length Zb) (stF Zb))) (Ex.s a))) ∧ (((db (anyB (rdW (DV.slc (1 : Nat) (List.length Zb) (stF Zb))) (Ex.s a))) : DV) = Zc))) ∧ (((fH l (Value.string (Ex.s b))) = false) → (((db false) : DV) = Zc))))))))))))) (by kernel_rfl) ?_
  simp only [rdW_eq]
  unfold cmK
  have e0 : Int.toNat 0 = 0 := rfl
  have e1 : Int.toNat 1 = 1 := rfl
  rw [e0, e1]
  have hwa := hl (.string a.s)
  have hwb := hl (.string b.s)
  refine ⟨⟨⟨by omega, by omega⟩, ⟨by omega, by omega⟩, fun _ => ⟨by omega, by omega⟩⟩, fun h => ⟨⟨⟨by omega, by omega⟩, ⟨by omega, by omega⟩⟩, ?_⟩, fun h => ⟨fun h1 => zd_imp h1, fun h1 => zd_imp h1, fun h1 => ⟨f163 _ _ hwa, ?_⟩, fun h1 => ⟨fun h2 => ⟨f31 _ _ (by omega), ?_⟩, fun h2 => ⟨fun h3 => ⟨f31 _ _ (by omega), ?_⟩, fun h3 => ?_⟩⟩⟩⟩
  · rw [if_pos h]
  · rw [if_neg (by rw [h]; decide), if_pos h1]
  · rw [if_neg (by rw [h]; decide), if_neg (by rw [h1]; decide), if_pos h2]
  · rw [if_neg (by rw [h]; decide), if_neg (by rw [h1]; decide), if_neg (by rw [h2]; decide), if_pos h3]
  · rw [if_neg (by rw [h]; decide), if_neg (by rw [h1]; decide), if_neg (by rw [h2]; decide), if_neg (by rw [h3]; decide)]
noncomputable def orcEq (l : List Fc) : Oracle := fun f a => match f, a with
  | 127, [_, e, g, k] => some (db (cmK l (rdE e).s (rdE g).s ((rdL k).getD 0 0) ((rdL k).getD 1 0)))
  | _, _ => none
theorem f81 (l : List Fc) (ws : List ByteArray) (m : Nat) (x : Ex) (ks : List Int) (hx : ht x ≤ m) (hk : ks.length = 2) (hk2 : x.kids.length = 2) (hl : ∀ v, (fM l v).words.length ≤ 100000) : FnOK Tryz.prog G 81 [wrD l ws, exD m x, inD ks] (.tup [di (if cmK l (x.kids.getD 0 ex0).s (x.kids.getD 1 ex0).s (ks.getD 0 0) (ks.getD 1 0) then 1 else 0), di (if cmK l (x.kids.getD 0 ex0).s (x.kids.getD 1 ex0).s (ks.getD 0 0) (ks.getD 1 0) then 0 else 5)]) := by
  have q0 : ∀ (_ : 0 < x.kids.length), rdE (kidA m x (Int.toNat (0 : Int))) = x.kids.getD 0 ex0 := fun h => kid_rd hx h
  have q1 : ∀ (_ : 1 < x.kids.length), rdE (kidA m x (Int.toNat (1 : Int))) = x.kids.getD 1 ex0 := fun h => kid_rd hx h
  refine FnOK.walk (orc := orcEq l) (keep := []) follows Tryz.func81 rfl Tryz.call81 ?_
  refine of_eqH5 (!cmK l (Ex.s (rdE (ndA m (List.getD (Ex.kids x) (Int.toNat (0 : Int)) ex0)))) (Ex.s (rdE (ndA m (List.getD (Ex.kids x) (Int.toNat (1 : Int)) ex0)))) (List.getD (rdL (DV.slc (1 : Nat) (List.length ks) (inF ks))) (0 : Nat) (0 : Int)) (List.getD (rdL (DV.slc (1 : Nat) (List.length ks) (inF ks))) (1 : Nat) (0 : Int))) (Ex.s (List.getD (Ex.kids x) (0 : Nat) ex0)) (Ex.s (List.getD (Ex.kids x) (1 : Nat) ex0)) (List.getD ks (0 : Nat) (0 : Int)) (List.getD ks (1 : Nat) (0 : Int)) (fun Za Zb Zc Zd Ze => (((((0 : Int) ≤ (0 : Int)) ∧ ((0 : Int) < (↑(List.length (Ex.kids x)) : Int))) ∧ ((((0 : Int) ≤ (1 : Int)) ∧ ((1 : Int) < (↑(List.length (Ex.kids x)) : Int))) ∧ FnOK Tryz.prog G 127 [(.ptr [(.mp none (fV l) (fH l)), (.mp none (wV ws) (wL ws))]), (ndA m (List.getD (Ex.kids x) (Int.toNat (0 : Int)) ex0)), (ndA m (List.getD (Ex.kids x) (Int.toNat (1 : Int)) ex0)), (.slc 1 (List.length ks) (inF ks))] (db (cmK l (Ex.s (rdE (ndA m (List.getD (Ex.kids x) (Int.toNat (0 : Int)) ex0)))) (Ex.s (rdE (ndA m (List.getD (Ex.kids x) (Int.toNat (1 : Int)) ex0)))) (List.getD (rdL (DV.slc (1 : Nat) (List.length ks) (inF ks))) (0 : Nat) (0 : Int)) (List.getD (rdL (DV.slc (1 : Nat) (List.length ks) (inF ks))) (1 : Nat) (0 : Int)))))) ∧ (((Za = true) → (((.tup [(di 0), (di 5)]) : DV) = (.tup [(di (if cmK l Zb Zc Zd Ze = true then (1 : Int) else (0 : Int))), (di (if cmK l Zb Zc Zd Ze = true then (0 : Int) else (5 : Int)))]))) ∧ ((Za = false) → (((.tup [(di 1), (di 0)]) : DV) = (.tup [(di (if cmK l Zb Zc Zd Ze = true then (1 : Int) else (0 : Int))), (di (if cmK l Zb Zc Zd Ze = true then (0 : Int) else (5 : Int)))])))))) (by kernel_rfl) ?_
  simp only [rdL_eq, q0 (by omega), q1 (by omega)]
  have h127 : FnOK Tryz.prog G 127 [wrD l ws, kidA m x 0, kidA m x 1, inD ks] (db (cmK l (x.kids.getD 0 ex0).s (x.kids.getD 1 ex0).s (ks.getD 0 0) (ks.getD 1 0))) :=
    kidOK (Q := fun d => FnOK Tryz.prog G 127 [wrD l ws, d, kidA m x 1, inD ks] _) hx (by omega) fun m1 h1 h2 =>
      kidOK (Q := fun d => FnOK Tryz.prog G 127 [wrD l ws, exD m1 _, d, inD ks] _) hx (by omega) fun m2 h3 h4 => f127 l ws m1 m2 _ _ ks hk hl
  refine ⟨⟨⟨by omega, by omega⟩, ⟨by omega, by omega⟩, h127⟩, fun h => ?_, fun h => ?_⟩
  · rw [Bool.not_eq_true'] at h
    rw [h]; rfl
  · rw [Bool.not_eq_false'] at h
    rw [h]; rfl
end Go.Proofs
