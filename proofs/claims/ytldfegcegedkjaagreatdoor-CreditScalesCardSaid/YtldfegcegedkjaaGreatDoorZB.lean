import Derived.Test.YtldfegcegedkjaaGreatDoorAcC
import Derived.Test.YtldfegcegedkjaaGreatDoorXA
import Derived.Test.YtldfegcegedkjaaGreatDoorYA
import Derived.Test.YtldfegcegedkjaaGreatDoorAcD
import Derived.Test.YtldfegcegedkjaaGreatDoorZA
set_option autoImplicit false
namespace Go.Proofs
open Go Go.Ab Go.RowKit
set_option maxHeartbeats 2000000
set_option maxRecDepth 100000
variable {G : IH}
def failL (L : List Ln) : List ByteArray := (L.filter fun x => !(x.err == 0)).map (·.name)
abbrev stL (l : List ByteArray) : DV := .slc 1 l.length (stF l)
theorem fail_on {L : List Ln} {k : Nat} (hk : k < L.length) (h : ((L.getD k ln0).err == 0) = false) : failL (L.take (k + 1)) = failL (L.take k) ++ [(L.getD k ln0).name] := by
  unfold failL
  rw [List.take_succ_eq_append_getElem hk, List.filter_append, List.map_append, getD_eq hk]
  rw [getD_eq hk] at h
  simp [h]
theorem fail_off {L : List Ln} {k : Nat} (hk : k < L.length) (h : ((L.getD k ln0).err == 0) = true) : failL (L.take (k + 1)) = failL (L.take k) := by
  unfold failL
  rw [List.take_succ_eq_append_getElem hk, List.filter_append, List.map_append]
  rw [getD_eq hk] at h
  simp [h]
theorem fail_len (L : List Ln) : (failL L).length ≤ L.length := by
  unfold failL; rw [List.length_map]; exact List.length_filter_le _ _
theorem fail_len' (L : List Ln) (k : Nat) : (failL (L.take k)).length ≤ L.length := by
  have := fail_len (L.take k)
  rw [List.length_take] at this; omega
noncomputable def S17 (L : List Ln) (k : Nat) : AS := ⟨regs Tryz.f17.ntmps [(0, .d (lnsD L)), (3, .vec 900 1 0 (failL (L.take k)).length), (6, .d (lnsD L)), (7, vi L.length), (8, vi k)], [(900, [.arr stK 1 (stR (failL (L.take k)))])]⟩
theorem f17 (L : List Ln) (hL : L.length ≤ 1000) : FnOK Tryz.prog G 17 [lnsD L] (stL (failL L)) := by
  refine FnOK.res (r := .slc 1 (failL L).length (stR (failL L))) (FnOK.walk (orc := orcQ) (keep := []) follows Tryz.func17 rfl Tryz.call17 ?_) fun k v hv2 => DV.rel_slc_congr (fun i hi => stR_F hi) hv2
  refine of_eqH (b :=
    AWP Tryz.prog G [.code (cAt (bodyOf Tryz.f17) [1, 1, 0, 1, 0]), (.blk 0), .code (cAt (bodyOf Tryz.f17) [1, 1, 1])] ⟨regs 27 [(0, (.d (.slc 7 (List.length L) (lnsF L)))), (2, (.d (.con (.slice none 0 0)))), (3, (.d (.con (.slice none 0 0)))), (6, (.d (.slc 7 (List.length L) (lnsF L)))), (7, (vi ((↑(List.length L) : Int)))), (8, (vi 0))], []⟩ (Ret Tryz.prog Tryz.f17 (DV.slc (1 : Nat) (List.length (failL L)) (stR (failL L))))) (by kernel_rfl) ?_
  refine AWP.pre (.nilRow _ 3 900 1 stK (stR []) (by kernel_rfl) (by kernel_rfl)) ?_
  refine AWP.loop (c := cAt (bodyOf Tryz.f17) [1, 1, 0, 1, 0, 0]) (by kernel_rfl) (S17 L) (fun k => k ≤ L.length) (fun k => L.length - k) 0 ?_ (Nat.zero_le _) ?_
  · refine of_eq (b :=
    (((((.d (.slc 7 (List.length L) (lnsF L))) : AV) = (.d (.slc 7 (List.length L) (lnsF L)))) ∧
    ((((.vec 900 1 0 0) : AV) = (.vec 900 1 0 0)) ∧
    ((((.d (.slc 7 (List.length L) (lnsF L))) : AV) = (.d (.slc 7 (List.length L) (lnsF L)))) ∧
    ((((vi ((↑(List.length L) : Int))) : AV) = (vi ((↑(List.length L) : Int)))) ∧
    ((((vi 0) : AV) = (vi 0)) ∧
    True))))) ∧
    ((((some [(.arr ⟨false, 9, false, none⟩ 1 (stR []))]) : (Option (List AV))) = (some [(.arr ⟨false, 9, false, none⟩ 1 (stR (failL (List.take (0 : Nat) L))))])) ∧
    True))) (by kernel_rfl) ?_
    exact ⟨⟨rfl, rfl, rfl, rfl, rfl, trivial⟩, rfl, trivial⟩
  · rintro k hk
    refine walk (orc := orcQ) (keep := []) (cuts := []) (n := 1000) follows ?_
    refine of_eqH (b :=
      ((((decide ((↑k : Int) < (↑(List.length L) : Int))) = true) →
      ((((0 : Int) ≤ (↑k : Int)) ∧
      ((↑k : Int) < (↑(List.length L) : Int))) ∧
      ((((Ln.err (List.getD L (Int.toNat (↑k : Int)) ln0) != (0 : Int) && decide ((↑(List.length (failL (List.take k L))) : Int) < (1024 : Int))) = true) →
      (((((List.length (failL (List.take k L)) + (1 : Nat)) * (16 : Nat) ≤ (1099511627776 : Nat)) ∧
      (List.length (failL (List.take k L)) + (1 : Nat) ≤ (1099511627776 : Nat))) ∧
      (∀ (i : Nat), i < (1 : Nat) → elemOK false (1 : Nat) (elemF false (1 : Nat) [DV.con (Value.string (Ln.name (List.getD L (Int.toNat (↑k : Int)) ln0)))] i) = true)) ∧
      ((I64 ((↑k : Int) + (1 : Int))) ∧
      Again (S17 L) (fun k => k ≤ List.length L) (fun k => List.length L - k) k ⟨regs 27 [(0, (.d (.slc 7 (List.length L) (lnsF L)))), (3, (.vec 24 1 0 (List.length (failL (List.take k L)) + (1 : Nat)))), (5, (.box 5 0)), (6, (.d (.slc 7 (List.length L) (lnsF L)))), (7, (vi ((↑(List.length L) : Int)))), (8, (vi ((↑k : Int) + (1 : Int)))), (9, (vb (decide ((↑k : Int) < (↑(List.length L) : Int))))), (10, (.d (.ptr [(ds (Ln.name (List.getD L (Int.toNat (↑k : Int)) ln0))), (ds (Ln.group (List.getD L (Int.toNat (↑k : Int)) ln0))), (di (Ln.kind (List.getD L (Int.toNat (↑k : Int)) ln0))), (db (Ln.app (List.getD L (Int.toNat (↑k : Int)) ln0))), (di (Ln.n (List.getD L (Int.toNat (↑k : Int)) ln0))), (di (Ln.d (List.getD L (Int.toNat (↑k : Int)) ln0))), (di (Ln.err (List.getD L (Int.toNat (↑k : Int)) ln0)))]))), (11, (.d (.agg [(ds (Ln.name (List.getD L (Int.toNat (↑k : Int)) ln0))), (ds (Ln.group (List.getD L (Int.toNat (↑k : Int)) ln0))), (di (Ln.kind (List.getD L (Int.toNat (↑k : Int)) ln0))), (db (Ln.app (List.getD L (Int.toNat (↑k : Int)) ln0))), (di (Ln.n (List.getD L (Int.toNat (↑k : Int)) ln0))), (di (Ln.d (List.getD L (Int.toNat (↑k : Int)) ln0))), (di (Ln.err (List.getD L (Int.toNat (↑k : Int)) ln0)))]))), (12, (.box 5 6)), (13, (vi (Ln.err (List.getD L (Int.toNat (↑k : Int)) ln0)))), (14, (vb (Ln.err (List.getD L (Int.toNat (↑k : Int)) ln0) != (0 : Int)))), (15, (vb (Ln.err (List.getD L (Int.toNat (↑k : Int)) ln0) != (0 : Int)))), (19, (vb (Ln.err (List.getD L (Int.toNat (↑k : Int)) ln0) != (0 : Int) && decide ((↑(List.length (failL (List.take k L))) : Int) < (1024 : Int))))), (20, (.vec 900 1 0 (List.length (failL (List.take k L))))), (21, (.box 5 0)), (22, (vs (Ln.name (List.getD L (Int.toNat (↑k : Int)) ln0)))), (23, (.d (.slc 1 1 (elemF false 1 [(ds (Ln.name (List.getD L (Int.toNat (↑k : Int)) ln0)))])))), (24, (.vec 24 1 0 (List.length (failL (List.take k L)) + (1 : Nat)))), (25, (vi ((↑k : Int) + (1 : Int))))], [(24, [(.arr ⟨false, 9, false, none⟩ 1 (fun i => bif Nat.blt i (List.length (failL (List.take k L))) then stR (failL (List.take k L)) i else elemF false (1 : Nat) [DV.con (Value.string (Ln.name (List.getD L (Int.toNat (↑k : Int)) ln0)))] (i - List.length (failL (List.take k L)))))]), (5, [(vs (Ln.name (List.getD L (Int.toNat (↑k : Int)) ln0))), (vs (Ln.group (List.getD L (Int.toNat (↑k : Int)) ln0))), (vi (Ln.kind (List.getD L (Int.toNat (↑k : Int)) ln0))), (vb (Ln.app (List.getD L (Int.toNat (↑k : Int)) ln0))), (vi (Ln.n (List.getD L (Int.toNat (↑k : Int)) ln0))), (vi (Ln.d (List.getD L (Int.toNat (↑k : Int)) ln0))), (vi (Ln.err (List.getD L (Int.toNat (↑k : Int)) ln0)))]), (900, [.dead])]⟩))) ∧
      (((Ln.err (List.getD L (Int.toNat (↑k : Int)) ln0) != (0 : Int) && decide ((↑(List.length (failL (List.take k L))) : Int) < (1024 : Int))) = false) →
      ((I64 ((↑k : Int) + (1 : Int))) ∧
      Again (S17 L) (fun k => k ≤ List.length L) (fun k => List.length L - k) k ⟨regs 27 [(0, (.d (.slc 7 (List.length L) (lnsF L)))), (3, (.vec 900 1 0 (List.length (failL (List.take k L))))), (5, (.box 5 0)), (6, (.d (.slc 7 (List.length L) (lnsF L)))), (7, (vi ((↑(List.length L) : Int)))), (8, (vi ((↑k : Int) + (1 : Int)))), (9, (vb (decide ((↑k : Int) < (↑(List.length L) : Int))))), (10, (.d (.ptr [(ds (Ln.name (List.getD L (Int.toNat (↑k : Int)) ln0))), (ds (Ln.group (List.getD L (Int.toNat (↑k : Int)) ln0))), (di (Ln.kind (List.getD L (Int.toNat (↑k : Int)) ln0))), (db (Ln.app (List.getD L (Int.toNat (↑k : Int)) ln0))), (di (Ln.n (List.getD L (Int.toNat (↑k : Int)) ln0))), (di (Ln.d (List.getD L (Int.toNat (↑k : Int)) ln0))), (di (Ln.err (List.getD L (Int.toNat (↑k : Int)) ln0)))]))), (11, (.d (.agg [(ds (Ln.name (List.getD L (Int.toNat (↑k : Int)) ln0))), (ds (Ln.group (List.getD L (Int.toNat (↑k : Int)) ln0))), (di (Ln.kind (List.getD L (Int.toNat (↑k : Int)) ln0))), (db (Ln.app (List.getD L (Int.toNat (↑k : Int)) ln0))), (di (Ln.n (List.getD L (Int.toNat (↑k : Int)) ln0))), (di (Ln.d (List.getD L (Int.toNat (↑k : Int)) ln0))), (di (Ln.err (List.getD L (Int.toNat (↑k : Int)) ln0)))]))), (12, (.box 5 6)), (13, (vi (Ln.err (List.getD L (Int.toNat (↑k : Int)) ln0)))), (14, (vb (Ln.err (List.getD L (Int.toNat (↑k : Int)) ln0) != (0 : Int)))), (15, (vb (Ln.err (List.getD L (Int.toNat (↑k : Int)) ln0) != (0 : Int)))), (19, (vb (Ln.err (List.getD L (Int.toNat (↑k : Int)) ln0) != (0 : Int) && decide ((↑(List.length (failL (List.take k L))) : Int) < (1024 : Int))))), (25, (vi ((↑k : Int) + (1 : Int))))], [(5, [(vs (Ln.name (List.getD L (Int.toNat (↑k : Int)) ln0))), (vs (Ln.group (List.getD L (Int.toNat (↑k : Int)) ln0))), (vi (Ln.kind (List.getD L (Int.toNat (↑k : Int)) ln0))), (vb (Ln.app (List.getD L (Int.toNat (↑k : Int)) ln0))), (vi (Ln.n (List.getD L (Int.toNat (↑k : Int)) ln0))), (vi (Ln.d (List.getD L (Int.toNat (↑k : Int)) ln0))), (vi (Ln.err (List.getD L (Int.toNat (↑k : Int)) ln0)))]), (900, [(.arr ⟨false, 9, false, none⟩ 1 (stR (failL (List.take k L))))])]⟩))))) ∧
      (((decide ((↑k : Int) < (↑(List.length L) : Int))) = false) →
      AWP Tryz.prog G [.code (cAt (bodyOf Tryz.f17) [1, 1, 1])] ⟨regs 27 [(0, (.d (.slc 7 (List.length L) (lnsF L)))), (3, (.vec 900 1 0 (List.length (failL (List.take k L))))), (6, (.d (.slc 7 (List.length L) (lnsF L)))), (7, (vi ((↑(List.length L) : Int)))), (8, (vi ((↑k : Int)))), (9, (vb (decide ((↑k : Int) < (↑(List.length L) : Int)))))], [(900, [(.arr ⟨false, 9, false, none⟩ 1 (stR (failL (List.take k L))))])]⟩ (Ret Tryz.prog Tryz.f17 (DV.slc (1 : Nat) (List.length (failL L)) (stR (failL L))))))) (by kernel_rfl) ?_
    simp only [Int.toNat_natCast]
    have hfl := fail_len' L k
    refine ⟨fun h1 => ⟨⟨by omega, of_decide_eq_true h1⟩, fun h2 => ⟨⟨⟨by omega, by omega⟩, fun i hi => (by obtain rfl : i = 0 := (by omega); rfl)⟩, ⟨by omega, by have := of_decide_eq_true h1; omega⟩, Again.mkR [(24, 900)] rfl (k + 1) ?_ (by have := of_decide_eq_true h1; show k + 1 ≤ _; omega) (by have := of_decide_eq_true h1; omega)⟩, fun h2 => ⟨⟨by omega, by have := of_decide_eq_true h1; omega⟩, Again.mk (k + 1) ?_ (by have := of_decide_eq_true h1; show k + 1 ≤ _; omega) (by have := of_decide_eq_true h1; omega)⟩⟩, fun h1 => ?_⟩
    · have hk2 : k < L.length := by have := of_decide_eq_true h1; omega
      simp only [Bool.and_eq_true, bne, Bool.not_eq_true'] at h2
      have e := fail_on hk2 h2.1
      refine of_eq (b :=
        (((((.d (.slc 7 (List.length L) (lnsF L))) : AV) = (.d (.slc 7 (List.length L) (lnsF L)))) ∧
        ((((.vec 900 1 0 (List.length (failL (List.take k L)) + (1 : Nat))) : AV) = (.vec 900 1 0 (List.length (failL (List.take (k + (1 : Nat)) L))))) ∧
        ((((.d (.slc 7 (List.length L) (lnsF L))) : AV) = (.d (.slc 7 (List.length L) (lnsF L)))) ∧
        ((((vi ((↑(List.length L) : Int))) : AV) = (vi ((↑(List.length L) : Int)))) ∧
        ((((vi ((↑k : Int) + (1 : Int))) : AV) = (vi ((↑(k + (1 : Nat)) : Int)))) ∧
        True))))) ∧
        ((((some [(.arr ⟨false, 9, false, none⟩ 1 (fun i => bif Nat.blt i (List.length (failL (List.take k L))) then stR (failL (List.take k L)) i else elemF false (1 : Nat) [DV.con (Value.string (Ln.name (List.getD L k ln0)))] (i - List.length (failL (List.take k L)))))]) : (Option (List AV))) = (some [(.arr ⟨false, 9, false, none⟩ 1 (stR (failL (List.take (k + (1 : Nat)) L))))])) ∧
        True))) (by kernel_rfl) ?_
      refine ⟨⟨rfl, ?_, rfl, rfl, rfl, trivial⟩, ?_, trivial⟩
      · rw [e, List.length_append, List.length_singleton]
      · rw [e, stR_snoc]
    · have hk2 : k < L.length := by have := of_decide_eq_true h1; omega
      have hc : (decide (((failL (List.take k L)).length : Int) < 1024)) = true := by simp; omega
      rw [hc, Bool.and_true, bne, Bool.not_eq_false'] at h2
      have e := fail_off hk2 h2
      refine of_eq (b :=
        (((((.d (.slc 7 (List.length L) (lnsF L))) : AV) = (.d (.slc 7 (List.length L) (lnsF L)))) ∧
        ((((.vec 900 1 0 (List.length (failL (List.take k L)))) : AV) = (.vec 900 1 0 (List.length (failL (List.take (k + (1 : Nat)) L))))) ∧
        ((((.d (.slc 7 (List.length L) (lnsF L))) : AV) = (.d (.slc 7 (List.length L) (lnsF L)))) ∧
        ((((vi ((↑(List.length L) : Int))) : AV) = (vi ((↑(List.length L) : Int)))) ∧
        ((((vi ((↑k : Int) + (1 : Int))) : AV) = (vi ((↑(k + (1 : Nat)) : Int)))) ∧
        True))))) ∧
        ((((some [(.arr ⟨false, 9, false, none⟩ 1 (stR (failL (List.take k L))))]) : (Option (List AV))) = (some [(.arr ⟨false, 9, false, none⟩ 1 (stR (failL (List.take (k + (1 : Nat)) L))))])) ∧
        True))) (by kernel_rfl) ?_
      refine ⟨⟨rfl, ?_, rfl, rfl, rfl, trivial⟩, ?_, trivial⟩
      · rw [e]
      · rw [e]
    · simp only [decide_eq_false_iff_not] at h1
      obtain rfl : k = L.length := by omega
      refine walk (orc := orcQ) (keep := []) (cuts := []) (n := 1000) follows ?_
      refine of_eqH (b :=
        (((.slc 1 (List.length (failL (List.take (List.length L) L))) (fun i => stR (failL (List.take (List.length L) L)) ((0 : Nat) + i))) : DV) = (.slc 1 (List.length (failL L)) (stR (failL L))))) (by kernel_rfl) ?_
      rw [List.take_length]
      simp only [Nat.zero_add]
noncomputable def S18 (L : List Ln) (k : Nat) : AS := ⟨regs Tryz.f18.ntmps [(0, .d (lnsD L)), (3, .vec 900 1 0 (failL (L.take k)).length), (4, vi k)], [(900, [.arr stK 1 (stR (failL (L.take k)))])]⟩
theorem f18 (L : List Ln) (hL : L.length ≤ 1000) : FnOK Tryz.prog G 18 [lnsD L] (stL (failL L)) := by
  refine FnOK.res (r := .slc 1 (failL L).length (stR (failL L))) (FnOK.walk (orc := orcQ) (keep := []) follows Tryz.func18 rfl Tryz.call18 ?_) fun k v hv2 => DV.rel_slc_congr (fun i hi => stR_F hi) hv2
  refine of_eqH (b :=
    AWP Tryz.prog G [.code (cAt (bodyOf Tryz.f18) [1, 1, 0, 1, 0]), (.blk 0), .code (cAt (bodyOf Tryz.f18) [1, 1, 1])] ⟨regs 32 [(0, (.d (.slc 7 (List.length L) (lnsF L)))), (2, (.d (.con (.slice none 0 0)))), (3, (.vec 5 1 0 0)), (4, (vi 0)), (5, (.vec 5 1 0 0))], [(5, [(.arr ⟨false, 9, false, none⟩ 1 (fun x => DV.con undef))])]⟩ (Ret Tryz.prog Tryz.f18 (DV.slc (1 : Nat) (List.length (failL L)) (stR (failL L))))) (by kernel_rfl) ?_
  refine AWP.pre (.moves [(5, 900)] _ rfl) ?_
  refine AWP.loop (c := cAt (bodyOf Tryz.f18) [1, 1, 0, 1, 0, 0]) (by kernel_rfl) (S18 L) (fun k => k ≤ L.length) (fun k => L.length - k) 0 ?_ (Nat.zero_le _) ?_
  · refine of_eq (b :=
    (((((.d (.slc 7 (List.length L) (lnsF L))) : AV) = (.d (.slc 7 (List.length L) (lnsF L)))) ∧
    ((((.vec 900 1 0 0) : AV) = (.vec 900 1 0 0)) ∧
    ((((vi 0) : AV) = (vi 0)) ∧
    True))) ∧
    ((((some [(.arr ⟨false, 9, false, none⟩ 1 (fun x => DV.con undef))]) : (Option (List AV))) = (some [(.arr ⟨false, 9, false, none⟩ 1 (stR (failL (List.take (0 : Nat) L))))])) ∧
    True))) (by kernel_rfl) ?_
    exact ⟨⟨rfl, rfl, rfl, trivial⟩, rfl, trivial⟩
  · rintro k hk
    refine walk (orc := orcQ) (keep := []) (cuts := []) (n := 1000) follows ?_
    refine of_eqH (b :=
      ((((decide ((↑k : Int) < (↑(List.length L) : Int)) && decide ((↑(List.length (failL (List.take k L))) : Int) < (1024 : Int))) = true) →
      ((((0 : Int) ≤ (↑k : Int)) ∧
      ((↑k : Int) < (↑(List.length L) : Int))) ∧
      ((((Ln.err (List.getD L (Int.toNat (↑k : Int)) ln0) != (0 : Int)) = true) →
      (((((0 : Int) ≤ (↑k : Int)) ∧
      ((↑k : Int) < (↑(List.length L) : Int))) ∧
      ((((List.length (failL (List.take k L)) + (1 : Nat)) * (16 : Nat) ≤ (1099511627776 : Nat)) ∧
      (List.length (failL (List.take k L)) + (1 : Nat) ≤ (1099511627776 : Nat))) ∧
      (∀ (i : Nat), i < (1 : Nat) → elemOK false (1 : Nat) (elemF false (1 : Nat) [DV.con (Value.string (Ln.name (List.getD L (Int.toNat (↑k : Int)) ln0)))] i) = true))) ∧
      ((I64 ((↑k : Int) + (1 : Int))) ∧
      Again (S18 L) (fun k => k ≤ List.length L) (fun k => List.length L - k) k ⟨regs 32 [(0, (.d (.slc 7 (List.length L) (lnsF L)))), (3, (.vec 30 1 0 (List.length (failL (List.take k L)) + (1 : Nat)))), (4, (vi ((↑k : Int) + (1 : Int)))), (6, (vi ((↑k : Int)))), (7, (.d (.slc 7 (List.length L) (lnsF L)))), (8, (vi ((↑(List.length L) : Int)))), (9, (vb (decide ((↑k : Int) < (↑(List.length L) : Int))))), (10, (vb (decide ((↑k : Int) < (↑(List.length L) : Int))))), (14, (vb (decide ((↑k : Int) < (↑(List.length L) : Int)) && decide ((↑(List.length (failL (List.take k L))) : Int) < (1024 : Int))))), (15, (vi ((↑k : Int)))), (16, (vi ((↑k : Int) + (1 : Int)))), (17, (.d (.slc 7 (List.length L) (lnsF L)))), (18, (vi ((↑k : Int)))), (19, (.d (.ptr [(ds (Ln.name (List.getD L (Int.toNat (↑k : Int)) ln0))), (ds (Ln.group (List.getD L (Int.toNat (↑k : Int)) ln0))), (di (Ln.kind (List.getD L (Int.toNat (↑k : Int)) ln0))), (db (Ln.app (List.getD L (Int.toNat (↑k : Int)) ln0))), (di (Ln.n (List.getD L (Int.toNat (↑k : Int)) ln0))), (di (Ln.d (List.getD L (Int.toNat (↑k : Int)) ln0))), (di (Ln.err (List.getD L (Int.toNat (↑k : Int)) ln0)))]))), (20, (.d (.ptr [(di (Ln.err (List.getD L (Int.toNat (↑k : Int)) ln0)))]))), (21, (vi (Ln.err (List.getD L (Int.toNat (↑k : Int)) ln0)))), (22, (vb (Ln.err (List.getD L (Int.toNat (↑k : Int)) ln0) != (0 : Int)))), (23, (.vec 900 1 0 (List.length (failL (List.take k L))))), (24, (.d (.slc 7 (List.length L) (lnsF L)))), (25, (vi ((↑k : Int)))), (26, (.d (.ptr [(ds (Ln.name (List.getD L (Int.toNat (↑k : Int)) ln0))), (ds (Ln.group (List.getD L (Int.toNat (↑k : Int)) ln0))), (di (Ln.kind (List.getD L (Int.toNat (↑k : Int)) ln0))), (db (Ln.app (List.getD L (Int.toNat (↑k : Int)) ln0))), (di (Ln.n (List.getD L (Int.toNat (↑k : Int)) ln0))), (di (Ln.d (List.getD L (Int.toNat (↑k : Int)) ln0))), (di (Ln.err (List.getD L (Int.toNat (↑k : Int)) ln0)))]))), (27, (.d (.ptr [(ds (Ln.name (List.getD L (Int.toNat (↑k : Int)) ln0))), (ds (Ln.group (List.getD L (Int.toNat (↑k : Int)) ln0))), (di (Ln.kind (List.getD L (Int.toNat (↑k : Int)) ln0))), (db (Ln.app (List.getD L (Int.toNat (↑k : Int)) ln0))), (di (Ln.n (List.getD L (Int.toNat (↑k : Int)) ln0))), (di (Ln.d (List.getD L (Int.toNat (↑k : Int)) ln0))), (di (Ln.err (List.getD L (Int.toNat (↑k : Int)) ln0)))]))), (28, (vs (Ln.name (List.getD L (Int.toNat (↑k : Int)) ln0)))), (29, (.d (.slc 1 1 (elemF false 1 [(ds (Ln.name (List.getD L (Int.toNat (↑k : Int)) ln0)))])))), (30, (.vec 30 1 0 (List.length (failL (List.take k L)) + (1 : Nat))))], [(30, [(.arr ⟨false, 9, false, none⟩ 1 (fun i => bif Nat.blt i (List.length (failL (List.take k L))) then stR (failL (List.take k L)) i else elemF false (1 : Nat) [DV.con (Value.string (Ln.name (List.getD L (Int.toNat (↑k : Int)) ln0)))] (i - List.length (failL (List.take k L)))))]), (900, [.dead])]⟩))) ∧
      (((Ln.err (List.getD L (Int.toNat (↑k : Int)) ln0) != (0 : Int)) = false) →
      ((I64 ((↑k : Int) + (1 : Int))) ∧
      Again (S18 L) (fun k => k ≤ List.length L) (fun k => List.length L - k) k ⟨regs 32 [(0, (.d (.slc 7 (List.length L) (lnsF L)))), (3, (.vec 900 1 0 (List.length (failL (List.take k L))))), (4, (vi ((↑k : Int) + (1 : Int)))), (6, (vi ((↑k : Int)))), (7, (.d (.slc 7 (List.length L) (lnsF L)))), (8, (vi ((↑(List.length L) : Int)))), (9, (vb (decide ((↑k : Int) < (↑(List.length L) : Int))))), (10, (vb (decide ((↑k : Int) < (↑(List.length L) : Int))))), (14, (vb (decide ((↑k : Int) < (↑(List.length L) : Int)) && decide ((↑(List.length (failL (List.take k L))) : Int) < (1024 : Int))))), (15, (vi ((↑k : Int)))), (16, (vi ((↑k : Int) + (1 : Int)))), (17, (.d (.slc 7 (List.length L) (lnsF L)))), (18, (vi ((↑k : Int)))), (19, (.d (.ptr [(ds (Ln.name (List.getD L (Int.toNat (↑k : Int)) ln0))), (ds (Ln.group (List.getD L (Int.toNat (↑k : Int)) ln0))), (di (Ln.kind (List.getD L (Int.toNat (↑k : Int)) ln0))), (db (Ln.app (List.getD L (Int.toNat (↑k : Int)) ln0))), (di (Ln.n (List.getD L (Int.toNat (↑k : Int)) ln0))), (di (Ln.d (List.getD L (Int.toNat (↑k : Int)) ln0))), (di (Ln.err (List.getD L (Int.toNat (↑k : Int)) ln0)))]))), (20, (.d (.ptr [(di (Ln.err (List.getD L (Int.toNat (↑k : Int)) ln0)))]))), (21, (vi (Ln.err (List.getD L (Int.toNat (↑k : Int)) ln0)))), (22, (vb (Ln.err (List.getD L (Int.toNat (↑k : Int)) ln0) != (0 : Int))))], [(900, [(.arr ⟨false, 9, false, none⟩ 1 (stR (failL (List.take k L))))])]⟩))))) ∧
      (((decide ((↑k : Int) < (↑(List.length L) : Int)) && decide ((↑(List.length (failL (List.take k L))) : Int) < (1024 : Int))) = false) →
      AWP Tryz.prog G [.code (cAt (bodyOf Tryz.f18) [1, 1, 1])] ⟨regs 32 [(0, (.d (.slc 7 (List.length L) (lnsF L)))), (3, (.vec 900 1 0 (List.length (failL (List.take k L))))), (4, (vi ((↑k : Int)))), (6, (vi ((↑k : Int)))), (7, (.d (.slc 7 (List.length L) (lnsF L)))), (8, (vi ((↑(List.length L) : Int)))), (9, (vb (decide ((↑k : Int) < (↑(List.length L) : Int))))), (10, (vb (decide ((↑k : Int) < (↑(List.length L) : Int))))), (11, (.gate 10 true (decide ((↑k : Int) < (↑(List.length L) : Int))) (.vec 900 1 0 (List.length (failL (List.take k L)))))), (12, (.gate 10 true (decide ((↑k : Int) < (↑(List.length L) : Int))) (vi ((↑(List.length (failL (List.take k L))) : Int))))), (13, (.gate 10 true (decide ((↑k : Int) < (↑(List.length L) : Int))) (vb (decide ((↑(List.length (failL (List.take k L))) : Int) < (1024 : Int)))))), (14, (vb (decide ((↑k : Int) < (↑(List.length L) : Int)) && decide ((↑(List.length (failL (List.take k L))) : Int) < (1024 : Int)))))], [(900, [(.arr ⟨false, 9, false, none⟩ 1 (stR (failL (List.take k L))))])]⟩ (Ret Tryz.prog Tryz.f18 (DV.slc (1 : Nat) (List.length (failL L)) (stR (failL L))))))) (by kernel_rfl) ?_
    simp only [Int.toNat_natCast]
    have hfl := fail_len' L k
    have hc : (decide (((failL (List.take k L)).length : Int) < 1024)) = true := by simp; omega
    rw [hc, Bool.and_true]
    refine ⟨fun h1 => ⟨⟨by omega, of_decide_eq_true h1⟩, fun h2 => ⟨⟨⟨by omega, of_decide_eq_true h1⟩, ⟨by omega, by omega⟩, fun i hi => (by obtain rfl : i = 0 := (by omega); rfl)⟩, ⟨by omega, by have := of_decide_eq_true h1; omega⟩, Again.mkR [(30, 900)] rfl (k + 1) ?_ (by have := of_decide_eq_true h1; show k + 1 ≤ _; omega) (by have := of_decide_eq_true h1; omega)⟩, fun h2 => ⟨⟨by omega, by have := of_decide_eq_true h1; omega⟩, Again.mk (k + 1) ?_ (by have := of_decide_eq_true h1; show k + 1 ≤ _; omega) (by have := of_decide_eq_true h1; omega)⟩⟩, fun h1 => ?_⟩
    · have hk2 : k < L.length := by have := of_decide_eq_true h1; omega
      simp only [bne, Bool.not_eq_true'] at h2
      have e := fail_on hk2 h2
      refine of_eq (b :=
        (((((.d (.slc 7 (List.length L) (lnsF L))) : AV) = (.d (.slc 7 (List.length L) (lnsF L)))) ∧
        ((((.vec 900 1 0 (List.length (failL (List.take k L)) + (1 : Nat))) : AV) = (.vec 900 1 0 (List.length (failL (List.take (k + (1 : Nat)) L))))) ∧
        ((((vi ((↑k : Int) + (1 : Int))) : AV) = (vi ((↑(k + (1 : Nat)) : Int)))) ∧
        True))) ∧
        ((((some [(.arr ⟨false, 9, false, none⟩ 1 (fun i => bif Nat.blt i (List.length (failL (List.take k L))) then stR (failL (List.take k L)) i else elemF false (1 : Nat) [DV.con (Value.string (Ln.name (List.getD L k ln0)))] (i - List.length (failL (List.take k L)))))]) : (Option (List AV))) = (some [(.arr ⟨false, 9, false, none⟩ 1 (stR (failL (List.take (k + (1 : Nat)) L))))])) ∧
        True))) (by kernel_rfl) ?_
      refine ⟨⟨rfl, ?_, rfl, trivial⟩, ?_, trivial⟩
      · rw [e, List.length_append, List.length_singleton]
      · rw [e, stR_snoc]
    · have hk2 : k < L.length := by have := of_decide_eq_true h1; omega
      rw [bne, Bool.not_eq_false'] at h2
      have e := fail_off hk2 h2
      refine of_eq (b :=
        (((((.d (.slc 7 (List.length L) (lnsF L))) : AV) = (.d (.slc 7 (List.length L) (lnsF L)))) ∧
        ((((.vec 900 1 0 (List.length (failL (List.take k L)))) : AV) = (.vec 900 1 0 (List.length (failL (List.take (k + (1 : Nat)) L))))) ∧
        ((((vi ((↑k : Int) + (1 : Int))) : AV) = (vi ((↑(k + (1 : Nat)) : Int)))) ∧
        True))) ∧
        ((((some [(.arr ⟨false, 9, false, none⟩ 1 (stR (failL (List.take k L))))]) : (Option (List AV))) = (some [(.arr ⟨false, 9, false, none⟩ 1 (stR (failL (List.take (k + (1 : Nat)) L))))])) ∧
        True))) (by kernel_rfl) ?_
      refine ⟨⟨rfl, ?_, rfl, trivial⟩, ?_, trivial⟩
      · rw [e]
      · rw [e]
    · simp only [decide_eq_false_iff_not] at h1
      obtain rfl : k = L.length := by omega
      refine walk (orc := orcQ) (keep := []) (cuts := []) (n := 1000) follows ?_
      refine of_eqH (b :=
        (((.slc 1 (List.length (failL (List.take (List.length L) L))) (fun i => stR (failL (List.take (List.length L) L)) ((0 : Nat) + i))) : DV) = (.slc 1 (List.length (failL L)) (stR (failL L))))) (by kernel_rfl) ?_
      rw [List.take_length]
      simp only [Nat.zero_add]
noncomputable def S16 (l : List ByteArray) (k : Nat) : AS := ⟨regs Tryz.f16.ntmps [(0, .d (stL l)), (1, .d (stL l)), (5, vi k)], []⟩
theorem f16 (l : List ByteArray) (hl : l.length ≤ 1000000) : FnOK Tryz.prog G 16 [stL l, stL l] (db true) := by
  refine FnOK.walk (orc := orcQ) (keep := []) follows Tryz.func16 rfl Tryz.call16 ?_
  refine of_eqH (b :=
    (((((↑(List.length l) : Int) != (↑(List.length l) : Int)) = true) →
    (((db false) : DV) = (db true))) ∧
    ((((↑(List.length l) : Int) != (↑(List.length l) : Int)) = false) →
    AWP Tryz.prog G [.code (cAt (bodyOf Tryz.f16) [1, 1, 0, 1, 0]), (.blk 0), .code (cAt (bodyOf Tryz.f16) [1, 1, 1])] ⟨regs 26 [(0, (.d (.slc 1 (List.length l) (stF l)))), (1, (.d (.slc 1 (List.length l) (stF l)))), (4, (vb false)), (5, (vi 0)), (6, (.d (.slc 1 (List.length l) (stF l)))), (7, (vi ((↑(List.length l) : Int)))), (8, (.d (.slc 1 (List.length l) (stF l)))), (9, (vi ((↑(List.length l) : Int)))), (10, (vb ((↑(List.length l) : Int) != (↑(List.length l) : Int))))], []⟩ (Ret Tryz.prog Tryz.f16 (db true))))) (by kernel_rfl) ?_
  refine ⟨fun h => by simp at h, fun _ => ?_⟩
  refine AWP.loop (c := cAt (bodyOf Tryz.f16) [1, 1, 0, 1, 0, 0]) (by kernel_rfl) (S16 l) (fun k => k ≤ l.length) (fun k => l.length - k) 0 ?_ (Nat.zero_le _) ?_
  · refine of_eq (b :=
    (((((.d (.slc 1 (List.length l) (stF l))) : AV) = (.d (.slc 1 (List.length l) (stF l)))) ∧
    ((((.d (.slc 1 (List.length l) (stF l))) : AV) = (.d (.slc 1 (List.length l) (stF l)))) ∧
    ((((vi 0) : AV) = (vi 0)) ∧
    True))) ∧
    True)) (by kernel_rfl) ?_
    exact ⟨⟨rfl, rfl, rfl, trivial⟩, trivial⟩
  · rintro k hk
    refine walk (orc := orcQ) (keep := []) (cuts := []) (n := 1000) follows ?_
    refine of_eqH (b :=
      ((((decide ((↑k : Int) < (↑(List.length l) : Int))) = true) →
      (((((0 : Int) ≤ (↑k : Int)) ∧
      ((↑k : Int) < (↑(List.length l) : Int))) ∧
      (((0 : Int) ≤ (↑k : Int)) ∧
      ((↑k : Int) < (↑(List.length l) : Int)))) ∧
      ((((!ByteArray.toList (List.getD l (Int.toNat (↑k : Int)) ByteArray.empty) == ByteArray.toList (List.getD l (Int.toNat (↑k : Int)) ByteArray.empty)) = true) →
      (((db false) : DV) = (db true))) ∧
      (((!ByteArray.toList (List.getD l (Int.toNat (↑k : Int)) ByteArray.empty) == ByteArray.toList (List.getD l (Int.toNat (↑k : Int)) ByteArray.empty)) = false) →
      ((I64 ((↑k : Int) + (1 : Int))) ∧
      Again (S16 l) (fun k => k ≤ List.length l) (fun k => List.length l - k) k ⟨regs 26 [(0, (.d (.slc 1 (List.length l) (stF l)))), (1, (.d (.slc 1 (List.length l) (stF l)))), (5, (vi ((↑k : Int) + (1 : Int)))), (11, (vi ((↑k : Int)))), (12, (.d (.slc 1 (List.length l) (stF l)))), (13, (vi ((↑(List.length l) : Int)))), (14, (vb (decide ((↑k : Int) < (↑(List.length l) : Int))))), (15, (vi ((↑k : Int)))), (16, (vi ((↑k : Int) + (1 : Int)))), (17, (.d (.slc 1 (List.length l) (stF l)))), (18, (vi ((↑k : Int)))), (19, (.d (.ptr [(ds (List.getD l (Int.toNat (↑k : Int)) ByteArray.empty))]))), (20, (vs (List.getD l (Int.toNat (↑k : Int)) ByteArray.empty))), (21, (.d (.slc 1 (List.length l) (stF l)))), (22, (vi ((↑k : Int)))), (23, (.d (.ptr [(ds (List.getD l (Int.toNat (↑k : Int)) ByteArray.empty))]))), (24, (vs (List.getD l (Int.toNat (↑k : Int)) ByteArray.empty))), (25, (vb (!ByteArray.toList (List.getD l (Int.toNat (↑k : Int)) ByteArray.empty) == ByteArray.toList (List.getD l (Int.toNat (↑k : Int)) ByteArray.empty))))], []⟩))))) ∧
      (((decide ((↑k : Int) < (↑(List.length l) : Int))) = false) →
      AWP Tryz.prog G [.code (cAt (bodyOf Tryz.f16) [1, 1, 1])] ⟨regs 26 [(0, (.d (.slc 1 (List.length l) (stF l)))), (1, (.d (.slc 1 (List.length l) (stF l)))), (5, (vi ((↑k : Int)))), (11, (vi ((↑k : Int)))), (12, (.d (.slc 1 (List.length l) (stF l)))), (13, (vi ((↑(List.length l) : Int)))), (14, (vb (decide ((↑k : Int) < (↑(List.length l) : Int)))))], []⟩ (Ret Tryz.prog Tryz.f16 (db true))))) (by kernel_rfl) ?_
    refine ⟨fun h1 => ⟨⟨⟨by omega, of_decide_eq_true h1⟩, by omega, of_decide_eq_true h1⟩, fun h2 => by simp at h2, fun _ => ⟨⟨by omega, by have := of_decide_eq_true h1; omega⟩, Again.mk (k + 1) ?_ (by have := of_decide_eq_true h1; show k + 1 ≤ _; omega) (by have := of_decide_eq_true h1; omega)⟩⟩, fun h1 => ?_⟩
    · refine of_eq (b :=
      (((((.d (.slc 1 (List.length l) (stF l))) : AV) = (.d (.slc 1 (List.length l) (stF l)))) ∧
      ((((.d (.slc 1 (List.length l) (stF l))) : AV) = (.d (.slc 1 (List.length l) (stF l)))) ∧
      ((((vi ((↑k : Int) + (1 : Int))) : AV) = (vi ((↑(k + (1 : Nat)) : Int)))) ∧
      True))) ∧
      True)) (by kernel_rfl) ?_
      exact ⟨⟨rfl, rfl, rfl, trivial⟩, trivial⟩
    · refine walk (orc := orcQ) (keep := []) (cuts := []) (n := 1000) follows ?_
      refine of_eqH (b :=
        (((db true) : DV) = (db true))) (by kernel_rfl) ?_
      rfl
noncomputable def S15 (ps : List Pt) (p q h : Int) (k : Nat) : AS := ⟨regs Tryz.f15.ntmps [(2, .box 2 0), (3, .box 3 0), (5, vi k)], [(2, [.d (.slc 3 ps.length (ptF ps)), vi p, vi q, vi h]), (3, [.d (.slc 3 ps.length (ptF ps)), vi p, vi q, vi h])]⟩
theorem f15 (ps : List Pt) (p q h : Int) (hl : ps.length ≤ 1000000) : FnOK Tryz.prog G 15 [crV ps p q h, crV ps p q h] (db true) := by
  refine FnOK.walk (orc := orcQ) (keep := []) follows Tryz.func15 rfl Tryz.call15 ?_
  refine of_eqH (b :=
    (((((↑(List.length ps) : Int) != (↑(List.length ps) : Int) || !Bool.rec false (q == q) (p == p) || h != h) = true) →
    (((db false) : DV) = (db true))) ∧
    ((((↑(List.length ps) : Int) != (↑(List.length ps) : Int) || !Bool.rec false (q == q) (p == p) || h != h) = false) →
    AWP Tryz.prog G [.code (cAt (bodyOf Tryz.f15) [1, 1, 0, 1, 0]), (.blk 0), .code (cAt (bodyOf Tryz.f15) [1, 1, 1])] ⟨regs 45 [(0, (.d (.agg [(.slc 3 (List.length ps) (ptF ps)), (di p), (di q), (di h)]))), (1, (.d (.agg [(.slc 3 (List.length ps) (ptF ps)), (di p), (di q), (di h)]))), (2, (.box 2 0)), (3, (.box 3 0)), (4, (vb false)), (5, (vi 0)), (6, (.box 2 0)), (7, (.d (.slc 3 (List.length ps) (ptF ps)))), (8, (vi ((↑(List.length ps) : Int)))), (9, (.box 3 0)), (10, (.d (.slc 3 (List.length ps) (ptF ps)))), (11, (vi ((↑(List.length ps) : Int)))), (12, (vb ((↑(List.length ps) : Int) != (↑(List.length ps) : Int)))), (13, (vb ((↑(List.length ps) : Int) != (↑(List.length ps) : Int)))), (19, (vb ((↑(List.length ps) : Int) != (↑(List.length ps) : Int) || !Bool.rec false (q == q) (p == p)))), (20, (vb ((↑(List.length ps) : Int) != (↑(List.length ps) : Int) || !Bool.rec false (q == q) (p == p)))), (26, (vb ((↑(List.length ps) : Int) != (↑(List.length ps) : Int) || !Bool.rec false (q == q) (p == p) || h != h)))], [(3, [(.d (.slc 3 (List.length ps) (ptF ps))), (vi p), (vi q), (vi h)]), (2, [(.d (.slc 3 (List.length ps) (ptF ps))), (vi p), (vi q), (vi h)])]⟩ (Ret Tryz.prog Tryz.f15 (db true))))) (by kernel_rfl) ?_
  refine ⟨fun h => by simp at h, fun _ => ?_⟩
  refine AWP.loop (c := cAt (bodyOf Tryz.f15) [1, 1, 0, 1, 0, 0]) (by kernel_rfl) (S15 ps p q h) (fun k => k ≤ ps.length) (fun k => ps.length - k) 0 ?_ (Nat.zero_le _) ?_
  · refine of_eq (b :=
    (((((.box 2 0) : AV) = (.box 2 0)) ∧
    ((((.box 3 0) : AV) = (.box 3 0)) ∧
    ((((vi 0) : AV) = (vi 0)) ∧
    True))) ∧
    ((((some [(.d (.slc 3 (List.length ps) (ptF ps))), (vi p), (vi q), (vi h)]) : (Option (List AV))) = (some [(.d (.slc 3 (List.length ps) (ptF ps))), (vi p), (vi q), (vi h)])) ∧
    ((((some [(.d (.slc 3 (List.length ps) (ptF ps))), (vi p), (vi q), (vi h)]) : (Option (List AV))) = (some [(.d (.slc 3 (List.length ps) (ptF ps))), (vi p), (vi q), (vi h)])) ∧
    True)))) (by kernel_rfl) ?_
    exact ⟨⟨rfl, rfl, rfl, trivial⟩, rfl, rfl, trivial⟩
  · rintro k hk
    refine walk (orc := orcQ) (keep := []) (cuts := []) (n := 1000) follows ?_
    refine of_eqH (b :=
      ((((decide ((↑k : Int) < (↑(List.length ps) : Int))) = true) →
      (((((0 : Int) ≤ (↑k : Int)) ∧
      ((↑k : Int) < (↑(List.length ps) : Int))) ∧
      (((0 : Int) ≤ (↑k : Int)) ∧
      ((↑k : Int) < (↑(List.length ps) : Int)))) ∧
      ((((!Bool.rec false (Prod.fst (Prod.snd (List.getD ps (Int.toNat (↑k : Int)) (ByteArray.empty, (0 : Int), (0 : Int)))) == Prod.fst (Prod.snd (List.getD ps (Int.toNat (↑k : Int)) (ByteArray.empty, (0 : Int), (0 : Int)))) && Prod.snd (Prod.snd (List.getD ps (Int.toNat (↑k : Int)) (ByteArray.empty, (0 : Int), (0 : Int)))) == Prod.snd (Prod.snd (List.getD ps (Int.toNat (↑k : Int)) (ByteArray.empty, (0 : Int), (0 : Int))))) (ByteArray.toList (Prod.fst (List.getD ps (Int.toNat (↑k : Int)) (ByteArray.empty, (0 : Int), (0 : Int)))) == ByteArray.toList (Prod.fst (List.getD ps (Int.toNat (↑k : Int)) (ByteArray.empty, (0 : Int), (0 : Int)))))) = true) →
      (((db false) : DV) = (db true))) ∧
      (((!Bool.rec false (Prod.fst (Prod.snd (List.getD ps (Int.toNat (↑k : Int)) (ByteArray.empty, (0 : Int), (0 : Int)))) == Prod.fst (Prod.snd (List.getD ps (Int.toNat (↑k : Int)) (ByteArray.empty, (0 : Int), (0 : Int)))) && Prod.snd (Prod.snd (List.getD ps (Int.toNat (↑k : Int)) (ByteArray.empty, (0 : Int), (0 : Int)))) == Prod.snd (Prod.snd (List.getD ps (Int.toNat (↑k : Int)) (ByteArray.empty, (0 : Int), (0 : Int))))) (ByteArray.toList (Prod.fst (List.getD ps (Int.toNat (↑k : Int)) (ByteArray.empty, (0 : Int), (0 : Int)))) == ByteArray.toList (Prod.fst (List.getD ps (Int.toNat (↑k : Int)) (ByteArray.empty, (0 : Int), (0 : Int)))))) = false) →
      ((I64 ((↑k : Int) + (1 : Int))) ∧
      Again (S15 ps p q h) (fun k => k ≤ List.length ps) (fun k => List.length ps - k) k ⟨regs 45 [(2, (.box 2 0)), (3, (.box 3 0)), (5, (vi ((↑k : Int) + (1 : Int)))), (27, (vi ((↑k : Int)))), (28, (.box 2 0)), (29, (.d (.slc 3 (List.length ps) (ptF ps)))), (30, (vi ((↑(List.length ps) : Int)))), (31, (vb (decide ((↑k : Int) < (↑(List.length ps) : Int))))), (32, (vi ((↑k : Int)))), (33, (vi ((↑k : Int) + (1 : Int)))), (34, (.box 2 0)), (35, (.d (.slc 3 (List.length ps) (ptF ps)))), (36, (vi ((↑k : Int)))), (37, (.d (.ptr [(ds (Prod.fst (List.getD ps (Int.toNat (↑k : Int)) (ByteArray.empty, (0 : Int), (0 : Int))))), (di (Prod.fst (Prod.snd (List.getD ps (Int.toNat (↑k : Int)) (ByteArray.empty, (0 : Int), (0 : Int)))))), (di (Prod.snd (Prod.snd (List.getD ps (Int.toNat (↑k : Int)) (ByteArray.empty, (0 : Int), (0 : Int))))))]))), (38, (.d (.agg [(ds (Prod.fst (List.getD ps (Int.toNat (↑k : Int)) (ByteArray.empty, (0 : Int), (0 : Int))))), (di (Prod.fst (Prod.snd (List.getD ps (Int.toNat (↑k : Int)) (ByteArray.empty, (0 : Int), (0 : Int)))))), (di (Prod.snd (Prod.snd (List.getD ps (Int.toNat (↑k : Int)) (ByteArray.empty, (0 : Int), (0 : Int))))))]))), (39, (.box 3 0)), (40, (.d (.slc 3 (List.length ps) (ptF ps)))), (41, (vi ((↑k : Int)))), (42, (.d (.ptr [(ds (Prod.fst (List.getD ps (Int.toNat (↑k : Int)) (ByteArray.empty, (0 : Int), (0 : Int))))), (di (Prod.fst (Prod.snd (List.getD ps (Int.toNat (↑k : Int)) (ByteArray.empty, (0 : Int), (0 : Int)))))), (di (Prod.snd (Prod.snd (List.getD ps (Int.toNat (↑k : Int)) (ByteArray.empty, (0 : Int), (0 : Int))))))]))), (43, (.d (.agg [(ds (Prod.fst (List.getD ps (Int.toNat (↑k : Int)) (ByteArray.empty, (0 : Int), (0 : Int))))), (di (Prod.fst (Prod.snd (List.getD ps (Int.toNat (↑k : Int)) (ByteArray.empty, (0 : Int), (0 : Int)))))), (di (Prod.snd (Prod.snd (List.getD ps (Int.toNat (↑k : Int)) (ByteArray.empty, (0 : Int), (0 : Int))))))]))), (44, (vb (!Bool.rec false (Prod.fst (Prod.snd (List.getD ps (Int.toNat (↑k : Int)) (ByteArray.empty, (0 : Int), (0 : Int)))) == Prod.fst (Prod.snd (List.getD ps (Int.toNat (↑k : Int)) (ByteArray.empty, (0 : Int), (0 : Int)))) && Prod.snd (Prod.snd (List.getD ps (Int.toNat (↑k : Int)) (ByteArray.empty, (0 : Int), (0 : Int)))) == Prod.snd (Prod.snd (List.getD ps (Int.toNat (↑k : Int)) (ByteArray.empty, (0 : Int), (0 : Int))))) (ByteArray.toList (Prod.fst (List.getD ps (Int.toNat (↑k : Int)) (ByteArray.empty, (0 : Int), (0 : Int)))) == ByteArray.toList (Prod.fst (List.getD ps (Int.toNat (↑k : Int)) (ByteArray.empty, (0 : Int), (0 : Int))))))))], [(2, [(.d (.slc 3 (List.length ps) (ptF ps))), (vi p), (vi q), (vi h)]), (3, [(.d (.slc 3 (List.length ps) (ptF ps))), (vi p), (vi q), (vi h)])]⟩))))) ∧
      (((decide ((↑k : Int) < (↑(List.length ps) : Int))) = false) →
      AWP Tryz.prog G [.code (cAt (bodyOf Tryz.f15) [1, 1, 1])] ⟨regs 45 [(2, (.box 2 0)), (3, (.box 3 0)), (5, (vi ((↑k : Int)))), (27, (vi ((↑k : Int)))), (28, (.box 2 0)), (29, (.d (.slc 3 (List.length ps) (ptF ps)))), (30, (vi ((↑(List.length ps) : Int)))), (31, (vb (decide ((↑k : Int) < (↑(List.length ps) : Int)))))], [(2, [(.d (.slc 3 (List.length ps) (ptF ps))), (vi p), (vi q), (vi h)]), (3, [(.d (.slc 3 (List.length ps) (ptF ps))), (vi p), (vi q), (vi h)])]⟩ (Ret Tryz.prog Tryz.f15 (db true))))) (by kernel_rfl) ?_
    refine ⟨fun h1 => ⟨⟨⟨by omega, of_decide_eq_true h1⟩, by omega, of_decide_eq_true h1⟩, fun h2 => by simp at h2, fun _ => ⟨⟨by omega, by have := of_decide_eq_true h1; omega⟩, Again.mk (k + 1) ?_ (by have := of_decide_eq_true h1; show k + 1 ≤ _; omega) (by have := of_decide_eq_true h1; omega)⟩⟩, fun h1 => ?_⟩
    · refine of_eq (b :=
      (((((.box 2 0) : AV) = (.box 2 0)) ∧
      ((((.box 3 0) : AV) = (.box 3 0)) ∧
      ((((vi ((↑k : Int) + (1 : Int))) : AV) = (vi ((↑(k + (1 : Nat)) : Int)))) ∧
      True))) ∧
      ((((some [(.d (.slc 3 (List.length ps) (ptF ps))), (vi p), (vi q), (vi h)]) : (Option (List AV))) = (some [(.d (.slc 3 (List.length ps) (ptF ps))), (vi p), (vi q), (vi h)])) ∧
      ((((some [(.d (.slc 3 (List.length ps) (ptF ps))), (vi p), (vi q), (vi h)]) : (Option (List AV))) = (some [(.d (.slc 3 (List.length ps) (ptF ps))), (vi p), (vi q), (vi h)])) ∧
      True)))) (by kernel_rfl) ?_
      exact ⟨⟨rfl, rfl, rfl, trivial⟩, rfl, rfl, trivial⟩
    · refine walk (orc := orcQ) (keep := []) (cuts := []) (n := 1000) follows ?_
      refine of_eqH (b :=
        (((db true) : DV) = (db true))) (by kernel_rfl) ?_
      rfl
end Go.Proofs
set_option autoImplicit false
namespace Go.Proofs
open Go Go.Ab Go.RowKit
set_option maxHeartbeats 2000000
set_option maxRecDepth 100000
variable {G : IH}
def orcF (L : List Ln) : Oracle := fun f a => match f, a with
  | 37, [_] => some (db (!badL L))
  | 38, [] => some (fr 0 1)
  | 39, [_, .con (.int .i64 i), fr p q] => some (.tup [ds (sNm L i.toNat p q), fr (sP L i.toNat p q) (sQ L i.toNat p q), db (sB L i.toNat p q), di (sE L i.toNat p q)])
  | 40, [fr a b, fr c d] => some (.tup [fr (sub1 a b c d) (sub2 a b c d), di (sub3 a b c d)])
  | 41, [fr n d] => some (.tup [di (hunF n d), db (ok n d)])
  | _, _ => none
abbrev ordD : DV := .slc 1 4 (fun i => di (kd i))
abbrev bx14 (t : T) : List (Nat × List AV) := [(2, [.d (.con (.slice none 0 0)), vi 0, vi 0, vi 0]), (4, [.vec 900 3 0 t.ps.length, vi t.p, vi t.q, vi 0]), (900, [.arr ptK 3 (ptR t.ps)])]
noncomputable def S14 (L : List Ln) (k : Nat) (t : T) : AS := ⟨regs Tryz.f14.ntmps [(0, .d (lnsD L)), (2, .box 2 0), (4, .box 4 0), (5, .d ordD), (6, vi k)], bx14 t⟩
noncomputable def S14i (L : List Ln) (k i : Nat) (t : T) : AS := ⟨regs Tryz.f14.ntmps [(0, .d (lnsD L)), (2, .box 2 0), (4, .box 4 0), (5, .d ordD), (6, vi k), (7, vi i)], bx14 t⟩
theorem f14 (L : List Ln) (hS : Short L) (hL : L.length ≤ 100000) (r : DV) (hr1 : badL L = true → r = .tup [nilC, di 1]) (hr2 : badL L = false → badT (combT L) = true → r = .tup [nilC, di 2]) (hr3 : badL L = false → badT (combT L) = false → r = .tup [crR (combT L), di 0]) : FnOK Tryz.prog G 14 [lnsD L] r := by
  refine FnOK.of_body (show Tryz.prog.funcs[14]? = some Tryz.f14 from Tryz.func14) rfl Tryz.call14 ?_
  refine walk (orc := orcF L) (keep := []) (cuts := []) (n := 1000) follows ?_
  refine of_eqH (b :=
    (FnOK Tryz.prog G 37 [(.slc 7 (List.length L) (lnsF L))] (db (!badL L)) ∧
    ((((!!badL L) = true) →
    (((.tup [(.agg [(.con (.slice none 0 0)), (di 0), (di 0), (di 0)]), (di 1)]) : DV) = r)) ∧
    (((!!badL L) = false) →
    (FnOK Tryz.prog G 38 [] (.agg [(di 0), (di 1)]) ∧
    AWP Tryz.prog G [.code (cAt (bodyOf Tryz.f14) [1, 1, 1, 1, 0, 1, 0]), (.blk 0), .code (cAt (bodyOf Tryz.f14) [1, 1, 1, 1, 1])] ⟨regs 97 [(0, (.d (.slc 7 (List.length L) (lnsF L)))), (2, (.box 2 0)), (3, (vi 0)), (4, (.box 4 0)), (5, (.d (.slc 1 4 (elemF false 1 [(di 0), (di 1), (di 3), (di 2)])))), (6, (vi 0)), (13, (.d (.slc 7 (List.length L) (lnsF L)))), (14, (vb (!badL L))), (15, (vb (!!badL L))), (17, (.d (.agg [(di 0), (di 1)]))), (18, (.d (.agg [(.con (.slice none 0 0)), (di 0), (di 1), (di 0)]))), (19, (.d (.slc 1 4 (elemF false 1 [(di 0), (di 1), (di 3), (di 2)]))))], [(4, [(.d (.con (.slice none 0 0))), (vi 0), (vi 1), (vi 0)]), (2, [(.d (.con (.slice none 0 0))), (vi 0), (vi 0), (vi 0)])]⟩ (Ret Tryz.prog Tryz.f14 r)))))) (by kernel_rfl) ?_
  refine ⟨f37 L hS hL, fun h => ?_, fun h => ⟨f38, ?_⟩⟩
  · rw [Bool.not_not] at h
    rw [hr1 h]; rfl
  · rw [Bool.not_not] at h
    refine AWP.pre (.nilCell _ 4 0 900 3 ptK (ptR []) (by kernel_rfl) (by kernel_rfl)) ?_
    refine AWP.pre (.reg _ 5 (.d ordD) fun β h v hv => ?_) ?_
    · refine DV.rel_slc_congr (f := elemF false 1 [di 0, di 1, di 3, di 2]) (fun i hi => ?_) hv
      have h4 : i = 0 ∨ i = 1 ∨ i = 2 ∨ i = 3 := by omega
      rcases h4 with rfl | rfl | rfl | rfl <;> rfl
    refine AWP.loop (c := cAt (bodyOf Tryz.f14) [1, 1, 1, 1, 0, 1, 0, 0]) (by kernel_rfl) (fun x : Nat × T => S14 L x.1 x.2) (fun x => x.1 ≤ 4 ∧ x.2 = tk L x.1 ∧ x.2.wr = false) (fun x => 4 - x.1) (0, t0) ?_ ⟨by decide, rfl, rfl⟩ ?_
    · refine of_eq (b :=
      (((((.d (.slc 7 (List.length L) (lnsF L))) : AV) = (.d (.slc 7 (List.length L) (lnsF L)))) ∧
      ((((.box 2 0) : AV) = (.box 2 0)) ∧
      ((((.box 4 0) : AV) = (.box 4 0)) ∧
      ((((.d (.slc 1 4 (fun i => DV.con (Value.int IntKind.i64 (kd i))))) : AV) = (.d (.slc 1 4 (fun i => DV.con (Value.int IntKind.i64 (kd i)))))) ∧
      ((((vi 0) : AV) = (vi 0)) ∧
      True))))) ∧
      ((((some [(.d (.con (.slice none 0 0))), (vi 0), (vi 0), (vi 0)]) : (Option (List AV))) = (some [(.d (.con (.slice none 0 0))), (vi 0), (vi 0), (vi 0)])) ∧
      ((((some [(.vec 900 3 0 0), (vi 0), (vi 1), (vi 0)]) : (Option (List AV))) = (some [(.vec 900 3 0 0), (vi 0), (vi 1), (vi 0)])) ∧
      ((((some [(.arr ⟨true, 50, false, none⟩ 3 (ptR []))]) : (Option (List AV))) = (some [(.arr ⟨true, 50, false, none⟩ 3 (ptR []))])) ∧
      True))))) (by kernel_rfl) ?_
      exact ⟨⟨rfl, rfl, rfl, rfl, rfl, trivial⟩, rfl, rfl, rfl, trivial⟩
    · rintro ⟨k, t⟩ ⟨hk, ht, hw⟩
      simp only at hk ht hw
      refine walk (orc := orcF L) (keep := []) (cuts := []) (n := 1000) follows ?_
      refine of_eqH (b :=
        ((((decide ((↑k : Int) < (↑(4 : Nat) : Int))) = true) →
        AWP Tryz.prog G [.code (cAt (bodyOf Tryz.f14) [1, 1, 1, 1, 0, 1, 0, 0, 1, 0, 0, 1, 0]), (.blk 2), (.blk 1), .code (cAt (bodyOf Tryz.f14) [1, 1, 1, 1, 0, 1, 0, 0, 1, 1])] ⟨regs 97 [(0, (.d (.slc 7 (List.length L) (lnsF L)))), (2, (.box 2 0)), (4, (.box 4 0)), (5, (.d (.slc 1 4 (fun i => DV.con (Value.int IntKind.i64 (kd i)))))), (6, (vi ((↑k : Int)))), (7, (vi 0)), (20, (vi ((↑k : Int)))), (21, (.d (.slc 1 4 (fun i => DV.con (Value.int IntKind.i64 (kd i)))))), (22, (vi 4)), (23, (vb (decide ((↑k : Int) < (↑(4 : Nat) : Int)))))], [(2, [(.d (.con (.slice none 0 0))), (vi 0), (vi 0), (vi 0)]), (4, [(.vec 900 3 0 (List.length (T.ps t))), (vi (T.p t)), (vi (T.q t)), (vi 0)]), (900, [(.arr ⟨true, 50, false, none⟩ 3 (ptR (T.ps t)))])]⟩ (RoundQ Tryz.prog G [It.blk (0 : Nat), It.code (Code.seq (Code.region (20 : Nat) #[{ dst := some (86 : Nat), op := Op.fieldAddr (29 : Nat) (Operand.tmp (4 : Nat)) (1 : Nat), type := (0 : Nat), pos := "ref.go:127", after := #[], guard := none }, { dst := some (87 : Nat), op := Op.load (27 : Nat) (Operand.tmp (86 : Nat)), type := (27 : Nat), pos := "ref.go:127", after := #[{ on := (0 : Nat), ground := Ground.data }], guard := none }, { dst := some (88 : Nat), op := Op.call { callee := Callee.value (Operand.func (41 : Nat)), args := #[Operand.tmp (87 : Nat)], argTypes := #[(27 : Nat)] }, type := (35 : Nat), pos := "ref.go:127", after := #[{ on := (1 : Nat), ground := Ground.data }], guard := none }, { dst := some (85 : Nat), op := Op.move (Operand.tmp (88 : Nat)), type := (35 : Nat), pos := "ref.go:127", after := #[{ on := (2 : Nat), ground := Ground.data }], guard := none }, { dst := some (89 : Nat), op := Op.extract (Operand.tmp (85 : Nat)) (0 : Nat), type := (3 : Nat), pos := "ref.go:127", after := #[{ on := (3 : Nat), ground := Ground.data }], guard := none }, { dst := some (90 : Nat), op := Op.extract (Operand.tmp (85 : Nat)) (1 : Nat), type := (4 : Nat), pos := "ref.go:127", after := #[{ on := (3 : Nat), ground := Ground.data }, { on := (7 : Nat), ground := Ground.gcOnly Departure.lateStores }], guard := none }, { dst := some (91 : Nat), op := Op.fieldAddr (29 : Nat) (Operand.tmp (4 : Nat)) (2 : Nat), type := (0 : Nat), pos := "ref.go:127", after := #[{ on := (0 : Nat), ground := Ground.phase }, { on := (1 : Nat), ground := Ground.phase }, { on := (2 : Nat), ground := Ground.phase }, { on := (3 : Nat), ground := Ground.phase }, { on := (4 : Nat), ground := Ground.phase }, { on := (5 : Nat), ground := Ground.textOnly Departure.lateStores }], guard := none }, { dst := none, op := Op.store (3 : Nat) (Operand.tmp (91 : Nat)) (Operand.tmp (89 : Nat)), type := (0 : Nat), pos := "ref.go:127", after := #[{ on := (6 : Nat), ground := Ground.data }, { on := (4 : Nat), ground := Ground.data }, { on := (2 : Nat), ground := Ground.chain }, { on := (0 : Nat), ground := Ground.phase }, { on := (1 : Nat), ground := Ground.phase }, { on := (2 : Nat), ground := Ground.phase }, { on := (3 : Nat), ground := Ground.phase }, { on := (4 : Nat), ground := Ground.phase }, { on := (5 : Nat), ground := Ground.textOnly Departure.lateStores }], guard := none }] false) (Code.seq (Code.seq (Code.region (21 : Nat) #[{ dst := some (92 : Nat), op := Op.fieldAddr (29 : Nat) (Operand.tmp (4 : Nat)) (2 : Nat), type := (0 : Nat), pos := "ref.go:128", after := #[], guard := none }, { dst := some (93 : Nat), op := Op.load (3 : Nat) (Operand.tmp (92 : Nat)), type := (3 : Nat), pos := "ref.go:128", after := #[{ on := (0 : Nat), ground := Ground.data }], guard := none }, { dst := some (94 : Nat), op := Op.binOp BinOp.gtr (3 : Nat) (Operand.tmp (93 : Nat)) (Operand.const (Value.int IntKind.i64 (100000000 : Int))) (3 : Nat), type := (4 : Nat), pos := "ref.go:128", after := #[{ on := (1 : Nat), ground := Ground.data }], guard := none }] false) (Code.cond (Operand.tmp (94 : Nat)) (Code.seq (Code.region (22 : Nat) #[{ dst := some (95 : Nat), op := Op.build (29 : Nat) #[], type := (29 : Nat), pos := "ref.go:129", after := #[], guard := none }, { dst := none, op := Op.store (29 : Nat) (Operand.tmp (2 : Nat)) (Operand.tmp (95 : Nat)), type := (0 : Nat), pos := "ref.go:129", after := #[{ on := (0 : Nat), ground := Ground.data }, { on := (0 : Nat), ground := Ground.phase }], guard := none }, { dst := some (3 : Nat), op := Op.assign (Operand.const (Value.int IntKind.i64 (2 : Int))), type := (30 : Nat), pos := "ref.go:129", after := #[{ on := (1 : Nat), ground := Ground.chain }, { on := (0 : Nat), ground := Ground.phase }, { on := (1 : Nat), ground := Ground.phase }], guard := none }] false) Code.ret) Code.skip)) (Code.seq (Code.region (23 : Nat) #[{ dst := some (96 : Nat), op := Op.load (29 : Nat) (Operand.tmp (4 : Nat)), type := (29 : Nat), pos := "ref.go:131", after := #[], guard := none }, { dst := none, op := Op.store (29 : Nat) (Operand.tmp (2 : Nat)) (Operand.tmp (96 : Nat)), type := (0 : Nat), pos := "ref.go:131", after := #[{ on := (0 : Nat), ground := Ground.data }, { on := (0 : Nat), ground := Ground.phase }], guard := none }, { dst := some (3 : Nat), op := Op.assign (Operand.const (Value.int IntKind.i64 (0 : Int))), type := (30 : Nat), pos := "ref.go:131", after := #[{ on := (1 : Nat), ground := Ground.chain }, { on := (0 : Nat), ground := Ground.phase }, { on := (1 : Nat), ground := Ground.phase }], guard := none }] false) Code.ret)))] (Ret Tryz.prog Tryz.f14 r) (fun x => S14 L (Prod.fst x) (Prod.snd x)) (fun x => Prod.fst x ≤ (4 : Nat) ∧ Prod.snd x = tk L (Prod.fst x) ∧ T.wr (Prod.snd x) = false) (fun x => (4 : Nat) - Prod.fst x) (k, t))) ∧
        (((decide ((↑k : Int) < (↑(4 : Nat) : Int))) = false) →
        AWP Tryz.prog G [.code (cAt (bodyOf Tryz.f14) [1, 1, 1, 1, 1])] ⟨regs 97 [(0, (.d (.slc 7 (List.length L) (lnsF L)))), (2, (.box 2 0)), (4, (.box 4 0)), (5, (.d (.slc 1 4 (fun i => DV.con (Value.int IntKind.i64 (kd i)))))), (6, (vi ((↑k : Int)))), (20, (vi ((↑k : Int)))), (21, (.d (.slc 1 4 (fun i => DV.con (Value.int IntKind.i64 (kd i)))))), (22, (vi 4)), (23, (vb (decide ((↑k : Int) < (↑(4 : Nat) : Int)))))], [(2, [(.d (.con (.slice none 0 0))), (vi 0), (vi 0), (vi 0)]), (4, [(.vec 900 3 0 (List.length (T.ps t))), (vi (T.p t)), (vi (T.q t)), (vi 0)]), (900, [(.arr ⟨true, 50, false, none⟩ 3 (ptR (T.ps t)))])]⟩ (Ret Tryz.prog Tryz.f14 r)))) (by kernel_rfl) ?_
      refine ⟨fun hk2 => ?_, fun hk2 => ?_⟩
      · have hk2 : k < 4 := by have := of_decide_eq_true hk2; omega
        refine AWP.loop (c := cAt (bodyOf Tryz.f14) [1, 1, 1, 1, 0, 1, 0, 0, 1, 0, 0, 1, 0, 0]) (by kernel_rfl) (fun x : Nat × T => S14i L k x.1 x.2) (fun x => x.1 ≤ L.length ∧ x.2 = phase L (kd k) x.1 (tk L k) ∧ x.2.wr = false) (fun x => L.length - x.1) (0, t) ?_ ⟨Nat.zero_le _, ht, hw⟩ ?_
        · refine of_eq (b :=
          (((((.d (.slc 7 (List.length L) (lnsF L))) : AV) = (.d (.slc 7 (List.length L) (lnsF L)))) ∧
          ((((.box 2 0) : AV) = (.box 2 0)) ∧
          ((((.box 4 0) : AV) = (.box 4 0)) ∧
          ((((.d (.slc 1 4 (fun i => DV.con (Value.int IntKind.i64 (kd i))))) : AV) = (.d (.slc 1 4 (fun i => DV.con (Value.int IntKind.i64 (kd i)))))) ∧
          ((((vi ((↑k : Int))) : AV) = (vi ((↑k : Int)))) ∧
          ((((vi 0) : AV) = (vi ((↑(0 : Nat) : Int)))) ∧
          True)))))) ∧
          ((((some [(.d (.con (.slice none 0 0))), (vi 0), (vi 0), (vi 0)]) : (Option (List AV))) = (some [(.d (.con (.slice none 0 0))), (vi 0), (vi 0), (vi 0)])) ∧
          ((((some [(.vec 900 3 0 (List.length (T.ps t))), (vi (T.p t)), (vi (T.q t)), (vi 0)]) : (Option (List AV))) = (some [(.vec 900 3 0 (List.length (T.ps t))), (vi (T.p t)), (vi (T.q t)), (vi 0)])) ∧
          ((((some [(.arr ⟨true, 50, false, none⟩ 3 (ptR (T.ps t)))]) : (Option (List AV))) = (some [(.arr ⟨true, 50, false, none⟩ 3 (ptR (T.ps t)))])) ∧
          True))))) (by kernel_rfl) ?_
          exact ⟨⟨rfl, rfl, rfl, rfl, rfl, rfl, trivial⟩, rfl, rfl, rfl, trivial⟩
        · rintro ⟨i, u⟩ ⟨hi, hu, hw⟩
          simp only at hi hu hw
          refine walk (orc := orcF L) (keep := []) (cuts := []) (n := 1000) follows ?_
          refine of_eqH (b :=
            ((((decide ((↑i : Int) < (↑(List.length L) : Int))) = true) →
            (((((0 : Int) ≤ (↑i : Int)) ∧
            ((↑i : Int) < (↑(List.length L) : Int))) ∧
            ((((0 : Int) ≤ (↑k : Int)) ∧
            ((↑k : Int) < (↑(4 : Nat) : Int))) ∧
            (((!Ln.kind (List.getD L (Int.toNat (↑i : Int)) ln0) != kd (Int.toNat (↑k : Int))) = true) →
            (((0 : Int) ≤ (↑i : Int)) ∧
            ((↑i : Int) < (↑(List.length L) : Int)))))) ∧
            ((((Ln.kind (List.getD L (Int.toNat (↑i : Int)) ln0) != kd (Int.toNat (↑k : Int)) || !Ln.app (List.getD L (Int.toNat (↑i : Int)) ln0)) = true) →
            ((I64 ((↑i : Int) + (1 : Int))) ∧
            Again (fun x => S14i L k (Prod.fst x) (Prod.snd x)) (fun x => Prod.fst x ≤ List.length L ∧ Prod.snd x = phase L (kd k) (Prod.fst x) (tk L k) ∧ T.wr (Prod.snd x) = false) (fun x => List.length L - Prod.fst x) ((i, u)) ⟨regs 97 [(0, (.d (.slc 7 (List.length L) (lnsF L)))), (2, (.box 2 0)), (4, (.box 4 0)), (5, (.d (.slc 1 4 (fun i => DV.con (Value.int IntKind.i64 (kd i)))))), (6, (vi ((↑k : Int)))), (7, (vi ((↑i : Int) + (1 : Int)))), (26, (vi ((↑i : Int)))), (27, (.d (.slc 7 (List.length L) (lnsF L)))), (28, (vi ((↑(List.length L) : Int)))), (29, (vb (decide ((↑i : Int) < (↑(List.length L) : Int))))), (30, (vi ((↑i : Int)))), (31, (vi ((↑i : Int) + (1 : Int)))), (32, (.d (.slc 7 (List.length L) (lnsF L)))), (33, (vi ((↑i : Int)))), (34, (.d (.ptr [(ds (Ln.name (List.getD L (Int.toNat (↑i : Int)) ln0))), (ds (Ln.group (List.getD L (Int.toNat (↑i : Int)) ln0))), (di (Ln.kind (List.getD L (Int.toNat (↑i : Int)) ln0))), (db (Ln.app (List.getD L (Int.toNat (↑i : Int)) ln0))), (di (Ln.n (List.getD L (Int.toNat (↑i : Int)) ln0))), (di (Ln.d (List.getD L (Int.toNat (↑i : Int)) ln0))), (di (Ln.err (List.getD L (Int.toNat (↑i : Int)) ln0)))]))), (35, (.d (.ptr [(di (Ln.kind (List.getD L (Int.toNat (↑i : Int)) ln0))), (db (Ln.app (List.getD L (Int.toNat (↑i : Int)) ln0))), (di (Ln.n (List.getD L (Int.toNat (↑i : Int)) ln0))), (di (Ln.d (List.getD L (Int.toNat (↑i : Int)) ln0))), (di (Ln.err (List.getD L (Int.toNat (↑i : Int)) ln0)))]))), (36, (vi (Ln.kind (List.getD L (Int.toNat (↑i : Int)) ln0)))), (37, (.d (.slc 1 4 (fun i => DV.con (Value.int IntKind.i64 (kd i)))))), (38, (vi ((↑k : Int)))), (39, (.d (.ptr [(di (kd (Int.toNat (↑k : Int))))]))), (40, (vi (kd (Int.toNat (↑k : Int))))), (41, (vb (Ln.kind (List.getD L (Int.toNat (↑i : Int)) ln0) != kd (Int.toNat (↑k : Int))))), (42, (vb (Ln.kind (List.getD L (Int.toNat (↑i : Int)) ln0) != kd (Int.toNat (↑k : Int))))), (49, (vb (Ln.kind (List.getD L (Int.toNat (↑i : Int)) ln0) != kd (Int.toNat (↑k : Int)) || !Ln.app (List.getD L (Int.toNat (↑i : Int)) ln0))))], [(2, [(.d (.con (.slice none 0 0))), (vi 0), (vi 0), (vi 0)]), (4, [(.vec 900 3 0 (List.length (T.ps u))), (vi (T.p u)), (vi (T.q u)), (vi 0)]), (900, [(.arr ⟨true, 50, false, none⟩ 3 (ptR (T.ps u)))])]⟩)) ∧
            (((Ln.kind (List.getD L (Int.toNat (↑i : Int)) ln0) != kd (Int.toNat (↑k : Int)) || !Ln.app (List.getD L (Int.toNat (↑i : Int)) ln0)) = false) →
            (FnOK Tryz.prog G 39 [(.slc 7 (List.length L) (lnsF L)), (di ((↑i : Int))), (.agg [(di (T.p u)), (di (T.q u))])] (.tup [(ds (sNm L (Int.toNat (↑i : Int)) (T.p u) (T.q u))), (.agg [(di (sP L (Int.toNat (↑i : Int)) (T.p u) (T.q u))), (di (sQ L (Int.toNat (↑i : Int)) (T.p u) (T.q u)))]), (db (sB L (Int.toNat (↑i : Int)) (T.p u) (T.q u))), (di (sE L (Int.toNat (↑i : Int)) (T.p u) (T.q u)))]) ∧
            ((((sE L (Int.toNat (↑i : Int)) (T.p u) (T.q u) != (0 : Int)) = true) →
            (((.tup [(.agg [(.con (.slice none 0 0)), (di 0), (di 0), (di 0)]), (di 2)]) : DV) = r)) ∧
            (((sE L (Int.toNat (↑i : Int)) (T.p u) (T.q u) != (0 : Int)) = false) →
            ((((!sB L (Int.toNat (↑i : Int)) (T.p u) (T.q u)) = true) →
            ((I64 ((↑i : Int) + (1 : Int))) ∧
            Again (fun x => S14i L k (Prod.fst x) (Prod.snd x)) (fun x => Prod.fst x ≤ List.length L ∧ Prod.snd x = phase L (kd k) (Prod.fst x) (tk L k) ∧ T.wr (Prod.snd x) = false) (fun x => List.length L - Prod.fst x) ((i, u)) ⟨regs 97 [(0, (.d (.slc 7 (List.length L) (lnsF L)))), (2, (.box 2 0)), (4, (.box 4 0)), (5, (.d (.slc 1 4 (fun i => DV.con (Value.int IntKind.i64 (kd i)))))), (6, (vi ((↑k : Int)))), (7, (vi ((↑i : Int) + (1 : Int)))), (8, (vs (sNm L (Int.toNat (↑i : Int)) (T.p u) (T.q u)))), (9, (.box 9 0)), (10, (vb (sB L (Int.toNat (↑i : Int)) (T.p u) (T.q u)))), (11, (vi (sE L (Int.toNat (↑i : Int)) (T.p u) (T.q u)))), (26, (vi ((↑i : Int)))), (27, (.d (.slc 7 (List.length L) (lnsF L)))), (28, (vi ((↑(List.length L) : Int)))), (29, (vb (decide ((↑i : Int) < (↑(List.length L) : Int))))), (30, (vi ((↑i : Int)))), (31, (vi ((↑i : Int) + (1 : Int)))), (32, (.d (.slc 7 (List.length L) (lnsF L)))), (33, (vi ((↑i : Int)))), (34, (.d (.ptr [(ds (Ln.name (List.getD L (Int.toNat (↑i : Int)) ln0))), (ds (Ln.group (List.getD L (Int.toNat (↑i : Int)) ln0))), (di (Ln.kind (List.getD L (Int.toNat (↑i : Int)) ln0))), (db (Ln.app (List.getD L (Int.toNat (↑i : Int)) ln0))), (di (Ln.n (List.getD L (Int.toNat (↑i : Int)) ln0))), (di (Ln.d (List.getD L (Int.toNat (↑i : Int)) ln0))), (di (Ln.err (List.getD L (Int.toNat (↑i : Int)) ln0)))]))), (35, (.d (.ptr [(di (Ln.kind (List.getD L (Int.toNat (↑i : Int)) ln0))), (db (Ln.app (List.getD L (Int.toNat (↑i : Int)) ln0))), (di (Ln.n (List.getD L (Int.toNat (↑i : Int)) ln0))), (di (Ln.d (List.getD L (Int.toNat (↑i : Int)) ln0))), (di (Ln.err (List.getD L (Int.toNat (↑i : Int)) ln0)))]))), (36, (vi (Ln.kind (List.getD L (Int.toNat (↑i : Int)) ln0)))), (37, (.d (.slc 1 4 (fun i => DV.con (Value.int IntKind.i64 (kd i)))))), (38, (vi ((↑k : Int)))), (39, (.d (.ptr [(di (kd (Int.toNat (↑k : Int))))]))), (40, (vi (kd (Int.toNat (↑k : Int))))), (41, (vb (Ln.kind (List.getD L (Int.toNat (↑i : Int)) ln0) != kd (Int.toNat (↑k : Int))))), (42, (vb (Ln.kind (List.getD L (Int.toNat (↑i : Int)) ln0) != kd (Int.toNat (↑k : Int))))), (49, (vb (Ln.kind (List.getD L (Int.toNat (↑i : Int)) ln0) != kd (Int.toNat (↑k : Int)) || !Ln.app (List.getD L (Int.toNat (↑i : Int)) ln0)))), (50, (.d (.tup [(ds (sNm L (Int.toNat (↑i : Int)) (T.p u) (T.q u))), (.agg [(di (sP L (Int.toNat (↑i : Int)) (T.p u) (T.q u))), (di (sQ L (Int.toNat (↑i : Int)) (T.p u) (T.q u)))]), (db (sB L (Int.toNat (↑i : Int)) (T.p u) (T.q u))), (di (sE L (Int.toNat (↑i : Int)) (T.p u) (T.q u)))]))), (51, (.d (.slc 7 (List.length L) (lnsF L)))), (52, (vi ((↑i : Int)))), (53, (.box 4 1)), (54, (.d (.agg [(di (T.p u)), (di (T.q u))]))), (55, (.d (.tup [(ds (sNm L (Int.toNat (↑i : Int)) (T.p u) (T.q u))), (.agg [(di (sP L (Int.toNat (↑i : Int)) (T.p u) (T.q u))), (di (sQ L (Int.toNat (↑i : Int)) (T.p u) (T.q u)))]), (db (sB L (Int.toNat (↑i : Int)) (T.p u) (T.q u))), (di (sE L (Int.toNat (↑i : Int)) (T.p u) (T.q u)))]))), (56, (vs (sNm L (Int.toNat (↑i : Int)) (T.p u) (T.q u)))), (57, (.d (.agg [(di (sP L (Int.toNat (↑i : Int)) (T.p u) (T.q u))), (di (sQ L (Int.toNat (↑i : Int)) (T.p u) (T.q u)))]))), (58, (vb (sB L (Int.toNat (↑i : Int)) (T.p u) (T.q u)))), (59, (vi (sE L (Int.toNat (↑i : Int)) (T.p u) (T.q u)))), (60, (vi (sE L (Int.toNat (↑i : Int)) (T.p u) (T.q u)))), (61, (vb (sE L (Int.toNat (↑i : Int)) (T.p u) (T.q u) != (0 : Int)))), (63, (vb (sB L (Int.toNat (↑i : Int)) (T.p u) (T.q u)))), (64, (vb (!sB L (Int.toNat (↑i : Int)) (T.p u) (T.q u))))], [(9, [(vi (sP L (Int.toNat (↑i : Int)) (T.p u) (T.q u))), (vi (sQ L (Int.toNat (↑i : Int)) (T.p u) (T.q u)))]), (2, [(.d (.con (.slice none 0 0))), (vi 0), (vi 0), (vi 0)]), (4, [(.vec 900 3 0 (List.length (T.ps u))), (vi (T.p u)), (vi (T.q u)), (vi 0)]), (900, [(.arr ⟨true, 50, false, none⟩ 3 (ptR (T.ps u)))])]⟩)) ∧
            (((!sB L (Int.toNat (↑i : Int)) (T.p u) (T.q u)) = false) →
            (FnOK Tryz.prog G 40 [(.agg [(di (sP L (Int.toNat (↑i : Int)) (T.p u) (T.q u))), (di (sQ L (Int.toNat (↑i : Int)) (T.p u) (T.q u)))]), (.agg [(di (T.p u)), (di (T.q u))])] (.tup [(.agg [(di (sub1 (sP L (Int.toNat (↑i : Int)) (T.p u) (T.q u)) (sQ L (Int.toNat (↑i : Int)) (T.p u) (T.q u)) (T.p u) (T.q u))), (di (sub2 (sP L (Int.toNat (↑i : Int)) (T.p u) (T.q u)) (sQ L (Int.toNat (↑i : Int)) (T.p u) (T.q u)) (T.p u) (T.q u)))]), (di (sub3 (sP L (Int.toNat (↑i : Int)) (T.p u) (T.q u)) (sQ L (Int.toNat (↑i : Int)) (T.p u) (T.q u)) (T.p u) (T.q u)))]) ∧
            ((((sub3 (sP L (Int.toNat (↑i : Int)) (T.p u) (T.q u)) (sQ L (Int.toNat (↑i : Int)) (T.p u) (T.q u)) (T.p u) (T.q u) != (0 : Int)) = true) →
            (((.tup [(.agg [(.con (.slice none 0 0)), (di 0), (di 0), (di 0)]), (di 2)]) : DV) = r)) ∧
            (((sub3 (sP L (Int.toNat (↑i : Int)) (T.p u) (T.q u)) (sQ L (Int.toNat (↑i : Int)) (T.p u) (T.q u)) (T.p u) (T.q u) != (0 : Int)) = false) →
            (((((List.length (T.ps u) + (1 : Nat)) * (32 : Nat) ≤ (1099511627776 : Nat)) ∧
            (List.length (T.ps u) + (1 : Nat) ≤ (1099511627776 : Nat))) ∧
            (∀ (i_1 : Nat), i_1 < (1 : Nat) → elemOK true (3 : Nat) (elemF true (3 : Nat) [DV.con (Value.string (sNm L (Int.toNat (↑i : Int)) (T.p u) (T.q u))), DV.con (Value.int IntKind.i64 (sub1 (sP L (Int.toNat (↑i : Int)) (T.p u) (T.q u)) (sQ L (Int.toNat (↑i : Int)) (T.p u) (T.q u)) (T.p u) (T.q u))), DV.con (Value.int IntKind.i64 (sub2 (sP L (Int.toNat (↑i : Int)) (T.p u) (T.q u)) (sQ L (Int.toNat (↑i : Int)) (T.p u) (T.q u)) (T.p u) (T.q u)))] i_1) = true)) ∧
            ((I64 ((↑i : Int) + (1 : Int))) ∧
            Again (fun x => S14i L k (Prod.fst x) (Prod.snd x)) (fun x => Prod.fst x ≤ List.length L ∧ Prod.snd x = phase L (kd k) (Prod.fst x) (tk L k) ∧ T.wr (Prod.snd x) = false) (fun x => List.length L - Prod.fst x) ((i, u)) ⟨regs 97 [(0, (.d (.slc 7 (List.length L) (lnsF L)))), (2, (.box 2 0)), (4, (.box 4 0)), (5, (.d (.slc 1 4 (fun i => DV.con (Value.int IntKind.i64 (kd i)))))), (6, (vi ((↑k : Int)))), (7, (vi ((↑i : Int) + (1 : Int)))), (8, (vs (sNm L (Int.toNat (↑i : Int)) (T.p u) (T.q u)))), (9, (.box 9 0)), (10, (vb (sB L (Int.toNat (↑i : Int)) (T.p u) (T.q u)))), (11, (vi (sub3 (sP L (Int.toNat (↑i : Int)) (T.p u) (T.q u)) (sQ L (Int.toNat (↑i : Int)) (T.p u) (T.q u)) (T.p u) (T.q u)))), (12, (.box 12 0)), (26, (vi ((↑i : Int)))), (27, (.d (.slc 7 (List.length L) (lnsF L)))), (28, (vi ((↑(List.length L) : Int)))), (29, (vb (decide ((↑i : Int) < (↑(List.length L) : Int))))), (30, (vi ((↑i : Int)))), (31, (vi ((↑i : Int) + (1 : Int)))), (32, (.d (.slc 7 (List.length L) (lnsF L)))), (33, (vi ((↑i : Int)))), (34, (.d (.ptr [(ds (Ln.name (List.getD L (Int.toNat (↑i : Int)) ln0))), (ds (Ln.group (List.getD L (Int.toNat (↑i : Int)) ln0))), (di (Ln.kind (List.getD L (Int.toNat (↑i : Int)) ln0))), (db (Ln.app (List.getD L (Int.toNat (↑i : Int)) ln0))), (di (Ln.n (List.getD L (Int.toNat (↑i : Int)) ln0))), (di (Ln.d (List.getD L (Int.toNat (↑i : Int)) ln0))), (di (Ln.err (List.getD L (Int.toNat (↑i : Int)) ln0)))]))), (35, (.d (.ptr [(di (Ln.kind (List.getD L (Int.toNat (↑i : Int)) ln0))), (db (Ln.app (List.getD L (Int.toNat (↑i : Int)) ln0))), (di (Ln.n (List.getD L (Int.toNat (↑i : Int)) ln0))), (di (Ln.d (List.getD L (Int.toNat (↑i : Int)) ln0))), (di (Ln.err (List.getD L (Int.toNat (↑i : Int)) ln0)))]))), (36, (vi (Ln.kind (List.getD L (Int.toNat (↑i : Int)) ln0)))), (37, (.d (.slc 1 4 (fun i => DV.con (Value.int IntKind.i64 (kd i)))))), (38, (vi ((↑k : Int)))), (39, (.d (.ptr [(di (kd (Int.toNat (↑k : Int))))]))), (40, (vi (kd (Int.toNat (↑k : Int))))), (41, (vb (Ln.kind (List.getD L (Int.toNat (↑i : Int)) ln0) != kd (Int.toNat (↑k : Int))))), (42, (vb (Ln.kind (List.getD L (Int.toNat (↑i : Int)) ln0) != kd (Int.toNat (↑k : Int))))), (49, (vb (Ln.kind (List.getD L (Int.toNat (↑i : Int)) ln0) != kd (Int.toNat (↑k : Int)) || !Ln.app (List.getD L (Int.toNat (↑i : Int)) ln0)))), (50, (.d (.tup [(ds (sNm L (Int.toNat (↑i : Int)) (T.p u) (T.q u))), (.agg [(di (sP L (Int.toNat (↑i : Int)) (T.p u) (T.q u))), (di (sQ L (Int.toNat (↑i : Int)) (T.p u) (T.q u)))]), (db (sB L (Int.toNat (↑i : Int)) (T.p u) (T.q u))), (di (sE L (Int.toNat (↑i : Int)) (T.p u) (T.q u)))]))), (51, (.d (.slc 7 (List.length L) (lnsF L)))), (52, (vi ((↑i : Int)))), (53, (.box 4 1)), (54, (.d (.agg [(di (T.p u)), (di (T.q u))]))), (55, (.d (.tup [(ds (sNm L (Int.toNat (↑i : Int)) (T.p u) (T.q u))), (.agg [(di (sP L (Int.toNat (↑i : Int)) (T.p u) (T.q u))), (di (sQ L (Int.toNat (↑i : Int)) (T.p u) (T.q u)))]), (db (sB L (Int.toNat (↑i : Int)) (T.p u) (T.q u))), (di (sE L (Int.toNat (↑i : Int)) (T.p u) (T.q u)))]))), (56, (vs (sNm L (Int.toNat (↑i : Int)) (T.p u) (T.q u)))), (57, (.d (.agg [(di (sP L (Int.toNat (↑i : Int)) (T.p u) (T.q u))), (di (sQ L (Int.toNat (↑i : Int)) (T.p u) (T.q u)))]))), (58, (vb (sB L (Int.toNat (↑i : Int)) (T.p u) (T.q u)))), (59, (vi (sE L (Int.toNat (↑i : Int)) (T.p u) (T.q u)))), (60, (vi (sE L (Int.toNat (↑i : Int)) (T.p u) (T.q u)))), (61, (vb (sE L (Int.toNat (↑i : Int)) (T.p u) (T.q u) != (0 : Int)))), (63, (vb (sB L (Int.toNat (↑i : Int)) (T.p u) (T.q u)))), (64, (vb (!sB L (Int.toNat (↑i : Int)) (T.p u) (T.q u)))), (65, (.d (.tup [(.agg [(di (sub1 (sP L (Int.toNat (↑i : Int)) (T.p u) (T.q u)) (sQ L (Int.toNat (↑i : Int)) (T.p u) (T.q u)) (T.p u) (T.q u))), (di (sub2 (sP L (Int.toNat (↑i : Int)) (T.p u) (T.q u)) (sQ L (Int.toNat (↑i : Int)) (T.p u) (T.q u)) (T.p u) (T.q u)))]), (di (sub3 (sP L (Int.toNat (↑i : Int)) (T.p u) (T.q u)) (sQ L (Int.toNat (↑i : Int)) (T.p u) (T.q u)) (T.p u) (T.q u)))]))), (66, (.d (.agg [(di (sP L (Int.toNat (↑i : Int)) (T.p u) (T.q u))), (di (sQ L (Int.toNat (↑i : Int)) (T.p u) (T.q u)))]))), (67, (.box 4 1)), (68, (.d (.agg [(di (T.p u)), (di (T.q u))]))), (69, (.d (.tup [(.agg [(di (sub1 (sP L (Int.toNat (↑i : Int)) (T.p u) (T.q u)) (sQ L (Int.toNat (↑i : Int)) (T.p u) (T.q u)) (T.p u) (T.q u))), (di (sub2 (sP L (Int.toNat (↑i : Int)) (T.p u) (T.q u)) (sQ L (Int.toNat (↑i : Int)) (T.p u) (T.q u)) (T.p u) (T.q u)))]), (di (sub3 (sP L (Int.toNat (↑i : Int)) (T.p u) (T.q u)) (sQ L (Int.toNat (↑i : Int)) (T.p u) (T.q u)) (T.p u) (T.q u)))]))), (70, (.d (.agg [(di (sub1 (sP L (Int.toNat (↑i : Int)) (T.p u) (T.q u)) (sQ L (Int.toNat (↑i : Int)) (T.p u) (T.q u)) (T.p u) (T.q u))), (di (sub2 (sP L (Int.toNat (↑i : Int)) (T.p u) (T.q u)) (sQ L (Int.toNat (↑i : Int)) (T.p u) (T.q u)) (T.p u) (T.q u)))]))), (71, (vi (sub3 (sP L (Int.toNat (↑i : Int)) (T.p u) (T.q u)) (sQ L (Int.toNat (↑i : Int)) (T.p u) (T.q u)) (T.p u) (T.q u)))), (72, (vi (sub3 (sP L (Int.toNat (↑i : Int)) (T.p u) (T.q u)) (sQ L (Int.toNat (↑i : Int)) (T.p u) (T.q u)) (T.p u) (T.q u)))), (73, (vb (sub3 (sP L (Int.toNat (↑i : Int)) (T.p u) (T.q u)) (sQ L (Int.toNat (↑i : Int)) (T.p u) (T.q u)) (T.p u) (T.q u) != (0 : Int)))), (75, (.box 4 0)), (76, (.vec 900 3 0 (List.length (T.ps u)))), (77, (vs (sNm L (Int.toNat (↑i : Int)) (T.p u) (T.q u)))), (78, (.d (.agg [(di (sub1 (sP L (Int.toNat (↑i : Int)) (T.p u) (T.q u)) (sQ L (Int.toNat (↑i : Int)) (T.p u) (T.q u)) (T.p u) (T.q u))), (di (sub2 (sP L (Int.toNat (↑i : Int)) (T.p u) (T.q u)) (sQ L (Int.toNat (↑i : Int)) (T.p u) (T.q u)) (T.p u) (T.q u)))]))), (79, (.d (.agg [(ds (sNm L (Int.toNat (↑i : Int)) (T.p u) (T.q u))), (di (sub1 (sP L (Int.toNat (↑i : Int)) (T.p u) (T.q u)) (sQ L (Int.toNat (↑i : Int)) (T.p u) (T.q u)) (T.p u) (T.q u))), (di (sub2 (sP L (Int.toNat (↑i : Int)) (T.p u) (T.q u)) (sQ L (Int.toNat (↑i : Int)) (T.p u) (T.q u)) (T.p u) (T.q u)))]))), (80, (.d (.slc 3 1 (elemF true 3 [(ds (sNm L (Int.toNat (↑i : Int)) (T.p u) (T.q u))), (di (sub1 (sP L (Int.toNat (↑i : Int)) (T.p u) (T.q u)) (sQ L (Int.toNat (↑i : Int)) (T.p u) (T.q u)) (T.p u) (T.q u))), (di (sub2 (sP L (Int.toNat (↑i : Int)) (T.p u) (T.q u)) (sQ L (Int.toNat (↑i : Int)) (T.p u) (T.q u)) (T.p u) (T.q u)))])))), (81, (.vec 81 3 0 (List.length (T.ps u) + (1 : Nat)))), (82, (.d (.agg [(di (sP L (Int.toNat (↑i : Int)) (T.p u) (T.q u))), (di (sQ L (Int.toNat (↑i : Int)) (T.p u) (T.q u)))]))), (83, (.box 4 0)), (84, (.box 4 1))], [(81, [(.arr ⟨true, 50, false, none⟩ 3 (fun i_1 => bif Nat.blt i_1 (List.length (T.ps u)) then ptR (T.ps u) i_1 else elemF true (3 : Nat) [DV.con (Value.string (sNm L (Int.toNat (↑i : Int)) (T.p u) (T.q u))), DV.con (Value.int IntKind.i64 (sub1 (sP L (Int.toNat (↑i : Int)) (T.p u) (T.q u)) (sQ L (Int.toNat (↑i : Int)) (T.p u) (T.q u)) (T.p u) (T.q u))), DV.con (Value.int IntKind.i64 (sub2 (sP L (Int.toNat (↑i : Int)) (T.p u) (T.q u)) (sQ L (Int.toNat (↑i : Int)) (T.p u) (T.q u)) (T.p u) (T.q u)))] (i_1 - List.length (T.ps u))))]), (12, [(vi (sub1 (sP L (Int.toNat (↑i : Int)) (T.p u) (T.q u)) (sQ L (Int.toNat (↑i : Int)) (T.p u) (T.q u)) (T.p u) (T.q u))), (vi (sub2 (sP L (Int.toNat (↑i : Int)) (T.p u) (T.q u)) (sQ L (Int.toNat (↑i : Int)) (T.p u) (T.q u)) (T.p u) (T.q u)))]), (9, [(vi (sP L (Int.toNat (↑i : Int)) (T.p u) (T.q u))), (vi (sQ L (Int.toNat (↑i : Int)) (T.p u) (T.q u)))]), (2, [(.d (.con (.slice none 0 0))), (vi 0), (vi 0), (vi 0)]), (4, [(.vec 81 3 0 (List.length (T.ps u) + (1 : Nat))), (vi (sP L (Int.toNat (↑i : Int)) (T.p u) (T.q u))), (vi (sQ L (Int.toNat (↑i : Int)) (T.p u) (T.q u))), (vi 0)]), (900, [.dead])]⟩)))))))))))))) ∧
            (((decide ((↑i : Int) < (↑(List.length L) : Int))) = false) →
            AWP Tryz.prog G [(.blk 1), .code (cAt (bodyOf Tryz.f14) [1, 1, 1, 1, 0, 1, 0, 0, 1, 1])] ⟨regs 97 [(0, (.d (.slc 7 (List.length L) (lnsF L)))), (2, (.box 2 0)), (4, (.box 4 0)), (5, (.d (.slc 1 4 (fun i => DV.con (Value.int IntKind.i64 (kd i)))))), (6, (vi ((↑k : Int)))), (7, (vi ((↑i : Int)))), (26, (vi ((↑i : Int)))), (27, (.d (.slc 7 (List.length L) (lnsF L)))), (28, (vi ((↑(List.length L) : Int)))), (29, (vb (decide ((↑i : Int) < (↑(List.length L) : Int)))))], [(2, [(.d (.con (.slice none 0 0))), (vi 0), (vi 0), (vi 0)]), (4, [(.vec 900 3 0 (List.length (T.ps u))), (vi (T.p u)), (vi (T.q u)), (vi 0)]), (900, [(.arr ⟨true, 50, false, none⟩ 3 (ptR (T.ps u)))])]⟩ (RoundQ Tryz.prog G [It.blk (0 : Nat), It.code (Code.seq (Code.region (20 : Nat) #[{ dst := some (86 : Nat), op := Op.fieldAddr (29 : Nat) (Operand.tmp (4 : Nat)) (1 : Nat), type := (0 : Nat), pos := "ref.go:127", after := #[], guard := none }, { dst := some (87 : Nat), op := Op.load (27 : Nat) (Operand.tmp (86 : Nat)), type := (27 : Nat), pos := "ref.go:127", after := #[{ on := (0 : Nat), ground := Ground.data }], guard := none }, { dst := some (88 : Nat), op := Op.call { callee := Callee.value (Operand.func (41 : Nat)), args := #[Operand.tmp (87 : Nat)], argTypes := #[(27 : Nat)] }, type := (35 : Nat), pos := "ref.go:127", after := #[{ on := (1 : Nat), ground := Ground.data }], guard := none }, { dst := some (85 : Nat), op := Op.move (Operand.tmp (88 : Nat)), type := (35 : Nat), pos := "ref.go:127", after := #[{ on := (2 : Nat), ground := Ground.data }], guard := none }, { dst := some (89 : Nat), op := Op.extract (Operand.tmp (85 : Nat)) (0 : Nat), type := (3 : Nat), pos := "ref.go:127", after := #[{ on := (3 : Nat), ground := Ground.data }], guard := none }, { dst := some (90 : Nat), op := Op.extract (Operand.tmp (85 : Nat)) (1 : Nat), type := (4 : Nat), pos := "ref.go:127", after := #[{ on := (3 : Nat), ground := Ground.data }, { on := (7 : Nat), ground := Ground.gcOnly Departure.lateStores }], guard := none }, { dst := some (91 : Nat), op := Op.fieldAddr (29 : Nat) (Operand.tmp (4 : Nat)) (2 : Nat), type := (0 : Nat), pos := "ref.go:127", after := #[{ on := (0 : Nat), ground := Ground.phase }, { on := (1 : Nat), ground := Ground.phase }, { on := (2 : Nat), ground := Ground.phase }, { on := (3 : Nat), ground := Ground.phase }, { on := (4 : Nat), ground := Ground.phase }, { on := (5 : Nat), ground := Ground.textOnly Departure.lateStores }], guard := none }, { dst := none, op := Op.store (3 : Nat) (Operand.tmp (91 : Nat)) (Operand.tmp (89 : Nat)), type := (0 : Nat), pos := "ref.go:127", after := #[{ on := (6 : Nat), ground := Ground.data }, { on := (4 : Nat), ground := Ground.data }, { on := (2 : Nat), ground := Ground.chain }, { on := (0 : Nat), ground := Ground.phase }, { on := (1 : Nat), ground := Ground.phase }, { on := (2 : Nat), ground := Ground.phase }, { on := (3 : Nat), ground := Ground.phase }, { on := (4 : Nat), ground := Ground.phase }, { on := (5 : Nat), ground := Ground.textOnly Departure.lateStores }], guard := none }] false) (Code.seq (Code.seq (Code.region (21 : Nat) #[{ dst := some (92 : Nat), op := Op.fieldAddr (29 : Nat) (Operand.tmp (4 : Nat)) (2 : Nat), type := (0 : Nat), pos := "ref.go:128", after := #[], guard := none }, { dst := some (93 : Nat), op := Op.load (3 : Nat) (Operand.tmp (92 : Nat)), type := (3 : Nat), pos := "ref.go:128", after := #[{ on := (0 : Nat), ground := Ground.data }], guard := none }, { dst := some (94 : Nat), op := Op.binOp BinOp.gtr (3 : Nat) (Operand.tmp (93 : Nat)) (Operand.const (Value.int IntKind.i64 (100000000 : Int))) (3 : Nat), type := (4 : Nat), pos := "ref.go:128", after := #[{ on := (1 : Nat), ground := Ground.data }], guard := none }] false) (Code.cond (Operand.tmp (94 : Nat)) (Code.seq (Code.region (22 : Nat) #[{ dst := some (95 : Nat), op := Op.build (29 : Nat) #[], type := (29 : Nat), pos := "ref.go:129", after := #[], guard := none }, { dst := none, op := Op.store (29 : Nat) (Operand.tmp (2 : Nat)) (Operand.tmp (95 : Nat)), type := (0 : Nat), pos := "ref.go:129", after := #[{ on := (0 : Nat), ground := Ground.data }, { on := (0 : Nat), ground := Ground.phase }], guard := none }, { dst := some (3 : Nat), op := Op.assign (Operand.const (Value.int IntKind.i64 (2 : Int))), type := (30 : Nat), pos := "ref.go:129", after := #[{ on := (1 : Nat), ground := Ground.chain }, { on := (0 : Nat), ground := Ground.phase }, { on := (1 : Nat), ground := Ground.phase }], guard := none }] false) Code.ret) Code.skip)) (Code.seq (Code.region (23 : Nat) #[{ dst := some (96 : Nat), op := Op.load (29 : Nat) (Operand.tmp (4 : Nat)), type := (29 : Nat), pos := "ref.go:131", after := #[], guard := none }, { dst := none, op := Op.store (29 : Nat) (Operand.tmp (2 : Nat)) (Operand.tmp (96 : Nat)), type := (0 : Nat), pos := "ref.go:131", after := #[{ on := (0 : Nat), ground := Ground.data }, { on := (0 : Nat), ground := Ground.phase }], guard := none }, { dst := some (3 : Nat), op := Op.assign (Operand.const (Value.int IntKind.i64 (0 : Int))), type := (30 : Nat), pos := "ref.go:131", after := #[{ on := (1 : Nat), ground := Ground.chain }, { on := (0 : Nat), ground := Ground.phase }, { on := (1 : Nat), ground := Ground.phase }], guard := none }] false) Code.ret)))] (Ret Tryz.prog Tryz.f14 r) (fun x => S14 L (Prod.fst x) (Prod.snd x)) (fun x => Prod.fst x ≤ (4 : Nat) ∧ Prod.snd x = tk L (Prod.fst x) ∧ T.wr (Prod.snd x) = false) (fun x => (4 : Nat) - Prod.fst x) (k, t))))) (by kernel_rfl) ?_
          simp only [Int.toNat_natCast]
          have hul : u.ps.length ≤ 1000000 := by
            have h1 := phase_len L (kd k) (tk L k) i
            have h2 := tk_len L k
            rw [← hu] at h1
            have h3 := Nat.mul_le_mul_right L.length (show k ≤ 4 by omega)
            omega
          have hA := badL_AppOk h
          refine ⟨fun h1 => ⟨⟨⟨by omega, of_decide_eq_true h1⟩, ⟨by omega, by omega⟩, fun _ => ⟨by omega, of_decide_eq_true h1⟩⟩, fun h2 => ⟨⟨by omega, by have := of_decide_eq_true h1; omega⟩, Again.mk (i + 1, u) ?_ ⟨?_, ?_, hw⟩ ?_⟩, fun h2 => ?_⟩, fun h1 => ?_⟩
          · refine of_eq (b :=
            (((((.d (.slc 7 (List.length L) (lnsF L))) : AV) = (.d (.slc 7 (List.length L) (lnsF L)))) ∧
            ((((.box 2 0) : AV) = (.box 2 0)) ∧
            ((((.box 4 0) : AV) = (.box 4 0)) ∧
            ((((.d (.slc 1 4 (fun i => DV.con (Value.int IntKind.i64 (kd i))))) : AV) = (.d (.slc 1 4 (fun i => DV.con (Value.int IntKind.i64 (kd i)))))) ∧
            ((((vi ((↑k : Int))) : AV) = (vi ((↑k : Int)))) ∧
            ((((vi ((↑i : Int) + (1 : Int))) : AV) = (vi ((↑(i + (1 : Nat)) : Int)))) ∧
            True)))))) ∧
            ((((some [(.d (.con (.slice none 0 0))), (vi 0), (vi 0), (vi 0)]) : (Option (List AV))) = (some [(.d (.con (.slice none 0 0))), (vi 0), (vi 0), (vi 0)])) ∧
            ((((some [(.vec 900 3 0 (List.length (T.ps u))), (vi (T.p u)), (vi (T.q u)), (vi 0)]) : (Option (List AV))) = (some [(.vec 900 3 0 (List.length (T.ps u))), (vi (T.p u)), (vi (T.q u)), (vi 0)])) ∧
            ((((some [(.arr ⟨true, 50, false, none⟩ 3 (ptR (T.ps u)))]) : (Option (List AV))) = (some [(.arr ⟨true, 50, false, none⟩ 3 (ptR (T.ps u)))])) ∧
            True))))) (by kernel_rfl) ?_
            exact ⟨⟨rfl, rfl, rfl, rfl, rfl, rfl, trivial⟩, rfl, rfl, rfl, trivial⟩
          · have := of_decide_eq_true h1; simp only; omega
          · simp only
            rw [phase_off, hu]
            rintro ⟨h3, h4⟩
            rw [h3, h4] at h2
            simp at h2
          · have := of_decide_eq_true h1; simp only; omega
          · have hi2 : i < L.length := by have := of_decide_eq_true h1; omega
            simp only [Bool.or_eq_false_iff, bne_eq_false_iff_eq, Bool.not_eq_false'] at h2
            have hmem : L.getD i ln0 ∈ L := by rw [getD_eq hi2]; exact List.getElem_mem hi2
            have hkr := (rightB_of ((badL_of h).2 _ hmem)).1
            have hnx := next_on hA hk2 hi2 hu h2.2 h2.1
            have hbad : (phase L (kd k) (i + 1) (tk L k)).wr = true → (DV.tup [.agg [.con (.slice none 0 0), di 0, di 0, di 0], di 2]) = r := fun hh => by
              have := comb_st hk2 (show i + 1 ≤ L.length by omega) hh
              rw [hr2 h (by unfold badT; rw [this]; rfl)]; rfl
            refine ⟨f39 L hA hL i hi2 h2.2 hkr _ _, fun h3 => hbad ?_, fun h3 => ⟨fun h4 => ⟨⟨by omega, by omega⟩, Again.mk (i + 1, u) ?_ ⟨?_, ?_, hw⟩ ?_⟩, fun h4 => ⟨f40 _ _ _ _, fun h5 => hbad ?_, fun h5 => ⟨⟨⟨by omega, by omega⟩, fun j hj => (by obtain rfl : j = 0 := (by omega); rfl)⟩, ⟨by omega, by omega⟩, Again.mkR [(81, 900)] rfl (i + 1, ⟨u.ps ++ [(sNm L i u.p u.q, sub1 (sP L i u.p u.q) (sQ L i u.p u.q) u.p u.q, sub2 (sP L i u.p u.q) (sQ L i u.p u.q) u.p u.q)], sP L i u.p u.q, sQ L i u.p u.q, false⟩) ?_ ⟨?_, ?_, rfl⟩ ?_⟩⟩⟩⟩
            · rw [hnx]
              have : sB L i u.p u.q = true := by
                cases hb : sB L i u.p u.q with
                | true => rfl
                | false => rw [sE_of hb] at h3; simp at h3
              rw [if_pos this]
              unfold become
              rw [if_neg (by rintro ⟨_, e, _⟩; rw [e] at h3; simp at h3)]
            · refine of_eq (b :=
              (((((.d (.slc 7 (List.length L) (lnsF L))) : AV) = (.d (.slc 7 (List.length L) (lnsF L)))) ∧
              ((((.box 2 0) : AV) = (.box 2 0)) ∧
              ((((.box 4 0) : AV) = (.box 4 0)) ∧
              ((((.d (.slc 1 4 (fun i => DV.con (Value.int IntKind.i64 (kd i))))) : AV) = (.d (.slc 1 4 (fun i => DV.con (Value.int IntKind.i64 (kd i)))))) ∧
              ((((vi ((↑k : Int))) : AV) = (vi ((↑k : Int)))) ∧
              ((((vi ((↑i : Int) + (1 : Int))) : AV) = (vi ((↑(i + (1 : Nat)) : Int)))) ∧
              True)))))) ∧
              ((((some [(.d (.con (.slice none 0 0))), (vi 0), (vi 0), (vi 0)]) : (Option (List AV))) = (some [(.d (.con (.slice none 0 0))), (vi 0), (vi 0), (vi 0)])) ∧
              ((((some [(.vec 900 3 0 (List.length (T.ps u))), (vi (T.p u)), (vi (T.q u)), (vi 0)]) : (Option (List AV))) = (some [(.vec 900 3 0 (List.length (T.ps u))), (vi (T.p u)), (vi (T.q u)), (vi 0)])) ∧
              ((((some [(.arr ⟨true, 50, false, none⟩ 3 (ptR (T.ps u)))]) : (Option (List AV))) = (some [(.arr ⟨true, 50, false, none⟩ 3 (ptR (T.ps u)))])) ∧
              True))))) (by kernel_rfl) ?_
              exact ⟨⟨rfl, rfl, rfl, rfl, rfl, rfl, trivial⟩, rfl, rfl, rfl, trivial⟩
            · simp only; omega
            · simp only
              rw [Bool.not_eq_true'] at h4
              rw [hnx, if_neg (by rw [h4]; decide)]
            · simp only; omega
            · rw [Bool.not_eq_false'] at h4
              rw [hnx, if_pos h4]
              unfold become
              rw [if_neg (by rintro ⟨_, _, e⟩; unfold sub3 at h5; rw [e] at h5; simp at h5)]
            · refine of_eq (b :=
              (((((.d (.slc 7 (List.length L) (lnsF L))) : AV) = (.d (.slc 7 (List.length L) (lnsF L)))) ∧
              ((((.box 2 0) : AV) = (.box 2 0)) ∧
              ((((.box 4 0) : AV) = (.box 4 0)) ∧
              ((((.d (.slc 1 4 (fun i => DV.con (Value.int IntKind.i64 (kd i))))) : AV) = (.d (.slc 1 4 (fun i => DV.con (Value.int IntKind.i64 (kd i)))))) ∧
              ((((vi ((↑k : Int))) : AV) = (vi ((↑k : Int)))) ∧
              ((((vi ((↑i : Int) + (1 : Int))) : AV) = (vi ((↑(i + (1 : Nat)) : Int)))) ∧
              True)))))) ∧
              ((((some [(.d (.con (.slice none 0 0))), (vi 0), (vi 0), (vi 0)]) : (Option (List AV))) = (some [(.d (.con (.slice none 0 0))), (vi 0), (vi 0), (vi 0)])) ∧
              ((((some [(.vec 900 3 0 (List.length (T.ps u) + (1 : Nat))), (vi (sP L i (T.p u) (T.q u))), (vi (sQ L i (T.p u) (T.q u))), (vi 0)]) : (Option (List AV))) = (some [(.vec 900 3 0 (List.length (T.ps u ++ [(sNm L i (T.p u) (T.q u), sub1 (sP L i (T.p u) (T.q u)) (sQ L i (T.p u) (T.q u)) (T.p u) (T.q u), sub2 (sP L i (T.p u) (T.q u)) (sQ L i (T.p u) (T.q u)) (T.p u) (T.q u))]))), (vi (sP L i (T.p u) (T.q u))), (vi (sQ L i (T.p u) (T.q u))), (vi 0)])) ∧
              ((((some [(.arr ⟨true, 50, false, none⟩ 3 (fun i_1 => bif Nat.blt i_1 (List.length (T.ps u)) then ptR (T.ps u) i_1 else elemF true (3 : Nat) [DV.con (Value.string (sNm L i (T.p u) (T.q u))), DV.con (Value.int IntKind.i64 (sub1 (sP L i (T.p u) (T.q u)) (sQ L i (T.p u) (T.q u)) (T.p u) (T.q u))), DV.con (Value.int IntKind.i64 (sub2 (sP L i (T.p u) (T.q u)) (sQ L i (T.p u) (T.q u)) (T.p u) (T.q u)))] (i_1 - List.length (T.ps u))))]) : (Option (List AV))) = (some [(.arr ⟨true, 50, false, none⟩ 3 (ptR (T.ps u ++ [(sNm L i (T.p u) (T.q u), sub1 (sP L i (T.p u) (T.q u)) (sQ L i (T.p u) (T.q u)) (T.p u) (T.q u), sub2 (sP L i (T.p u) (T.q u)) (sQ L i (T.p u) (T.q u)) (T.p u) (T.q u))])))])) ∧
              True))))) (by kernel_rfl) ?_
              refine ⟨⟨rfl, rfl, rfl, rfl, rfl, rfl, trivial⟩, rfl, ?_, ?_, trivial⟩
              · simp
              · refine congrArg some (congrArg (fun x => [x]) (congrArg (AV.arr _ 3) ?_))
                funext j
                rw [ptR_snoc]
            · simp only; omega
            · simp only
              rw [Bool.not_eq_false'] at h4
              rw [hnx, if_pos h4]
              unfold become
              rw [if_pos ⟨hw, by simpa using h3, by unfold sub3 at h5; simpa using h5⟩]; rfl
            · simp only; omega
          · have hi2 : i = L.length := by simp only [decide_eq_false_iff_not] at h1; omega
            subst hi2
            refine walk (orc := orcF L) (keep := []) (cuts := []) (n := 1000) follows ?_
            refine of_eqH (b :=
              ((I64 ((↑k : Int) + (1 : Int))) ∧
              Again (fun x => S14 L (Prod.fst x) (Prod.snd x)) (fun x => Prod.fst x ≤ (4 : Nat) ∧ Prod.snd x = tk L (Prod.fst x) ∧ T.wr (Prod.snd x) = false) (fun x => (4 : Nat) - Prod.fst x) ((k, t)) ⟨regs 97 [(0, (.d (.slc 7 (List.length L) (lnsF L)))), (2, (.box 2 0)), (4, (.box 4 0)), (5, (.d (.slc 1 4 (fun i => DV.con (Value.int IntKind.i64 (kd i)))))), (6, (vi ((↑k : Int) + (1 : Int)))), (7, (vi ((↑(List.length L) : Int)))), (24, (vi ((↑k : Int)))), (25, (vi ((↑k : Int) + (1 : Int)))), (26, (vi ((↑(List.length L) : Int)))), (27, (.d (.slc 7 (List.length L) (lnsF L)))), (28, (vi ((↑(List.length L) : Int)))), (29, (vb (decide ((↑(List.length L) : Int) < (↑(List.length L) : Int)))))], [(2, [(.d (.con (.slice none 0 0))), (vi 0), (vi 0), (vi 0)]), (4, [(.vec 900 3 0 (List.length (T.ps u))), (vi (T.p u)), (vi (T.q u)), (vi 0)]), (900, [(.arr ⟨true, 50, false, none⟩ 3 (ptR (T.ps u)))])]⟩)) (by kernel_rfl) ?_
            refine ⟨⟨by omega, by omega⟩, Again.mk (k + 1, u) ?_ ⟨by simp only; omega, by simp only; rw [hu]; rfl, hw⟩ (by simp only; omega)⟩
            refine of_eq (b :=
              (((((.d (.slc 7 (List.length L) (lnsF L))) : AV) = (.d (.slc 7 (List.length L) (lnsF L)))) ∧
              ((((.box 2 0) : AV) = (.box 2 0)) ∧
              ((((.box 4 0) : AV) = (.box 4 0)) ∧
              ((((.d (.slc 1 4 (fun i => DV.con (Value.int IntKind.i64 (kd i))))) : AV) = (.d (.slc 1 4 (fun i => DV.con (Value.int IntKind.i64 (kd i)))))) ∧
              ((((vi ((↑k : Int) + (1 : Int))) : AV) = (vi ((↑(k + (1 : Nat)) : Int)))) ∧
              True))))) ∧
              ((((some [(.d (.con (.slice none 0 0))), (vi 0), (vi 0), (vi 0)]) : (Option (List AV))) = (some [(.d (.con (.slice none 0 0))), (vi 0), (vi 0), (vi 0)])) ∧
              ((((some [(.vec 900 3 0 (List.length (T.ps u))), (vi (T.p u)), (vi (T.q u)), (vi 0)]) : (Option (List AV))) = (some [(.vec 900 3 0 (List.length (T.ps u))), (vi (T.p u)), (vi (T.q u)), (vi 0)])) ∧
              ((((some [(.arr ⟨true, 50, false, none⟩ 3 (ptR (T.ps u)))]) : (Option (List AV))) = (some [(.arr ⟨true, 50, false, none⟩ 3 (ptR (T.ps u)))])) ∧
              True))))) (by kernel_rfl) ?_
            exact ⟨⟨rfl, rfl, rfl, rfl, rfl, trivial⟩, rfl, rfl, rfl, trivial⟩
      · have hk2 : k = 4 := by simp only [decide_eq_false_iff_not] at hk2; omega
        subst hk2
        refine walk (orc := orcF L) (keep := []) (cuts := []) (n := 1000) follows ?_
        refine of_eqH (b :=
          (FnOK Tryz.prog G 41 [(.agg [(di (T.p t)), (di (T.q t))])] (.tup [(di (hunF (T.p t) (T.q t))), (db (ok (T.p t) (T.q t)))]) ∧
          ((((decide (hunF (T.p t) (T.q t) > (100000000 : Int))) = true) →
          (((.tup [(.agg [(.con (.slice none 0 0)), (di 0), (di 0), (di 0)]), (di 2)]) : DV) = r)) ∧
          (((decide (hunF (T.p t) (T.q t) > (100000000 : Int))) = false) →
          (((.tup [(.agg [(.slc 3 (List.length (T.ps t)) (fun i => ptR (T.ps t) ((0 : Nat) + i))), (di (T.p t)), (di (T.q t)), (di (hunF (T.p t) (T.q t)))]), (di 0)]) : DV) = r))))) (by kernel_rfl) ?_
        have hg := tk_good (badL_AppOk h) 4 (Nat.le_refl _)
        have ht' : t = combT L := ht
        rw [← ht] at hg
        refine ⟨f41 _ _, fun h1 => ?_, fun h1 => ?_⟩
        · rw [hr2 h (by rw [← ht']; unfold badT; rw [h1]; simp)]; rfl
        · rw [hr3 h (by rw [← ht']; unfold badT; rw [h1, hw, hg.1]; rfl), ← ht']
          unfold crR
          simp only [Nat.zero_add]
theorem f14c (L : List Ln) (hS : Short L) (hL : L.length ≤ 100000) : FnOK Tryz.prog G 14 [lnsD L] (.tup [crV (cPs L) (cP L) (cQ L) (cH L), di (cE L)]) := by
  have hnil : ∀ (e : Int) (k : IH) (v : Value), DV.rel k (.tup [nilC, di e]) v → DV.rel k (.tup [crV [] 0 0 0, di e]) v := by
    rintro e k v ⟨vs, rfl, v1, vs1, rfl, ⟨us, rfl, w1, us1, rfl, h1, h2⟩, h3⟩
    exact ⟨_, rfl, _, _, rfl, ⟨_, rfl, _, _, rfl, nil_slc h1, h2⟩, h3⟩
  unfold cPs cP cQ cH cE
  cases hb : badL L with
  | true =>
    simp only [if_true]
    exact FnOK.res (f14 L hS hL _ (fun _ => rfl) (fun h => by rw [hb] at h; cases h) (fun h => by rw [hb] at h; cases h)) (hnil 1)
  | false =>
    simp only [Bool.false_eq_true, if_false]
    cases ht : badT (combT L) with
    | true =>
      simp only [if_true]
      exact FnOK.res (f14 L hS hL _ (fun h => by rw [hb] at h; cases h) (fun _ _ => rfl) (fun _ h => by rw [ht] at h; cases h)) (hnil 2)
    | false =>
      simp only [Bool.false_eq_true, if_false]
      refine FnOK.res (f14 L hS hL _ (fun h => by rw [hb] at h; cases h) (fun _ h => by rw [ht] at h; cases h) (fun _ _ => rfl)) ?_
      rintro k v ⟨vs, rfl, v1, vs1, rfl, ⟨us, rfl, w1, us1, rfl, h1, h2⟩, h3⟩
      exact ⟨_, rfl, _, _, rfl, ⟨_, rfl, _, _, rfl, DV.rel_slc_congr (fun i hi => ptR_F hi) h1, h2⟩, h3⟩
end Go.Proofs