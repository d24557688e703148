import Derived.Test.YtldfegcegedkjaaGreatDoorAcC
import Derived.Test.YtldfegcegedkjaaGreatDoorXA
import Derived.Test.YtldfegcegedkjaaGreatDoorYA
import Derived.Test.YtldfegcegedkjaaGreatDoorCB
set_option autoImplicit false
namespace Go.Proofs
open Go Go.Ab Go.RowKit
set_option maxHeartbeats 2000000
set_option maxRecDepth 100000
variable {G : IH}
/-- The names of the lines with an error. -/
def failL (L : List Ln) : List ByteArray := (L.filter fun x => !(x.err == 0)).map (·.name)
abbrev stL (l : List ByteArray) : DV := .slc 1 l.length (stF l)
theorem fail_on {L : List Ln} {k : Nat} (hk : k < L.length) (h : ((L.getD k ln0).err == 0) = false) : failL (L.take (k + 1)) = failL (L.take k) ++ [(L.getD k ln0).name] := by
  unfold failL
  rw [List.take_succ_eq_append_getElem hk, List.filter_append, List.map_append, getD_eq hk]
  rw [getD_eq hk] at h
  simp [h]
theorem fail_off {L : List Ln} {k : Nat} (hk : k < L.length) (h : ((L.getD k ln0).err == 0) = true) : failL (L.take (k + 1)) = failL (L.take k) := by
  unfold failL
  rw [List.take_succ_eq_append_getElem hk, List.filter_append, List.map_append]
  rw [getD_eq hk] at h
  simp [h]
theorem fail_len (L : List Ln) : (failL L).length ≤ L.length := by
  unfold failL; rw [List.length_map]; exact List.length_filter_le _ _
theorem fail_len' (L : List Ln) (k : Nat) : (failL (L.take k)).length ≤ L.length := by
  have := fail_len (L.take k)
  rw [List.length_take] at this; omega
noncomputable def S17 (L : List Ln) (k : Nat) : AS := ⟨regs Tryz.f17.ntmps [(0, .d (lnsD L)), (3, .vec 900 1 0 (failL (L.take k)).length), (6, .d (lnsD L)), (7, vi L.length), (8, vi k)], [(900, [.arr stK 1 (stR (failL (L.take k)))])]⟩
theorem f17 (L : List Ln) (hL : L.length ≤ 1000) : FnOK Tryz.prog G 17 [lnsD L] (stL (failL L)) := by
  refine FnOK.res (r := .slc 1 (failL L).length (stR (failL L))) (FnOK.walk (orc := orcQ) (keep := []) follows Tryz.func17 rfl Tryz.call17 ?_) fun k v hv2 => DV.rel_slc_congr (fun i hi => stR_F hi) hv2
  refine of_eqH (b :=
    AWP Tryz.prog G [.code (cAt (bodyOf Tryz.f17) [1, 1, 0, 1, 0]), (.blk 0), .code (cAt (bodyOf Tryz.f17) [1, 1, 1])] ⟨regs 27 [(0, (.d (.slc 7 (List.length L) (lnsF L)))), (2, (.d (.con (.slice none 0 0)))), (3, (.d (.con (.slice none 0 0)))), (6, (.d (.slc 7 (List.length L) (lnsF L)))), (7, (vi ((↑(List.length L) : Int)))), (8, (vi 0))], []⟩ (Ret Tryz.prog Tryz.f17 (DV.slc (1 : Nat) (List.length (failL L)) (stR (failL L))))) (by kernel_rfl) ?_
  refine AWP.pre (.nilRow _ 3 900 1 stK (stR []) (by kernel_rfl) (by kernel_rfl)) ?_
  refine AWP.loop (c := cAt (bodyOf Tryz.f17) [1, 1, 0, 1, 0, 0]) (by kernel_rfl) (S17 L) (fun k => k ≤ L.length) (fun k => L.length - k) 0 ?_ (Nat.zero_le _) ?_
  · refine of_eq (b :=
    (((((.d (.slc 7 (List.length L) (lnsF L))) : AV) = (.d (.slc 7 (List.length L) (lnsF L)))) ∧
    ((((.vec 900 1 0 0) : AV) = (.vec 900 1 0 0)) ∧
    ((((.d (.slc 7 (List.length L) (lnsF L))) : AV) = (.d (.slc 7 (List.length L) (lnsF L)))) ∧
    ((((vi ((↑(List.length L) : Int))) : AV) = (vi ((↑(List.length L) : Int)))) ∧
    ((((vi 0) : AV) = (vi 0)) ∧
    True))))) ∧
    ((((some [(.arr ⟨false, 9, false, none⟩ 1 (stR []))]) : (Option (List AV))) = (some [(.arr ⟨false, 9, false, none⟩ 1 (stR (failL (List.take (0 : Nat) L))))])) ∧
    True))) (by kernel_rfl) ?_
    exact ⟨⟨rfl, rfl, rfl, rfl, rfl, trivial⟩, rfl, trivial⟩
  · rintro k hk
    refine walk (orc := orcQ) (keep := []) (cuts := []) (n := 1000) follows ?_
    refine of_eqH (b :=
      ((((decide ((↑k : Int) < (↑(List.length L) : Int))) = true) →
      ((((0 : Int) ≤ (↑k : Int)) ∧
      ((↑k : Int) < (↑(List.length L) : Int))) ∧
      ((((Ln.err (List.getD L (Int.toNat (↑k : Int)) ln0) != (0 : Int) && decide ((↑(List.length (failL (List.take k L))) : Int) < (1024 : Int))) = true) →
      (((((List.length (failL (List.take k L)) + (1 : Nat)) * (16 : Nat) ≤ (1099511627776 : Nat)) ∧
      (List.length (failL (List.take k L)) + (1 : Nat) ≤ (1099511627776 : Nat))) ∧
      (∀ (i : Nat), i < (1 : Nat) → elemOK false (1 : Nat) (elemF false (1 : Nat) [DV.con (Value.string (Ln.name (List.getD L (Int.toNat (↑k : Int)) ln0)))] i) = true)) ∧
      ((I64 ((↑k : Int) + (1 : Int))) ∧
      Again (S17 L) (fun k => k ≤ List.length L) (fun k => List.length L - k) k ⟨regs 27 [(0, (.d (.slc 7 (List.length L) (lnsF L)))), (3, (.vec 24 1 0 (List.length (failL (List.take k L)) + (1 : Nat)))), (5, (.box 5 0)), (6, (.d (.slc 7 (List.length L) (lnsF L)))), (7, (vi ((↑(List.length L) : Int)))), (8, (vi ((↑k : Int) + (1 : Int)))), (9, (vb (decide ((↑k : Int) < (↑(List.length L) : Int))))), (10, (.d (.ptr [(ds (Ln.name (List.getD L (Int.toNat (↑k : Int)) ln0))), (ds (Ln.group (List.getD L (Int.toNat (↑k : Int)) ln0))), (di (Ln.kind (List.getD L (Int.toNat (↑k : Int)) ln0))), (db (Ln.app (List.getD L (Int.toNat (↑k : Int)) ln0))), (di (Ln.n (List.getD L (Int.toNat (↑k : Int)) ln0))), (di (Ln.d (List.getD L (Int.toNat (↑k : Int)) ln0))), (di (Ln.err (List.getD L (Int.toNat (↑k : Int)) ln0)))]))), (11, (.d (.agg [(ds (Ln.name (List.getD L (Int.toNat (↑k : Int)) ln0))), (ds (Ln.group (List.getD L (Int.toNat (↑k : Int)) ln0))), (di (Ln.kind (List.getD L (Int.toNat (↑k : Int)) ln0))), (db (Ln.app (List.getD L (Int.toNat (↑k : Int)) ln0))), (di (Ln.n (List.getD L (Int.toNat (↑k : Int)) ln0))), (di (Ln.d (List.getD L (Int.toNat (↑k : Int)) ln0))), (di (Ln.err (List.getD L (Int.toNat (↑k : Int)) ln0)))]))), (12, (.box 5 6)), (13, (vi (Ln.err (List.getD L (Int.toNat (↑k : Int)) ln0)))), (14, (vb (Ln.err (List.getD L (Int.toNat (↑k : Int)) ln0) != (0 : Int)))), (15, (vb (Ln.err (List.getD L (Int.toNat (↑k : Int)) ln0) != (0 : Int)))), (19, (vb (Ln.err (List.getD L (Int.toNat (↑k : Int)) ln0) != (0 : Int) && decide ((↑(List.length (failL (List.take k L))) : Int) < (1024 : Int))))), (20, (.vec 900 1 0 (List.length (failL (List.take k L))))), (21, (.box 5 0)), (22, (vs (Ln.name (List.getD L (Int.toNat (↑k : Int)) ln0)))), (23, (.d (.slc 1 1 (elemF false 1 [(ds (Ln.name (List.getD L (Int.toNat (↑k : Int)) ln0)))])))), (24, (.vec 24 1 0 (List.length (failL (List.take k L)) + (1 : Nat)))), (25, (vi ((↑k : Int) + (1 : Int))))], [(24, [(.arr ⟨false, 9, false, none⟩ 1 (fun i => bif Nat.blt i (List.length (failL (List.take k L))) then stR (failL (List.take k L)) i else elemF false (1 : Nat) [DV.con (Value.string (Ln.name (List.getD L (Int.toNat (↑k : Int)) ln0)))] (i - List.length (failL (List.take k L)))))]), (5, [(vs (Ln.name (List.getD L (Int.toNat (↑k : Int)) ln0))), (vs (Ln.group (List.getD L (Int.toNat (↑k : Int)) ln0))), (vi (Ln.kind (List.getD L (Int.toNat (↑k : Int)) ln0))), (vb (Ln.app (List.getD L (Int.toNat (↑k : Int)) ln0))), (vi (Ln.n (List.getD L (Int.toNat (↑k : Int)) ln0))), (vi (Ln.d (List.getD L (Int.toNat (↑k : Int)) ln0))), (vi (Ln.err (List.getD L (Int.toNat (↑k : Int)) ln0)))]), (900, [.dead])]⟩))) ∧
      (((Ln.err (List.getD L (Int.toNat (↑k : Int)) ln0) != (0 : Int) && decide ((↑(List.length (failL (List.take k L))) : Int) < (1024 : Int))) = false) →
      ((I64 ((↑k : Int) + (1 : Int))) ∧
      Again (S17 L) (fun k => k ≤ List.length L) (fun k => List.length L - k) k ⟨regs 27 [(0, (.d (.slc 7 (List.length L) (lnsF L)))), (3, (.vec 900 1 0 (List.length (failL (List.take k L))))), (5, (.box 5 0)), (6, (.d (.slc 7 (List.length L) (lnsF L)))), (7, (vi ((↑(List.length L) : Int)))), (8, (vi ((↑k : Int) + (1 : Int)))), (9, (vb (decide ((↑k : Int) < (↑(List.length L) : Int))))), (10, (.d (.ptr [(ds (Ln.name (List.getD L (Int.toNat (↑k : Int)) ln0))), (ds (Ln.group (List.getD L (Int.toNat (↑k : Int)) ln0))), (di (Ln.kind (List.getD L (Int.toNat (↑k : Int)) ln0))), (db (Ln.app (List.getD L (Int.toNat (↑k : Int)) ln0))), (di (Ln.n (List.getD L (Int.toNat (↑k : Int)) ln0))), (di (Ln.d (List.getD L (Int.toNat (↑k : Int)) ln0))), (di (Ln.err (List.getD L (Int.toNat (↑k : Int)) ln0)))]))), (11, (.d (.agg [(ds (Ln.name (List.getD L (Int.toNat (↑k : Int)) ln0))), (ds (Ln.group (List.getD L (Int.toNat (↑k : Int)) ln0))), (di (Ln.kind (List.getD L (Int.toNat (↑k : Int)) ln0))), (db (Ln.app (List.getD L (Int.toNat (↑k : Int)) ln0))), (di (Ln.n (List.getD L (Int.toNat (↑k : Int)) ln0))), (di (Ln.d (List.getD L (Int.toNat (↑k : Int)) ln0))), (di (Ln.err (List.getD L (Int.toNat (↑k : Int)) ln0)))]))), (12, (.box 5 6)), (13, (vi (Ln.err (List.getD L (Int.toNat (↑k : Int)) ln0)))), (14, (vb (Ln.err (List.getD L (Int.toNat (↑k : Int)) ln0) != (0 : Int)))), (15, (vb (Ln.err (List.getD L (Int.toNat (↑k : Int)) ln0) != (0 : Int)))), (19, (vb (Ln.err (List.getD L (Int.toNat (↑k : Int)) ln0) != (0 : Int) && decide ((↑(List.length (failL (List.take k L))) : Int) < (1024 : Int))))), (25, (vi ((↑k : Int) + (1 : Int))))], [(5, [(vs (Ln.name (List.getD L (Int.toNat (↑k : Int)) ln0))), (vs (Ln.group (List.getD L (Int.toNat (↑k : Int)) ln0))), (vi (Ln.kind (List.getD L (Int.toNat (↑k : Int)) ln0))), (vb (Ln.app (List.getD L (Int.toNat (↑k : Int)) ln0))), (vi (Ln.n (List.getD L (Int.toNat (↑k : Int)) ln0))), (vi (Ln.d (List.getD L (Int.toNat (↑k : Int)) ln0))), (vi (Ln.err (List.getD L (Int.toNat (↑k : Int)) ln0)))]), (900, [(.arr ⟨false, 9, false, none⟩ 1 (stR (failL (List.take k L))))])]⟩))))) ∧
      (((decide ((↑k : Int) < (↑(List.length L) : Int))) = false) →
      AWP Tryz.prog G [.code (cAt (bodyOf Tryz.f17) [1, 1, 1])] ⟨regs 27 [(0, (.d (.slc 7 (List.length L) (lnsF L)))), (3, (.vec 900 1 0 (List.length (failL (List.take k L))))), (6, (.d (.slc 7 (List.length L) (lnsF L)))), (7, (vi ((↑(List.length L) : Int)))), (8, (vi ((↑k : Int)))), (9, (vb (decide ((↑k : Int) < (↑(List.length L) : Int)))))], [(900, [(.arr ⟨false, 9, false, none⟩ 1 (stR (failL (List.take k L))))])]⟩ (Ret Tryz.prog Tryz.f17 (DV.slc (1 : Nat) (List.length (failL L)) (stR (failL L))))))) (by kernel_rfl) ?_
    simp only [Int.toNat_natCast]
    have hfl := fail_len' L k
    refine ⟨fun h1 => ⟨⟨by omega, of_decide_eq_true h1⟩, fun h2 => ⟨⟨⟨by omega, by omega⟩, fun i hi => (by obtain rfl : i = 0 := (by omega); rfl)⟩, ⟨by omega, by have := of_decide_eq_true h1; omega⟩, Again.mkR [(24, 900)] rfl (k + 1) ?_ (by have := of_decide_eq_true h1; show k + 1 ≤ _; omega) (by have := of_decide_eq_true h1; omega)⟩, fun h2 => ⟨⟨by omega, by have := of_decide_eq_true h1; omega⟩, Again.mk (k + 1) ?_ (by have := of_decide_eq_true h1; show k + 1 ≤ _; omega) (by have := of_decide_eq_true h1; omega)⟩⟩, fun h1 => ?_⟩
    · have hk2 : k < L.length := by have := of_decide_eq_true h1; omega
      simp only [Bool.and_eq_true, bne, Bool.not_eq_true'] at h2
      have e := fail_on hk2 h2.1
      refine of_eq (b :=
        (((((.d (.slc 7 (List.length L) (lnsF L))) : AV) = (.d (.slc 7 (List.length L) (lnsF L)))) ∧
        ((((.vec 900 1 0 (List.length (failL (List.take k L)) + (1 : Nat))) : AV) = (.vec 900 1 0 (List.length (failL (List.take (k + (1 : Nat)) L))))) ∧
        ((((.d (.slc 7 (List.length L) (lnsF L))) : AV) = (.d (.slc 7 (List.length L) (lnsF L)))) ∧
        ((((vi ((↑(List.length L) : Int))) : AV) = (vi ((↑(List.length L) : Int)))) ∧
        ((((vi ((↑k : Int) + (1 : Int))) : AV) = (vi ((↑(k + (1 : Nat)) : Int)))) ∧
        True))))) ∧
        ((((some [(.arr ⟨false, 9, false, none⟩ 1 (fun i => bif Nat.blt i (List.length (failL (List.take k L))) then stR (failL (List.take k L)) i else elemF false (1 : Nat) [DV.con (Value.string (Ln.name (List.getD L k ln0)))] (i - List.length (failL (List.take k L)))))]) : (Option (List AV))) = (some [(.arr ⟨false, 9, false, none⟩ 1 (stR (failL (List.take (k + (1 : Nat)) L))))])) ∧
        True))) (by kernel_rfl) ?_
      refine ⟨⟨rfl, ?_, rfl, rfl, rfl, trivial⟩, ?_, trivial⟩
      · rw [e, List.length_append, List.length_singleton]
      · rw [e, stR_snoc]
    · have hk2 : k < L.length := by have := of_decide_eq_true h1; omega
      have hc : (decide (((failL (List.take k L)).length : Int) < 1024)) = true := by simp; omega
      rw [hc, Bool.and_true, bne, Bool.not_eq_false'] at h2
      have e := fail_off hk2 h2
      refine of_eq (b :=
        (((((.d (.slc 7 (List.length L) (lnsF L))) : AV) = (.d (.slc 7 (List.length L) (lnsF L)))) ∧
        ((((.vec 900 1 0 (List.length (failL (List.take k L)))) : AV) = (.vec 900 1 0 (List.length (failL (List.take (k + (1 : Nat)) L))))) ∧
        ((((.d (.slc 7 (List.length L) (lnsF L))) : AV) = (.d (.slc 7 (List.length L) (lnsF L)))) ∧
        ((((vi ((↑(List.length L) : Int))) : AV) = (vi ((↑(List.length L) : Int)))) ∧
        ((((vi ((↑k : Int) + (1 : Int))) : AV) = (vi ((↑(k + (1 : Nat)) : Int)))) ∧
        True))))) ∧
        ((((some [(.arr ⟨false, 9, false, none⟩ 1 (stR (failL (List.take k L))))]) : (Option (List AV))) = (some [(.arr ⟨false, 9, false, none⟩ 1 (stR (failL (List.take (k + (1 : Nat)) L))))])) ∧
        True))) (by kernel_rfl) ?_
      refine ⟨⟨rfl, ?_, rfl, rfl, rfl, trivial⟩, ?_, trivial⟩
      · rw [e]
      · rw [e]
    · simp only [decide_eq_false_iff_not] at h1
      obtain rfl : k = L.length := by omega
      refine walk (orc := orcQ) (keep := []) (cuts := []) (n := 1000) follows ?_
      refine of_eqH (b :=
        (((.slc 1 (List.length (failL (List.take (List.length L) L))) (fun i => stR (failL (List.take (List.length L) L)) ((0 : Nat) + i))) : DV) = (.slc 1 (List.length (failL L)) (stR (failL L))))) (by kernel_rfl) ?_
      rw [List.take_length]
      simp only [Nat.zero_add]
noncomputable def S18 (L : List Ln) (k : Nat) : AS := ⟨regs Tryz.f18.ntmps [(0, .d (lnsD L)), (3, .vec 900 1 0 (failL (L.take k)).length), (4, vi k)], [(900, [.arr stK 1 (stR (failL (L.take k)))])]⟩
theorem f18 (L : List Ln) (hL : L.length ≤ 1000) : FnOK Tryz.prog G 18 [lnsD L] (stL (failL L)) := by
  refine FnOK.res (r := .slc 1 (failL L).length (stR (failL L))) (FnOK.walk (orc := orcQ) (keep := []) follows Tryz.func18 rfl Tryz.call18 ?_) fun k v hv2 => DV.rel_slc_congr (fun i hi => stR_F hi) hv2
  refine of_eqH (b :=
    AWP Tryz.prog G [.code (cAt (bodyOf Tryz.f18) [1, 1, 0, 1, 0]), (.blk 0), .code (cAt (bodyOf Tryz.f18) [1, 1, 1])] ⟨regs 32 [(0, (.d (.slc 7 (List.length L) (lnsF L)))), (2, (.d (.con (.slice none 0 0)))), (3, (.vec 5 1 0 0)), (4, (vi 0)), (5, (.vec 5 1 0 0))], [(5, [(.arr ⟨false, 9, false, none⟩ 1 (fun x => DV.con undef))])]⟩ (Ret Tryz.prog Tryz.f18 (DV.slc (1 : Nat) (List.length (failL L)) (stR (failL L))))) (by kernel_rfl) ?_
  refine AWP.pre (.moves [(5, 900)] _ rfl) ?_
  refine AWP.loop (c := cAt (bodyOf Tryz.f18) [1, 1, 0, 1, 0, 0]) (by kernel_rfl) (S18 L) (fun k => k ≤ L.length) (fun k => L.length - k) 0 ?_ (Nat.zero_le _) ?_
  · refine of_eq (b :=
    (((((.d (.slc 7 (List.length L) (lnsF L))) : AV) = (.d (.slc 7 (List.length L) (lnsF L)))) ∧
    ((((.vec 900 1 0 0) : AV) = (.vec 900 1 0 0)) ∧
    ((((vi 0) : AV) = (vi 0)) ∧
    True))) ∧
    ((((some [(.arr ⟨false, 9, false, none⟩ 1 (fun x => DV.con undef))]) : (Option (List AV))) = (some [(.arr ⟨false, 9, false, none⟩ 1 (stR (failL (List.take (0 : Nat) L))))])) ∧
    True))) (by kernel_rfl) ?_
    exact ⟨⟨rfl, rfl, rfl, trivial⟩, rfl, trivial⟩
  · rintro k hk
    refine walk (orc := orcQ) (keep := []) (cuts := []) (n := 1000) follows ?_
    refine of_eqH (b :=
      ((((decide ((↑k : Int) < (↑(List.length L) : Int)) && decide ((↑(List.length (failL (List.take k L))) : Int) < (1024 : Int))) = true) →
      ((((0 : Int) ≤ (↑k : Int)) ∧
      ((↑k : Int) < (↑(List.length L) : Int))) ∧
      ((((Ln.err (List.getD L (Int.toNat (↑k : Int)) ln0) != (0 : Int)) = true) →
      (((((0 : Int) ≤ (↑k : Int)) ∧
      ((↑k : Int) < (↑(List.length L) : Int))) ∧
      ((((List.length (failL (List.take k L)) + (1 : Nat)) * (16 : Nat) ≤ (1099511627776 : Nat)) ∧
      (List.length (failL (List.take k L)) + (1 : Nat) ≤ (1099511627776 : Nat))) ∧
      (∀ (i : Nat), i < (1 : Nat) → elemOK false (1 : Nat) (elemF false (1 : Nat) [DV.con (Value.string (Ln.name (List.getD L (Int.toNat (↑k : Int)) ln0)))] i) = true))) ∧
      ((I64 ((↑k : Int) + (1 : Int))) ∧
      Again (S18 L) (fun k => k ≤ List.length L) (fun k => List.length L - k) k ⟨regs 32 [(0, (.d (.slc 7 (List.length L) (lnsF L)))), (3, (.vec 30 1 0 (List.length (failL (List.take k L)) + (1 : Nat)))), (4, (vi ((↑k : Int) + (1 : Int)))), (6, (vi ((↑k : Int)))), (7, (.d (.slc 7 (List.length L) (lnsF L)))), (8, (vi ((↑(List.length L) : Int)))), (9, (vb (decide ((↑k : Int) < (↑(List.length L) : Int))))), (10, (vb (decide ((↑k : Int) < (↑(List.length L) : Int))))), (14, (vb (decide ((↑k : Int) < (↑(List.length L) : Int)) && decide ((↑(List.length (failL (List.take k L))) : Int) < (1024 : Int))))), (15, (vi ((↑k : Int)))), (16, (vi ((↑k : Int) + (1 : Int)))), (17, (.d (.slc 7 (List.length L) (lnsF L)))), (18, (vi ((↑k : Int)))), (19, (.d (.ptr [(ds (Ln.name (List.getD L (Int.toNat (↑k : Int)) ln0))), (ds (Ln.group (List.getD L (Int.toNat (↑k : Int)) ln0))), (di (Ln.kind (List.getD L (Int.toNat (↑k : Int)) ln0))), (db (Ln.app (List.getD L (Int.toNat (↑k : Int)) ln0))), (di (Ln.n (List.getD L (Int.toNat (↑k : Int)) ln0))), (di (Ln.d (List.getD L (Int.toNat (↑k : Int)) ln0))), (di (Ln.err (List.getD L (Int.toNat (↑k : Int)) ln0)))]))), (20, (.d (.ptr [(di (Ln.err (List.getD L (Int.toNat (↑k : Int)) ln0)))]))), (21, (vi (Ln.err (List.getD L (Int.toNat (↑k : Int)) ln0)))), (22, (vb (Ln.err (List.getD L (Int.toNat (↑k : Int)) ln0) != (0 : Int)))), (23, (.vec 900 1 0 (List.length (failL (List.take k L))))), (24, (.d (.slc 7 (List.length L) (lnsF L)))), (25, (vi ((↑k : Int)))), (26, (.d (.ptr [(ds (Ln.name (List.getD L (Int.toNat (↑k : Int)) ln0))), (ds (Ln.group (List.getD L (Int.toNat (↑k : Int)) ln0))), (di (Ln.kind (List.getD L (Int.toNat (↑k : Int)) ln0))), (db (Ln.app (List.getD L (Int.toNat (↑k : Int)) ln0))), (di (Ln.n (List.getD L (Int.toNat (↑k : Int)) ln0))), (di (Ln.d (List.getD L (Int.toNat (↑k : Int)) ln0))), (di (Ln.err (List.getD L (Int.toNat (↑k : Int)) ln0)))]))), (27, (.d (.ptr [(ds (Ln.name (List.getD L (Int.toNat (↑k : Int)) ln0))), (ds (Ln.group (List.getD L (Int.toNat (↑k : Int)) ln0))), (di (Ln.kind (List.getD L (Int.toNat (↑k : Int)) ln0))), (db (Ln.app (List.getD L (Int.toNat (↑k : Int)) ln0))), (di (Ln.n (List.getD L (Int.toNat (↑k : Int)) ln0))), (di (Ln.d (List.getD L (Int.toNat (↑k : Int)) ln0))), (di (Ln.err (List.getD L (Int.toNat (↑k : Int)) ln0)))]))), (28, (vs (Ln.name (List.getD L (Int.toNat (↑k : Int)) ln0)))), (29, (.d (.slc 1 1 (elemF false 1 [(ds (Ln.name (List.getD L (Int.toNat (↑k : Int)) ln0)))])))), (30, (.vec 30 1 0 (List.length (failL (List.take k L)) + (1 : Nat))))], [(30, [(.arr ⟨false, 9, false, none⟩ 1 (fun i => bif Nat.blt i (List.length (failL (List.take k L))) then stR (failL (List.take k L)) i else elemF false (1 : Nat) [DV.con (Value.string (Ln.name (List.getD L (Int.toNat (↑k : Int)) ln0)))] (i - List.length (failL (List.take k L)))))]), (900, [.dead])]⟩))) ∧
      (((Ln.err (List.getD L (Int.toNat (↑k : Int)) ln0) != (0 : Int)) = false) →
      ((I64 ((↑k : Int) + (1 : Int))) ∧
      Again (S18 L) (fun k => k ≤ List.length L) (fun k => List.length L - k) k ⟨regs 32 [(0, (.d (.slc 7 (List.length L) (lnsF L)))), (3, (.vec 900 1 0 (List.length (failL (List.take k L))))), (4, (vi ((↑k : Int) + (1 : Int)))), (6, (vi ((↑k : Int)))), (7, (.d (.slc 7 (List.length L) (lnsF L)))), (8, (vi ((↑(List.length L) : Int)))), (9, (vb (decide ((↑k : Int) < (↑(List.length L) : Int))))), (10, (vb (decide ((↑k : Int) < (↑(List.length L) : Int))))), (14, (vb (decide ((↑k : Int) < (↑(List.length L) : Int)) && decide ((↑(List.length (failL (List.take k L))) : Int) < (1024 : Int))))), (15, (vi ((↑k : Int)))), (16, (vi ((↑k : Int) + (1 : Int)))), (17, (.d (.slc 7 (List.length L) (lnsF L)))), (18, (vi ((↑k : Int)))), (19, (.d (.ptr [(ds (Ln.name (List.getD L (Int.toNat (↑k : Int)) ln0))), (ds (Ln.group (List.getD L (Int.toNat (↑k : Int)) ln0))), (di (Ln.kind (List.getD L (Int.toNat (↑k : Int)) ln0))), (db (Ln.app (List.getD L (Int.toNat (↑k : Int)) ln0))), (di (Ln.n (List.getD L (Int.toNat (↑k : Int)) ln0))), (di (Ln.d (List.getD L (Int.toNat (↑k : Int)) ln0))), (di (Ln.err (List.getD L (Int.toNat (↑k : Int)) ln0)))]))), (20, (.d (.ptr [(di (Ln.err (List.getD L (Int.toNat (↑k : Int)) ln0)))]))), (21, (vi (Ln.err (List.getD L (Int.toNat (↑k : Int)) ln0)))), (22, (vb (Ln.err (List.getD L (Int.toNat (↑k : Int)) ln0) != (0 : Int))))], [(900, [(.arr ⟨false, 9, false, none⟩ 1 (stR (failL (List.take k L))))])]⟩))))) ∧
      (((decide ((↑k : Int) < (↑(List.length L) : Int)) && decide ((↑(List.length (failL (List.take k L))) : Int) < (1024 : Int))) = false) →
      AWP Tryz.prog G [.code (cAt (bodyOf Tryz.f18) [1, 1, 1])] ⟨regs 32 [(0, (.d (.slc 7 (List.length L) (lnsF L)))), (3, (.vec 900 1 0 (List.length (failL (List.take k L))))), (4, (vi ((↑k : Int)))), (6, (vi ((↑k : Int)))), (7, (.d (.slc 7 (List.length L) (lnsF L)))), (8, (vi ((↑(List.length L) : Int)))), (9, (vb (decide ((↑k : Int) < (↑(List.length L) : Int))))), (10, (vb (decide ((↑k : Int) < (↑(List.length L) : Int))))), (11, (.gate 10 true (decide ((↑k : Int) < (↑(List.length L) : Int))) (.vec 900 1 0 (List.length (failL (List.take k L)))))), (12, (.gate 10 true (decide ((↑k : Int) < (↑(List.length L) : Int))) (vi ((↑(List.length (failL (List.take k L))) : Int))))), (13, (.gate 10 true (decide ((↑k : Int) < (↑(List.length L) : Int))) (vb (decide ((↑(List.length (failL (List.take k L))) : Int) < (1024 : Int)))))), (14, (vb (decide ((↑k : Int) < (↑(List.length L) : Int)) && decide ((↑(List.length (failL (List.take k L))) : Int) < (1024 : Int)))))], [(900, [(.arr ⟨false, 9, false, none⟩ 1 (stR (failL (List.take k L))))])]⟩ (Ret Tryz.prog Tryz.f18 (DV.slc (1 : Nat) (List.length (failL L)) (stR (failL L))))))) (by kernel_rfl) ?_
    simp only [Int.toNat_natCast]
    have hfl := fail_len' L k
    have hc : (decide (((failL (List.take k L)).length : Int) < 1024)) = true := by simp; omega
    rw [hc, Bool.and_true]
    refine ⟨fun h1 => ⟨⟨by omega, of_decide_eq_true h1⟩, fun h2 => ⟨⟨⟨by omega, of_decide_eq_true h1⟩, ⟨by omega, by omega⟩, fun i hi => (by obtain rfl : i = 0 := (by omega); rfl)⟩, ⟨by omega, by have := of_decide_eq_true h1; omega⟩, Again.mkR [(30, 900)] rfl (k + 1) ?_ (by have := of_decide_eq_true h1; show k + 1 ≤ _; omega) (by have := of_decide_eq_true h1; omega)⟩, fun h2 => ⟨⟨by omega, by have := of_decide_eq_true h1; omega⟩, Again.mk (k + 1) ?_ (by have := of_decide_eq_true h1; show k + 1 ≤ _; omega) (by have := of_decide_eq_true h1; omega)⟩⟩, fun h1 => ?_⟩
    · have hk2 : k < L.length := by have := of_decide_eq_true h1; omega
      simp only [bne, Bool.not_eq_true'] at h2
      have e := fail_on hk2 h2
      refine of_eq (b :=
        (((((.d (.slc 7 (List.length L) (lnsF L))) : AV) = (.d (.slc 7 (List.length L) (lnsF L)))) ∧
        ((((.vec 900 1 0 (List.length (failL (List.take k L)) + (1 : Nat))) : AV) = (.vec 900 1 0 (List.length (failL (List.take (k + (1 : Nat)) L))))) ∧
        ((((vi ((↑k : Int) + (1 : Int))) : AV) = (vi ((↑(k + (1 : Nat)) : Int)))) ∧
        True))) ∧
        ((((some [(.arr ⟨false, 9, false, none⟩ 1 (fun i => bif Nat.blt i (List.length (failL (List.take k L))) then stR (failL (List.take k L)) i else elemF false (1 : Nat) [DV.con (Value.string (Ln.name (List.getD L k ln0)))] (i - List.length (failL (List.take k L)))))]) : (Option (List AV))) = (some [(.arr ⟨false, 9, false, none⟩ 1 (stR (failL (List.take (k + (1 : Nat)) L))))])) ∧
        True))) (by kernel_rfl) ?_
      refine ⟨⟨rfl, ?_, rfl, trivial⟩, ?_, trivial⟩
      · rw [e, List.length_append, List.length_singleton]
      · rw [e, stR_snoc]
    · have hk2 : k < L.length := by have := of_decide_eq_true h1; omega
      rw [bne, Bool.not_eq_false'] at h2
      have e := fail_off hk2 h2
      refine of_eq (b :=
        (((((.d (.slc 7 (List.length L) (lnsF L))) : AV) = (.d (.slc 7 (List.length L) (lnsF L)))) ∧
        ((((.vec 900 1 0 (List.length (failL (List.take k L)))) : AV) = (.vec 900 1 0 (List.length (failL (List.take (k + (1 : Nat)) L))))) ∧
        ((((vi ((↑k : Int) + (1 : Int))) : AV) = (vi ((↑(k + (1 : Nat)) : Int)))) ∧
        True))) ∧
        ((((some [(.arr ⟨false, 9, false, none⟩ 1 (stR (failL (List.take k L))))]) : (Option (List AV))) = (some [(.arr ⟨false, 9, false, none⟩ 1 (stR (failL (List.take (k + (1 : Nat)) L))))])) ∧
        True))) (by kernel_rfl) ?_
      refine ⟨⟨rfl, ?_, rfl, trivial⟩, ?_, trivial⟩
      · rw [e]
      · rw [e]
    · simp only [decide_eq_false_iff_not] at h1
      obtain rfl : k = L.length := by omega
      refine walk (orc := orcQ) (keep := []) (cuts := []) (n := 1000) follows ?_
      refine of_eqH (b :=
        (((.slc 1 (List.length (failL (List.take (List.length L) L))) (fun i => stR (failL (List.take (List.length L) L)) ((0 : Nat) + i))) : DV) = (.slc 1 (List.length (failL L)) (stR (failL L))))) (by kernel_rfl) ?_
      rw [List.take_length]
      simp only [Nat.zero_add]
noncomputable def S16 (l : List ByteArray) (k : Nat) : AS := ⟨regs Tryz.f16.ntmps [(0, .d (stL l)), (1, .d (stL l)), (5, vi k)], []⟩
theorem f16 (l : List ByteArray) (hl : l.length ≤ 1000000) : FnOK Tryz.prog G 16 [stL l, stL l] (db true) := by
  refine FnOK.walk (orc := orcQ) (keep := []) follows Tryz.func16 rfl Tryz.call16 ?_
  refine of_eqH (b :=
    (((((↑(List.length l) : Int) != (↑(List.length l) : Int)) = true) →
    (((db false) : DV) = (db true))) ∧
    ((((↑(List.length l) : Int) != (↑(List.length l) : Int)) = false) →
    AWP Tryz.prog G [.code (cAt (bodyOf Tryz.f16) [1, 1, 0, 1, 0]), (.blk 0), .code (cAt (bodyOf Tryz.f16) [1, 1, 1])] ⟨regs 26 [(0, (.d (.slc 1 (List.length l) (stF l)))), (1, (.d (.slc 1 (List.length l) (stF l)))), (4, (vb false)), (5, (vi 0)), (6, (.d (.slc 1 (List.length l) (stF l)))), (7, (vi ((↑(List.length l) : Int)))), (8, (.d (.slc 1 (List.length l) (stF l)))), (9, (vi ((↑(List.length l) : Int)))), (10, (vb ((↑(List.length l) : Int) != (↑(List.length l) : Int))))], []⟩ (Ret Tryz.prog Tryz.f16 (db true))))) (by kernel_rfl) ?_
  refine ⟨fun h => by simp at h, fun _ => ?_⟩
  refine AWP.loop (c := cAt (bodyOf Tryz.f16) [1, 1, 0, 1, 0, 0]) (by kernel_rfl) (S16 l) (fun k => k ≤ l.length) (fun k => l.length - k) 0 ?_ (Nat.zero_le _) ?_
  · refine of_eq (b :=
    (((((.d (.slc 1 (List.length l) (stF l))) : AV) = (.d (.slc 1 (List.length l) (stF l)))) ∧
    ((((.d (.slc 1 (List.length l) (stF l))) : AV) = (.d (.slc 1 (List.length l) (stF l)))) ∧
    ((((vi 0) : AV) = (vi 0)) ∧
    True))) ∧
    True)) (by kernel_rfl) ?_
    exact ⟨⟨rfl, rfl, rfl, trivial⟩, trivial⟩
  · rintro k hk
    refine walk (orc := orcQ) (keep := []) (cuts := []) (n := 1000) follows ?_
    refine of_eqH (b :=
      ((((decide ((↑k : Int) < (↑(List.length l) : Int))) = true) →
      (((((0 : Int) ≤ (↑k : Int)) ∧
      ((↑k : Int) < (↑(List.length l) : Int))) ∧
      (((0 : Int) ≤ (↑k : Int)) ∧
      ((↑k : Int) < (↑(List.length l) : Int)))) ∧
      ((((!ByteArray.toList (List.getD l (Int.toNat (↑k : Int)) ByteArray.empty) == ByteArray.toList (List.getD l (Int.toNat (↑k : Int)) ByteArray.empty)) = true) →
      (((db false) : DV) = (db true))) ∧
      (((!ByteArray.toList (List.getD l (Int.toNat (↑k : Int)) ByteArray.empty) == ByteArray.toList (List.getD l (Int.toNat (↑k : Int)) ByteArray.empty)) = false) →
      ((I64 ((↑k : Int) + (1 : Int))) ∧
      Again (S16 l) (fun k => k ≤ List.length l) (fun k => List.length l - k) k ⟨regs 26 [(0, (.d (.slc 1 (List.length l) (stF l)))), (1, (.d (.slc 1 (List.length l) (stF l)))), (5, (vi ((↑k : Int) + (1 : Int)))), (11, (vi ((↑k : Int)))), (12, (.d (.slc 1 (List.length l) (stF l)))), (13, (vi ((↑(List.length l) : Int)))), (14, (vb (decide ((↑k : Int) < (↑(List.length l) : Int))))), (15, (vi ((↑k : Int)))), (16, (vi ((↑k : Int) + (1 : Int)))), (17, (.d (.slc 1 (List.length l) (stF l)))), (18, (vi ((↑k : Int)))), (19, (.d (.ptr [(ds (List.getD l (Int.toNat (↑k : Int)) ByteArray.empty))]))), (20, (vs (List.getD l (Int.toNat (↑k : Int)) ByteArray.empty))), (21, (.d (.slc 1 (List.length l) (stF l)))), (22, (vi ((↑k : Int)))), (23, (.d (.ptr [(ds (List.getD l (Int.toNat (↑k : Int)) ByteArray.empty))]))), (24, (vs (List.getD l (Int.toNat (↑k : Int)) ByteArray.empty))), (25, (vb (!ByteArray.toList (List.getD l (Int.toNat (↑k : Int)) ByteArray.empty) == ByteArray.toList (List.getD l (Int.toNat (↑k : Int)) ByteArray.empty))))], []⟩))))) ∧
      (((decide ((↑k : Int) < (↑(List.length l) : Int))) = false) →
      AWP Tryz.prog G [.code (cAt (bodyOf Tryz.f16) [1, 1, 1])] ⟨regs 26 [(0, (.d (.slc 1 (List.length l) (stF l)))), (1, (.d (.slc 1 (List.length l) (stF l)))), (5, (vi ((↑k : Int)))), (11, (vi ((↑k : Int)))), (12, (.d (.slc 1 (List.length l) (stF l)))), (13, (vi ((↑(List.length l) : Int)))), (14, (vb (decide ((↑k : Int) < (↑(List.length l) : Int)))))], []⟩ (Ret Tryz.prog Tryz.f16 (db true))))) (by kernel_rfl) ?_
    refine ⟨fun h1 => ⟨⟨⟨by omega, of_decide_eq_true h1⟩, by omega, of_decide_eq_true h1⟩, fun h2 => by simp at h2, fun _ => ⟨⟨by omega, by have := of_decide_eq_true h1; omega⟩, Again.mk (k + 1) ?_ (by have := of_decide_eq_true h1; show k + 1 ≤ _; omega) (by have := of_decide_eq_true h1; omega)⟩⟩, fun h1 => ?_⟩
    · refine of_eq (b :=
      (((((.d (.slc 1 (List.length l) (stF l))) : AV) = (.d (.slc 1 (List.length l) (stF l)))) ∧
      ((((.d (.slc 1 (List.length l) (stF l))) : AV) = (.d (.slc 1 (List.length l) (stF l)))) ∧
      ((((vi ((↑k : Int) + (1 : Int))) : AV) = (vi ((↑(k + (1 : Nat)) : Int)))) ∧
      True))) ∧
      True)) (by kernel_rfl) ?_
      exact ⟨⟨rfl, rfl, rfl, trivial⟩, trivial⟩
    · refine walk (orc := orcQ) (keep := []) (cuts := []) (n := 1000) follows ?_
      refine of_eqH (b :=
        (((db true) : DV) = (db true))) (by kernel_rfl) ?_
      rfl
noncomputable def S15 (ps : List Pt) (p q h : Int) (k : Nat) : AS := ⟨regs Tryz.f15.ntmps [(2, .box 2 0), (3, .box 3 0), (5, vi k)], [(2, [.d (.slc 3 ps.length (ptF ps)), vi p, vi q, vi h]), (3, [.d (.slc 3 ps.length (ptF ps)), vi p, vi q, vi h])]⟩
theorem f15 (ps : List Pt) (p q h : Int) (hl : ps.length ≤ 1000000) : FnOK Tryz.prog G 15 [crV ps p q h, crV ps p q h] (db true) := by
  refine FnOK.walk (orc := orcQ) (keep := []) follows Tryz.func15 rfl Tryz.call15 ?_
  refine of_eqH (b :=
    (((((↑(List.length ps) : Int) != (↑(List.length ps) : Int) || !Bool.rec false (q == q) (p == p) || h != h) = true) →
    (((db false) : DV) = (db true))) ∧
    ((((↑(List.length ps) : Int) != (↑(List.length ps) : Int) || !Bool.rec false (q == q) (p == p) || h != h) = false) →
    AWP Tryz.prog G [.code (cAt (bodyOf Tryz.f15) [1, 1, 0, 1, 0]), (.blk 0), .code (cAt (bodyOf Tryz.f15) [1, 1, 1])] ⟨regs 45 [(0, (.d (.agg [(.slc 3 (List.length ps) (ptF ps)), (di p), (di q), (di h)]))), (1, (.d (.agg [(.slc 3 (List.length ps) (ptF ps)), (di p), (di q), (di h)]))), (2, (.box 2 0)), (3, (.box 3 0)), (4, (vb false)), (5, (vi 0)), (6, (.box 2 0)), (7, (.d (.slc 3 (List.length ps) (ptF ps)))), (8, (vi ((↑(List.length ps) : Int)))), (9, (.box 3 0)), (10, (.d (.slc 3 (List.length ps) (ptF ps)))), (11, (vi ((↑(List.length ps) : Int)))), (12, (vb ((↑(List.length ps) : Int) != (↑(List.length ps) : Int)))), (13, (vb ((↑(List.length ps) : Int) != (↑(List.length ps) : Int)))), (19, (vb ((↑(List.length ps) : Int) != (↑(List.length ps) : Int) || !Bool.rec false (q == q) (p == p)))), (20, (vb ((↑(List.length ps) : Int) != (↑(List.length ps) : Int) || !Bool.rec false (q == q) (p == p)))), (26, (vb ((↑(List.length ps) : Int) != (↑(List.length ps) : Int) || !Bool.rec false (q == q) (p == p) || h != h)))], [(3, [(.d (.slc 3 (List.length ps) (ptF ps))), (vi p), (vi q), (vi h)]), (2, [(.d (.slc 3 (List.length ps) (ptF ps))), (vi p), (vi q), (vi h)])]⟩ (Ret Tryz.prog Tryz.f15 (db true))))) (by kernel_rfl) ?_
  refine ⟨fun h => by simp at h, fun _ => ?_⟩
  refine AWP.loop (c := cAt (bodyOf Tryz.f15) [1, 1, 0, 1, 0, 0]) (by kernel_rfl) (S15 ps p q h) (fun k => k ≤ ps.length) (fun k => ps.length - k) 0 ?_ (Nat.zero_le _) ?_
  · refine of_eq (b :=
    (((((.box 2 0) : AV) = (.box 2 0)) ∧
    ((((.box 3 0) : AV) = (.box 3 0)) ∧
    ((((vi 0) : AV) = (vi 0)) ∧
    True))) ∧
    ((((some [(.d (.slc 3 (List.length ps) (ptF ps))), (vi p), (vi q), (vi h)]) : (Option (List AV))) = (some [(.d (.slc 3 (List.length ps) (ptF ps))), (vi p), (vi q), (vi h)])) ∧
    ((((some [(.d (.slc 3 (List.length ps) (ptF ps))), (vi p), (vi q), (vi h)]) : (Option (List AV))) = (some [(.d (.slc 3 (List.length ps) (ptF ps))), (vi p), (vi q), (vi h)])) ∧
    True)))) (by kernel_rfl) ?_
    exact ⟨⟨rfl, rfl, rfl, trivial⟩, rfl, rfl, trivial⟩
  · rintro k hk
    refine walk (orc := orcQ) (keep := []) (cuts := []) (n := 1000) follows ?_
    refine of_eqH (b :=
      ((((decide ((↑k : Int) < (↑(List.length ps) : Int))) = true) →
      (((((0 : Int) ≤ (↑k : Int)) ∧
      ((↑k : Int) < (↑(List.length ps) : Int))) ∧
      (((0 : Int) ≤ (↑k : Int)) ∧
      ((↑k : Int) < (↑(List.length ps) : Int)))) ∧
      ((((!Bool.rec false (Prod.fst (Prod.snd (List.getD ps (Int.toNat (↑k : Int)) (ByteArray.empty, (0 : Int), (0 : Int)))) == Prod.fst (Prod.snd (List.getD ps (Int.toNat (↑k : Int)) (ByteArray.empty, (0 : Int), (0 : Int)))) && Prod.snd (Prod.snd (List.getD ps (Int.toNat (↑k : Int)) (ByteArray.empty, (0 : Int), (0 : Int)))) == Prod.snd (Prod.snd (List.getD ps (Int.toNat (↑k : Int)) (ByteArray.empty, (0 : Int), (0 : Int))))) (ByteArray.toList (Prod.fst (List.getD ps (Int.toNat (↑k : Int)) (ByteArray.empty, (0 : Int), (0 : Int)))) == ByteArray.toList (Prod.fst (List.getD ps (Int.toNat (↑k : Int)) (ByteArray.empty, (0 : Int), (0 : Int)))))) = true) →
      (((db false) : DV) = (db true))) ∧
      (((!Bool.rec false (Prod.fst (Prod.snd (List.getD ps (Int.toNat (↑k : Int)) (ByteArray.empty, (0 : Int), (0 : Int)))) == Prod.fst (Prod.snd (List.getD ps (Int.toNat (↑k : Int)) (ByteArray.empty, (0 : Int), (0 : Int)))) && Prod.snd (Prod.snd (List.getD ps (Int.toNat (↑k : Int)) (ByteArray.empty, (0 : Int), (0 : Int)))) == Prod.snd (Prod.snd (List.getD ps (Int.toNat (↑k : Int)) (ByteArray.empty, (0 : Int), (0 : Int))))) (ByteArray.toList (Prod.fst (List.getD ps (Int.toNat (↑k : Int)) (ByteArray.empty, (0 : Int), (0 : Int)))) == ByteArray.toList (Prod.fst (List.getD ps (Int.toNat (↑k : Int)) (ByteArray.empty, (0 : Int), (0 : Int)))))) = false) →
      ((I64 ((↑k : Int) + (1 : Int))) ∧
      Again (S15 ps p q h) (fun k => k ≤ List.length ps) (fun k => List.length ps - k) k ⟨regs 45 [(2, (.box 2 0)), (3, (.box 3 0)), (5, (vi ((↑k : Int) + (1 : Int)))), (27, (vi ((↑k : Int)))), (28, (.box 2 0)), (29, (.d (.slc 3 (List.length ps) (ptF ps)))), (30, (vi ((↑(List.length ps) : Int)))), (31, (vb (decide ((↑k : Int) < (↑(List.length ps) : Int))))), (32, (vi ((↑k : Int)))), (33, (vi ((↑k : Int) + (1 : Int)))), (34, (.box 2 0)), (35, (.d (.slc 3 (List.length ps) (ptF ps)))), (36, (vi ((↑k : Int)))), (37, (.d (.ptr [(ds (Prod.fst (List.getD ps (Int.toNat (↑k : Int)) (ByteArray.empty, (0 : Int), (0 : Int))))), (di (Prod.fst (Prod.snd (List.getD ps (Int.toNat (↑k : Int)) (ByteArray.empty, (0 : Int), (0 : Int)))))), (di (Prod.snd (Prod.snd (List.getD ps (Int.toNat (↑k : Int)) (ByteArray.empty, (0 : Int), (0 : Int))))))]))), (38, (.d (.agg [(ds (Prod.fst (List.getD ps (Int.toNat (↑k : Int)) (ByteArray.empty, (0 : Int), (0 : Int))))), (di (Prod.fst (Prod.snd (List.getD ps (Int.toNat (↑k : Int)) (ByteArray.empty, (0 : Int), (0 : Int)))))), (di (Prod.snd (Prod.snd (List.getD ps (Int.toNat (↑k : Int)) (ByteArray.empty, (0 : Int), (0 : Int))))))]))), (39, (.box 3 0)), (40, (.d (.slc 3 (List.length ps) (ptF ps)))), (41, (vi ((↑k : Int)))), (42, (.d (.ptr [(ds (Prod.fst (List.getD ps (Int.toNat (↑k : Int)) (ByteArray.empty, (0 : Int), (0 : Int))))), (di (Prod.fst (Prod.snd (List.getD ps (Int.toNat (↑k : Int)) (ByteArray.empty, (0 : Int), (0 : Int)))))), (di (Prod.snd (Prod.snd (List.getD ps (Int.toNat (↑k : Int)) (ByteArray.empty, (0 : Int), (0 : Int))))))]))), (43, (.d (.agg [(ds (Prod.fst (List.getD ps (Int.toNat (↑k : Int)) (ByteArray.empty, (0 : Int), (0 : Int))))), (di (Prod.fst (Prod.snd (List.getD ps (Int.toNat (↑k : Int)) (ByteArray.empty, (0 : Int), (0 : Int)))))), (di (Prod.snd (Prod.snd (List.getD ps (Int.toNat (↑k : Int)) (ByteArray.empty, (0 : Int), (0 : Int))))))]))), (44, (vb (!Bool.rec false (Prod.fst (Prod.snd (List.getD ps (Int.toNat (↑k : Int)) (ByteArray.empty, (0 : Int), (0 : Int)))) == Prod.fst (Prod.snd (List.getD ps (Int.toNat (↑k : Int)) (ByteArray.empty, (0 : Int), (0 : Int)))) && Prod.snd (Prod.snd (List.getD ps (Int.toNat (↑k : Int)) (ByteArray.empty, (0 : Int), (0 : Int)))) == Prod.snd (Prod.snd (List.getD ps (Int.toNat (↑k : Int)) (ByteArray.empty, (0 : Int), (0 : Int))))) (ByteArray.toList (Prod.fst (List.getD ps (Int.toNat (↑k : Int)) (ByteArray.empty, (0 : Int), (0 : Int)))) == ByteArray.toList (Prod.fst (List.getD ps (Int.toNat (↑k : Int)) (ByteArray.empty, (0 : Int), (0 : Int))))))))], [(2, [(.d (.slc 3 (List.length ps) (ptF ps))), (vi p), (vi q), (vi h)]), (3, [(.d (.slc 3 (List.length ps) (ptF ps))), (vi p), (vi q), (vi h)])]⟩))))) ∧
      (((decide ((↑k : Int) < (↑(List.length ps) : Int))) = false) →
      AWP Tryz.prog G [.code (cAt (bodyOf Tryz.f15) [1, 1, 1])] ⟨regs 45 [(2, (.box 2 0)), (3, (.box 3 0)), (5, (vi ((↑k : Int)))), (27, (vi ((↑k : Int)))), (28, (.box 2 0)), (29, (.d (.slc 3 (List.length ps) (ptF ps)))), (30, (vi ((↑(List.length ps) : Int)))), (31, (vb (decide ((↑k : Int) < (↑(List.length ps) : Int)))))], [(2, [(.d (.slc 3 (List.length ps) (ptF ps))), (vi p), (vi q), (vi h)]), (3, [(.d (.slc 3 (List.length ps) (ptF ps))), (vi p), (vi q), (vi h)])]⟩ (Ret Tryz.prog Tryz.f15 (db true))))) (by kernel_rfl) ?_
    refine ⟨fun h1 => ⟨⟨⟨by omega, of_decide_eq_true h1⟩, by omega, of_decide_eq_true h1⟩, fun h2 => by simp at h2, fun _ => ⟨⟨by omega, by have := of_decide_eq_true h1; omega⟩, Again.mk (k + 1) ?_ (by have := of_decide_eq_true h1; show k + 1 ≤ _; omega) (by have := of_decide_eq_true h1; omega)⟩⟩, fun h1 => ?_⟩
    · refine of_eq (b :=
      (((((.box 2 0) : AV) = (.box 2 0)) ∧
      ((((.box 3 0) : AV) = (.box 3 0)) ∧
      ((((vi ((↑k : Int) + (1 : Int))) : AV) = (vi ((↑(k + (1 : Nat)) : Int)))) ∧
      True))) ∧
      ((((some [(.d (.slc 3 (List.length ps) (ptF ps))), (vi p), (vi q), (vi h)]) : (Option (List AV))) = (some [(.d (.slc 3 (List.length ps) (ptF ps))), (vi p), (vi q), (vi h)])) ∧
      ((((some [(.d (.slc 3 (List.length ps) (ptF ps))), (vi p), (vi q), (vi h)]) : (Option (List AV))) = (some [(.d (.slc 3 (List.length ps) (ptF ps))), (vi p), (vi q), (vi h)])) ∧
      True)))) (by kernel_rfl) ?_
      exact ⟨⟨rfl, rfl, rfl, trivial⟩, rfl, rfl, trivial⟩
    · refine walk (orc := orcQ) (keep := []) (cuts := []) (n := 1000) follows ?_
      refine of_eqH (b :=
        (((db true) : DV) = (db true))) (by kernel_rfl) ?_
      rfl
end Go.Proofs

/- Credits, plain: the rounds that the reference's Combine goes through. -/
set_option autoImplicit false
namespace Go.Proofs
open Go Go.Ab
theorem become_st {t : T} {nm : ByteArray} {a b e : Int} (h : t.wr = true) : (become t nm a b e).wr = true := by
  unfold become
  rw [if_neg (by rw [h]; simp)]
theorem step_st {L : List Ln} {k : Int} {i : Nat} {t : T} (h : t.wr = true) : (stepT L k i t).wr = true := by
  unfold stepT pointsT penT floorT capT addT
  repeat' split
  all_goals first | exact become_st h | exact h
theorem phase_st {L : List Ln} {k : Int} {t : T} (h : t.wr = true) : ∀ i : Nat, (phase L k i t).wr = true
  | 0 => h
  | i + 1 => by
    rw [phase]
    split
    · exact step_st (phase_st h i)
    · exact phase_st h i
theorem phase_up {L : List Ln} {k : Int} {t : T} {i : Nat} (h : (phase L k i t).wr = true) : ∀ j : Nat, (phase L k (i + j) t).wr = true
  | 0 => h
  | j + 1 => by
    rw [← Nat.add_assoc, phase]
    split
    · exact step_st (phase_up h j)
    · exact phase_up h j
theorem tk_up {L : List Ln} {k : Nat} (h : (tk L k).wr = true) : ∀ j : Nat, (tk L (k + j)).wr = true
  | 0 => h
  | j + 1 => phase_st (tk_up h j) _
theorem comb_st {L : List Ln} {k i : Nat} (hk : k < 4) (hi : i ≤ L.length) (h : (phase L (kd k) i (tk L k)).wr = true) : (combT L).wr = true := by
  have h1 : (tk L (k + 1)).wr = true := by
    have := phase_up h (L.length - i)
    rw [show i + (L.length - i) = L.length by omega] at this
    exact this
  have h2 := tk_up h1 (4 - (k + 1))
  rw [show k + 1 + (4 - (k + 1)) = 4 by omega] at h2
  exact h2
theorem phase_good {L : List Ln} (hL : AppOk L) {k : Nat} (hk : k < 4) (i : Nat) (t : T) (hi : i ≤ L.length) (h : GoodT t) : GoodT (phase L (kd k) i t) := by
  have h4 : k = 0 ∨ k = 1 ∨ k = 2 ∨ k = 3 := by omega
  rcases h4 with rfl | rfl | rfl | rfl
  · exact (phase_pts hL i t hi h).1
  · exact (phase_did hL (k := 1) (f := penV) (fun i t _ h hx => by rw [show stepT L 1 i t = penT L i t by simp [stepT]]; exact penT_did h hx) i t hi h).1
  · exact (phase_did hL (k := 3) (f := floorV) (fun i t _ h hx => by rw [show stepT L 3 i t = floorT L i t by simp [stepT]]; exact floorT_did h hx) i t hi h).1
  · exact (phase_did hL (k := 2) (f := capV) (fun i t _ h hx => by rw [show stepT L 2 i t = capT L i t by simp [stepT]]; exact capT_did h hx) i t hi h).1
theorem tk_good {L : List Ln} (hL : AppOk L) : ∀ k : Nat, k ≤ 4 → GoodT (tk L k)
  | 0, _ => ⟨ok01, by show 0 ≤ qv 0 1; rw [qv01]; grind⟩
  | k + 1, h => phase_good hL (by omega) _ _ (Nat.le_refl _) (tk_good hL k (by omega))
/-- The reference's step, by parts. -/
def sNm (L : List Ln) (i : Nat) (p q : Int) : ByteArray := (stepR L i p q).nm
def sP (L : List Ln) (i : Nat) (p q : Int) : Int := (stepR L i p q).p
def sQ (L : List Ln) (i : Nat) (p q : Int) : Int := (stepR L i p q).q
def sB (L : List Ln) (i : Nat) (p q : Int) : Bool := (stepR L i p q).b
def sE (L : List Ln) (i : Nat) (p q : Int) : Int := (stepR L i p q).e
/-- The state behind a line that counts. -/
theorem next_on {L : List Ln} (hL : AppOk L) {k i : Nat} {t : T} (hk : k < 4) (hi : i < L.length) (ht : t = phase L (kd k) i (tk L k)) (ha : (L.getD i ln0).app = true) (hkd : (L.getD i ln0).kind = kd k) :
    phase L (kd k) (i + 1) (tk L k) = if sB L i t.p t.q then become t (sNm L i t.p t.q) (sP L i t.p t.q) (sQ L i t.p t.q) (sE L i t.p t.q) else t := by
  have hg : GoodT t := by rw [ht]; exact phase_good hL hk i _ (by omega) (tk_good hL k (by omega))
  have hx : ok (L.getD i ln0).n (L.getD i ln0).d = true := by
    refine hL _ ?_ ha
    rw [getD_eq hi]; exact List.getElem_mem hi
  have h4 : k = 0 ∨ k = 1 ∨ k = 2 ∨ k = 3 := by omega
  have hr : 0 ≤ (L.getD i ln0).kind ∧ (L.getD i ln0).kind ≤ 3 := by
    rw [hkd]
    rcases h4 with rfl | rfl | rfl | rfl <;> decide
  rw [phase_on ha hkd, ← ht, ← hkd, step_same hi ha hx hr hg]
  rfl
/-- A step without a part has no error. -/
theorem sE_of {L : List Ln} {i : Nat} {p q : Int} (h : sB L i p q = false) : sE L i p q = 0 := by
  unfold sB sE stepR at *
  repeat' split at h
  all_goals first | (cases h) | skip
  all_goals simp_all
end Go.Proofs

set_option autoImplicit false
namespace Go.Proofs
open Go Go.Ab Go.RowKit
set_option maxHeartbeats 2000000
set_option maxRecDepth 100000
variable {G : IH}
/-- The reference's weight. -/
def rwN (n d : Int) : Int := if n < 0 then 0 else n
def rwD (n d : Int) : Int := if n < 0 then 1 else d
theorem rw_wt {n d : Int} (h : ok n d = true) : rwN n d = wtN n d ∧ rwD n d = wtD n d := by
  have hn := less_iff h ok01
  have hd := ok_pos h
  have h2 := qv_lt (a := n) (b := d) (c := 0) (d := 1) hd (by decide)
  unfold rwN rwD wtN wtD
  cases hl : lessB n d 0 1 with
  | true =>
    have : n < 0 := by have := h2.1 (hn.1 hl); omega
    simp [this]
  | false =>
    have : ¬ n < 0 := fun hh => by
      have := hn.2 (h2.2 (by omega))
      rw [hl] at this; cases this
    simp [this]
def orcZd : Oracle := fun f a => match f, a with
  | 13, [fr a b, fr c d] => some (.tup [di (cmpF a b c d), db (ok2 a b c d)])
  | 36, [fr a b] => some (db (ok a b))
  | 48, [.con (.string s)] => some (db (nameB s))
  | 68, [.agg [_, _, _, _, .con (.int .i64 n), .con (.int .i64 d), _]] => some (fr (rwN n d) (rwD n d))
  | 71, [fr a b, fr c d] => some (db (lessB a b c d))
  | 38, [] => some (fr 0 1)
  | _, _ => none
theorem f71 (a b c d : Int) : FnOK Tryz.prog G 71 [fr a b, fr c d] (db (lessB a b c d)) := by
  refine FnOK.walk (orc := orcZd) (keep := []) follows Tryz.func71 rfl Tryz.call71 ?_
  refine of_eqH (b :=
    (FnOK Tryz.prog G 13 [(.agg [(di a), (di b)]), (.agg [(di c), (di d)])] (.tup [(di (cmpF a b c d)), (db (ok2 a b c d))]) ∧
    (((db (decide (cmpF a b c d < (0 : Int)))) : DV) = (db (lessB a b c d))))) (by kernel_rfl) ?_
  exact ⟨f13 a b c d, rfl⟩
theorem f38 : FnOK Tryz.prog G 38 [] (fr 0 1) := by
  refine FnOK.walk (orc := orcZd) (keep := []) follows Tryz.func38 rfl Tryz.call38 ?_
  refine of_eqH (b :=
    (((.agg [(di 0), (di 1)]) : DV) = (fr (0 : Int) (1 : Int)))) (by kernel_rfl) ?_
  rfl
theorem f68 (nm gr : ByteArray) (k : Int) (ap : Bool) (n d e : Int) : FnOK Tryz.prog G 68 [lnV nm gr k ap n d e] (fr (rwN n d) (rwD n d)) := by
  refine FnOK.walk (orc := orcZd) (keep := []) follows Tryz.func68 rfl Tryz.call68 ?_
  refine of_eqH (b :=
    ((((decide (n < (0 : Int))) = true) →
    (FnOK Tryz.prog G 38 [] (.agg [(di 0), (di 1)]) ∧
    (((.agg [(di 0), (di 1)]) : DV) = (fr (rwN n d) (rwD n d))))) ∧
    (((decide (n < (0 : Int))) = false) →
    (((.agg [(di n), (di d)]) : DV) = (fr (rwN n d) (rwD n d)))))) (by kernel_rfl) ?_
  refine ⟨fun h => ⟨f38, ?_⟩, fun h => ?_⟩
  · simp only [decide_eq_true_eq] at h
    unfold rwN rwD; rw [if_pos h, if_pos h]
  · simp only [decide_eq_false_iff_not] at h
    unfold rwN rwD; rw [if_neg h, if_neg h]
theorem emp_iff (g : ByteArray) : (ByteArray.toList g == ByteArray.toList ⟨#[]⟩) = decide (g.size = 0) := by
  rw [toList_beq, decide_eq_decide]
  obtain ⟨d⟩ := g
  show ByteArray.mk d = ⟨#[]⟩ ↔ d.size = 0
  rw [Array.size_eq_zero_iff]
  constructor
  · intro h; injection h
  · rintro rfl; rfl
theorem right_eq (x : Ln) : (decide (x.kind < 0) || decide (x.kind > 3) || !nameB x.name || !ByteArray.toList x.group == ByteArray.toList ⟨#[]⟩ && (!nameB x.group || x.kind != 0) || x.app && (!ok x.n x.d || x.err != 0)) = !rightB x := by
  unfold rightB
  rw [emp_iff]
  have e1 : decide (0 ≤ x.kind) = !decide (x.kind < 0) := by rw [Bool.eq_iff_iff]; simp
  have e2 : decide (x.kind ≤ 3) = !decide (x.kind > 3) := by rw [Bool.eq_iff_iff]; simp
  rw [e1, e2]
  simp only [bne]
  generalize decide (x.kind < 0) = a
  generalize decide (x.kind > 3) = b
  generalize nameB x.name = c
  generalize decide (x.group.size = 0) = d
  generalize nameB x.group = e
  generalize (x.kind == 0) = f
  generalize x.app = g
  generalize ok x.n x.d = h
  generalize (x.err == 0) = i
  revert a b c d e f g h i
  decide
noncomputable def S37 (L : List Ln) (k : Nat) : AS := ⟨regs Tryz.f37.ntmps [(0, .d (lnsD L)), (3, vi k)], []⟩
theorem f37 (L : List Ln) (hS : Short L) (hL : L.length ≤ 100000) : FnOK Tryz.prog G 37 [lnsD L] (db (!badL L)) := by
  refine FnOK.walk (orc := orcZd) (keep := []) follows Tryz.func37 rfl Tryz.call37 ?_
  refine of_eqH (b :=
    ((((decide ((↑(List.length L) : Int) > (32 : Int))) = true) →
    (((db false) : DV) = (db !badL L))) ∧
    (((decide ((↑(List.length L) : Int) > (32 : Int))) = false) →
    AWP Tryz.prog G [.code (cAt (bodyOf Tryz.f37) [1, 1, 0, 1, 0]), (.blk 0), .code (cAt (bodyOf Tryz.f37) [1, 1, 1])] ⟨regs 63 [(0, (.d (.slc 7 (List.length L) (lnsF L)))), (2, (vb false)), (3, (vi 0)), (5, (.d (.slc 7 (List.length L) (lnsF L)))), (6, (vi ((↑(List.length L) : Int)))), (7, (vb (decide ((↑(List.length L) : Int) > (32 : Int)))))], []⟩ (Ret Tryz.prog Tryz.f37 (db !badL L))))) (by kernel_rfl) ?_
  refine ⟨fun h => ?_, fun h => ?_⟩
  · unfold badL; rw [h]; rfl
  · refine AWP.loop (c := cAt (bodyOf Tryz.f37) [1, 1, 0, 1, 0, 0]) (by kernel_rfl) (S37 L) (fun k => k ≤ L.length ∧ ∀ j, j < k → rightB (L.getD j ln0) = true) (fun k => L.length - k) 0 ?_ ⟨Nat.zero_le _, fun j hj => by omega⟩ ?_
    · refine of_eq (b :=
      (((((.d (.slc 7 (List.length L) (lnsF L))) : AV) = (.d (.slc 7 (List.length L) (lnsF L)))) ∧
      ((((vi 0) : AV) = (vi 0)) ∧
      True)) ∧
      True)) (by kernel_rfl) ?_
      exact ⟨⟨rfl, rfl, trivial⟩, trivial⟩
    · rintro k ⟨hk, hkd⟩
      refine walk (orc := orcZd) (keep := []) (cuts := []) (n := 1000) follows ?_
      refine of_eqH (b :=
        ((((decide ((↑k : Int) < (↑(List.length L) : Int))) = true) →
        ((((0 : Int) ≤ (↑k : Int)) ∧
        ((↑k : Int) < (↑(List.length L) : Int))) ∧
        (((((!(decide (Ln.kind (List.getD L (Int.toNat (↑k : Int)) ln0) < (0 : Int)) || decide (Ln.kind (List.getD L (Int.toNat (↑k : Int)) ln0) > (3 : Int)))) = true) →
        FnOK Tryz.prog G 48 [(ds (Ln.name (List.getD L (Int.toNat (↑k : Int)) ln0)))] (db (nameB (Ln.name (List.getD L (Int.toNat (↑k : Int)) ln0))))) ∧
        ((((!(decide (Ln.kind (List.getD L (Int.toNat (↑k : Int)) ln0) < (0 : Int)) || decide (Ln.kind (List.getD L (Int.toNat (↑k : Int)) ln0) > (3 : Int)) || !nameB (Ln.name (List.getD L (Int.toNat (↑k : Int)) ln0))) && !ByteArray.toList (Ln.group (List.getD L (Int.toNat (↑k : Int)) ln0)) == ByteArray.toList { data := #[] }) = true) →
        FnOK Tryz.prog G 48 [(ds (Ln.group (List.getD L (Int.toNat (↑k : Int)) ln0)))] (db (nameB (Ln.group (List.getD L (Int.toNat (↑k : Int)) ln0))))) ∧
        (((!(decide (Ln.kind (List.getD L (Int.toNat (↑k : Int)) ln0) < (0 : Int)) || decide (Ln.kind (List.getD L (Int.toNat (↑k : Int)) ln0) > (3 : Int)) || !nameB (Ln.name (List.getD L (Int.toNat (↑k : Int)) ln0)) || !ByteArray.toList (Ln.group (List.getD L (Int.toNat (↑k : Int)) ln0)) == ByteArray.toList { data := #[] } && (!nameB (Ln.group (List.getD L (Int.toNat (↑k : Int)) ln0)) || Ln.kind (List.getD L (Int.toNat (↑k : Int)) ln0) != (0 : Int))) && Ln.app (List.getD L (Int.toNat (↑k : Int)) ln0)) = true) →
        FnOK Tryz.prog G 36 [(.agg [(di (Ln.n (List.getD L (Int.toNat (↑k : Int)) ln0))), (di (Ln.d (List.getD L (Int.toNat (↑k : Int)) ln0)))])] (db (ok (Ln.n (List.getD L (Int.toNat (↑k : Int)) ln0)) (Ln.d (List.getD L (Int.toNat (↑k : Int)) ln0))))))) ∧
        ((((decide (Ln.kind (List.getD L (Int.toNat (↑k : Int)) ln0) < (0 : Int)) || decide (Ln.kind (List.getD L (Int.toNat (↑k : Int)) ln0) > (3 : Int)) || !nameB (Ln.name (List.getD L (Int.toNat (↑k : Int)) ln0)) || !ByteArray.toList (Ln.group (List.getD L (Int.toNat (↑k : Int)) ln0)) == ByteArray.toList { data := #[] } && (!nameB (Ln.group (List.getD L (Int.toNat (↑k : Int)) ln0)) || Ln.kind (List.getD L (Int.toNat (↑k : Int)) ln0) != (0 : Int)) || Ln.app (List.getD L (Int.toNat (↑k : Int)) ln0) && (!ok (Ln.n (List.getD L (Int.toNat (↑k : Int)) ln0)) (Ln.d (List.getD L (Int.toNat (↑k : Int)) ln0)) || Ln.err (List.getD L (Int.toNat (↑k : Int)) ln0) != (0 : Int))) = true) →
        (((db false) : DV) = (db !badL L))) ∧
        (((decide (Ln.kind (List.getD L (Int.toNat (↑k : Int)) ln0) < (0 : Int)) || decide (Ln.kind (List.getD L (Int.toNat (↑k : Int)) ln0) > (3 : Int)) || !nameB (Ln.name (List.getD L (Int.toNat (↑k : Int)) ln0)) || !ByteArray.toList (Ln.group (List.getD L (Int.toNat (↑k : Int)) ln0)) == ByteArray.toList { data := #[] } && (!nameB (Ln.group (List.getD L (Int.toNat (↑k : Int)) ln0)) || Ln.kind (List.getD L (Int.toNat (↑k : Int)) ln0) != (0 : Int)) || Ln.app (List.getD L (Int.toNat (↑k : Int)) ln0) && (!ok (Ln.n (List.getD L (Int.toNat (↑k : Int)) ln0)) (Ln.d (List.getD L (Int.toNat (↑k : Int)) ln0)) || Ln.err (List.getD L (Int.toNat (↑k : Int)) ln0) != (0 : Int))) = false) →
        ((I64 ((↑k : Int) + (1 : Int))) ∧
        Again (S37 L) (fun k => k ≤ List.length L ∧ ∀ (j : Nat), j < k → rightB (List.getD L j ln0) = true) (fun k => List.length L - k) k ⟨regs 63 [(0, (.d (.slc 7 (List.length L) (lnsF L)))), (3, (vi ((↑k : Int) + (1 : Int)))), (4, (.box 4 0)), (8, (vi ((↑k : Int)))), (9, (.d (.slc 7 (List.length L) (lnsF L)))), (10, (vi ((↑(List.length L) : Int)))), (11, (vb (decide ((↑k : Int) < (↑(List.length L) : Int))))), (12, (vi ((↑k : Int)))), (13, (vi ((↑k : Int) + (1 : Int)))), (14, (.d (.slc 7 (List.length L) (lnsF L)))), (15, (vi ((↑k : Int)))), (16, (.d (.ptr [(ds (Ln.name (List.getD L (Int.toNat (↑k : Int)) ln0))), (ds (Ln.group (List.getD L (Int.toNat (↑k : Int)) ln0))), (di (Ln.kind (List.getD L (Int.toNat (↑k : Int)) ln0))), (db (Ln.app (List.getD L (Int.toNat (↑k : Int)) ln0))), (di (Ln.n (List.getD L (Int.toNat (↑k : Int)) ln0))), (di (Ln.d (List.getD L (Int.toNat (↑k : Int)) ln0))), (di (Ln.err (List.getD L (Int.toNat (↑k : Int)) ln0)))]))), (17, (.d (.agg [(ds (Ln.name (List.getD L (Int.toNat (↑k : Int)) ln0))), (ds (Ln.group (List.getD L (Int.toNat (↑k : Int)) ln0))), (di (Ln.kind (List.getD L (Int.toNat (↑k : Int)) ln0))), (db (Ln.app (List.getD L (Int.toNat (↑k : Int)) ln0))), (di (Ln.n (List.getD L (Int.toNat (↑k : Int)) ln0))), (di (Ln.d (List.getD L (Int.toNat (↑k : Int)) ln0))), (di (Ln.err (List.getD L (Int.toNat (↑k : Int)) ln0)))]))), (18, (.box 4 2)), (19, (vi (Ln.kind (List.getD L (Int.toNat (↑k : Int)) ln0)))), (20, (vb (decide (Ln.kind (List.getD L (Int.toNat (↑k : Int)) ln0) < (0 : Int))))), (21, (vb (decide (Ln.kind (List.getD L (Int.toNat (↑k : Int)) ln0) < (0 : Int))))), (25, (vb (decide (Ln.kind (List.getD L (Int.toNat (↑k : Int)) ln0) < (0 : Int)) || decide (Ln.kind (List.getD L (Int.toNat (↑k : Int)) ln0) > (3 : Int))))), (26, (vb (decide (Ln.kind (List.getD L (Int.toNat (↑k : Int)) ln0) < (0 : Int)) || decide (Ln.kind (List.getD L (Int.toNat (↑k : Int)) ln0) > (3 : Int))))), (31, (vb (decide (Ln.kind (List.getD L (Int.toNat (↑k : Int)) ln0) < (0 : Int)) || decide (Ln.kind (List.getD L (Int.toNat (↑k : Int)) ln0) > (3 : Int)) || !nameB (Ln.name (List.getD L (Int.toNat (↑k : Int)) ln0))))), (32, (vb (decide (Ln.kind (List.getD L (Int.toNat (↑k : Int)) ln0) < (0 : Int)) || decide (Ln.kind (List.getD L (Int.toNat (↑k : Int)) ln0) > (3 : Int)) || !nameB (Ln.name (List.getD L (Int.toNat (↑k : Int)) ln0))))), (47, (vb (decide (Ln.kind (List.getD L (Int.toNat (↑k : Int)) ln0) < (0 : Int)) || decide (Ln.kind (List.getD L (Int.toNat (↑k : Int)) ln0) > (3 : Int)) || !nameB (Ln.name (List.getD L (Int.toNat (↑k : Int)) ln0)) || !ByteArray.toList (Ln.group (List.getD L (Int.toNat (↑k : Int)) ln0)) == ByteArray.toList { data := #[] } && (!nameB (Ln.group (List.getD L (Int.toNat (↑k : Int)) ln0)) || Ln.kind (List.getD L (Int.toNat (↑k : Int)) ln0) != (0 : Int))))), (48, (vb (decide (Ln.kind (List.getD L (Int.toNat (↑k : Int)) ln0) < (0 : Int)) || decide (Ln.kind (List.getD L (Int.toNat (↑k : Int)) ln0) > (3 : Int)) || !nameB (Ln.name (List.getD L (Int.toNat (↑k : Int)) ln0)) || !ByteArray.toList (Ln.group (List.getD L (Int.toNat (↑k : Int)) ln0)) == ByteArray.toList { data := #[] } && (!nameB (Ln.group (List.getD L (Int.toNat (↑k : Int)) ln0)) || Ln.kind (List.getD L (Int.toNat (↑k : Int)) ln0) != (0 : Int))))), (62, (vb (decide (Ln.kind (List.getD L (Int.toNat (↑k : Int)) ln0) < (0 : Int)) || decide (Ln.kind (List.getD L (Int.toNat (↑k : Int)) ln0) > (3 : Int)) || !nameB (Ln.name (List.getD L (Int.toNat (↑k : Int)) ln0)) || !ByteArray.toList (Ln.group (List.getD L (Int.toNat (↑k : Int)) ln0)) == ByteArray.toList { data := #[] } && (!nameB (Ln.group (List.getD L (Int.toNat (↑k : Int)) ln0)) || Ln.kind (List.getD L (Int.toNat (↑k : Int)) ln0) != (0 : Int)) || Ln.app (List.getD L (Int.toNat (↑k : Int)) ln0) && (!ok (Ln.n (List.getD L (Int.toNat (↑k : Int)) ln0)) (Ln.d (List.getD L (Int.toNat (↑k : Int)) ln0)) || Ln.err (List.getD L (Int.toNat (↑k : Int)) ln0) != (0 : Int)))))], [(4, [(vs (Ln.name (List.getD L (Int.toNat (↑k : Int)) ln0))), (vs (Ln.group (List.getD L (Int.toNat (↑k : Int)) ln0))), (vi (Ln.kind (List.getD L (Int.toNat (↑k : Int)) ln0))), (vb (Ln.app (List.getD L (Int.toNat (↑k : Int)) ln0))), (vi (Ln.n (List.getD L (Int.toNat (↑k : Int)) ln0))), (vi (Ln.d (List.getD L (Int.toNat (↑k : Int)) ln0))), (vi (Ln.err (List.getD L (Int.toNat (↑k : Int)) ln0)))])]⟩)))))) ∧
        (((decide ((↑k : Int) < (↑(List.length L) : Int))) = false) →
        AWP Tryz.prog G [.code (cAt (bodyOf Tryz.f37) [1, 1, 1])] ⟨regs 63 [(0, (.d (.slc 7 (List.length L) (lnsF L)))), (3, (vi ((↑k : Int)))), (8, (vi ((↑k : Int)))), (9, (.d (.slc 7 (List.length L) (lnsF L)))), (10, (vi ((↑(List.length L) : Int)))), (11, (vb (decide ((↑k : Int) < (↑(List.length L) : Int)))))], []⟩ (Ret Tryz.prog Tryz.f37 (db !badL L))))) (by kernel_rfl) ?_
      simp only [Int.toNat_natCast, right_eq]
      refine ⟨fun h1 => ?_, fun h1 => ?_⟩
      · have hk2 : k < L.length := by simp only [decide_eq_true_eq] at h1; omega
        have hsh := hS.get k
        refine ⟨⟨by omega, by omega⟩, ⟨fun _ => f48 _ hsh.1, fun _ => f48 _ hsh.2, fun _ => f36 _ _⟩, fun h2 => ?_, fun h2 => ⟨⟨by omega, by omega⟩, Again.mk (k + 1) ?_ ⟨hk2, fun j hj => ?_⟩ (by omega)⟩⟩
        · have hb : badL L = true := by
            unfold badL
            rw [Bool.or_eq_true]
            right
            refine List.any_eq_true.2 ⟨L.getD k ln0, ?_, h2⟩
            rw [getD_eq hk2]; exact List.getElem_mem hk2
          rw [hb]; rfl
        · refine of_eq (b :=
          (((((.d (.slc 7 (List.length L) (lnsF L))) : AV) = (.d (.slc 7 (List.length L) (lnsF L)))) ∧
          ((((vi ((↑k : Int) + (1 : Int))) : AV) = (vi ((↑(k + (1 : Nat)) : Int)))) ∧
          True)) ∧
          True)) (by kernel_rfl) ?_
          exact ⟨⟨rfl, rfl, trivial⟩, trivial⟩
        · rcases Nat.lt_or_ge j k with hj2 | hj2
          · exact hkd j hj2
          · obtain rfl : j = k := by omega
            simpa using h2
      · simp only [decide_eq_false_iff_not] at h1
        obtain rfl : k = L.length := by omega
        refine walk (orc := orcZd) (keep := []) (cuts := []) (n := 1000) follows ?_
        refine of_eqH (b :=
          (((db true) : DV) = (db !badL L))) (by kernel_rfl) ?_
        have hb : badL L = false := by
          unfold badL
          rw [h, Bool.false_or, List.any_eq_false]
          intro x hx
          obtain ⟨j, hj, rfl⟩ := List.mem_iff_getElem.1 hx
          have := hkd j hj
          rw [getD_eq hj] at this
          rw [this]; simp
        rw [hb]; rfl
theorem memb_eq (g : ByteArray) (x : Ln) : memb g x = (x.app && x.kind == 0 && ByteArray.toList x.group == ByteArray.toList g) := by
  unfold memb
  rw [toList_beq]
  cases x.app <;> cases (x.kind == 0) <;> rfl
noncomputable def S69 (L : List Ln) (i k : Nat) : AS := ⟨regs Tryz.f69.ntmps [(0, .d (lnsD L)), (1, vi i), (5, vi k)], []⟩
theorem f69 (L : List Ln) (i : Nat) (hi : i < L.length) (hL : L.length ≤ 100000) : FnOK Tryz.prog G 69 [lnsD L, di i] (db (!(L.take i).any (memb (L.getD i ln0).group))) := by
  refine FnOK.walk (orc := orcZd) (keep := []) follows Tryz.func69 rfl Tryz.call69 ?_
  refine of_eqH (b :=
    AWP Tryz.prog G [.code (cAt (bodyOf Tryz.f69) [1, 0, 1, 0]), (.blk 0), .code (cAt (bodyOf Tryz.f69) [1, 1])] ⟨regs 37 [(0, (.d (.slc 7 (List.length L) (lnsF L)))), (1, (vi ((↑i : Int)))), (4, (vb false)), (5, (vi 0))], []⟩ (Ret Tryz.prog Tryz.f69 (db !List.any (List.take i L) (memb (Ln.group (List.getD L i ln0)))))) (by kernel_rfl) ?_
  refine AWP.loop (c := cAt (bodyOf Tryz.f69) [1, 0, 1, 0, 0]) (by kernel_rfl) (S69 L i) (fun k => k ≤ i ∧ ∀ j, j < k → memb (L.getD i ln0).group (L.getD j ln0) = false) (fun k => i - k) 0 ?_ ⟨Nat.zero_le _, fun j hj => by omega⟩ ?_
  · refine of_eq (b :=
    (((((.d (.slc 7 (List.length L) (lnsF L))) : AV) = (.d (.slc 7 (List.length L) (lnsF L)))) ∧
    ((((vi ((↑i : Int))) : AV) = (vi ((↑i : Int)))) ∧
    ((((vi 0) : AV) = (vi 0)) ∧
    True))) ∧
    True)) (by kernel_rfl) ?_
    exact ⟨⟨rfl, rfl, rfl, trivial⟩, trivial⟩
  · rintro k ⟨hk, hkd⟩
    refine walk (orc := orcZd) (keep := []) (cuts := []) (n := 1000) follows ?_
    refine of_eqH (b :=
      ((((decide ((↑k : Int) < (↑i : Int))) = true) →
      (((((0 : Int) ≤ (↑k : Int)) ∧
      ((↑k : Int) < (↑(List.length L) : Int))) ∧
      ((((Ln.app (List.getD L (Int.toNat (↑k : Int)) ln0)) = true) →
      (((0 : Int) ≤ (↑k : Int)) ∧
      ((↑k : Int) < (↑(List.length L) : Int)))) ∧
      ((((Ln.app (List.getD L (Int.toNat (↑k : Int)) ln0) && Ln.kind (List.getD L (Int.toNat (↑k : Int)) ln0) == (0 : Int)) = true) →
      (((0 : Int) ≤ (↑k : Int)) ∧
      ((↑k : Int) < (↑(List.length L) : Int)))) ∧
      (((Ln.app (List.getD L (Int.toNat (↑k : Int)) ln0) && Ln.kind (List.getD L (Int.toNat (↑k : Int)) ln0) == (0 : Int)) = true) →
      (((0 : Int) ≤ (↑i : Int)) ∧
      ((↑i : Int) < (↑(List.length L) : Int))))))) ∧
      ((((Ln.app (List.getD L (Int.toNat (↑k : Int)) ln0) && Ln.kind (List.getD L (Int.toNat (↑k : Int)) ln0) == (0 : Int) && ByteArray.toList (Ln.group (List.getD L (Int.toNat (↑k : Int)) ln0)) == ByteArray.toList (Ln.group (List.getD L (Int.toNat (↑i : Int)) ln0))) = true) →
      (((db false) : DV) = (db !List.any (List.take i L) (memb (Ln.group (List.getD L i ln0)))))) ∧
      (((Ln.app (List.getD L (Int.toNat (↑k : Int)) ln0) && Ln.kind (List.getD L (Int.toNat (↑k : Int)) ln0) == (0 : Int) && ByteArray.toList (Ln.group (List.getD L (Int.toNat (↑k : Int)) ln0)) == ByteArray.toList (Ln.group (List.getD L (Int.toNat (↑i : Int)) ln0))) = false) →
      ((I64 ((↑k : Int) + (1 : Int))) ∧
      Again (S69 L i) (fun k => k ≤ i ∧ ∀ (j : Nat), j < k → memb (Ln.group (List.getD L i ln0)) (List.getD L j ln0) = false) (fun k => i - k) k ⟨regs 37 [(0, (.d (.slc 7 (List.length L) (lnsF L)))), (1, (vi ((↑i : Int)))), (5, (vi ((↑k : Int) + (1 : Int)))), (6, (vi ((↑k : Int)))), (7, (vi ((↑i : Int)))), (8, (vb (decide ((↑k : Int) < (↑i : Int))))), (9, (vi ((↑k : Int)))), (10, (vi ((↑k : Int) + (1 : Int)))), (11, (.d (.slc 7 (List.length L) (lnsF L)))), (12, (vi ((↑k : Int)))), (13, (.d (.ptr [(ds (Ln.name (List.getD L (Int.toNat (↑k : Int)) ln0))), (ds (Ln.group (List.getD L (Int.toNat (↑k : Int)) ln0))), (di (Ln.kind (List.getD L (Int.toNat (↑k : Int)) ln0))), (db (Ln.app (List.getD L (Int.toNat (↑k : Int)) ln0))), (di (Ln.n (List.getD L (Int.toNat (↑k : Int)) ln0))), (di (Ln.d (List.getD L (Int.toNat (↑k : Int)) ln0))), (di (Ln.err (List.getD L (Int.toNat (↑k : Int)) ln0)))]))), (14, (.d (.ptr [(db (Ln.app (List.getD L (Int.toNat (↑k : Int)) ln0))), (di (Ln.n (List.getD L (Int.toNat (↑k : Int)) ln0))), (di (Ln.d (List.getD L (Int.toNat (↑k : Int)) ln0))), (di (Ln.err (List.getD L (Int.toNat (↑k : Int)) ln0)))]))), (15, (vb (Ln.app (List.getD L (Int.toNat (↑k : Int)) ln0)))), (16, (vb (Ln.app (List.getD L (Int.toNat (↑k : Int)) ln0)))), (23, (vb (Ln.app (List.getD L (Int.toNat (↑k : Int)) ln0) && Ln.kind (List.getD L (Int.toNat (↑k : Int)) ln0) == (0 : Int)))), (24, (vb (Ln.app (List.getD L (Int.toNat (↑k : Int)) ln0) && Ln.kind (List.getD L (Int.toNat (↑k : Int)) ln0) == (0 : Int)))), (36, (vb (Ln.app (List.getD L (Int.toNat (↑k : Int)) ln0) && Ln.kind (List.getD L (Int.toNat (↑k : Int)) ln0) == (0 : Int) && ByteArray.toList (Ln.group (List.getD L (Int.toNat (↑k : Int)) ln0)) == ByteArray.toList (Ln.group (List.getD L (Int.toNat (↑i : Int)) ln0)))))], []⟩))))) ∧
      (((decide ((↑k : Int) < (↑i : Int))) = false) →
      AWP Tryz.prog G [.code (cAt (bodyOf Tryz.f69) [1, 1])] ⟨regs 37 [(0, (.d (.slc 7 (List.length L) (lnsF L)))), (1, (vi ((↑i : Int)))), (5, (vi ((↑k : Int)))), (6, (vi ((↑k : Int)))), (7, (vi ((↑i : Int)))), (8, (vb (decide ((↑k : Int) < (↑i : Int)))))], []⟩ (Ret Tryz.prog Tryz.f69 (db !List.any (List.take i L) (memb (Ln.group (List.getD L i ln0)))))))) (by kernel_rfl) ?_
    simp only [Int.toNat_natCast]
    refine ⟨fun h1 => ?_, fun h1 => ?_⟩
    · have hk2 : k < i := by simp only [decide_eq_true_eq] at h1; omega
      refine ⟨⟨⟨by omega, by omega⟩, fun _ => ⟨by omega, by omega⟩, fun _ => ⟨by omega, by omega⟩, fun _ => ⟨by omega, by omega⟩⟩, fun h2 => ?_, fun h2 => ⟨⟨by omega, by omega⟩, Again.mk (k + 1) ?_ ⟨hk2, ?_⟩ (by omega)⟩⟩
      · have hm : memb (L.getD i ln0).group (L.getD k ln0) = true := by rw [memb_eq]; exact h2
        have : (L.take i).any (memb (L.getD i ln0).group) = true := by
          refine List.any_eq_true.2 ⟨L.getD k ln0, ?_, hm⟩
          rw [getD_eq (show k < L.length by omega)]
          exact List.mem_take_iff_getElem.2 ⟨k, by omega, rfl⟩
        rw [this]; rfl
      · refine of_eq (b :=
        (((((.d (.slc 7 (List.length L) (lnsF L))) : AV) = (.d (.slc 7 (List.length L) (lnsF L)))) ∧
        ((((vi ((↑i : Int))) : AV) = (vi ((↑i : Int)))) ∧
        ((((vi ((↑k : Int) + (1 : Int))) : AV) = (vi ((↑(k + (1 : Nat)) : Int)))) ∧
        True))) ∧
        True)) (by kernel_rfl) ?_
        exact ⟨⟨rfl, rfl, rfl, trivial⟩, trivial⟩
      · intro j hj
        rcases Nat.lt_or_ge j k with hj2 | hj2
        · exact hkd j hj2
        · obtain rfl : j = k := by omega
          rw [memb_eq]; exact h2
    · simp only [decide_eq_false_iff_not] at h1
      obtain rfl : k = i := by omega
      refine walk (orc := orcZd) (keep := []) (cuts := []) (n := 1000) follows ?_
      refine of_eqH (b :=
        (((db true) : DV) = (db !List.any (List.take k L) (memb (Ln.group (List.getD L k ln0)))))) (by kernel_rfl) ?_
      have : (L.take k).any (memb (L.getD k ln0).group) = false := by
        rw [List.any_eq_false]
        intro x hx
        obtain ⟨j, hj, rfl⟩ := List.mem_take_iff_getElem.1 hx
        have := hkd j (by omega)
        rw [getD_eq (show j < L.length by omega)] at this
        rw [this]; simp
      rw [this]; rfl
theorem bestI_memb (L : List Ln) (g : ByteArray) : ∀ k : Nat, 0 ≤ bestI L g k → memb g (L.getD (bestI L g k).toNat ln0) = true
  | 0, h => by simp [bestI] at h
  | k + 1, h => by
    simp only [bestI] at h ⊢
    split
    · rename_i hc; rw [Int.toNat_natCast]; exact hc.1
    · rename_i hc
      rw [if_neg hc] at h
      exact bestI_memb L g k h
theorem best_ok {L : List Ln} (ha : AppOk L) {g : ByteArray} {k : Nat} (hk : k ≤ L.length) (h : 0 ≤ bestI L g k) : ok (L.getD (bestI L g k).toNat ln0).n (L.getD (bestI L g k).toNat ln0).d = true := by
  have hm := bestI_memb L g k h
  have hb := bestI_lt L g k
  refine ha _ ?_ ?_
  · rw [getD_eq (show (bestI L g k).toNat < L.length by omega)]; exact List.getElem_mem _
  · unfold memb at hm
    simp only [Bool.and_eq_true] at hm
    exact hm.2.1
theorem best_step {L : List Ln} (ha : AppOk L) {g : ByteArray} {k : Nat} (hk : k < L.length) :
    bestI L g (k + 1) = if ((L.getD k ln0).app && (L.getD k ln0).kind == 0 && ByteArray.toList (L.getD k ln0).group == ByteArray.toList g && (decide (bestI L g k < 0) || lessB (rwN (L.getD (bestI L g k).toNat ln0).n (L.getD (bestI L g k).toNat ln0).d) (rwD (L.getD (bestI L g k).toNat ln0).n (L.getD (bestI L g k).toNat ln0).d) (rwN (L.getD k ln0).n (L.getD k ln0).d) (rwD (L.getD k ln0).n (L.getD k ln0).d))) = true then (k : Int) else bestI L g k := by
  rw [← memb_eq]
  simp only [bestI]
  by_cases hm : memb g (L.getD k ln0) = true
  · have hap : (L.getD k ln0).app = true := by
      unfold memb at hm
      simp only [Bool.and_eq_true] at hm
      exact hm.2.1
    have okk : ok (L.getD k ln0).n (L.getD k ln0).d = true := ha _ (by rw [getD_eq hk]; exact List.getElem_mem hk) hap
    obtain ⟨e1, e2⟩ := rw_wt okk
    by_cases hb : bestI L g k < 0
    · simp [hm, hb]
    · obtain ⟨e3, e4⟩ := rw_wt (best_ok ha (g := g) (k := k) (by omega) (by omega))
      rw [e1, e2, e3, e4]
      unfold wN wD
      simp [hm, hb]
  · rw [if_neg (fun h => hm h.1), if_neg (by rw [Bool.and_eq_true]; exact fun h => hm h.1)]
noncomputable def S70 (L : List Ln) (g : ByteArray) (k : Nat) : AS := ⟨regs Tryz.f70.ntmps [(0, .d (lnsD L)), (1, vs g), (5, vi (bestI L g k)), (6, vi k)], []⟩
theorem f70 (L : List Ln) (g : ByteArray) (ha : AppOk L) (hL : L.length ≤ 100000) : FnOK Tryz.prog G 70 [lnsD L, ds g] (di (bestI L g L.length)) := by
  refine FnOK.walk (orc := orcZd) (keep := []) follows Tryz.func70 rfl Tryz.call70 ?_
  refine of_eqH (b :=
    AWP Tryz.prog G [.code (cAt (bodyOf Tryz.f70) [1, 1, 0, 1, 0]), (.blk 0), .code (cAt (bodyOf Tryz.f70) [1, 1, 1])] ⟨regs 54 [(0, (.d (.slc 7 (List.length L) (lnsF L)))), (1, (vs g)), (4, (vi 0)), (5, (vi (-1))), (6, (vi 0))], []⟩ (Ret Tryz.prog Tryz.f70 (di (bestI L g (List.length L))))) (by kernel_rfl) ?_
  refine AWP.loop (c := cAt (bodyOf Tryz.f70) [1, 1, 0, 1, 0, 0]) (by kernel_rfl) (S70 L g) (fun k => k ≤ L.length) (fun k => L.length - k) 0 ?_ (Nat.zero_le _) ?_
  · refine of_eq (b :=
    (((((.d (.slc 7 (List.length L) (lnsF L))) : AV) = (.d (.slc 7 (List.length L) (lnsF L)))) ∧
    ((((vs g) : AV) = (vs g)) ∧
    ((((vi (-1)) : AV) = (vi (bestI L g (0 : Nat)))) ∧
    ((((vi 0) : AV) = (vi 0)) ∧
    True)))) ∧
    True)) (by kernel_rfl) ?_
    exact ⟨⟨rfl, rfl, rfl, rfl, trivial⟩, trivial⟩
  · rintro k hk
    refine walk (orc := orcZd) (keep := []) (cuts := []) (n := 1000) follows ?_
    refine of_eqH (b :=
      ((((decide ((↑k : Int) < (↑(List.length L) : Int))) = true) →
      (((((0 : Int) ≤ (↑k : Int)) ∧
      ((↑k : Int) < (↑(List.length L) : Int))) ∧
      ((((Ln.app (List.getD L (Int.toNat (↑k : Int)) ln0)) = true) →
      (((0 : Int) ≤ (↑k : Int)) ∧
      ((↑k : Int) < (↑(List.length L) : Int)))) ∧
      ((((Ln.app (List.getD L (Int.toNat (↑k : Int)) ln0) && Ln.kind (List.getD L (Int.toNat (↑k : Int)) ln0) == (0 : Int)) = true) →
      (((0 : Int) ≤ (↑k : Int)) ∧
      ((↑k : Int) < (↑(List.length L) : Int)))) ∧
      ((((Ln.app (List.getD L (Int.toNat (↑k : Int)) ln0) && Ln.kind (List.getD L (Int.toNat (↑k : Int)) ln0) == (0 : Int) && ByteArray.toList (Ln.group (List.getD L (Int.toNat (↑k : Int)) ln0)) == ByteArray.toList g && !decide (bestI L g k < (0 : Int))) = true) →
      (((0 : Int) ≤ bestI L g k) ∧
      (bestI L g k < (↑(List.length L) : Int)))) ∧
      ((((Ln.app (List.getD L (Int.toNat (↑k : Int)) ln0) && Ln.kind (List.getD L (Int.toNat (↑k : Int)) ln0) == (0 : Int) && ByteArray.toList (Ln.group (List.getD L (Int.toNat (↑k : Int)) ln0)) == ByteArray.toList g && !decide (bestI L g k < (0 : Int))) = true) →
      FnOK Tryz.prog G 68 [(.agg [(ds (Ln.name (List.getD L (Int.toNat (bestI L g k)) ln0))), (ds (Ln.group (List.getD L (Int.toNat (bestI L g k)) ln0))), (di (Ln.kind (List.getD L (Int.toNat (bestI L g k)) ln0))), (db (Ln.app (List.getD L (Int.toNat (bestI L g k)) ln0))), (di (Ln.n (List.getD L (Int.toNat (bestI L g k)) ln0))), (di (Ln.d (List.getD L (Int.toNat (bestI L g k)) ln0))), (di (Ln.err (List.getD L (Int.toNat (bestI L g k)) ln0)))])] (.agg [(di (rwN (Ln.n (List.getD L (Int.toNat (bestI L g k)) ln0)) (Ln.d (List.getD L (Int.toNat (bestI L g k)) ln0)))), (di (rwD (Ln.n (List.getD L (Int.toNat (bestI L g k)) ln0)) (Ln.d (List.getD L (Int.toNat (bestI L g k)) ln0))))])) ∧
      ((((Ln.app (List.getD L (Int.toNat (↑k : Int)) ln0) && Ln.kind (List.getD L (Int.toNat (↑k : Int)) ln0) == (0 : Int) && ByteArray.toList (Ln.group (List.getD L (Int.toNat (↑k : Int)) ln0)) == ByteArray.toList g && !decide (bestI L g k < (0 : Int))) = true) →
      (((0 : Int) ≤ (↑k : Int)) ∧
      ((↑k : Int) < (↑(List.length L) : Int)))) ∧
      ((((Ln.app (List.getD L (Int.toNat (↑k : Int)) ln0) && Ln.kind (List.getD L (Int.toNat (↑k : Int)) ln0) == (0 : Int) && ByteArray.toList (Ln.group (List.getD L (Int.toNat (↑k : Int)) ln0)) == ByteArray.toList g && !decide (bestI L g k < (0 : Int))) = true) →
      FnOK Tryz.prog G 68 [(.agg [(ds (Ln.name (List.getD L (Int.toNat (↑k : Int)) ln0))), (ds (Ln.group (List.getD L (Int.toNat (↑k : Int)) ln0))), (di (Ln.kind (List.getD L (Int.toNat (↑k : Int)) ln0))), (db (Ln.app (List.getD L (Int.toNat (↑k : Int)) ln0))), (di (Ln.n (List.getD L (Int.toNat (↑k : Int)) ln0))), (di (Ln.d (List.getD L (Int.toNat (↑k : Int)) ln0))), (di (Ln.err (List.getD L (Int.toNat (↑k : Int)) ln0)))])] (.agg [(di (rwN (Ln.n (List.getD L (Int.toNat (↑k : Int)) ln0)) (Ln.d (List.getD L (Int.toNat (↑k : Int)) ln0)))), (di (rwD (Ln.n (List.getD L (Int.toNat (↑k : Int)) ln0)) (Ln.d (List.getD L (Int.toNat (↑k : Int)) ln0))))])) ∧
      (((Ln.app (List.getD L (Int.toNat (↑k : Int)) ln0) && Ln.kind (List.getD L (Int.toNat (↑k : Int)) ln0) == (0 : Int) && ByteArray.toList (Ln.group (List.getD L (Int.toNat (↑k : Int)) ln0)) == ByteArray.toList g && !decide (bestI L g k < (0 : Int))) = true) →
      FnOK Tryz.prog G 71 [(.agg [(di (rwN (Ln.n (List.getD L (Int.toNat (bestI L g k)) ln0)) (Ln.d (List.getD L (Int.toNat (bestI L g k)) ln0)))), (di (rwD (Ln.n (List.getD L (Int.toNat (bestI L g k)) ln0)) (Ln.d (List.getD L (Int.toNat (bestI L g k)) ln0))))]), (.agg [(di (rwN (Ln.n (List.getD L (Int.toNat (↑k : Int)) ln0)) (Ln.d (List.getD L (Int.toNat (↑k : Int)) ln0)))), (di (rwD (Ln.n (List.getD L (Int.toNat (↑k : Int)) ln0)) (Ln.d (List.getD L (Int.toNat (↑k : Int)) ln0))))])] (db (lessB (rwN (Ln.n (List.getD L (Int.toNat (bestI L g k)) ln0)) (Ln.d (List.getD L (Int.toNat (bestI L g k)) ln0))) (rwD (Ln.n (List.getD L (Int.toNat (bestI L g k)) ln0)) (Ln.d (List.getD L (Int.toNat (bestI L g k)) ln0))) (rwN (Ln.n (List.getD L (Int.toNat (↑k : Int)) ln0)) (Ln.d (List.getD L (Int.toNat (↑k : Int)) ln0))) (rwD (Ln.n (List.getD L (Int.toNat (↑k : Int)) ln0)) (Ln.d (List.getD L (Int.toNat (↑k : Int)) ln0))))))))))))) ∧
      ((((Ln.app (List.getD L (Int.toNat (↑k : Int)) ln0) && Ln.kind (List.getD L (Int.toNat (↑k : Int)) ln0) == (0 : Int) && ByteArray.toList (Ln.group (List.getD L (Int.toNat (↑k : Int)) ln0)) == ByteArray.toList g && (decide (bestI L g k < (0 : Int)) || lessB (rwN (Ln.n (List.getD L (Int.toNat (bestI L g k)) ln0)) (Ln.d (List.getD L (Int.toNat (bestI L g k)) ln0))) (rwD (Ln.n (List.getD L (Int.toNat (bestI L g k)) ln0)) (Ln.d (List.getD L (Int.toNat (bestI L g k)) ln0))) (rwN (Ln.n (List.getD L (Int.toNat (↑k : Int)) ln0)) (Ln.d (List.getD L (Int.toNat (↑k : Int)) ln0))) (rwD (Ln.n (List.getD L (Int.toNat (↑k : Int)) ln0)) (Ln.d (List.getD L (Int.toNat (↑k : Int)) ln0))))) = true) →
      ((I64 ((↑k : Int) + (1 : Int))) ∧
      Again (S70 L g) (fun k => k ≤ List.length L) (fun k => List.length L - k) k ⟨regs 54 [(0, (.d (.slc 7 (List.length L) (lnsF L)))), (1, (vs g)), (5, (vi ((↑k : Int)))), (6, (vi ((↑k : Int) + (1 : Int)))), (7, (vi ((↑k : Int)))), (8, (.d (.slc 7 (List.length L) (lnsF L)))), (9, (vi ((↑(List.length L) : Int)))), (10, (vb (decide ((↑k : Int) < (↑(List.length L) : Int))))), (11, (vi ((↑k : Int)))), (12, (vi ((↑k : Int) + (1 : Int)))), (13, (.d (.slc 7 (List.length L) (lnsF L)))), (14, (vi ((↑k : Int)))), (15, (.d (.ptr [(ds (Ln.name (List.getD L (Int.toNat (↑k : Int)) ln0))), (ds (Ln.group (List.getD L (Int.toNat (↑k : Int)) ln0))), (di (Ln.kind (List.getD L (Int.toNat (↑k : Int)) ln0))), (db (Ln.app (List.getD L (Int.toNat (↑k : Int)) ln0))), (di (Ln.n (List.getD L (Int.toNat (↑k : Int)) ln0))), (di (Ln.d (List.getD L (Int.toNat (↑k : Int)) ln0))), (di (Ln.err (List.getD L (Int.toNat (↑k : Int)) ln0)))]))), (16, (.d (.ptr [(db (Ln.app (List.getD L (Int.toNat (↑k : Int)) ln0))), (di (Ln.n (List.getD L (Int.toNat (↑k : Int)) ln0))), (di (Ln.d (List.getD L (Int.toNat (↑k : Int)) ln0))), (di (Ln.err (List.getD L (Int.toNat (↑k : Int)) ln0)))]))), (17, (vb (Ln.app (List.getD L (Int.toNat (↑k : Int)) ln0)))), (18, (vb (Ln.app (List.getD L (Int.toNat (↑k : Int)) ln0)))), (25, (vb (Ln.app (List.getD L (Int.toNat (↑k : Int)) ln0) && Ln.kind (List.getD L (Int.toNat (↑k : Int)) ln0) == (0 : Int)))), (26, (vb (Ln.app (List.getD L (Int.toNat (↑k : Int)) ln0) && Ln.kind (List.getD L (Int.toNat (↑k : Int)) ln0) == (0 : Int)))), (34, (vb (Ln.app (List.getD L (Int.toNat (↑k : Int)) ln0) && Ln.kind (List.getD L (Int.toNat (↑k : Int)) ln0) == (0 : Int) && ByteArray.toList (Ln.group (List.getD L (Int.toNat (↑k : Int)) ln0)) == ByteArray.toList g))), (35, (vb (Ln.app (List.getD L (Int.toNat (↑k : Int)) ln0) && Ln.kind (List.getD L (Int.toNat (↑k : Int)) ln0) == (0 : Int) && ByteArray.toList (Ln.group (List.getD L (Int.toNat (↑k : Int)) ln0)) == ByteArray.toList g))), (51, (vb (Ln.app (List.getD L (Int.toNat (↑k : Int)) ln0) && Ln.kind (List.getD L (Int.toNat (↑k : Int)) ln0) == (0 : Int) && ByteArray.toList (Ln.group (List.getD L (Int.toNat (↑k : Int)) ln0)) == ByteArray.toList g && (decide (bestI L g k < (0 : Int)) || lessB (rwN (Ln.n (List.getD L (Int.toNat (bestI L g k)) ln0)) (Ln.d (List.getD L (Int.toNat (bestI L g k)) ln0))) (rwD (Ln.n (List.getD L (Int.toNat (bestI L g k)) ln0)) (Ln.d (List.getD L (Int.toNat (bestI L g k)) ln0))) (rwN (Ln.n (List.getD L (Int.toNat (↑k : Int)) ln0)) (Ln.d (List.getD L (Int.toNat (↑k : Int)) ln0))) (rwD (Ln.n (List.getD L (Int.toNat (↑k : Int)) ln0)) (Ln.d (List.getD L (Int.toNat (↑k : Int)) ln0))))))), (52, (vi ((↑k : Int))))], []⟩)) ∧
      (((Ln.app (List.getD L (Int.toNat (↑k : Int)) ln0) && Ln.kind (List.getD L (Int.toNat (↑k : Int)) ln0) == (0 : Int) && ByteArray.toList (Ln.group (List.getD L (Int.toNat (↑k : Int)) ln0)) == ByteArray.toList g && (decide (bestI L g k < (0 : Int)) || lessB (rwN (Ln.n (List.getD L (Int.toNat (bestI L g k)) ln0)) (Ln.d (List.getD L (Int.toNat (bestI L g k)) ln0))) (rwD (Ln.n (List.getD L (Int.toNat (bestI L g k)) ln0)) (Ln.d (List.getD L (Int.toNat (bestI L g k)) ln0))) (rwN (Ln.n (List.getD L (Int.toNat (↑k : Int)) ln0)) (Ln.d (List.getD L (Int.toNat (↑k : Int)) ln0))) (rwD (Ln.n (List.getD L (Int.toNat (↑k : Int)) ln0)) (Ln.d (List.getD L (Int.toNat (↑k : Int)) ln0))))) = false) →
      ((I64 ((↑k : Int) + (1 : Int))) ∧
      Again (S70 L g) (fun k => k ≤ List.length L) (fun k => List.length L - k) k ⟨regs 54 [(0, (.d (.slc 7 (List.length L) (lnsF L)))), (1, (vs g)), (5, (vi (bestI L g k))), (6, (vi ((↑k : Int) + (1 : Int)))), (7, (vi ((↑k : Int)))), (8, (.d (.slc 7 (List.length L) (lnsF L)))), (9, (vi ((↑(List.length L) : Int)))), (10, (vb (decide ((↑k : Int) < (↑(List.length L) : Int))))), (11, (vi ((↑k : Int)))), (12, (vi ((↑k : Int) + (1 : Int)))), (13, (.d (.slc 7 (List.length L) (lnsF L)))), (14, (vi ((↑k : Int)))), (15, (.d (.ptr [(ds (Ln.name (List.getD L (Int.toNat (↑k : Int)) ln0))), (ds (Ln.group (List.getD L (Int.toNat (↑k : Int)) ln0))), (di (Ln.kind (List.getD L (Int.toNat (↑k : Int)) ln0))), (db (Ln.app (List.getD L (Int.toNat (↑k : Int)) ln0))), (di (Ln.n (List.getD L (Int.toNat (↑k : Int)) ln0))), (di (Ln.d (List.getD L (Int.toNat (↑k : Int)) ln0))), (di (Ln.err (List.getD L (Int.toNat (↑k : Int)) ln0)))]))), (16, (.d (.ptr [(db (Ln.app (List.getD L (Int.toNat (↑k : Int)) ln0))), (di (Ln.n (List.getD L (Int.toNat (↑k : Int)) ln0))), (di (Ln.d (List.getD L (Int.toNat (↑k : Int)) ln0))), (di (Ln.err (List.getD L (Int.toNat (↑k : Int)) ln0)))]))), (17, (vb (Ln.app (List.getD L (Int.toNat (↑k : Int)) ln0)))), (18, (vb (Ln.app (List.getD L (Int.toNat (↑k : Int)) ln0)))), (25, (vb (Ln.app (List.getD L (Int.toNat (↑k : Int)) ln0) && Ln.kind (List.getD L (Int.toNat (↑k : Int)) ln0) == (0 : Int)))), (26, (vb (Ln.app (List.getD L (Int.toNat (↑k : Int)) ln0) && Ln.kind (List.getD L (Int.toNat (↑k : Int)) ln0) == (0 : Int)))), (34, (vb (Ln.app (List.getD L (Int.toNat (↑k : Int)) ln0) && Ln.kind (List.getD L (Int.toNat (↑k : Int)) ln0) == (0 : Int) && ByteArray.toList (Ln.group (List.getD L (Int.toNat (↑k : Int)) ln0)) == ByteArray.toList g))), (35, (vb (Ln.app (List.getD L (Int.toNat (↑k : Int)) ln0) && Ln.kind (List.getD L (Int.toNat (↑k : Int)) ln0) == (0 : Int) && ByteArray.toList (Ln.group (List.getD L (Int.toNat (↑k : Int)) ln0)) == ByteArray.toList g))), (51, (vb (Ln.app (List.getD L (Int.toNat (↑k : Int)) ln0) && Ln.kind (List.getD L (Int.toNat (↑k : Int)) ln0) == (0 : Int) && ByteArray.toList (Ln.group (List.getD L (Int.toNat (↑k : Int)) ln0)) == ByteArray.toList g && (decide (bestI L g k < (0 : Int)) || lessB (rwN (Ln.n (List.getD L (Int.toNat (bestI L g k)) ln0)) (Ln.d (List.getD L (Int.toNat (bestI L g k)) ln0))) (rwD (Ln.n (List.getD L (Int.toNat (bestI L g k)) ln0)) (Ln.d (List.getD L (Int.toNat (bestI L g k)) ln0))) (rwN (Ln.n (List.getD L (Int.toNat (↑k : Int)) ln0)) (Ln.d (List.getD L (Int.toNat (↑k : Int)) ln0))) (rwD (Ln.n (List.getD L (Int.toNat (↑k : Int)) ln0)) (Ln.d (List.getD L (Int.toNat (↑k : Int)) ln0)))))))], []⟩))))) ∧
      (((decide ((↑k : Int) < (↑(List.length L) : Int))) = false) →
      AWP Tryz.prog G [.code (cAt (bodyOf Tryz.f70) [1, 1, 1])] ⟨regs 54 [(0, (.d (.slc 7 (List.length L) (lnsF L)))), (1, (vs g)), (5, (vi (bestI L g k))), (6, (vi ((↑k : Int)))), (7, (vi ((↑k : Int)))), (8, (.d (.slc 7 (List.length L) (lnsF L)))), (9, (vi ((↑(List.length L) : Int)))), (10, (vb (decide ((↑k : Int) < (↑(List.length L) : Int)))))], []⟩ (Ret Tryz.prog Tryz.f70 (di (bestI L g (List.length L))))))) (by kernel_rfl) ?_
    simp only [Int.toNat_natCast]
    refine ⟨fun h1 => ?_, fun h1 => ?_⟩
    · have hk2 : k < L.length := by simp only [decide_eq_true_eq] at h1; omega
      have hst := best_step (g := g) ha hk2
      have hb := bestI_lt L g k
      refine ⟨⟨⟨by omega, by omega⟩, fun _ => ⟨by omega, by omega⟩, fun _ => ⟨by omega, by omega⟩, fun h2 => ⟨by simp at h2; omega, by omega⟩, fun _ => f68 _ _ _ _ _ _ _, fun _ => ⟨by omega, by omega⟩, fun _ => f68 _ _ _ _ _ _ _, fun _ => f71 _ _ _ _⟩, fun h2 => ⟨⟨by omega, by omega⟩, Again.mk (k + 1) ?_ hk2 (by omega)⟩, fun h2 => ⟨⟨by omega, by omega⟩, Again.mk (k + 1) ?_ hk2 (by omega)⟩⟩
      · refine of_eq (b :=
        (((((.d (.slc 7 (List.length L) (lnsF L))) : AV) = (.d (.slc 7 (List.length L) (lnsF L)))) ∧
        ((((vs g) : AV) = (vs g)) ∧
        ((((vi ((↑k : Int))) : AV) = (vi (bestI L g (k + (1 : Nat))))) ∧
        ((((vi ((↑k : Int) + (1 : Int))) : AV) = (vi ((↑(k + (1 : Nat)) : Int)))) ∧
        True)))) ∧
        True)) (by kernel_rfl) ?_
        refine ⟨⟨rfl, rfl, ?_, rfl, trivial⟩, trivial⟩
        rw [hst, if_pos h2]
      · refine of_eq (b :=
        (((((.d (.slc 7 (List.length L) (lnsF L))) : AV) = (.d (.slc 7 (List.length L) (lnsF L)))) ∧
        ((((vs g) : AV) = (vs g)) ∧
        ((((vi (bestI L g k)) : AV) = (vi (bestI L g (k + (1 : Nat))))) ∧
        ((((vi ((↑k : Int) + (1 : Int))) : AV) = (vi ((↑(k + (1 : Nat)) : Int)))) ∧
        True)))) ∧
        True)) (by kernel_rfl) ?_
        refine ⟨⟨rfl, rfl, ?_, rfl, trivial⟩, trivial⟩
        rw [hst, if_neg (by rw [h2]; decide)]
    · simp only [decide_eq_false_iff_not] at h1
      obtain rfl : k = L.length := by omega
      refine walk (orc := orcZd) (keep := []) (cuts := []) (n := 1000) follows ?_
      refine of_eqH (b :=
        (((di (bestI L g (List.length L))) : DV) = (di (bestI L g (List.length L))))) (by kernel_rfl) ?_
      rfl
def orcSd (L : List Ln) : Oracle := fun f a => match f, a with
  | 69, [_, .con (.int .i64 i)] => some (db (!(L.take i.toNat).any (memb (L.getD i.toNat ln0).group)))
  | 70, [_, .con (.string g)] => some (di (bestI L g L.length))
  | 28, [fr a b, fr c d] => some (.tup [fr (add1 a b c d) (add2 a b c d), di (add3 a b c d)])
  | 40, [fr a b, fr c d] => some (.tup [fr (sub1 a b c d) (sub2 a b c d), di (sub3 a b c d)])
  | _, _ => orcZd f a
theorem f39 (L : List Ln) (ha : AppOk L) (hL : L.length ≤ 100000) (i : Nat) (hi : i < L.length) (hap : (L.getD i ln0).app = true) (hk : 0 ≤ (L.getD i ln0).kind ∧ (L.getD i ln0).kind ≤ 3) (p q : Int) :
    FnOK Tryz.prog G 39 [lnsD L, di i, fr p q] (.tup [ds (sNm L i p q), fr (sP L i p q) (sQ L i p q), db (sB L i p q), di (sE L i p q)]) := by
  refine FnOK.walk (orc := orcSd L) (keep := []) follows Tryz.func39 rfl Tryz.call39 ?_
  refine of_eqH (b :=
    ((((0 : Int) ≤ (↑i : Int)) ∧
    ((↑i : Int) < (↑(List.length L) : Int))) ∧
    (FnOK Tryz.prog G 68 [(.agg [(ds (Ln.name (List.getD L (Int.toNat (↑i : Int)) ln0))), (ds (Ln.group (List.getD L (Int.toNat (↑i : Int)) ln0))), (di (Ln.kind (List.getD L (Int.toNat (↑i : Int)) ln0))), (db (Ln.app (List.getD L (Int.toNat (↑i : Int)) ln0))), (di (Ln.n (List.getD L (Int.toNat (↑i : Int)) ln0))), (di (Ln.d (List.getD L (Int.toNat (↑i : Int)) ln0))), (di (Ln.err (List.getD L (Int.toNat (↑i : Int)) ln0)))])] (.agg [(di (rwN (Ln.n (List.getD L (Int.toNat (↑i : Int)) ln0)) (Ln.d (List.getD L (Int.toNat (↑i : Int)) ln0)))), (di (rwD (Ln.n (List.getD L (Int.toNat (↑i : Int)) ln0)) (Ln.d (List.getD L (Int.toNat (↑i : Int)) ln0))))]) ∧
    ((((Ln.kind (List.getD L (Int.toNat (↑i : Int)) ln0) == (0 : Int)) = true) →
    ((((!ByteArray.toList (Ln.group (List.getD L (Int.toNat (↑i : Int)) ln0)) == ByteArray.toList { data := #[] }) = true) →
    (FnOK Tryz.prog G 69 [(.slc 7 (List.length L) (lnsF L)), (di ((↑i : Int)))] (db (!List.any (List.take (Int.toNat (↑i : Int)) L) (memb (Ln.group (List.getD L (Int.toNat (↑i : Int)) ln0))))) ∧
    ((((!!List.any (List.take (Int.toNat (↑i : Int)) L) (memb (Ln.group (List.getD L (Int.toNat (↑i : Int)) ln0)))) = true) →
    (((.tup [(ds ({ data := #[] })), (.agg [(di p), (di q)]), (db false), (di 0)]) : DV) = (.tup [(ds (sNm L i p q)), (fr (sP L i p q) (sQ L i p q)), (db (sB L i p q)), (di (sE L i p q))]))) ∧
    (((!!List.any (List.take (Int.toNat (↑i : Int)) L) (memb (Ln.group (List.getD L (Int.toNat (↑i : Int)) ln0)))) = false) →
    (FnOK Tryz.prog G 70 [(.slc 7 (List.length L) (lnsF L)), (ds (Ln.group (List.getD L (Int.toNat (↑i : Int)) ln0)))] (di (bestI L (Ln.group (List.getD L (Int.toNat (↑i : Int)) ln0)) (List.length L))) ∧
    (((((0 : Int) ≤ bestI L (Ln.group (List.getD L (Int.toNat (↑i : Int)) ln0)) (List.length L)) ∧
    (bestI L (Ln.group (List.getD L (Int.toNat (↑i : Int)) ln0)) (List.length L) < (↑(List.length L) : Int))) ∧
    ((((0 : Int) ≤ bestI L (Ln.group (List.getD L (Int.toNat (↑i : Int)) ln0)) (List.length L)) ∧
    (bestI L (Ln.group (List.getD L (Int.toNat (↑i : Int)) ln0)) (List.length L) < (↑(List.length L) : Int))) ∧
    FnOK Tryz.prog G 68 [(.agg [(ds (Ln.name (List.getD L (Int.toNat (bestI L (Ln.group (List.getD L (Int.toNat (↑i : Int)) ln0)) (List.length L))) ln0))), (ds (Ln.group (List.getD L (Int.toNat (bestI L (Ln.group (List.getD L (Int.toNat (↑i : Int)) ln0)) (List.length L))) ln0))), (di (Ln.kind (List.getD L (Int.toNat (bestI L (Ln.group (List.getD L (Int.toNat (↑i : Int)) ln0)) (List.length L))) ln0))), (db (Ln.app (List.getD L (Int.toNat (bestI L (Ln.group (List.getD L (Int.toNat (↑i : Int)) ln0)) (List.length L))) ln0))), (di (Ln.n (List.getD L (Int.toNat (bestI L (Ln.group (List.getD L (Int.toNat (↑i : Int)) ln0)) (List.length L))) ln0))), (di (Ln.d (List.getD L (Int.toNat (bestI L (Ln.group (List.getD L (Int.toNat (↑i : Int)) ln0)) (List.length L))) ln0))), (di (Ln.err (List.getD L (Int.toNat (bestI L (Ln.group (List.getD L (Int.toNat (↑i : Int)) ln0)) (List.length L))) ln0)))])] (.agg [(di (rwN (Ln.n (List.getD L (Int.toNat (bestI L (Ln.group (List.getD L (Int.toNat (↑i : Int)) ln0)) (List.length L))) ln0)) (Ln.d (List.getD L (Int.toNat (bestI L (Ln.group (List.getD L (Int.toNat (↑i : Int)) ln0)) (List.length L))) ln0)))), (di (rwD (Ln.n (List.getD L (Int.toNat (bestI L (Ln.group (List.getD L (Int.toNat (↑i : Int)) ln0)) (List.length L))) ln0)) (Ln.d (List.getD L (Int.toNat (bestI L (Ln.group (List.getD L (Int.toNat (↑i : Int)) ln0)) (List.length L))) ln0))))]))) ∧
    (FnOK Tryz.prog G 28 [(.agg [(di p), (di q)]), (.agg [(di (rwN (Ln.n (List.getD L (Int.toNat (bestI L (Ln.group (List.getD L (Int.toNat (↑i : Int)) ln0)) (List.length L))) ln0)) (Ln.d (List.getD L (Int.toNat (bestI L (Ln.group (List.getD L (Int.toNat (↑i : Int)) ln0)) (List.length L))) ln0)))), (di (rwD (Ln.n (List.getD L (Int.toNat (bestI L (Ln.group (List.getD L (Int.toNat (↑i : Int)) ln0)) (List.length L))) ln0)) (Ln.d (List.getD L (Int.toNat (bestI L (Ln.group (List.getD L (Int.toNat (↑i : Int)) ln0)) (List.length L))) ln0))))])] (.tup [(.agg [(di (add1 p q (rwN (Ln.n (List.getD L (Int.toNat (bestI L (Ln.group (List.getD L (Int.toNat (↑i : Int)) ln0)) (List.length L))) ln0)) (Ln.d (List.getD L (Int.toNat (bestI L (Ln.group (List.getD L (Int.toNat (↑i : Int)) ln0)) (List.length L))) ln0))) (rwD (Ln.n (List.getD L (Int.toNat (bestI L (Ln.group (List.getD L (Int.toNat (↑i : Int)) ln0)) (List.length L))) ln0)) (Ln.d (List.getD L (Int.toNat (bestI L (Ln.group (List.getD L (Int.toNat (↑i : Int)) ln0)) (List.length L))) ln0))))), (di (add2 p q (rwN (Ln.n (List.getD L (Int.toNat (bestI L (Ln.group (List.getD L (Int.toNat (↑i : Int)) ln0)) (List.length L))) ln0)) (Ln.d (List.getD L (Int.toNat (bestI L (Ln.group (List.getD L (Int.toNat (↑i : Int)) ln0)) (List.length L))) ln0))) (rwD (Ln.n (List.getD L (Int.toNat (bestI L (Ln.group (List.getD L (Int.toNat (↑i : Int)) ln0)) (List.length L))) ln0)) (Ln.d (List.getD L (Int.toNat (bestI L (Ln.group (List.getD L (Int.toNat (↑i : Int)) ln0)) (List.length L))) ln0)))))]), (di (add3 p q (rwN (Ln.n (List.getD L (Int.toNat (bestI L (Ln.group (List.getD L (Int.toNat (↑i : Int)) ln0)) (List.length L))) ln0)) (Ln.d (List.getD L (Int.toNat (bestI L (Ln.group (List.getD L (Int.toNat (↑i : Int)) ln0)) (List.length L))) ln0))) (rwD (Ln.n (List.getD L (Int.toNat (bestI L (Ln.group (List.getD L (Int.toNat (↑i : Int)) ln0)) (List.length L))) ln0)) (Ln.d (List.getD L (Int.toNat (bestI L (Ln.group (List.getD L (Int.toNat (↑i : Int)) ln0)) (List.length L))) ln0)))))]) ∧
    (((.tup [(ds (Ln.name (List.getD L (Int.toNat (bestI L (Ln.group (List.getD L (Int.toNat (↑i : Int)) ln0)) (List.length L))) ln0))), (.agg [(di (add1 p q (rwN (Ln.n (List.getD L (Int.toNat (bestI L (Ln.group (List.getD L (Int.toNat (↑i : Int)) ln0)) (List.length L))) ln0)) (Ln.d (List.getD L (Int.toNat (bestI L (Ln.group (List.getD L (Int.toNat (↑i : Int)) ln0)) (List.length L))) ln0))) (rwD (Ln.n (List.getD L (Int.toNat (bestI L (Ln.group (List.getD L (Int.toNat (↑i : Int)) ln0)) (List.length L))) ln0)) (Ln.d (List.getD L (Int.toNat (bestI L (Ln.group (List.getD L (Int.toNat (↑i : Int)) ln0)) (List.length L))) ln0))))), (di (add2 p q (rwN (Ln.n (List.getD L (Int.toNat (bestI L (Ln.group (List.getD L (Int.toNat (↑i : Int)) ln0)) (List.length L))) ln0)) (Ln.d (List.getD L (Int.toNat (bestI L (Ln.group (List.getD L (Int.toNat (↑i : Int)) ln0)) (List.length L))) ln0))) (rwD (Ln.n (List.getD L (Int.toNat (bestI L (Ln.group (List.getD L (Int.toNat (↑i : Int)) ln0)) (List.length L))) ln0)) (Ln.d (List.getD L (Int.toNat (bestI L (Ln.group (List.getD L (Int.toNat (↑i : Int)) ln0)) (List.length L))) ln0)))))]), (db true), (di (add3 p q (rwN (Ln.n (List.getD L (Int.toNat (bestI L (Ln.group (List.getD L (Int.toNat (↑i : Int)) ln0)) (List.length L))) ln0)) (Ln.d (List.getD L (Int.toNat (bestI L (Ln.group (List.getD L (Int.toNat (↑i : Int)) ln0)) (List.length L))) ln0))) (rwD (Ln.n (List.getD L (Int.toNat (bestI L (Ln.group (List.getD L (Int.toNat (↑i : Int)) ln0)) (List.length L))) ln0)) (Ln.d (List.getD L (Int.toNat (bestI L (Ln.group (List.getD L (Int.toNat (↑i : Int)) ln0)) (List.length L))) ln0)))))]) : DV) = (.tup [(ds (sNm L i p q)), (fr (sP L i p q) (sQ L i p q)), (db (sB L i p q)), (di (sE L i p q))]))))))))) ∧
    (((!ByteArray.toList (Ln.group (List.getD L (Int.toNat (↑i : Int)) ln0)) == ByteArray.toList { data := #[] }) = false) →
    (FnOK Tryz.prog G 28 [(.agg [(di p), (di q)]), (.agg [(di (rwN (Ln.n (List.getD L (Int.toNat (↑i : Int)) ln0)) (Ln.d (List.getD L (Int.toNat (↑i : Int)) ln0)))), (di (rwD (Ln.n (List.getD L (Int.toNat (↑i : Int)) ln0)) (Ln.d (List.getD L (Int.toNat (↑i : Int)) ln0))))])] (.tup [(.agg [(di (add1 p q (rwN (Ln.n (List.getD L (Int.toNat (↑i : Int)) ln0)) (Ln.d (List.getD L (Int.toNat (↑i : Int)) ln0))) (rwD (Ln.n (List.getD L (Int.toNat (↑i : Int)) ln0)) (Ln.d (List.getD L (Int.toNat (↑i : Int)) ln0))))), (di (add2 p q (rwN (Ln.n (List.getD L (Int.toNat (↑i : Int)) ln0)) (Ln.d (List.getD L (Int.toNat (↑i : Int)) ln0))) (rwD (Ln.n (List.getD L (Int.toNat (↑i : Int)) ln0)) (Ln.d (List.getD L (Int.toNat (↑i : Int)) ln0)))))]), (di (add3 p q (rwN (Ln.n (List.getD L (Int.toNat (↑i : Int)) ln0)) (Ln.d (List.getD L (Int.toNat (↑i : Int)) ln0))) (rwD (Ln.n (List.getD L (Int.toNat (↑i : Int)) ln0)) (Ln.d (List.getD L (Int.toNat (↑i : Int)) ln0)))))]) ∧
    (((.tup [(ds (Ln.name (List.getD L (Int.toNat (↑i : Int)) ln0))), (.agg [(di (add1 p q (rwN (Ln.n (List.getD L (Int.toNat (↑i : Int)) ln0)) (Ln.d (List.getD L (Int.toNat (↑i : Int)) ln0))) (rwD (Ln.n (List.getD L (Int.toNat (↑i : Int)) ln0)) (Ln.d (List.getD L (Int.toNat (↑i : Int)) ln0))))), (di (add2 p q (rwN (Ln.n (List.getD L (Int.toNat (↑i : Int)) ln0)) (Ln.d (List.getD L (Int.toNat (↑i : Int)) ln0))) (rwD (Ln.n (List.getD L (Int.toNat (↑i : Int)) ln0)) (Ln.d (List.getD L (Int.toNat (↑i : Int)) ln0)))))]), (db true), (di (add3 p q (rwN (Ln.n (List.getD L (Int.toNat (↑i : Int)) ln0)) (Ln.d (List.getD L (Int.toNat (↑i : Int)) ln0))) (rwD (Ln.n (List.getD L (Int.toNat (↑i : Int)) ln0)) (Ln.d (List.getD L (Int.toNat (↑i : Int)) ln0)))))]) : DV) = (.tup [(ds (sNm L i p q)), (fr (sP L i p q) (sQ L i p q)), (db (sB L i p q)), (di (sE L i p q))])))))) ∧
    (((Ln.kind (List.getD L (Int.toNat (↑i : Int)) ln0) == (0 : Int)) = false) →
    ((((Ln.kind (List.getD L (Int.toNat (↑i : Int)) ln0) == (1 : Int)) = true) →
    (FnOK Tryz.prog G 71 [(.agg [(di (rwN (Ln.n (List.getD L (Int.toNat (↑i : Int)) ln0)) (Ln.d (List.getD L (Int.toNat (↑i : Int)) ln0)))), (di (rwD (Ln.n (List.getD L (Int.toNat (↑i : Int)) ln0)) (Ln.d (List.getD L (Int.toNat (↑i : Int)) ln0))))]), (.agg [(di p), (di q)])] (db (lessB (rwN (Ln.n (List.getD L (Int.toNat (↑i : Int)) ln0)) (Ln.d (List.getD L (Int.toNat (↑i : Int)) ln0))) (rwD (Ln.n (List.getD L (Int.toNat (↑i : Int)) ln0)) (Ln.d (List.getD L (Int.toNat (↑i : Int)) ln0))) p q)) ∧
    ((((!lessB (rwN (Ln.n (List.getD L (Int.toNat (↑i : Int)) ln0)) (Ln.d (List.getD L (Int.toNat (↑i : Int)) ln0))) (rwD (Ln.n (List.getD L (Int.toNat (↑i : Int)) ln0)) (Ln.d (List.getD L (Int.toNat (↑i : Int)) ln0))) p q) = true) →
    (FnOK Tryz.prog G 38 [] (.agg [(di 0), (di 1)]) ∧
    (((.tup [(ds (Ln.name (List.getD L (Int.toNat (↑i : Int)) ln0))), (.agg [(di 0), (di 1)]), (db true), (di 0)]) : DV) = (.tup [(ds (sNm L i p q)), (fr (sP L i p q) (sQ L i p q)), (db (sB L i p q)), (di (sE L i p q))])))) ∧
    (((!lessB (rwN (Ln.n (List.getD L (Int.toNat (↑i : Int)) ln0)) (Ln.d (List.getD L (Int.toNat (↑i : Int)) ln0))) (rwD (Ln.n (List.getD L (Int.toNat (↑i : Int)) ln0)) (Ln.d (List.getD L (Int.toNat (↑i : Int)) ln0))) p q) = false) →
    (FnOK Tryz.prog G 40 [(.agg [(di p), (di q)]), (.agg [(di (rwN (Ln.n (List.getD L (Int.toNat (↑i : Int)) ln0)) (Ln.d (List.getD L (Int.toNat (↑i : Int)) ln0)))), (di (rwD (Ln.n (List.getD L (Int.toNat (↑i : Int)) ln0)) (Ln.d (List.getD L (Int.toNat (↑i : Int)) ln0))))])] (.tup [(.agg [(di (sub1 p q (rwN (Ln.n (List.getD L (Int.toNat (↑i : Int)) ln0)) (Ln.d (List.getD L (Int.toNat (↑i : Int)) ln0))) (rwD (Ln.n (List.getD L (Int.toNat (↑i : Int)) ln0)) (Ln.d (List.getD L (Int.toNat (↑i : Int)) ln0))))), (di (sub2 p q (rwN (Ln.n (List.getD L (Int.toNat (↑i : Int)) ln0)) (Ln.d (List.getD L (Int.toNat (↑i : Int)) ln0))) (rwD (Ln.n (List.getD L (Int.toNat (↑i : Int)) ln0)) (Ln.d (List.getD L (Int.toNat (↑i : Int)) ln0)))))]), (di (sub3 p q (rwN (Ln.n (List.getD L (Int.toNat (↑i : Int)) ln0)) (Ln.d (List.getD L (Int.toNat (↑i : Int)) ln0))) (rwD (Ln.n (List.getD L (Int.toNat (↑i : Int)) ln0)) (Ln.d (List.getD L (Int.toNat (↑i : Int)) ln0)))))]) ∧
    (((.tup [(ds (Ln.name (List.getD L (Int.toNat (↑i : Int)) ln0))), (.agg [(di (sub1 p q (rwN (Ln.n (List.getD L (Int.toNat (↑i : Int)) ln0)) (Ln.d (List.getD L (Int.toNat (↑i : Int)) ln0))) (rwD (Ln.n (List.getD L (Int.toNat (↑i : Int)) ln0)) (Ln.d (List.getD L (Int.toNat (↑i : Int)) ln0))))), (di (sub2 p q (rwN (Ln.n (List.getD L (Int.toNat (↑i : Int)) ln0)) (Ln.d (List.getD L (Int.toNat (↑i : Int)) ln0))) (rwD (Ln.n (List.getD L (Int.toNat (↑i : Int)) ln0)) (Ln.d (List.getD L (Int.toNat (↑i : Int)) ln0)))))]), (db true), (di (sub3 p q (rwN (Ln.n (List.getD L (Int.toNat (↑i : Int)) ln0)) (Ln.d (List.getD L (Int.toNat (↑i : Int)) ln0))) (rwD (Ln.n (List.getD L (Int.toNat (↑i : Int)) ln0)) (Ln.d (List.getD L (Int.toNat (↑i : Int)) ln0)))))]) : DV) = (.tup [(ds (sNm L i p q)), (fr (sP L i p q) (sQ L i p q)), (db (sB L i p q)), (di (sE L i p q))]))))))) ∧
    (((Ln.kind (List.getD L (Int.toNat (↑i : Int)) ln0) == (1 : Int)) = false) →
    ((((Ln.kind (List.getD L (Int.toNat (↑i : Int)) ln0) == (3 : Int)) = true) →
    (FnOK Tryz.prog G 71 [(.agg [(di p), (di q)]), (.agg [(di (rwN (Ln.n (List.getD L (Int.toNat (↑i : Int)) ln0)) (Ln.d (List.getD L (Int.toNat (↑i : Int)) ln0)))), (di (rwD (Ln.n (List.getD L (Int.toNat (↑i : Int)) ln0)) (Ln.d (List.getD L (Int.toNat (↑i : Int)) ln0))))])] (db (lessB p q (rwN (Ln.n (List.getD L (Int.toNat (↑i : Int)) ln0)) (Ln.d (List.getD L (Int.toNat (↑i : Int)) ln0))) (rwD (Ln.n (List.getD L (Int.toNat (↑i : Int)) ln0)) (Ln.d (List.getD L (Int.toNat (↑i : Int)) ln0))))) ∧
    ((((lessB p q (rwN (Ln.n (List.getD L (Int.toNat (↑i : Int)) ln0)) (Ln.d (List.getD L (Int.toNat (↑i : Int)) ln0))) (rwD (Ln.n (List.getD L (Int.toNat (↑i : Int)) ln0)) (Ln.d (List.getD L (Int.toNat (↑i : Int)) ln0)))) = true) →
    (((.tup [(ds (Ln.name (List.getD L (Int.toNat (↑i : Int)) ln0))), (.agg [(di (rwN (Ln.n (List.getD L (Int.toNat (↑i : Int)) ln0)) (Ln.d (List.getD L (Int.toNat (↑i : Int)) ln0)))), (di (rwD (Ln.n (List.getD L (Int.toNat (↑i : Int)) ln0)) (Ln.d (List.getD L (Int.toNat (↑i : Int)) ln0))))]), (db true), (di 0)]) : DV) = (.tup [(ds (sNm L i p q)), (fr (sP L i p q) (sQ L i p q)), (db (sB L i p q)), (di (sE L i p q))]))) ∧
    (((lessB p q (rwN (Ln.n (List.getD L (Int.toNat (↑i : Int)) ln0)) (Ln.d (List.getD L (Int.toNat (↑i : Int)) ln0))) (rwD (Ln.n (List.getD L (Int.toNat (↑i : Int)) ln0)) (Ln.d (List.getD L (Int.toNat (↑i : Int)) ln0)))) = false) →
    (((.tup [(ds (Ln.name (List.getD L (Int.toNat (↑i : Int)) ln0))), (.agg [(di p), (di q)]), (db true), (di 0)]) : DV) = (.tup [(ds (sNm L i p q)), (fr (sP L i p q) (sQ L i p q)), (db (sB L i p q)), (di (sE L i p q))])))))) ∧
    (((Ln.kind (List.getD L (Int.toNat (↑i : Int)) ln0) == (3 : Int)) = false) →
    (FnOK Tryz.prog G 71 [(.agg [(di (rwN (Ln.n (List.getD L (Int.toNat (↑i : Int)) ln0)) (Ln.d (List.getD L (Int.toNat (↑i : Int)) ln0)))), (di (rwD (Ln.n (List.getD L (Int.toNat (↑i : Int)) ln0)) (Ln.d (List.getD L (Int.toNat (↑i : Int)) ln0))))]), (.agg [(di p), (di q)])] (db (lessB (rwN (Ln.n (List.getD L (Int.toNat (↑i : Int)) ln0)) (Ln.d (List.getD L (Int.toNat (↑i : Int)) ln0))) (rwD (Ln.n (List.getD L (Int.toNat (↑i : Int)) ln0)) (Ln.d (List.getD L (Int.toNat (↑i : Int)) ln0))) p q)) ∧
    ((((lessB (rwN (Ln.n (List.getD L (Int.toNat (↑i : Int)) ln0)) (Ln.d (List.getD L (Int.toNat (↑i : Int)) ln0))) (rwD (Ln.n (List.getD L (Int.toNat (↑i : Int)) ln0)) (Ln.d (List.getD L (Int.toNat (↑i : Int)) ln0))) p q) = true) →
    (((.tup [(ds (Ln.name (List.getD L (Int.toNat (↑i : Int)) ln0))), (.agg [(di (rwN (Ln.n (List.getD L (Int.toNat (↑i : Int)) ln0)) (Ln.d (List.getD L (Int.toNat (↑i : Int)) ln0)))), (di (rwD (Ln.n (List.getD L (Int.toNat (↑i : Int)) ln0)) (Ln.d (List.getD L (Int.toNat (↑i : Int)) ln0))))]), (db true), (di 0)]) : DV) = (.tup [(ds (sNm L i p q)), (fr (sP L i p q) (sQ L i p q)), (db (sB L i p q)), (di (sE L i p q))]))) ∧
    (((lessB (rwN (Ln.n (List.getD L (Int.toNat (↑i : Int)) ln0)) (Ln.d (List.getD L (Int.toNat (↑i : Int)) ln0))) (rwD (Ln.n (List.getD L (Int.toNat (↑i : Int)) ln0)) (Ln.d (List.getD L (Int.toNat (↑i : Int)) ln0))) p q) = false) →
    (((.tup [(ds (Ln.name (List.getD L (Int.toNat (↑i : Int)) ln0))), (.agg [(di p), (di q)]), (db true), (di 0)]) : DV) = (.tup [(ds (sNm L i p q)), (fr (sP L i p q) (sQ L i p q)), (db (sB L i p q)), (di (sE L i p q))])))))))))))))) (by kernel_rfl) ?_
  simp only [Int.toNat_natCast]
  have hmem : L.getD i ln0 ∈ L := by rw [getD_eq hi]; exact List.getElem_mem hi
  have okx := ha _ hmem hap
  obtain ⟨e1, e2⟩ := rw_wt okx
  have e1 : rwN (L.getD i ln0).n (L.getD i ln0).d = wN L i := e1
  have e2 : rwD (L.getD i ln0).n (L.getD i ln0).d = wD L i := e2
  refine ⟨⟨by omega, by omega⟩, f68 _ _ _ _ _ _ _, fun h0 => ⟨fun hg => ⟨f69 L i hi hL, fun hany => ?_, fun hany => ?_⟩, fun hg => ⟨f28 _ _ _ _, ?_⟩⟩, fun h0 => ⟨fun h1 => ⟨f71 _ _ _ _, fun hl => ⟨f38, ?_⟩, fun hl => ⟨f40 _ _ _ _, ?_⟩⟩, fun h1 => ⟨fun h3 => ⟨f71 _ _ _ _, fun hl => ?_, fun hl => ?_⟩, fun h3 => ⟨f71 _ _ _ _, fun hl => ?_, fun hl => ?_⟩⟩⟩⟩
  · rw [beq_iff_eq] at h0
    rw [emp_iff, Bool.not_eq_true', decide_eq_false_iff_not] at hg
    rw [Bool.not_not] at hany
    unfold sNm sP sQ sB sE stepR; rw [if_pos h0, if_neg hg, if_pos hany]; rfl
  · rw [beq_iff_eq] at h0
    rw [emp_iff, Bool.not_eq_true', decide_eq_false_iff_not] at hg
    rw [Bool.not_not] at hany
    have hm : memb (L.getD i ln0).group (L.getD i ln0) = true := by
      unfold memb; rw [h0, hap]; simp
    obtain ⟨b1, _⟩ := bestI_all hi hm hany
    have b2 := bestI_lt L (L.getD i ln0).group L.length
    obtain ⟨e3, e4⟩ := rw_wt (best_ok ha (Nat.le_refl _) b1)
    refine ⟨f70 L _ ha hL, ⟨⟨by omega, by omega⟩, ⟨by omega, by omega⟩, f68 _ _ _ _ _ _ _⟩, f28 _ _ _ _, ?_⟩
    unfold sNm sP sQ sB sE stepR; rw [if_pos h0, if_neg hg, if_neg (by rw [hany]; decide)]; rw [e3, e4]; rfl
  · rw [beq_iff_eq] at h0
    rw [emp_iff, Bool.not_eq_false', decide_eq_true_eq] at hg
    unfold sNm sP sQ sB sE stepR; rw [if_pos h0, if_pos hg]; rw [e1, e2]; rfl
  · rw [beq_eq_false_iff_ne, ne_eq] at h0
    rw [beq_iff_eq] at h1
    rw [e1, e2, Bool.not_eq_true'] at hl
    unfold sNm sP sQ sB sE stepR; rw [if_neg h0, if_pos h1, if_pos hl]
  · rw [beq_eq_false_iff_ne, ne_eq] at h0
    rw [beq_iff_eq] at h1
    rw [e1, e2, Bool.not_eq_false'] at hl
    unfold sNm sP sQ sB sE stepR; rw [if_neg h0, if_pos h1, if_neg (by rw [hl]; decide)]; rw [e1, e2]; rfl
  · rw [beq_eq_false_iff_ne, ne_eq] at h0 h1
    rw [beq_iff_eq] at h3
    rw [e1, e2] at hl
    unfold sNm sP sQ sB sE stepR; rw [if_neg h0, if_neg h1, if_pos h3, if_pos hl]; rw [e1, e2]
  · rw [beq_eq_false_iff_ne, ne_eq] at h0 h1
    rw [beq_iff_eq] at h3
    rw [e1, e2] at hl
    unfold sNm sP sQ sB sE stepR; rw [if_neg h0, if_neg h1, if_pos h3, if_neg (by rw [hl]; decide)]
  · rw [beq_eq_false_iff_ne, ne_eq] at h0 h1 h3
    rw [e1, e2] at hl
    unfold sNm sP sQ sB sE stepR; rw [if_neg h0, if_neg h1, if_neg h3, if_pos hl]; rw [e1, e2]
  · rw [beq_eq_false_iff_ne, ne_eq] at h0 h1 h3
    rw [e1, e2] at hl
    unfold sNm sP sQ sB sE stepR; rw [if_neg h0, if_neg h1, if_neg h3, if_neg (by rw [hl]; decide)]
end Go.Proofs
