import Derived.Test.YtpognhmelecaoaaGreatDoorAcD
import Derived.Test.YtpognhmelecaoaaGreatDoorEG
set_option autoImplicit false
namespace Go.Proofs
open Go Go.Ab Go.RowKit
set_option maxHeartbeats 4000000
set_option maxRecDepth 100000
variable {G : IH}
/-! What each kind of expression asks for: a map of functions. -/
def kC (w : DV) (n : Int) : DV := if n = 1 then .clo (.func 76) [] [.ptr [di 0]] else if n = 3 then .clo (.func 76) [] [.ptr [di 1]] else if n = 4 then .clo (.func 76) [] [.ptr [di 1]]
  else if n = 2 then .clo (.func 80) [w] [] else if n = 12 then .clo (.func 81) [w] [] else if n = 13 then .clo (.func 81) [w] []
  else if n < 12 then .clo (.func 78) [] [.ptr [di 0], .ptr [di 0]] else if n < 18 then .clo (.func 78) [] [.ptr [di 0], .ptr [di 1]] else .clo (.func 78) [] [.ptr [di 1], .ptr [di 1]]
abbrev kF (w : DV) : Value → DV := fun v => kC w (keyI v)
def hK : List Int → Value → Bool
  | [] => fun _ => false
  | n :: l => fun v => keyEq v (.int .i64 n) || hK l v
theorem putF_kF (w : DV) (n : Int) : putF (.int .i64 n) (kC w n) (kF w) = kF w := by
  funext v
  unfold putF
  cases h : keyEq v (.int .i64 n) with
  | false => rfl
  | true =>
    cases v <;> simp only [keyEq, Bool.and_eq_true, decide_eq_true_eq, Bool.false_eq_true] at h
    obtain ⟨_, rfl⟩ := h
    rfl
def orcK1 : Oracle := fun f a => match f, a with
  | 75, [.con (.int .i64 v)] => some (.clo (.func 76) [] [.ptr [di v]])
  | 77, [.con (.int .i64 a), .con (.int .i64 b)] => some (.clo (.func 78) [] [.ptr [di a], .ptr [di b]])
  | _, _ => none
def kl0 : List Int := [13, 12, 2, 4, 3, 1]
def kl1 : List Int := [5, 6, 7, 8, 9, 10, 11]
def kl2 : List Int := [14, 15, 16, 17]
def kl3 : List Int := [18, 19, 20]
def kh1 (k : Nat) : List Int := (kl1.take k).reverse ++ kl0
def kh2 (k : Nat) : List Int := (kl2.take k).reverse ++ kh1 7
def kh3 (k : Nat) : List Int := (kl3.take k).reverse ++ kh2 4
theorem take_cons {l m : List Int} {k : Nat} (h : k < l.length) : (l.take (k + 1)).reverse ++ m = l.getD k 0 :: ((l.take k).reverse ++ m) := by
  rw [List.take_succ_eq_append_getElem h, List.reverse_append, List.getD, List.getElem?_eq_getElem h]; rfl
theorem kC1 (w : DV) {k : Nat} (h : k < 7) : kC w (kl1.getD k 0) = .clo (.func 78) [] [.ptr [di 0], .ptr [di 0]] := by
  rcases k with _ | _ | _ | _ | _ | _ | _ | k <;> first | rfl | omega
theorem kC2 (w : DV) {k : Nat} (h : k < 4) : kC w (kl2.getD k 0) = .clo (.func 78) [] [.ptr [di 0], .ptr [di 1]] := by
  rcases k with _ | _ | _ | _ | k <;> first | rfl | omega
theorem kC3 (w : DV) {k : Nat} (h : k < 3) : kC w (kl3.getD k 0) = .clo (.func 78) [] [.ptr [di 1], .ptr [di 1]] := by
  rcases k with _ | _ | _ | k <;> first | rfl | omega
theorem in1_rel {l : List Int} {h : IH} {v : Value} (hv : DV.rel h (.slc 1 l.length (elemF false 1 (l.map fun n => di n))) v) : DV.rel h (inD l) v := by
  refine DV.rel_slc_congr (fun i hi => ?_) hv
  unfold elemF inF
  simp [List.getD, List.getElem?_eq_getElem hi]
abbrev fn77 : AV := .d (.con (.func (.func 77) #[] #[]))
noncomputable def S43a (w : DV) (k : Nat) : AS := ⟨regs Tryz.f43.ntmps [(4, fn77), (5, .mapv 12), (26, .d (inD kl1)), (27, vi 7), (28, vi k)], [(12, [.mp (some .i64) (kF w) (hK (kh1 k))])]⟩
noncomputable def S43b (w : DV) (k : Nat) : AS := ⟨regs Tryz.f43.ntmps [(4, fn77), (5, .mapv 12), (37, .d (inD kl2)), (38, vi 4), (39, vi k)], [(12, [.mp (some .i64) (kF w) (hK (kh2 k))])]⟩
noncomputable def S43c (w : DV) (k : Nat) : AS := ⟨regs Tryz.f43.ntmps [(4, fn77), (5, .mapv 12), (48, .d (inD kl3)), (49, vi 3), (50, vi k)], [(12, [.mp (some .i64) (kF w) (hK (kh3 k))])]⟩
abbrev kdM (w : DV) : DV := .mp (some .i64) (kF w) (hK (kh3 3))
theorem f43 (l : List Fc) (ws : List ByteArray) : FnOK Tryz.prog G 43 [wrD l ws] (kdM (wrD l ws)) := by
  refine FnOK.walk (orc := orcK1) (keep := []) follows Tryz.func43 rfl Tryz.call43 ?_
  refine of_eqH4 ((.ptr [(.mp none (fV l) (fH l)), (.mp none (wV ws) (wL ws))]) : DV) ((.d (.con (.func (.func 75) ⟨[]⟩ ⟨[]⟩))) : AV) ((.clo (.func 76) [] [(.ptr [(di 1)])]) : DV) (DV.clo (Fn.func 81) [DV.ptr [DV.mp none (fV l) (fH l), DV.mp none (wV ws) (wL ws)]] []) (fun Za Zb Zc Zd => ((FnOK Tryz.prog G 75 [(di 0)] (.clo (.func 76) [] [(.ptr [(di 0)])]) ∧ FnOK Tryz.prog G 75 [(di 1)] Zc ∧ FnOK Tryz.prog G 75 [(di 1)] Zc) ∧ AWP Tryz.prog G [cd Tryz.f43 [1, 1, 1, 1, 0, 1, 0], (.blk 0), cd Tryz.f43 [1, 1, 1, 1, 1]] ⟨regs 60 [(0, (.d Za)), (2, (.d (.con (.map none)))), (3, Zb), (4, (.d (.con (.func (.func 77) ⟨[]⟩ ⟨[]⟩)))), (5, (.mapv 12)), (12, (.mapv 12)), (13, Zb), (14, (.d (.clo (.func 76) [] [(.ptr [(di 0)])]))), (15, Zb), (16, (.d Zc)), (17, Zb), (18, (.d Zc)), (19, (.d Za)), (20, (.d (.clo (.func 80) [Za] []))), (21, (.d Za)), (22, (.d (.clo (.func 81) [Za] []))), (23, (.d Za)), (24, (.d (.clo (.func 81) [Za] []))), (25, (.mapv 12)), (26, (.d (.slc 1 7 (elemF false 1 [(di 5), (di 6), (di 7), (di 8), (di 9), (di 10), (di 11)])))), (27, (vi 7)), (28, (vi 0))], [(12, [(.mp (some .i64) (putF (Value.int IntKind.i64 13) Zd (putF (Value.int IntKind.i64 12) Zd (putF (Value.int IntKind.i64 2) (DV.clo (Fn.func 80) [DV.ptr [DV.mp none (fV l) (fH l), DV.mp none (wV ws) (wL ws)]] []) (putF (Value.int IntKind.i64 4) (DV.clo (Fn.func 76) [] [DV.ptr [DV.con (Value.int IntKind.i64 1)]]) (putF (Value.int IntKind.i64 3) (DV.clo (Fn.func 76) [] [DV.ptr [DV.con (Value.int IntKind.i64 1)]]) (putF (Value.int IntKind.i64 1) (DV.clo (Fn.func 76) [] [DV.ptr [DV.con (Value.int IntKind.i64 0)]]) fun x => DV.con Value.nilFunc)))))) (putH (Value.int IntKind.i64 13) (putH (Value.int IntKind.i64 12) (putH (Value.int IntKind.i64 2) (putH (Value.int IntKind.i64 4) (putH (Value.int IntKind.i64 3) (putH (Value.int IntKind.i64 1) fun x => false)))))))])]⟩ (Ret Tryz.prog Tryz.f43 (kdM (wrD l ws))))) (by kernel_rfl) ?_
  refine ⟨⟨f75 0, f75 1, f75 1⟩, ?_⟩
  refine AWP.pre (.mapF _ 12 (kF (wrD l ws)) rfl fun k hk => ?_) ?_
  · have hk : hK kl0 k = true := hk
    cases k <;> simp only [hK, kl0, keyEq, Bool.or_false, Bool.or_self, Bool.false_eq_true] at hk
    rename_i kd n
    simp only [Bool.or_eq_true, Bool.and_eq_true, decide_eq_true_eq] at hk
    rcases hk with ⟨rfl, rfl⟩ | ⟨rfl, rfl⟩ | ⟨rfl, rfl⟩ | ⟨rfl, rfl⟩ | ⟨rfl, rfl⟩ | ⟨rfl, rfl⟩ <;> rfl
  refine AWP.pre (.reg _ 26 (.d (inD kl1)) fun β h v hv => in1_rel (l := kl1) hv) ?_
  refine AWP.loop (c := cAt (bodyOf Tryz.f43) [1, 1, 1, 1, 0, 1, 0, 0]) (by kernel_rfl) (S43a (wrD l ws)) (fun k => k ≤ 7) (fun k => 7 - k) 0 ?_ (Nat.zero_le _) ?_
  · refine AS.leZ [] [0] (b := ((T0 ∧ T0 ∧ T0 ∧ T0 ∧ T0 ∧ True) ∧ ((some [(.mp (some .i64) (kF (wrD l ws)) (putH (Value.int IntKind.i64 13) (putH (Value.int IntKind.i64 12) (putH (Value.int IntKind.i64 2) (putH (Value.int IntKind.i64 4) (putH (Value.int IntKind.i64 3) (putH (Value.int IntKind.i64 1) fun x => false)))))))]) : (Option (List AV))) = (some [(.mp (some .i64) (kF (wrD l ws)) (hK (kh1 0)))]) ∧ True)) (by kernel_rfl) (by kernel_rfl) ?_
    exact ⟨⟨rfl, rfl, rfl, rfl, rfl, trivial⟩, rfl, trivial⟩
  · intro k hk
    refine walk (orc := orcK1) (keep := []) (cuts := []) (n := 1000) follows ?_
    refine of_eqH1 ((.d (.con (.func (.func 77) ⟨[]⟩ ⟨[]⟩))) : AV) (fun Za => ((((decide ((↑k : Int) < 7)) = true) → (((0 ≤ (↑k : Int)) ∧ ((↑k : Int) < ↑7)) ∧ FnOK Tryz.prog G 77 [(di 0), (di 0)] (.clo (.func 78) [] [(.ptr [(di 0)]), (.ptr [(di 0)])]) ∧ (I64 (↑k + 1)) ∧ Again (S43a (wrD l ws)) (fun k => k ≤ 7) (fun k => 7 - k) k ⟨regs 60 [(4, Za), (5, (.mapv 12)), (7, (vi (kl1.getD (↑k : Int).toNat 0))), (26, (.d (.slc 1 7 (inF kl1)))), (27, (vi 7)), (28, (vi (↑k + 1))), (29, (vb (decide ((↑k : Int) < 7)))), (30, (.d (.ptr [(di (kl1.getD (↑k : Int).toNat 0))]))), (31, (vi (kl1.getD (↑k : Int).toNat 0))), (32, (.mapv 12)), (33, (vi (kl1.getD (↑k : Int).toNat 0))), (34, Za), (35, (.d (.clo (.func 78) [] [(.ptr [(di 0)]), (.ptr [(di 0)])]))), (36, (vi (↑k + 1)))], [(12, [(.mp (some .i64) (putF (Value.int IntKind.i64 (kl1.getD (↑k : Int).toNat 0)) (DV.clo (Fn.func 78) [] [DV.ptr [DV.con (Value.int IntKind.i64 0)], DV.ptr [DV.con (Value.int IntKind.i64 0)]]) (kF (wrD l ws))) (putH (Value.int IntKind.i64 (kl1.getD (↑k : Int).toNat 0)) (hK (kh1 k))))])]⟩)) ∧ (((decide ((↑k : Int) < 7)) = false) → AWP Tryz.prog G [cd Tryz.f43 [1, 1, 1, 1, 1]] ⟨regs 60 [(4, Za), (5, (.mapv 12)), (26, (.d (.slc 1 7 (inF kl1)))), (27, (vi 7)), (28, (vi (↑k))), (29, (vb (decide ((↑k : Int) < 7))))], [(12, [(.mp (some .i64) (kF (wrD l ws)) (hK (kh1 k)))])]⟩ (Ret Tryz.prog Tryz.f43 (kdM (wrD l ws)))))) (by kernel_rfl) ?_
    simp only [Int.toNat_natCast]
    refine ⟨fun h1 => ?_, fun h1 => ?_⟩
    · have hk2 : k < 7 := by have := of_decide_eq_true h1; omega
      refine ⟨⟨by omega, by show (k : Int) < 7; omega⟩, f77 0 0, ⟨by omega, by omega⟩, Again.mk (k + 1) ?_ hk2 (by omega)⟩
      refine AS.leZ [] [0] (b := ((T0 ∧ T0 ∧ T0 ∧ T0 ∧ T0 ∧ True) ∧ ((some [(.mp (some .i64) (putF (Value.int IntKind.i64 (kl1.getD k 0)) (DV.clo (Fn.func 78) [] [DV.ptr [DV.con (Value.int IntKind.i64 0)], DV.ptr [DV.con (Value.int IntKind.i64 0)]]) (kF (wrD l ws))) (putH (Value.int IntKind.i64 (kl1.getD k 0)) (hK (kh1 k))))]) : (Option (List AV))) = (some [(.mp (some .i64) (kF (wrD l ws)) (hK (kh1 (k + 1))))]) ∧ True)) (by kernel_rfl) (by kernel_rfl) ?_
      refine ⟨⟨rfl, rfl, rfl, rfl, rfl, trivial⟩, ?_, trivial⟩
      have e1 : hK (kh1 (k + 1)) = putH (.int .i64 (kl1.getD k 0)) (hK (kh1 k)) := by
        unfold kh1
        rw [take_cons (show k < kl1.length from hk2)]; rfl
      rw [e1]
      refine congrArg (fun f => some [AV.mp (some .i64) f (putH (.int .i64 (kl1.getD k 0)) (hK (kh1 k)))]) ?_
      rw [← kC1 (wrD l ws) hk2]
      exact putF_kF _ _
    · have h1 := of_decide_eq_false h1
      obtain rfl : k = 7 := by omega
      refine walk (orc := orcK1) (keep := []) (cuts := []) (n := 1000) follows ?_
      refine of_eqH (b := AWP Tryz.prog G [cd Tryz.f43 [1, 1, 1, 1, 1, 0, 1, 0], (.blk 2), cd Tryz.f43 [1, 1, 1, 1, 1, 1]] ⟨regs 60 [(4, (.d (.con (.func (.func 77) ⟨[]⟩ ⟨[]⟩)))), (5, (.mapv 12)), (26, (.d (.slc 1 7 (inF kl1)))), (27, (vi 7)), (28, (vi 7)), (29, (vb false)), (37, (.d (.slc 1 4 (elemF false 1 [(di 14), (di 15), (di 16), (di 17)])))), (38, (vi 4)), (39, (vi 0))], [(12, [(.mp (some .i64) (kF (wrD l ws)) (hK (kh1 7)))])]⟩ (Ret Tryz.prog Tryz.f43 (kdM (wrD l ws)))) (by kernel_rfl) ?_
      refine AWP.pre (.reg _ 37 (.d (inD kl2)) fun β h v hv => in1_rel (l := kl2) hv) ?_
      refine AWP.loop (c := cAt (bodyOf Tryz.f43) [1, 1, 1, 1, 1, 0, 1, 0, 0]) (by kernel_rfl) (S43b (wrD l ws)) (fun k => k ≤ 4) (fun k => 4 - k) 0 ?_ (Nat.zero_le _) ?_
      · refine AS.leZ [] [0] (b := ((T0 ∧ T0 ∧ T0 ∧ T0 ∧ T0 ∧ True) ∧ ((some [(.mp (some .i64) (kF (wrD l ws)) (hK (kh1 7)))]) : (Option (List AV))) = (some [(.mp (some .i64) (kF (wrD l ws)) (hK (kh2 0)))]) ∧ True)) (by kernel_rfl) (by kernel_rfl) ?_
        exact ⟨⟨rfl, rfl, rfl, rfl, rfl, trivial⟩, rfl, trivial⟩
      · intro k hk
        refine walk (orc := orcK1) (keep := []) (cuts := []) (n := 1000) follows ?_
        refine of_eqH1 ((.d (.con (.func (.func 77) ⟨[]⟩ ⟨[]⟩))) : AV) (fun Za => ((((decide ((↑k : Int) < 4)) = true) → (((0 ≤ (↑k : Int)) ∧ ((↑k : Int) < ↑4)) ∧ FnOK Tryz.prog G 77 [(di 0), (di 1)] (.clo (.func 78) [] [(.ptr [(di 0)]), (.ptr [(di 1)])]) ∧ (I64 (↑k + 1)) ∧ Again (S43b (wrD l ws)) (fun k => k ≤ 4) (fun k => 4 - k) k ⟨regs 60 [(4, Za), (5, (.mapv 12)), (9, (vi (kl2.getD (↑k : Int).toNat 0))), (37, (.d (.slc 1 4 (inF kl2)))), (38, (vi 4)), (39, (vi (↑k + 1))), (40, (vb (decide ((↑k : Int) < 4)))), (41, (.d (.ptr [(di (kl2.getD (↑k : Int).toNat 0))]))), (42, (vi (kl2.getD (↑k : Int).toNat 0))), (43, (.mapv 12)), (44, (vi (kl2.getD (↑k : Int).toNat 0))), (45, Za), (46, (.d (.clo (.func 78) [] [(.ptr [(di 0)]), (.ptr [(di 1)])]))), (47, (vi (↑k + 1)))], [(12, [(.mp (some .i64) (putF (Value.int IntKind.i64 (kl2.getD (↑k : Int).toNat 0)) (DV.clo (Fn.func 78) [] [DV.ptr [DV.con (Value.int IntKind.i64 0)], DV.ptr [DV.con (Value.int IntKind.i64 1)]]) (kF (wrD l ws))) (putH (Value.int IntKind.i64 (kl2.getD (↑k : Int).toNat 0)) (hK (kh2 k))))])]⟩)) ∧ (((decide ((↑k : Int) < 4)) = false) → AWP Tryz.prog G [cd Tryz.f43 [1, 1, 1, 1, 1, 1]] ⟨regs 60 [(4, Za), (5, (.mapv 12)), (37, (.d (.slc 1 4 (inF kl2)))), (38, (vi 4)), (39, (vi (↑k))), (40, (vb (decide ((↑k : Int) < 4))))], [(12, [(.mp (some .i64) (kF (wrD l ws)) (hK (kh2 k)))])]⟩ (Ret Tryz.prog Tryz.f43 (kdM (wrD l ws)))))) (by kernel_rfl) ?_
        simp only [Int.toNat_natCast]
        refine ⟨fun h1 => ?_, fun h1 => ?_⟩
        · have hk2 : k < 4 := by have := of_decide_eq_true h1; omega
          refine ⟨⟨by omega, by show (k : Int) < 4; omega⟩, f77 0 1, ⟨by omega, by omega⟩, Again.mk (k + 1) ?_ hk2 (by omega)⟩
          refine AS.leZ [] [0] (b := ((T0 ∧ T0 ∧ T0 ∧ T0 ∧ T0 ∧ True) ∧ ((some [(.mp (some .i64) (putF (Value.int IntKind.i64 (kl2.getD k 0)) (DV.clo (Fn.func 78) [] [DV.ptr [DV.con (Value.int IntKind.i64 0)], DV.ptr [DV.con (Value.int IntKind.i64 1)]]) (kF (wrD l ws))) (putH (Value.int IntKind.i64 (kl2.getD k 0)) (hK (kh2 k))))]) : (Option (List AV))) = (some [(.mp (some .i64) (kF (wrD l ws)) (hK (kh2 (k + 1))))]) ∧ True)) (by kernel_rfl) (by kernel_rfl) ?_
          refine ⟨⟨rfl, rfl, rfl, rfl, rfl, trivial⟩, ?_, trivial⟩
          have e1 : hK (kh2 (k + 1)) = putH (.int .i64 (kl2.getD k 0)) (hK (kh2 k)) := by
            unfold kh2
            rw [take_cons (show k < kl2.length from hk2)]; rfl
          rw [e1]
          refine congrArg (fun f => some [AV.mp (some .i64) f (putH (.int .i64 (kl2.getD k 0)) (hK (kh2 k)))]) ?_
          rw [← kC2 (wrD l ws) hk2]
          exact putF_kF _ _
        · have h1 := of_decide_eq_false h1
          obtain rfl : k = 4 := by omega
          refine walk (orc := orcK1) (keep := []) (cuts := []) (n := 1000) follows ?_
          refine of_eqH (b := AWP Tryz.prog G [cd Tryz.f43 [1, 1, 1, 1, 1, 1, 0, 1, 0], (.blk 4), cd Tryz.f43 [1, 1, 1, 1, 1, 1, 1]] ⟨regs 60 [(4, (.d (.con (.func (.func 77) ⟨[]⟩ ⟨[]⟩)))), (5, (.mapv 12)), (37, (.d (.slc 1 4 (inF kl2)))), (38, (vi 4)), (39, (vi 4)), (40, (vb false)), (48, (.d (.slc 1 3 (elemF false 1 [(di 18), (di 19), (di 20)])))), (49, (vi 3)), (50, (vi 0))], [(12, [(.mp (some .i64) (kF (wrD l ws)) (hK (kh2 4)))])]⟩ (Ret Tryz.prog Tryz.f43 (kdM (wrD l ws)))) (by kernel_rfl) ?_
          refine AWP.pre (.reg _ 48 (.d (inD kl3)) fun β h v hv => in1_rel (l := kl3) hv) ?_
          refine AWP.loop (c := cAt (bodyOf Tryz.f43) [1, 1, 1, 1, 1, 1, 0, 1, 0, 0]) (by kernel_rfl) (S43c (wrD l ws)) (fun k => k ≤ 3) (fun k => 3 - k) 0 ?_ (Nat.zero_le _) ?_
          · refine AS.leZ [] [0] (b := ((T0 ∧ T0 ∧ T0 ∧ T0 ∧ T0 ∧ True) ∧ ((some [(.mp (some .i64) (kF (wrD l ws)) (hK (kh2 4)))]) : (Option (List AV))) = (some [(.mp (some .i64) (kF (wrD l ws)) (hK (kh3 0)))]) ∧ True)) (by kernel_rfl) (by kernel_rfl) ?_
            exact ⟨⟨rfl, rfl, rfl, rfl, rfl, trivial⟩, rfl, trivial⟩
          · intro k hk
            refine walk (orc := orcK1) (keep := []) (cuts := []) (n := 1000) follows ?_
            refine of_eqH1 ((.d (.con (.func (.func 77) ⟨[]⟩ ⟨[]⟩))) : AV) (fun Za => ((((decide ((↑k : Int) < 3)) = true) → (((0 ≤ (↑k : Int)) ∧ ((↑k : Int) < ↑3)) ∧ FnOK Tryz.prog G 77 [(di 1), (di 1)] (.clo (.func 78) [] [(.ptr [(di 1)]), (.ptr [(di 1)])]) ∧ (I64 (↑k + 1)) ∧ Again (S43c (wrD l ws)) (fun k => k ≤ 3) (fun k => 3 - k) k ⟨regs 60 [(4, Za), (5, (.mapv 12)), (11, (vi (kl3.getD (↑k : Int).toNat 0))), (48, (.d (.slc 1 3 (inF kl3)))), (49, (vi 3)), (50, (vi (↑k + 1))), (51, (vb (decide ((↑k : Int) < 3)))), (52, (.d (.ptr [(di (kl3.getD (↑k : Int).toNat 0))]))), (53, (vi (kl3.getD (↑k : Int).toNat 0))), (54, (.mapv 12)), (55, (vi (kl3.getD (↑k : Int).toNat 0))), (56, Za), (57, (.d (.clo (.func 78) [] [(.ptr [(di 1)]), (.ptr [(di 1)])]))), (58, (vi (↑k + 1)))], [(12, [(.mp (some .i64) (putF (Value.int IntKind.i64 (kl3.getD (↑k : Int).toNat 0)) (DV.clo (Fn.func 78) [] [DV.ptr [DV.con (Value.int IntKind.i64 1)], DV.ptr [DV.con (Value.int IntKind.i64 1)]]) (kF (wrD l ws))) (putH (Value.int IntKind.i64 (kl3.getD (↑k : Int).toNat 0)) (hK (kh3 k))))])]⟩)) ∧ (((decide ((↑k : Int) < 3)) = false) → AWP Tryz.prog G [cd Tryz.f43 [1, 1, 1, 1, 1, 1, 1]] ⟨regs 60 [(4, Za), (5, (.mapv 12)), (48, (.d (.slc 1 3 (inF kl3)))), (49, (vi 3)), (50, (vi (↑k))), (51, (vb (decide ((↑k : Int) < 3))))], [(12, [(.mp (some .i64) (kF (wrD l ws)) (hK (kh3 k)))])]⟩ (Ret Tryz.prog Tryz.f43 (kdM (wrD l ws)))))) (by kernel_rfl) ?_
            simp only [Int.toNat_natCast]
            refine ⟨fun h1 => ?_, fun h1 => ?_⟩
            · have hk2 : k < 3 := by have := of_decide_eq_true h1; omega
              refine ⟨⟨by omega, by show (k : Int) < 3; omega⟩, f77 1 1, ⟨by omega, by omega⟩, Again.mk (k + 1) ?_ hk2 (by omega)⟩
              refine AS.leZ [] [0] (b := ((T0 ∧ T0 ∧ T0 ∧ T0 ∧ T0 ∧ True) ∧ ((some [(.mp (some .i64) (putF (Value.int IntKind.i64 (kl3.getD k 0)) (DV.clo (Fn.func 78) [] [DV.ptr [DV.con (Value.int IntKind.i64 1)], DV.ptr [DV.con (Value.int IntKind.i64 1)]]) (kF (wrD l ws))) (putH (Value.int IntKind.i64 (kl3.getD k 0)) (hK (kh3 k))))]) : (Option (List AV))) = (some [(.mp (some .i64) (kF (wrD l ws)) (hK (kh3 (k + 1))))]) ∧ True)) (by kernel_rfl) (by kernel_rfl) ?_
              refine ⟨⟨rfl, rfl, rfl, rfl, rfl, trivial⟩, ?_, trivial⟩
              have e1 : hK (kh3 (k + 1)) = putH (.int .i64 (kl3.getD k 0)) (hK (kh3 k)) := by
                unfold kh3
                rw [take_cons (show k < kl3.length from hk2)]; rfl
              rw [e1]
              refine congrArg (fun f => some [AV.mp (some .i64) f (putH (.int .i64 (kl3.getD k 0)) (hK (kh3 k)))]) ?_
              rw [← kC3 (wrD l ws) hk2]
              exact putF_kF _ _
            · have h1 := of_decide_eq_false h1
              obtain rfl : k = 3 := by omega
              refine walk (orc := orcK1) (keep := []) (cuts := []) (n := 1000) follows ?_
              refine of_tr (fun _ _ _ _ => (ZS ((kdM (wrD l ws)) : DV))) (by kernel_rfl) ?_
              rfl
end Go.Proofs
set_option autoImplicit false
namespace Go.Proofs
open Go Go.Ab Go.RowKit
set_option maxHeartbeats 4000000
set_option maxRecDepth 100000
variable {G : IH}
/-! The kind of an expression. -/
abbrev KR := Int × Int × Int
def badR : List KR → Option (Int × Int)
  | [] => none
  | r :: l => if r.2.2 ≠ 0 then some r.2 else badR l
def apK (l : List Fc) (ws : List ByteArray) (k : Int) (s : ByteArray) (ks : List Int) (n0 n1 : ByteArray) : Int × Int :=
  if k = 1 then (0, 0) else if k = 3 then (1, 0) else if k = 4 then (1, 0) else if k = 2 then nmK l ws s
  else if k = 12 ∨ k = 13 then (if cmK l n0 n1 (ks.getD 0 0) (ks.getD 1 0) then 1 else 0, if cmK l n0 n1 (ks.getD 0 0) (ks.getD 1 0) then 0 else 5)
  else if k < 12 then (kxA ks 0 0, kxE ks 0) else if k < 18 then (kxA ks 0 1, kxE ks 0) else (kxA ks 1 1, kxE ks 1)
def tyC (l : List Fc) (ws : List ByteArray) (k : Int) (s : ByteArray) (pos : Int) (rs : List KR) (n0 n1 : ByteArray) : KR := match badR rs with
  | some p => (0, p)
  | none => ((apK l ws k s (rs.map (·.1)) n0 n1).1, pos, (apK l ws k s (rs.map (·.1)) n0 n1).2)
mutual
def tyE (l : List Fc) (ws : List ByteArray) : Ex → KR
  | .mk k s _ _ pos kids => tyC l ws k s pos (tyL l ws kids) (kids.getD 0 ex0).s (kids.getD 1 ex0).s
def tyL (l : List Fc) (ws : List ByteArray) : List Ex → List KR
  | [] => []
  | x :: r => tyE l ws x :: tyL l ws r
end
theorem tyE_eq (l : List Fc) (ws : List ByteArray) (x : Ex) : tyE l ws x = tyC l ws x.k x.s x.pos (tyL l ws x.kids) (x.kids.getD 0 ex0).s (x.kids.getD 1 ex0).s := by cases x; simp only [tyE, Ex.k, Ex.s, Ex.pos, Ex.kids]
theorem tyL_map (l : List Fc) (ws : List ByteArray) : ∀ r : List Ex, tyL l ws r = r.map (tyE l ws)
  | [] => rfl
  | x :: r => by simp only [tyL, List.map_cons, tyL_map l ws r]
theorem bad_hit {R : List KR} {k : Nat} {r0 : KR} (hk : k < R.length) (hno : ∀ i, i < k → (R.getD i r0).2.2 = 0) (h : (R.getD k r0).2.2 ≠ 0) : badR R = some (R.getD k r0).2 := by
  induction R generalizing k with
  | nil => simp at hk
  | cons r R ih =>
    cases k with
    | zero =>
      have h : r.2.2 ≠ 0 := h
      unfold badR
      rw [if_pos h]; rfl
    | succ k =>
      have h0 : r.2.2 = 0 := hno 0 (by omega)
      unfold badR
      rw [if_neg (by omega)]
      exact ih (by simpa using hk) (fun i hi => by simpa using hno (i + 1) (by omega)) (by simpa using h)
theorem bad_none {R : List KR} {r0 : KR} (hno : ∀ i, i < R.length → (R.getD i r0).2.2 = 0) : badR R = none := by
  induction R with
  | nil => rfl
  | cons r R ih =>
    have h0 : r.2.2 = 0 := hno 0 (by simp)
    unfold badR
    rw [if_neg (by omega)]
    exact ih fun i hi => by simpa using hno (i + 1) (by simpa using hi)
noncomputable def orcKn (l : List Fc) (ws : List ByteArray) : Oracle := fun f a => match f, a with
  | 42, [_, e, _] => some (.tup [di (tyE l ws (rdE e)).1, .agg [di (tyE l ws (rdE e)).2.1, di (tyE l ws (rdE e)).2.2]])
  | 76, [_, _, .ptr [.con (.int .i64 v)]] => some (.tup [di v, di 0])
  | 80, [_, e, _] => some (.tup [di (nmK l ws (rdE e).s).1, di (nmK l ws (rdE e).s).2])
  | 81, [_, e, ks] => some (.tup [di (if cmK l ((rdE e).kids.getD 0 ex0).s ((rdE e).kids.getD 1 ex0).s ((rdL ks).getD 0 0) ((rdL ks).getD 1 0) then 1 else 0), di (if cmK l ((rdE e).kids.getD 0 ex0).s ((rdE e).kids.getD 1 ex0).s ((rdL ks).getD 0 0) ((rdL ks).getD 1 0) then 0 else 5)])
  | 78, [_, ks, .ptr [.con (.int .i64 a)], .ptr [.con (.int .i64 b)]] => some (.tup [di (kxA (rdL ks) a b), di (kxE (rdL ks) a)])
  | _, _ => none
abbrev itK : RK := ⟨false, 3, false, none⟩
def rowK (l : List Fc) (ws : List ByteArray) (x : Ex) : Nat → Nat → DV := rowRec (fun _ => DV.con undef) false 1 fun j => [di (tyE l ws (x.kids.getD j ex0)).1]
theorem rowK_next {l : List Fc} {ws : List ByteArray} {x : Ex} (k : Nat) {d : DV} (h : d = di (tyE l ws (x.kids.getD k ex0)).1) : (fun i => bif Nat.blt i k then rowK l ws x k i else elemF false 1 [d] (i - k)) = rowK l ws x (k + 1) := by
  subst h; rfl
theorem tyL_get {l : List Fc} {ws : List ByteArray} {r : List Ex} {i : Nat} (hi : i < r.length) : (tyL l ws r).getD i (0, 0, 0) = tyE l ws (r.getD i ex0) := by
  rw [tyL_map, List.getD, List.getElem?_map, List.getElem?_eq_getElem hi, List.getD, List.getElem?_eq_getElem hi]; rfl
theorem mk_k (k : Int) (s : ByteArray) (n d p : Int) (l : List Ex) : (Ex.mk k s n d p l).k = k := rfl
theorem mk_s (k : Int) (s : ByteArray) (n d p : Int) (l : List Ex) : (Ex.mk k s n d p l).s = s := rfl
theorem mk_n (k : Int) (s : ByteArray) (n d p : Int) (l : List Ex) : (Ex.mk k s n d p l).n = n := rfl
theorem mk_d (k : Int) (s : ByteArray) (n d p : Int) (l : List Ex) : (Ex.mk k s n d p l).d = d := rfl
theorem mk_p (k : Int) (s : ByteArray) (n d p : Int) (l : List Ex) : (Ex.mk k s n d p l).pos = p := rfl
theorem mk_l (k : Int) (s : ByteArray) (n d p : Int) (l : List Ex) : (Ex.mk k s n d p l).kids = l := rfl
noncomputable def S42 (l : List Fc) (ws : List ByteArray) (m : Nat) (x : Ex) (k : Nat) : AS := ⟨regs Tryz.f42.ntmps [(0, .d (wrD l ws)), (2, .d (kdM (wrD l ws))), (4, .box 4 0), (7, .box 7 0), (8, .vec 900 1 0 k), (16, .d (.slc 6 x.kids.length (lay (exG m) x.kids))), (17, vi x.kids.length), (18, vi k)], [(4, exC m x), (7, [vi 0, vi 0]), (900, [.arr itK 1 (rowK l ws x k)])]⟩
theorem f42 (l : List Fc) (ws : List ByteArray) (hl : ∀ v, (fM l v).words.length ≤ 100000) (m : Nat) : ∀ (x : Ex), ht x ≤ m → Sm x → sndE x = true → FnOK Tryz.prog G 42 [wrD l ws, exD m x, kdM (wrD l ws)] (.tup [di (tyE l ws x).1, .agg [di (tyE l ws x).2.1, di (tyE l ws x).2.2]]) := by
  induction m using Nat.strongRecOn with
  | _ m ih =>
  intro x hx hs hsn
  have hlen := hs.len.1
  have h42 : ∀ i, i < x.kids.length → FnOK Tryz.prog G 42 [wrD l ws, kidA m x i, kdM (wrD l ws)] (.tup [di (tyE l ws (x.kids.getD i ex0)).1, .agg [di (tyE l ws (x.kids.getD i ex0)).2.1, di (tyE l ws (x.kids.getD i ex0)).2.2]]) := fun i hi =>
    kidOK (Q := fun d => FnOK Tryz.prog G 42 [wrD l ws, d, kdM (wrD l ws)] _) hx hi fun m' h1 h2 => ih m' h1 _ h2 (hs.kid hi) (snd_kid hsn hi)
  refine FnOK.walk (orc := orcKn l ws) (keep := []) follows Tryz.func42 rfl Tryz.call42 ?_
  refine of_tr (fun ZT ZW ZQ _ => ZW [cd Tryz.f42 [1, 1, 0, 1, 0], (.blk 0), cd Tryz.f42 [1, 1, 1]] (stS ZT []) ZQ) (by kernel_rfl) ?_
  refine AWP.pre (.nilRow _ 8 900 1 itK (rowK l ws x 0) (by kernel_rfl) (by kernel_rfl)) ?_
  refine AWP.loop (c := cAt (bodyOf Tryz.f42) [1, 1, 0, 1, 0, 0]) (by kernel_rfl) (S42 l ws m x) (fun k => k ≤ x.kids.length ∧ ∀ i, i < k → (tyE l ws (x.kids.getD i ex0)).2.2 = 0) (fun k => x.kids.length - k) 0 ?_ ⟨Nat.zero_le _, fun i hi => absurd hi (Nat.not_lt_zero _)⟩ ?_
  · exact AS.leA (by kernel_rfl)
  · rintro k ⟨hk, hkd⟩
    refine walk (orc := orcKn l ws) (keep := []) (cuts := []) (n := 1000) follows ?_
    refine of_eqH6 (tyE l ws (rdE (ndA m (x.kids.getD (↑k : Int).toNat ex0)))) (x.kids.getD (↑k : Int).toNat ex0) ((.ptr [(.mp none (fV l) (fH l)), (.mp none (wV ws) (wL ws))]) : DV) ((.d (.slc 6 x.kids.length (lay (exG m) x.kids))) : AV) (decide ((↑k : Int) < ↑x.kids.length)) ((.d (.mp (some .i64) (kF (wrD l ws)) (hK (kh3 3)))) : AV) (fun Za Zb Zc Zd Ze Zf => (((Ze = true) → (((0 ≤ (↑k : Int)) ∧ ((↑k : Int) < ↑x.kids.length)) ∧ FnOK Tryz.prog G 42 [Zc, (ndA m Zb), (.mp (some .i64) (kF (wrD l ws)) (hK (kh3 3)))] (.tup [(di Za.fst), (.agg [(di Za.snd.fst), (di Za.snd.snd)])]) ∧ (((Za.snd.snd != 0) = true) → (((.tup [(di 0), (.agg [(di Za.snd.fst), (di Za.snd.snd)])]) : DV) = (.tup [(di (tyE l ws x).fst), (.agg [(di (tyE l ws x).snd.fst), (di (tyE l ws x).snd.snd)])]))) ∧ (((Za.snd.snd != 0) = false) → (((((k + 1) * 8 ≤ 1099511627776) ∧ (k + 1 ≤ 1099511627776)) ∧ (∀ (i : Nat), i < 1 → elemOK false 1 (elemF false 1 [DV.con (Value.int IntKind.i64 Za.fst)] i) = true)) ∧ (I64 (↑k + 1)) ∧ Again (S42 l ws m x) (fun k => k ≤ x.kids.length ∧ ∀ (i : Nat), i < k → (tyE l ws (x.kids.getD i ex0)).snd.snd = 0) (fun k => x.kids.length - k) k ⟨regs 53 [(0, (.d Zc)), (2, Zf), (4, (.box 4 0)), (7, (.box 7 0)), (8, (.vec 36 1 0 (k + 1))), (10, (.box 10 0)), (11, (vi Za.fst)), (12, (.box 12 0)), (16, Zd), (17, (vi (↑x.kids.length))), (18, (vi (↑k + 1))), (19, (vb Ze)), (20, (.d (.ptr [(di Zb.k), (ds Zb.s), (di Zb.n), (di Zb.d), (di Zb.pos), (.slc 6 Zb.kids.length (exG m Zb.kids))]))), (21, (.d (ndA m Zb))), (22, (.d (.tup [(di Za.fst), (.agg [(di Za.snd.fst), (di Za.snd.snd)])]))), (23, (.d Zc)), (24, (.d (ndA m Zb))), (25, Zf), (26, (.d (.tup [(di Za.fst), (.agg [(di Za.snd.fst), (di Za.snd.snd)])]))), (27, (vi Za.fst)), (28, (.d (.agg [(di Za.snd.fst), (di Za.snd.snd)]))), (29, (.box 12 1)), (30, (vi Za.snd.snd)), (31, (vb (Za.snd.snd != 0))), (33, (.vec 900 1 0 k)), (34, (vi Za.fst)), (35, (.d (.slc 1 1 (elemF false 1 [(di Za.fst)])))), (36, (.vec 36 1 0 (k + 1))), (37, (vi (↑k + 1)))], [(36, [(.arr ⟨false, 3, false, none⟩ 1 (fun i => bif i.blt k then rowK l ws x k i else elemF false 1 [DV.con (Value.int IntKind.i64 Za.fst)] (i - k)))]), (12, [(vi Za.snd.fst), (vi Za.snd.snd)]), (10, [(vi Zb.k), (vs Zb.s), (vi Zb.n), (vi Zb.d), (vi Zb.pos), (.d (.slc 6 Zb.kids.length (exG m Zb.kids)))]), (4, [(vi x.k), (vs x.s), (vi x.n), (vi x.d), (vi x.pos), Zd]), (7, [(vi 0), (vi 0)]), (900, [.dead])]⟩)))) ∧ ((Ze = false) → AWP Tryz.prog G [cd Tryz.f42 [1, 1, 1]] ⟨regs 53 [(0, (.d Zc)), (2, Zf), (4, (.box 4 0)), (7, (.box 7 0)), (8, (.vec 900 1 0 k)), (16, Zd), (17, (vi (↑x.kids.length))), (18, (vi (↑k))), (19, (vb Ze))], [(4, [(vi x.k), (vs x.s), (vi x.n), (vi x.d), (vi x.pos), Zd]), (7, [(vi 0), (vi 0)]), (900, [(.arr ⟨false, 3, false, none⟩ 1 (rowK l ws x k))])]⟩ (Ret Tryz.prog Tryz.f42 (DV.tup [di (tyE l ws x).fst, DV.agg [di (tyE l ws x).snd.fst, di (tyE l ws x).snd.snd]]))))) (by kernel_rfl) ?_
    simp only [Int.toNat_natCast]
    refine ⟨fun h => ?_, fun h => ?_⟩
    · have hk2 : k < x.kids.length := by have := of_decide_eq_true h; omega
      have er : rdE (kidA m x k) = x.kids.getD k ex0 := kid_rd hx hk2
      have hh := h42 k hk2
      simp only [er]
      refine ⟨⟨by omega, by omega⟩, hh, fun h2 => ?_, fun h2 => ⟨⟨⟨by omega, by omega⟩, fun i hi => (by obtain rfl : i = 0 := (by omega); rfl)⟩, ⟨by omega, by omega⟩, Again.mkR [(36, 900)] rfl (k + 1) ?_ ⟨hk2, fun i hi => ?_⟩ (by omega)⟩⟩
      · have h2 : (tyE l ws (x.kids.getD k ex0)).2.2 ≠ 0 := by simpa using h2
        have hb := bad_hit (R := tyL l ws x.kids) (r0 := (0, 0, 0)) (k := k) (by rw [tyL_map, List.length_map]; exact hk2) (fun i hi => by rw [tyL_get (by omega)]; exact hkd i hi) (by rw [tyL_get hk2]; exact h2)
        rw [tyL_get hk2] at hb
        rw [tyE_eq l ws x]
        unfold tyC
        rw [hb]
      · refine of_eq1 ((.d (.slc 6 x.kids.length (lay (exG m) x.kids))) : AV) (fun Za => ((((.d (.ptr [(.mp none (fV l) (fH l)), (.mp none (wV ws) (wL ws))])) : AV) = (.d (.ptr [(.mp none (fV l) (fH l)), (.mp none (wV ws) (wL ws))])) ∧ ((.d (.mp (some .i64) (kF (wrD l ws)) (hK (kh3 3)))) : AV) = (.d (.mp (some .i64) (kF (wrD l ws)) (hK (kh3 3)))) ∧ ((.box 4 0) : AV) = (.box 4 0) ∧ ((.box 7 0) : AV) = (.box 7 0) ∧ ((.vec 900 1 0 (k + 1)) : AV) = (.vec 900 1 0 (k + 1)) ∧ (Za : AV) = Za ∧ ((vi (↑x.kids.length)) : AV) = (vi (↑x.kids.length)) ∧ ((vi (↑k + 1)) : AV) = (vi (↑(k + 1))) ∧ True) ∧ ((some [(vi x.k), (vs x.s), (vi x.n), (vi x.d), (vi x.pos), Za]) : (Option (List AV))) = (some [(vi x.k), (vs x.s), (vi x.n), (vi x.d), (vi x.pos), Za]) ∧ ((some [(vi 0), (vi 0)]) : (Option (List AV))) = (some [(vi 0), (vi 0)]) ∧ ((some [(.arr ⟨false, 3, false, none⟩ 1 (fun i => bif i.blt k then rowK l ws x k i else elemF false 1 [DV.con (Value.int IntKind.i64 (tyE l ws (x.kids.getD k ex0)).fst)] (i - k)))]) : (Option (List AV))) = (some [(.arr ⟨false, 3, false, none⟩ 1 (rowK l ws x (k + 1)))]) ∧ True)) (by kernel_rfl) ?_
        refine ⟨⟨rfl, rfl, rfl, rfl, rfl, rfl, rfl, rfl, trivial⟩, rfl, rfl, ?_, trivial⟩
        exact congrArg (fun f => some [AV.arr itK 1 f]) (rowK_next k rfl)
      · rcases Nat.lt_or_ge i k with h4 | h4
        · exact hkd i h4
        · obtain rfl : i = k := by omega
          simpa using h2
    · simp only [decide_eq_false_iff_not] at h
      obtain rfl : k = x.kids.length := by omega
      have hb : badR (tyL l ws x.kids) = none := bad_none (r0 := (0, 0, 0)) fun i hi => by
        have hi : i < x.kids.length := by rw [tyL_map, List.length_map] at hi; exact hi
        rw [tyL_get hi]; exact hkd i hi
      have ety : tyE l ws x = ((apK l ws x.k x.s ((tyL l ws x.kids).map (·.1)) (x.kids.getD 0 ex0).s (x.kids.getD 1 ex0).s).1, x.pos, (apK l ws x.k x.s ((tyL l ws x.kids).map (·.1)) (x.kids.getD 0 ex0).s (x.kids.getD 1 ex0).s).2) := by
        rw [tyE_eq l ws x]
        unfold tyC
        rw [hb]
      have hKl : ((tyL l ws x.kids).map (·.1)).length = x.kids.length := by rw [tyL_map, List.length_map, List.length_map]
      have hrow : ∀ i, i < x.kids.length → rowK l ws x x.kids.length (0 + i) = inF ((tyL l ws x.kids).map (·.1)) i := fun i hi => by
        rw [Nat.zero_add]
        unfold rowK inF
        rw [rowRec_get hi, tyL_map, List.map_map]
        show di (tyE l ws (x.kids.getD i ex0)).1 = _
        rw [List.getD, List.getD, List.getElem?_map, List.getElem?_eq_getElem hi]; rfl
      rw [ety]
      refine AWP.freeze (agg := itK) (sz := 1) (f := rowK l ws x x.kids.length) 900 (by kernel_rfl) ?_
      refine AWP.pre (.reg _ 8 (.d (inD ((tyL l ws x.kids).map (·.1)))) fun β h v hv => ?_) ?_
      · have hv : DV.rel h (.slc 1 x.kids.length fun i => rowK l ws x x.kids.length (0 + i)) v := hv
        show DV.rel h (.slc 1 ((tyL l ws x.kids).map (·.1)).length _) v
        rw [hKl]
        exact DV.rel_slc_congr hrow hv
      have hrk := snd_rk hsn
      have hone := @snd_one x hsn
      have htwo := @snd_two x hsn
      have e42 : rdE (exV x.k x.s x.n x.d x.pos x.kids.length (lay (exG m) x.kids)) = x := rdE_eq hx
      clear ety hrow hb hkd h42 ih hk h
      generalize (tyL l ws x.kids).map (·.1) = KS at *
      have hc : x.k = 1 ∨ x.k = 2 ∨ x.k = 3 ∨ x.k = 4 ∨ x.k = 5 ∨ x.k = 6 ∨ x.k = 7 ∨ x.k = 8 ∨ x.k = 9 ∨ x.k = 10 ∨ x.k = 11 ∨ x.k = 12 ∨ x.k = 13 ∨ x.k = 14 ∨ x.k = 15 ∨ x.k = 16 ∨ x.k = 17 ∨ x.k = 18 ∨ x.k = 19 ∨ x.k = 20 := by
        refine Classical.byContradiction fun hn => hrk ?_
        unfold rkI
        repeat' split
        all_goals omega
      clear hrk
      obtain ⟨xk, xs, xn, xd, xp, xl⟩ := x
      simp only [mk_k, mk_l, mk_s, mk_p, mk_n, mk_d] at hone htwo hKl hlen hc e42 ⊢
      rcases hc with rfl | rfl | rfl | rfl | rfl | rfl | rfl | rfl | rfl | rfl | rfl | rfl | rfl | rfl | rfl | rfl | rfl | rfl | rfl | rfl
      · refine walkK (orc := orcKn l ws) (keep := []) (cuts := []) (n := 1000) follows ?_
        refine of_tr (fun _ _ _ ZK => ((((true = false) → ((DV.con Value.nilFunc).imp (kF (wrD l ws) (Value.int IntKind.i64 1)))) ∧ ZK 76 [(.agg [(di 1), (ds xs), (di xn), (di xd), (di xp), (.slc 6 xl.length (lay (exG m) xl))]), (.slc 1 KS.length (inF KS)), (.ptr [(di 0)])] (.tup [(di 0), (di 0)])) ∧ ((.tup [(di 0), (.agg [(di xp), (di 0)])]) : DV) = (.tup [(di (apK l ws 1 xs KS (xl.getD 0 ex0).s (xl.getD 1 ex0).s).fst), (.agg [(di xp), (di (apK l ws 1 xs KS (xl.getD 0 ex0).s (xl.getD 1 ex0).s).snd)])]))) (by kernel_rfl) ?_
        refine ⟨⟨fun h => (by cases h), f76 m (.mk _ xs xn xd xp xl) KS _⟩, ?_⟩
        rfl
      · refine walkK (orc := orcKn l ws) (keep := []) (cuts := []) (n := 1000) follows ?_
        refine of_eqH1 (nmK l ws (rdE (DV.agg [DV.con (Value.int IntKind.i64 2), DV.con (Value.string xs), DV.con (Value.int IntKind.i64 xn), DV.con (Value.int IntKind.i64 xd), DV.con (Value.int IntKind.i64 xp), DV.slc 6 xl.length (lay (exG m) xl)])).s) (fun Za => ((((true = false) → ((DV.con Value.nilFunc).imp (kF (wrD l ws) (Value.int IntKind.i64 2)))) ∧ FnOK Tryz.prog G 80 [(.ptr [(.mp none (fV l) (fH l)), (.mp none (wV ws) (wL ws))]), (.agg [(di 2), (ds xs), (di xn), (di xd), (di xp), (.slc 6 xl.length (lay (exG m) xl))]), (.slc 1 KS.length (inF KS))] (.tup [(di Za.fst), (di Za.snd)])) ∧ ((.tup [(di Za.fst), (.agg [(di xp), (di Za.snd)])]) : DV) = (.tup [(di (apK l ws 2 xs KS (xl.getD 0 ex0).s (xl.getD 1 ex0).s).fst), (.agg [(di xp), (di (apK l ws 2 xs KS (xl.getD 0 ex0).s (xl.getD 1 ex0).s).snd)])]))) (by kernel_rfl) ?_
        simp only [rdL_eq, e42, mk_s]
        refine ⟨⟨fun h => (by cases h), f80 l ws m (.mk _ xs xn xd xp xl) KS⟩, ?_⟩
        rfl
      · refine walkK (orc := orcKn l ws) (keep := []) (cuts := []) (n := 1000) follows ?_
        refine of_tr (fun _ _ _ ZK => ((((true = false) → ((DV.con Value.nilFunc).imp (kF (wrD l ws) (Value.int IntKind.i64 3)))) ∧ ZK 76 [(.agg [(di 3), (ds xs), (di xn), (di xd), (di xp), (.slc 6 xl.length (lay (exG m) xl))]), (.slc 1 KS.length (inF KS)), (.ptr [(di 1)])] (.tup [(di 1), (di 0)])) ∧ ((.tup [(di 1), (.agg [(di xp), (di 0)])]) : DV) = (.tup [(di (apK l ws 3 xs KS (xl.getD 0 ex0).s (xl.getD 1 ex0).s).fst), (.agg [(di xp), (di (apK l ws 3 xs KS (xl.getD 0 ex0).s (xl.getD 1 ex0).s).snd)])]))) (by kernel_rfl) ?_
        refine ⟨⟨fun h => (by cases h), f76 m (.mk _ xs xn xd xp xl) KS _⟩, ?_⟩
        rfl
      · refine walkK (orc := orcKn l ws) (keep := []) (cuts := []) (n := 1000) follows ?_
        refine of_tr (fun _ _ _ ZK => ((((true = false) → ((DV.con Value.nilFunc).imp (kF (wrD l ws) (Value.int IntKind.i64 4)))) ∧ ZK 76 [(.agg [(di 4), (ds xs), (di xn), (di xd), (di xp), (.slc 6 xl.length (lay (exG m) xl))]), (.slc 1 KS.length (inF KS)), (.ptr [(di 1)])] (.tup [(di 1), (di 0)])) ∧ ((.tup [(di 1), (.agg [(di xp), (di 0)])]) : DV) = (.tup [(di (apK l ws 4 xs KS (xl.getD 0 ex0).s (xl.getD 1 ex0).s).fst), (.agg [(di xp), (di (apK l ws 4 xs KS (xl.getD 0 ex0).s (xl.getD 1 ex0).s).snd)])]))) (by kernel_rfl) ?_
        refine ⟨⟨fun h => (by cases h), f76 m (.mk _ xs xn xd xp xl) KS _⟩, ?_⟩
        rfl
      · refine walkK (orc := orcKn l ws) (keep := []) (cuts := []) (n := 1000) follows ?_
        refine of_tr (fun _ _ _ ZK => (fun Za => ((((true = false) → ((DV.con Value.nilFunc).imp (kF (wrD l ws) (Value.int IntKind.i64 5)))) ∧ ZK 78 [(.agg [(di 5), (ds xs), (di xn), (di xd), (di xp), (.slc 6 xl.length (lay (exG m) xl))]), (.slc 1 KS.length (inF KS)), (.ptr [(di 0)]), (.ptr [(di 0)])] (.tup [(di (kxA Za 0 0)), (di (kxE Za 0))])) ∧ ((.tup [(di (kxA Za 0 0)), (.agg [(di xp), (di (kxE Za 0))])]) : DV) = (.tup [(di (apK l ws 5 xs KS (xl.getD 0 ex0).s (xl.getD 1 ex0).s).fst), (.agg [(di xp), (di (apK l ws 5 xs KS (xl.getD 0 ex0).s (xl.getD 1 ex0).s).snd)])]))) (rdL (DV.slc 1 KS.length (inF KS)))) (by kernel_rfl) ?_
        simp only [rdL_eq]
        refine ⟨⟨fun h => (by cases h), f78 m (.mk _ xs xn xd xp xl) KS _ _ (by omega)⟩, ?_⟩
        rfl
      · refine walkK (orc := orcKn l ws) (keep := []) (cuts := []) (n := 1000) follows ?_
        refine of_tr (fun _ _ _ ZK => (fun Za => ((((true = false) → ((DV.con Value.nilFunc).imp (kF (wrD l ws) (Value.int IntKind.i64 6)))) ∧ ZK 78 [(.agg [(di 6), (ds xs), (di xn), (di xd), (di xp), (.slc 6 xl.length (lay (exG m) xl))]), (.slc 1 KS.length (inF KS)), (.ptr [(di 0)]), (.ptr [(di 0)])] (.tup [(di (kxA Za 0 0)), (di (kxE Za 0))])) ∧ ((.tup [(di (kxA Za 0 0)), (.agg [(di xp), (di (kxE Za 0))])]) : DV) = (.tup [(di (apK l ws 6 xs KS (xl.getD 0 ex0).s (xl.getD 1 ex0).s).fst), (.agg [(di xp), (di (apK l ws 6 xs KS (xl.getD 0 ex0).s (xl.getD 1 ex0).s).snd)])]))) (rdL (DV.slc 1 KS.length (inF KS)))) (by kernel_rfl) ?_
        simp only [rdL_eq]
        refine ⟨⟨fun h => (by cases h), f78 m (.mk _ xs xn xd xp xl) KS _ _ (by omega)⟩, ?_⟩
        rfl
      · refine walkK (orc := orcKn l ws) (keep := []) (cuts := []) (n := 1000) follows ?_
        refine of_tr (fun _ _ _ ZK => (fun Za => ((((true = false) → ((DV.con Value.nilFunc).imp (kF (wrD l ws) (Value.int IntKind.i64 7)))) ∧ ZK 78 [(.agg [(di 7), (ds xs), (di xn), (di xd), (di xp), (.slc 6 xl.length (lay (exG m) xl))]), (.slc 1 KS.length (inF KS)), (.ptr [(di 0)]), (.ptr [(di 0)])] (.tup [(di (kxA Za 0 0)), (di (kxE Za 0))])) ∧ ((.tup [(di (kxA Za 0 0)), (.agg [(di xp), (di (kxE Za 0))])]) : DV) = (.tup [(di (apK l ws 7 xs KS (xl.getD 0 ex0).s (xl.getD 1 ex0).s).fst), (.agg [(di xp), (di (apK l ws 7 xs KS (xl.getD 0 ex0).s (xl.getD 1 ex0).s).snd)])]))) (rdL (DV.slc 1 KS.length (inF KS)))) (by kernel_rfl) ?_
        simp only [rdL_eq]
        refine ⟨⟨fun h => (by cases h), f78 m (.mk _ xs xn xd xp xl) KS _ _ (by omega)⟩, ?_⟩
        rfl
      · refine walkK (orc := orcKn l ws) (keep := []) (cuts := []) (n := 1000) follows ?_
        refine of_tr (fun _ _ _ ZK => (fun Za => ((((true = false) → ((DV.con Value.nilFunc).imp (kF (wrD l ws) (Value.int IntKind.i64 8)))) ∧ ZK 78 [(.agg [(di 8), (ds xs), (di xn), (di xd), (di xp), (.slc 6 xl.length (lay (exG m) xl))]), (.slc 1 KS.length (inF KS)), (.ptr [(di 0)]), (.ptr [(di 0)])] (.tup [(di (kxA Za 0 0)), (di (kxE Za 0))])) ∧ ((.tup [(di (kxA Za 0 0)), (.agg [(di xp), (di (kxE Za 0))])]) : DV) = (.tup [(di (apK l ws 8 xs KS (xl.getD 0 ex0).s (xl.getD 1 ex0).s).fst), (.agg [(di xp), (di (apK l ws 8 xs KS (xl.getD 0 ex0).s (xl.getD 1 ex0).s).snd)])]))) (rdL (DV.slc 1 KS.length (inF KS)))) (by kernel_rfl) ?_
        simp only [rdL_eq]
        refine ⟨⟨fun h => (by cases h), f78 m (.mk _ xs xn xd xp xl) KS _ _ (by omega)⟩, ?_⟩
        rfl
      · refine walkK (orc := orcKn l ws) (keep := []) (cuts := []) (n := 1000) follows ?_
        refine of_tr (fun _ _ _ ZK => (fun Za => ((((true = false) → ((DV.con Value.nilFunc).imp (kF (wrD l ws) (Value.int IntKind.i64 9)))) ∧ ZK 78 [(.agg [(di 9), (ds xs), (di xn), (di xd), (di xp), (.slc 6 xl.length (lay (exG m) xl))]), (.slc 1 KS.length (inF KS)), (.ptr [(di 0)]), (.ptr [(di 0)])] (.tup [(di (kxA Za 0 0)), (di (kxE Za 0))])) ∧ ((.tup [(di (kxA Za 0 0)), (.agg [(di xp), (di (kxE Za 0))])]) : DV) = (.tup [(di (apK l ws 9 xs KS (xl.getD 0 ex0).s (xl.getD 1 ex0).s).fst), (.agg [(di xp), (di (apK l ws 9 xs KS (xl.getD 0 ex0).s (xl.getD 1 ex0).s).snd)])]))) (rdL (DV.slc 1 KS.length (inF KS)))) (by kernel_rfl) ?_
        simp only [rdL_eq]
        refine ⟨⟨fun h => (by cases h), f78 m (.mk _ xs xn xd xp xl) KS _ _ (by omega)⟩, ?_⟩
        rfl
      · refine walkK (orc := orcKn l ws) (keep := []) (cuts := []) (n := 1000) follows ?_
        refine of_tr (fun _ _ _ ZK => (fun Za => ((((true = false) → ((DV.con Value.nilFunc).imp (kF (wrD l ws) (Value.int IntKind.i64 10)))) ∧ ZK 78 [(.agg [(di 10), (ds xs), (di xn), (di xd), (di xp), (.slc 6 xl.length (lay (exG m) xl))]), (.slc 1 KS.length (inF KS)), (.ptr [(di 0)]), (.ptr [(di 0)])] (.tup [(di (kxA Za 0 0)), (di (kxE Za 0))])) ∧ ((.tup [(di (kxA Za 0 0)), (.agg [(di xp), (di (kxE Za 0))])]) : DV) = (.tup [(di (apK l ws 10 xs KS (xl.getD 0 ex0).s (xl.getD 1 ex0).s).fst), (.agg [(di xp), (di (apK l ws 10 xs KS (xl.getD 0 ex0).s (xl.getD 1 ex0).s).snd)])]))) (rdL (DV.slc 1 KS.length (inF KS)))) (by kernel_rfl) ?_
        simp only [rdL_eq]
        refine ⟨⟨fun h => (by cases h), f78 m (.mk _ xs xn xd xp xl) KS _ _ (by omega)⟩, ?_⟩
        rfl
      · refine walkK (orc := orcKn l ws) (keep := []) (cuts := []) (n := 1000) follows ?_
        refine of_tr (fun _ _ _ ZK => (fun Za => ((((true = false) → ((DV.con Value.nilFunc).imp (kF (wrD l ws) (Value.int IntKind.i64 11)))) ∧ ZK 78 [(.agg [(di 11), (ds xs), (di xn), (di xd), (di xp), (.slc 6 xl.length (lay (exG m) xl))]), (.slc 1 KS.length (inF KS)), (.ptr [(di 0)]), (.ptr [(di 0)])] (.tup [(di (kxA Za 0 0)), (di (kxE Za 0))])) ∧ ((.tup [(di (kxA Za 0 0)), (.agg [(di xp), (di (kxE Za 0))])]) : DV) = (.tup [(di (apK l ws 11 xs KS (xl.getD 0 ex0).s (xl.getD 1 ex0).s).fst), (.agg [(di xp), (di (apK l ws 11 xs KS (xl.getD 0 ex0).s (xl.getD 1 ex0).s).snd)])]))) (rdL (DV.slc 1 KS.length (inF KS)))) (by kernel_rfl) ?_
        simp only [rdL_eq]
        refine ⟨⟨fun h => (by cases h), f78 m (.mk _ xs xn xd xp xl) KS _ _ (by omega)⟩, ?_⟩
        rfl
      · refine walkK (orc := orcKn l ws) (keep := []) (cuts := []) (n := 1000) follows ?_
        refine of_eqH2 (rdE (DV.agg [DV.con (Value.int IntKind.i64 12), DV.con (Value.string xs), DV.con (Value.int IntKind.i64 xn), DV.con (Value.int IntKind.i64 xd), DV.con (Value.int IntKind.i64 xp), DV.slc 6 xl.length (lay (exG m) xl)])) (rdL (DV.slc 1 KS.length (inF KS))) (fun Za Zb => ((((true = false) → ((DV.con Value.nilFunc).imp (kF (wrD l ws) (Value.int IntKind.i64 12)))) ∧ FnOK Tryz.prog G 81 [(.ptr [(.mp none (fV l) (fH l)), (.mp none (wV ws) (wL ws))]), (.agg [(di 12), (ds xs), (di xn), (di xd), (di xp), (.slc 6 xl.length (lay (exG m) xl))]), (.slc 1 KS.length (inF KS))] (.tup [(di (if cmK l (Za.kids.getD 0 ex0).s (Za.kids.getD 1 ex0).s (Zb.getD 0 0) (Zb.getD 1 0) = true then 1 else 0)), (di (if cmK l (Za.kids.getD 0 ex0).s (Za.kids.getD 1 ex0).s (Zb.getD 0 0) (Zb.getD 1 0) = true then 0 else 5))])) ∧ ((.tup [(di (if cmK l (Za.kids.getD 0 ex0).s (Za.kids.getD 1 ex0).s (Zb.getD 0 0) (Zb.getD 1 0) = true then 1 else 0)), (.agg [(di xp), (di (if cmK l (Za.kids.getD 0 ex0).s (Za.kids.getD 1 ex0).s (Zb.getD 0 0) (Zb.getD 1 0) = true then 0 else 5))])]) : DV) = (.tup [(di (apK l ws 12 xs KS (xl.getD 0 ex0).s (xl.getD 1 ex0).s).fst), (.agg [(di xp), (di (apK l ws 12 xs KS (xl.getD 0 ex0).s (xl.getD 1 ex0).s).snd)])]))) (by kernel_rfl) ?_
        simp only [rdL_eq, e42, mk_s, mk_l]
        have h2 := (htwo (by decide)).1
        refine ⟨⟨fun h => (by cases h), f81 l ws m (.mk _ xs xn xd xp xl) KS hx (by omega) (by rw [mk_l]; omega) hl⟩, ?_⟩
        rfl
      · refine walkK (orc := orcKn l ws) (keep := []) (cuts := []) (n := 1000) follows ?_
        refine of_eqH2 (rdE (DV.agg [DV.con (Value.int IntKind.i64 13), DV.con (Value.string xs), DV.con (Value.int IntKind.i64 xn), DV.con (Value.int IntKind.i64 xd), DV.con (Value.int IntKind.i64 xp), DV.slc 6 xl.length (lay (exG m) xl)])) (rdL (DV.slc 1 KS.length (inF KS))) (fun Za Zb => ((((true = false) → ((DV.con Value.nilFunc).imp (kF (wrD l ws) (Value.int IntKind.i64 13)))) ∧ FnOK Tryz.prog G 81 [(.ptr [(.mp none (fV l) (fH l)), (.mp none (wV ws) (wL ws))]), (.agg [(di 13), (ds xs), (di xn), (di xd), (di xp), (.slc 6 xl.length (lay (exG m) xl))]), (.slc 1 KS.length (inF KS))] (.tup [(di (if cmK l (Za.kids.getD 0 ex0).s (Za.kids.getD 1 ex0).s (Zb.getD 0 0) (Zb.getD 1 0) = true then 1 else 0)), (di (if cmK l (Za.kids.getD 0 ex0).s (Za.kids.getD 1 ex0).s (Zb.getD 0 0) (Zb.getD 1 0) = true then 0 else 5))])) ∧ ((.tup [(di (if cmK l (Za.kids.getD 0 ex0).s (Za.kids.getD 1 ex0).s (Zb.getD 0 0) (Zb.getD 1 0) = true then 1 else 0)), (.agg [(di xp), (di (if cmK l (Za.kids.getD 0 ex0).s (Za.kids.getD 1 ex0).s (Zb.getD 0 0) (Zb.getD 1 0) = true then 0 else 5))])]) : DV) = (.tup [(di (apK l ws 13 xs KS (xl.getD 0 ex0).s (xl.getD 1 ex0).s).fst), (.agg [(di xp), (di (apK l ws 13 xs KS (xl.getD 0 ex0).s (xl.getD 1 ex0).s).snd)])]))) (by kernel_rfl) ?_
        simp only [rdL_eq, e42, mk_s, mk_l]
        have h2 := (htwo (by decide)).1
        refine ⟨⟨fun h => (by cases h), f81 l ws m (.mk _ xs xn xd xp xl) KS hx (by omega) (by rw [mk_l]; omega) hl⟩, ?_⟩
        rfl
      · refine walkK (orc := orcKn l ws) (keep := []) (cuts := []) (n := 1000) follows ?_
        refine of_tr (fun _ _ _ ZK => (fun Za => ((((true = false) → ((DV.con Value.nilFunc).imp (kF (wrD l ws) (Value.int IntKind.i64 14)))) ∧ ZK 78 [(.agg [(di 14), (ds xs), (di xn), (di xd), (di xp), (.slc 6 xl.length (lay (exG m) xl))]), (.slc 1 KS.length (inF KS)), (.ptr [(di 0)]), (.ptr [(di 1)])] (.tup [(di (kxA Za 0 1)), (di (kxE Za 0))])) ∧ ((.tup [(di (kxA Za 0 1)), (.agg [(di xp), (di (kxE Za 0))])]) : DV) = (.tup [(di (apK l ws 14 xs KS (xl.getD 0 ex0).s (xl.getD 1 ex0).s).fst), (.agg [(di xp), (di (apK l ws 14 xs KS (xl.getD 0 ex0).s (xl.getD 1 ex0).s).snd)])]))) (rdL (DV.slc 1 KS.length (inF KS)))) (by kernel_rfl) ?_
        simp only [rdL_eq]
        refine ⟨⟨fun h => (by cases h), f78 m (.mk _ xs xn xd xp xl) KS _ _ (by omega)⟩, ?_⟩
        rfl
      · refine walkK (orc := orcKn l ws) (keep := []) (cuts := []) (n := 1000) follows ?_
        refine of_tr (fun _ _ _ ZK => (fun Za => ((((true = false) → ((DV.con Value.nilFunc).imp (kF (wrD l ws) (Value.int IntKind.i64 15)))) ∧ ZK 78 [(.agg [(di 15), (ds xs), (di xn), (di xd), (di xp), (.slc 6 xl.length (lay (exG m) xl))]), (.slc 1 KS.length (inF KS)), (.ptr [(di 0)]), (.ptr [(di 1)])] (.tup [(di (kxA Za 0 1)), (di (kxE Za 0))])) ∧ ((.tup [(di (kxA Za 0 1)), (.agg [(di xp), (di (kxE Za 0))])]) : DV) = (.tup [(di (apK l ws 15 xs KS (xl.getD 0 ex0).s (xl.getD 1 ex0).s).fst), (.agg [(di xp), (di (apK l ws 15 xs KS (xl.getD 0 ex0).s (xl.getD 1 ex0).s).snd)])]))) (rdL (DV.slc 1 KS.length (inF KS)))) (by kernel_rfl) ?_
        simp only [rdL_eq]
        refine ⟨⟨fun h => (by cases h), f78 m (.mk _ xs xn xd xp xl) KS _ _ (by omega)⟩, ?_⟩
        rfl
      · refine walkK (orc := orcKn l ws) (keep := []) (cuts := []) (n := 1000) follows ?_
        refine of_tr (fun _ _ _ ZK => (fun Za => ((((true = false) → ((DV.con Value.nilFunc).imp (kF (wrD l ws) (Value.int IntKind.i64 16)))) ∧ ZK 78 [(.agg [(di 16), (ds xs), (di xn), (di xd), (di xp), (.slc 6 xl.length (lay (exG m) xl))]), (.slc 1 KS.length (inF KS)), (.ptr [(di 0)]), (.ptr [(di 1)])] (.tup [(di (kxA Za 0 1)), (di (kxE Za 0))])) ∧ ((.tup [(di (kxA Za 0 1)), (.agg [(di xp), (di (kxE Za 0))])]) : DV) = (.tup [(di (apK l ws 16 xs KS (xl.getD 0 ex0).s (xl.getD 1 ex0).s).fst), (.agg [(di xp), (di (apK l ws 16 xs KS (xl.getD 0 ex0).s (xl.getD 1 ex0).s).snd)])]))) (rdL (DV.slc 1 KS.length (inF KS)))) (by kernel_rfl) ?_
        simp only [rdL_eq]
        refine ⟨⟨fun h => (by cases h), f78 m (.mk _ xs xn xd xp xl) KS _ _ (by omega)⟩, ?_⟩
        rfl
      · refine walkK (orc := orcKn l ws) (keep := []) (cuts := []) (n := 1000) follows ?_
        refine of_tr (fun _ _ _ ZK => (fun Za => ((((true = false) → ((DV.con Value.nilFunc).imp (kF (wrD l ws) (Value.int IntKind.i64 17)))) ∧ ZK 78 [(.agg [(di 17), (ds xs), (di xn), (di xd), (di xp), (.slc 6 xl.length (lay (exG m) xl))]), (.slc 1 KS.length (inF KS)), (.ptr [(di 0)]), (.ptr [(di 1)])] (.tup [(di (kxA Za 0 1)), (di (kxE Za 0))])) ∧ ((.tup [(di (kxA Za 0 1)), (.agg [(di xp), (di (kxE Za 0))])]) : DV) = (.tup [(di (apK l ws 17 xs KS (xl.getD 0 ex0).s (xl.getD 1 ex0).s).fst), (.agg [(di xp), (di (apK l ws 17 xs KS (xl.getD 0 ex0).s (xl.getD 1 ex0).s).snd)])]))) (rdL (DV.slc 1 KS.length (inF KS)))) (by kernel_rfl) ?_
        simp only [rdL_eq]
        refine ⟨⟨fun h => (by cases h), f78 m (.mk _ xs xn xd xp xl) KS _ _ (by omega)⟩, ?_⟩
        rfl
      · refine walkK (orc := orcKn l ws) (keep := []) (cuts := []) (n := 1000) follows ?_
        refine of_tr (fun _ _ _ ZK => (fun Za => ((((true = false) → ((DV.con Value.nilFunc).imp (kF (wrD l ws) (Value.int IntKind.i64 18)))) ∧ ZK 78 [(.agg [(di 18), (ds xs), (di xn), (di xd), (di xp), (.slc 6 xl.length (lay (exG m) xl))]), (.slc 1 KS.length (inF KS)), (.ptr [(di 1)]), (.ptr [(di 1)])] (.tup [(di (kxA Za 1 1)), (di (kxE Za 1))])) ∧ ((.tup [(di (kxA Za 1 1)), (.agg [(di xp), (di (kxE Za 1))])]) : DV) = (.tup [(di (apK l ws 18 xs KS (xl.getD 0 ex0).s (xl.getD 1 ex0).s).fst), (.agg [(di xp), (di (apK l ws 18 xs KS (xl.getD 0 ex0).s (xl.getD 1 ex0).s).snd)])]))) (rdL (DV.slc 1 KS.length (inF KS)))) (by kernel_rfl) ?_
        simp only [rdL_eq]
        refine ⟨⟨fun h => (by cases h), f78 m (.mk _ xs xn xd xp xl) KS _ _ (by omega)⟩, ?_⟩
        rfl
      · refine walkK (orc := orcKn l ws) (keep := []) (cuts := []) (n := 1000) follows ?_
        refine of_tr (fun _ _ _ ZK => (fun Za => ((((true = false) → ((DV.con Value.nilFunc).imp (kF (wrD l ws) (Value.int IntKind.i64 19)))) ∧ ZK 78 [(.agg [(di 19), (ds xs), (di xn), (di xd), (di xp), (.slc 6 xl.length (lay (exG m) xl))]), (.slc 1 KS.length (inF KS)), (.ptr [(di 1)]), (.ptr [(di 1)])] (.tup [(di (kxA Za 1 1)), (di (kxE Za 1))])) ∧ ((.tup [(di (kxA Za 1 1)), (.agg [(di xp), (di (kxE Za 1))])]) : DV) = (.tup [(di (apK l ws 19 xs KS (xl.getD 0 ex0).s (xl.getD 1 ex0).s).fst), (.agg [(di xp), (di (apK l ws 19 xs KS (xl.getD 0 ex0).s (xl.getD 1 ex0).s).snd)])]))) (rdL (DV.slc 1 KS.length (inF KS)))) (by kernel_rfl) ?_
        simp only [rdL_eq]
        refine ⟨⟨fun h => (by cases h), f78 m (.mk _ xs xn xd xp xl) KS _ _ (by omega)⟩, ?_⟩
        rfl
      · refine walkK (orc := orcKn l ws) (keep := []) (cuts := []) (n := 1000) follows ?_
        refine of_tr (fun _ _ _ ZK => (fun Za => ((((true = false) → ((DV.con Value.nilFunc).imp (kF (wrD l ws) (Value.int IntKind.i64 20)))) ∧ ZK 78 [(.agg [(di 20), (ds xs), (di xn), (di xd), (di xp), (.slc 6 xl.length (lay (exG m) xl))]), (.slc 1 KS.length (inF KS)), (.ptr [(di 1)]), (.ptr [(di 1)])] (.tup [(di (kxA Za 1 1)), (di (kxE Za 1))])) ∧ ((.tup [(di (kxA Za 1 1)), (.agg [(di xp), (di (kxE Za 1))])]) : DV) = (.tup [(di (apK l ws 20 xs KS (xl.getD 0 ex0).s (xl.getD 1 ex0).s).fst), (.agg [(di xp), (di (apK l ws 20 xs KS (xl.getD 0 ex0).s (xl.getD 1 ex0).s).snd)])]))) (rdL (DV.slc 1 KS.length (inF KS)))) (by kernel_rfl) ?_
        simp only [rdL_eq]
        refine ⟨⟨fun h => (by cases h), f78 m (.mk _ xs xn xd xp xl) KS _ _ (by omega)⟩, ?_⟩
        rfl
end Go.Proofs
