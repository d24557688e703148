import Derived.Test.YtldfegcegedkjaaGreatDoorAcC
import Derived.Test.YtldfegcegedkjaaGreatDoorMC
set_option autoImplicit false
namespace Go.Proofs
open Go Go.Ab Go.RowKit
set_option maxHeartbeats 2000000
set_option maxRecDepth 100000
variable {G : IH}
def t0 : T := ⟨[], 0, 1, false⟩
/-- All lines are valid, and they are not too many. -/
def badL (L : List Ln) : Bool := decide ((L.length : Int) > 32) || L.any fun x => !rightB x
def orcKd (L : List Ln) : Oracle := fun f a => match f, a with
  | 31, [_, _] => some (db (L.any fun x => !rightB x))
  | _, _ => none
def arr0 (m c b1 b2 : Nat) : AV := .agg [vi 0, .clo (.func 66) [.box m 0] [], vi 1, .clo (.func 60) [] [.box c 0], vi 3, .clo (.func 64) [] [.box c 0, .box b1 0], vi 2, .clo (.func 64) [] [.box c 0, .box b2 0]]
def orcKm (L : List Ln) (t : T) (f : FuncId) (a : List AV) (pre : List (Nat × List AV)) : Option (AV × List (Nat × List AV)) := match f, a with
  | 34, [_] => some (arr0 1000000 1 10002 19002, [(1000000, mB L t 1000001), (1000001, mR t), (1, [bn]), (10002, [.d (fnV 65)]), (19002, [.d (fnV 44)])])
  | 66, [_, .d (.con (.int .i64 i))] => some (.d unitV, [(1000000, mB L (pointsT L i.toNat t) 900), (900, mR (pointsT L i.toNat t))])
  | 60, [.d (.con (.int .i64 i)), _] => some (.d unitV, [(1000000, [.box 1000001 0]), (1000001, mB L (penT L i.toNat t) 900), (900, mR (penT L i.toNat t))])
  | 64, [.d (.con (.int .i64 i)), _, _] => match pre with
    | [_, (_, [.d (.con (.func (.func 65) _ _))]), _, _] => some (.d unitV, [(1000000, [.box 1000002 0]), (1000001, [.d (fnV 65)]), (1000002, mB L (floorT L i.toNat t) 900), (900, mR (floorT L i.toNat t))])
    | _ => some (.d unitV, [(1000000, [.box 1000002 0]), (1000001, [.d (fnV 44)]), (1000002, mB L (capT L i.toNat t) 900), (900, mR (capT L i.toNat t))])
  | _, _ => none
def ro6 (f : FuncId) : Bool := match f with
  | 34 => true
  | _ => false
def orcK (L : List Ln) (t : T) : Orc := { d := orcKd L, m := orcKm L t, ro := ro6, gl := glZ }
abbrev arr : AV := arr0 21 24001 34002 43002
abbrev bx (L : List Ln) (t : T) : List (Nat × List AV) := [(2, [.d (.con (.slice none 0 0)), vi 0, vi 0, vi 0]), (21, mB L t 900), (900, mR t), (24001, [.box 21 0]), (34002, [.d (fnV 65)]), (43002, [.d (fnV 44)])]
noncomputable def S12 (L : List Ln) (k : Nat) (t : T) : AS := ⟨regs Tryz.f12.ntmps [(0, .d (lnsD L)), (2, .box 2 0), (4, .box 21 0), (23, arr), (24, vi k)], bx L t⟩
def kd (k : Nat) : Int := match k with | 0 => 0 | 1 => 1 | 2 => 3 | _ => 2
def tk (L : List Ln) : Nat → T
  | 0 => t0
  | k + 1 => phase L (kd k) L.length (tk L k)
noncomputable def S12i (L : List Ln) (k : Nat) (kk : Int) (clo : AV) (i : Nat) (t : T) : AS := ⟨regs Tryz.f12.ntmps [(0, .d (lnsD L)), (2, .box 2 0), (4, .box 21 0), (6, .box 6 0), (23, arr), (24, vi k), (27, .d (lnsD L)), (28, vi L.length), (29, vi i)], (6, [vi kk, clo]) :: bx L t⟩
theorem step_len (L : List Ln) (k : Int) (i : Nat) (t : T) : (stepT L k i t).ps.length ≤ t.ps.length + 1 := by
  have hb : ∀ (nm : ByteArray) (a b e : Int), (become t nm a b e).ps.length ≤ t.ps.length + 1 := by
    intro nm a b e
    unfold become
    split
    · simp
    · simp
  unfold stepT pointsT penT floorT capT addT
  repeat' split
  all_goals first | exact hb _ _ _ _ | omega
theorem phase_len (L : List Ln) (k : Int) (t : T) : ∀ i : Nat, (phase L k i t).ps.length ≤ t.ps.length + i
  | 0 => Nat.le_refl _
  | i + 1 => by
    have h1 := phase_len L k t i
    have h2 := step_len L k i (phase L k i t)
    rw [phase]
    split <;> omega
theorem tk_len (L : List Ln) : ∀ k : Nat, (tk L k).ps.length ≤ k * L.length
  | 0 => by simp [tk, t0]
  | k + 1 => by
    have h1 := tk_len L k
    have h2 := phase_len L (kd k) (tk L k) L.length
    rw [tk, Nat.add_mul, Nat.one_mul]; omega
theorem phase_on {L : List Ln} {k : Int} {i : Nat} {t : T} (h1 : (L.getD i ln0).app = true) (h2 : (L.getD i ln0).kind = k) : phase L k (i + 1) t = stepT L k i (phase L k i t) := by rw [phase, if_pos ⟨h1, h2⟩]
theorem phase_off {L : List Ln} {k : Int} {i : Nat} {t : T} (h : ¬ ((L.getD i ln0).app = true ∧ (L.getD i ln0).kind = k)) : phase L k (i + 1) t = phase L k i t := by rw [phase, if_neg h]
def nilC : DV := .agg [.con (.slice none 0 0), di 0, di 0, di 0]
def crR (t : T) : DV := .agg [.slc 3 t.ps.length (ptR t.ps), di t.p, di t.q, di (hunF t.p t.q)]
def orcZm (L : List Ln) (t : T) (b : Bool) (f : FuncId) (a : List AV) (pre : List (Nat × List AV)) : Option (AV × List (Nat × List AV)) := match f, b with
  | 35, true => some (.d (.tup [nilC, di 2]), [(1000000, mB L t 1000001), (1000001, mR t)])
  | 35, false => some (.tup [.agg [.vec 1000001 3 0 t.ps.length, vi t.p, vi t.q, vi (hunF t.p t.q)], vi 0], [(1000000, mBh L t 1000001 (hunF t.p t.q)), (1000001, mR t)])
  | _, _ => none
def orcZ (L : List Ln) (t : T) (b : Bool) : Orc := { d := fun _ _ => none, m := orcZm L t b }
theorem f12 (hZ : Glob G 0 zeroL) (L : List Ln) (hS : Short L) (hL : L.length ≤ 100000) (r : DV) (hr1 : badL L = true → r = .tup [nilC, di 1]) (hr2 : badL L = false → badT (combT L) = true → r = .tup [nilC, di 2]) (hr3 : badL L = false → badT (combT L) = false → r = .tup [crR (combT L), di 0]) : FnOK Tryz.prog G 12 [lnsD L] r := by
  refine FnOK.of_body (show Tryz.prog.funcs[12]? = some Tryz.f12 from Tryz.func12) rfl Tryz.call12 ?_
  refine walk (orc := orcK L t0) (keep := []) (cuts := [4]) (n := 1000) follows ?_
  refine of_eqH (b :=
    ((((!decide ((↑(List.length L) : Int) > (32 : Int))) = true) →
    FnOK Tryz.prog G 31 [(.slc 7 (List.length L) (lnsF L)), (.con (.func (.func 32) ⟨[]⟩ ⟨[]⟩))] (db (List.any L fun x => !rightB x))) ∧
    ((((decide ((↑(List.length L) : Int) > (32 : Int)) || List.any L fun x => !rightB x) = true) →
    (((.tup [(.agg [(.con (.slice none 0 0)), (di 0), (di 0), (di 0)]), (di 1)]) : DV) = r)) ∧
    (((decide ((↑(List.length L) : Int) > (32 : Int)) || List.any L fun x => !rightB x) = false) →
    ((∃ vs, (∃ v vs', vs = v :: vs' ∧ v = Value.int IntKind.i64 (0 : Int) ∧ ∃ v vs'_1, vs' = v :: vs'_1 ∧ v = Value.int IntKind.i64 (1 : Int) ∧ vs'_1 = []) ∧ ∀ (i : Nat), i < List.length vs → IH.cell G (0 : Nat) i = vs[i]?) ∧
    AWP Tryz.prog G [.code (cAt (bodyOf Tryz.f12) [1, 1, 1, 0]), .code (cAt (bodyOf Tryz.f12) [1, 1, 1, 1])] ⟨regs 53 [(0, (.d (.slc 7 (List.length L) (lnsF L)))), (2, (.box 2 0)), (3, (vi 0)), (4, (.box 21 0)), (9, (.d (.slc 7 (List.length L) (lnsF L)))), (10, (vi ((↑(List.length L) : Int)))), (11, (vb (decide ((↑(List.length L) : Int) > (32 : Int))))), (12, (vb (decide ((↑(List.length L) : Int) > (32 : Int))))), (15, (vb (decide ((↑(List.length L) : Int) > (32 : Int)) || List.any L fun x => !rightB x))), (17, (.d (.slc 7 (List.length L) (lnsF L)))), (18, (.d (.agg [(di 0), (di 1)]))), (19, (.d (.agg [(.con (.slice none 0 0)), (di 0), (di 1), (di 0)]))), (20, (.d (.agg [(.slc 7 (List.length L) (lnsF L)), (.con (.slice none 0 0)), (di 0), (di 1), (di 0), (db false)]))), (21, (.box 21 0))], [(21, [(.d (.slc 7 (List.length L) (lnsF L))), (.d (.con (.slice none 0 0))), (vi 0), (vi 1), (vi 0), (vb false)]), (2, [(.d (.con (.slice none 0 0))), (vi 0), (vi 0), (vi 0)])]⟩ (Ret Tryz.prog Tryz.f12 r)))))) (by kernel_rfl) ?_
  refine ⟨fun _ => f31 L hS (by omega), fun h => (hr1 h).symm, fun h => ⟨hZ, ?_⟩⟩
  · have hgood : badL L = false := h
    refine AWP.pre (.nilCell _ 21 1 900 3 ptK (ptR []) (by kernel_rfl) (by kernel_rfl)) ?_
    refine walk (orc := orcK L t0) (keep := []) (cuts := []) (n := 1000) follows ?_
    refine of_eqH (b :=
      ((FnM Tryz.prog G 34 [(.box 1000000 0)] [(1000000, [(.d (.slc 7 (List.length L) (lnsF L))), (.vec 1000001 3 0 0), (vi 0), (vi 1), (vi 0), (vb false)]), (1000001, [(.arr ⟨true, 50, false, none⟩ 3 (ptR []))])] (.agg [(vi 0), (.clo (.func 66) [(.box 1000000 0)] []), (vi 1), (.clo (.func 60) [] [(.box 1 0)]), (vi 3), (.clo (.func 64) [] [(.box 1 0), (.box 10002 0)]), (vi 2), (.clo (.func 64) [] [(.box 1 0), (.box 19002 0)])]) [(1000000, [(.d (.slc 7 (List.length L) (lnsF L))), (.vec 1000001 3 0 0), (vi 0), (vi 1), (vi 0), (vb false)]), (1000001, [(.arr ⟨true, 50, false, none⟩ 3 (ptR []))]), (1, [(.box 1000000 0)]), (10002, [(.d (.con (.func (.func 65) ⟨[]⟩ ⟨[]⟩)))]), (19002, [(.d (.con (.func (.func 44) ⟨[]⟩ ⟨[]⟩)))])] ∧
      ((([(.d (.slc 7 (List.length L) (lnsF L))), (.vec 900 3 0 0), (vi 0), (vi 1), (vi 0), (vb false)] : (List AV)) = [(.d (.slc 7 (List.length L) (lnsF L))), (.vec 900 3 0 0), (vi 0), (vi 1), (vi 0), (vb false)]) ∧
      (([(.arr ⟨true, 50, false, none⟩ 3 (ptR []))] : (List AV)) = [(.arr ⟨true, 50, false, none⟩ 3 (ptR []))]))) ∧
      AWP Tryz.prog G [.code (cAt (bodyOf Tryz.f12) [1, 1, 1, 0, 1, 0]), (.blk 0), .code (cAt (bodyOf Tryz.f12) [1, 1, 1, 1])] ⟨regs 53 [(0, (.d (.slc 7 (List.length L) (lnsF L)))), (2, (.box 2 0)), (3, (vi 0)), (4, (.box 21 0)), (9, (.d (.slc 7 (List.length L) (lnsF L)))), (10, (vi ((↑(List.length L) : Int)))), (11, (vb (decide ((↑(List.length L) : Int) > (32 : Int))))), (12, (vb (decide ((↑(List.length L) : Int) > (32 : Int))))), (15, (vb (decide ((↑(List.length L) : Int) > (32 : Int)) || List.any L fun x => !rightB x))), (17, (.d (.slc 7 (List.length L) (lnsF L)))), (18, (.d (.agg [(di 0), (di 1)]))), (19, (.d (.agg [(.con (.slice none 0 0)), (di 0), (di 1), (di 0)]))), (20, (.d (.agg [(.slc 7 (List.length L) (lnsF L)), (.con (.slice none 0 0)), (di 0), (di 1), (di 0), (db false)]))), (21, (.box 21 0)), (22, (.box 21 0)), (23, (.agg [(vi 0), (.clo (.func 66) [(.box 21 0)] []), (vi 1), (.clo (.func 60) [] [(.box 24001 0)]), (vi 3), (.clo (.func 64) [] [(.box 24001 0), (.box 34002 0)]), (vi 2), (.clo (.func 64) [] [(.box 24001 0), (.box 43002 0)])])), (24, (vi 0))], [(24001, [(.box 21 0)]), (34002, [(.d (.con (.func (.func 65) ⟨[]⟩ ⟨[]⟩)))]), (43002, [(.d (.con (.func (.func 44) ⟨[]⟩ ⟨[]⟩)))]), (900, [(.arr ⟨true, 50, false, none⟩ 3 (ptR []))]), (21, [(.d (.slc 7 (List.length L) (lnsF L))), (.vec 900 3 0 0), (vi 0), (vi 1), (vi 0), (vb false)]), (2, [(.d (.con (.slice none 0 0))), (vi 0), (vi 0), (vi 0)])]⟩ (Ret Tryz.prog Tryz.f12 r))) (by kernel_rfl) ?_
    refine ⟨⟨f34 L t0, rfl, rfl⟩, ?_⟩
    refine AWP.loop (c := cAt (bodyOf Tryz.f12) [1, 1, 1, 0, 1, 0, 0]) (by kernel_rfl) (fun x : Nat × T => S12 L x.1 x.2) (fun x => x.1 ≤ 4 ∧ x.2 = tk L x.1) (fun x => 4 - x.1) (0, t0) ?_ ⟨by decide, rfl⟩ ?_
    · refine of_eq (b :=
      (((((.d (.slc 7 (List.length L) (lnsF L))) : AV) = (.d (.slc 7 (List.length L) (lnsF L)))) ∧
      ((((.box 2 0) : AV) = (.box 2 0)) ∧
      ((((.box 21 0) : AV) = (.box 21 0)) ∧
      ((((.agg [(vi 0), (.clo (.func 66) [(.box 21 0)] []), (vi 1), (.clo (.func 60) [] [(.box 24001 0)]), (vi 3), (.clo (.func 64) [] [(.box 24001 0), (.box 34002 0)]), (vi 2), (.clo (.func 64) [] [(.box 24001 0), (.box 43002 0)])]) : AV) = (.agg [(vi 0), (.clo (.func 66) [(.box 21 0)] []), (vi 1), (.clo (.func 60) [] [(.box 24001 0)]), (vi 3), (.clo (.func 64) [] [(.box 24001 0), (.box 34002 0)]), (vi 2), (.clo (.func 64) [] [(.box 24001 0), (.box 43002 0)])])) ∧
      ((((vi 0) : AV) = (vi 0)) ∧
      True))))) ∧
      ((((some [(.d (.con (.slice none 0 0))), (vi 0), (vi 0), (vi 0)]) : (Option (List AV))) = (some [(.d (.con (.slice none 0 0))), (vi 0), (vi 0), (vi 0)])) ∧
      ((((some [(.d (.slc 7 (List.length L) (lnsF L))), (.vec 900 3 0 0), (vi 0), (vi 1), (vi 0), (vb false)]) : (Option (List AV))) = (some [(.d (.slc 7 (List.length L) (lnsF L))), (.vec 900 3 0 0), (vi 0), (vi 1), (vi 0), (vb false)])) ∧
      ((((some [(.arr ⟨true, 50, false, none⟩ 3 (ptR []))]) : (Option (List AV))) = (some [(.arr ⟨true, 50, false, none⟩ 3 (ptR []))])) ∧
      ((((some [(.box 21 0)]) : (Option (List AV))) = (some [(.box 21 0)])) ∧
      ((((some [(.d (.con (.func (.func 65) ⟨[]⟩ ⟨[]⟩)))]) : (Option (List AV))) = (some [(.d (.con (.func (.func 65) ⟨[]⟩ ⟨[]⟩)))])) ∧
      ((((some [(.d (.con (.func (.func 44) ⟨[]⟩ ⟨[]⟩)))]) : (Option (List AV))) = (some [(.d (.con (.func (.func 44) ⟨[]⟩ ⟨[]⟩)))])) ∧
      True)))))))) (by kernel_rfl) ?_
      exact ⟨⟨rfl, rfl, rfl, rfl, rfl, trivial⟩, rfl, rfl, rfl, rfl, rfl, rfl, trivial⟩
    · rintro ⟨k, t⟩ ⟨hk, ht⟩
      simp only at hk ht
      have hc : k = 0 ∨ k = 1 ∨ k = 2 ∨ k = 3 ∨ k = 4 := by omega
      rcases hc with rfl | rfl | rfl | rfl | rfl
      · refine walk (orc := orcK L t) (keep := []) (cuts := []) (n := 1000) follows ?_
        refine of_eqH (b :=
          (((true = true) →
          ((((0 : Int) ≤ (0 : Int)) ∧
          ((0 : Int) < (↑(4 : Nat) : Int))) ∧
          AWP Tryz.prog G [.code (cAt (bodyOf Tryz.f12) [1, 1, 1, 0, 1, 0, 0, 1, 1, 0, 0, 1, 1, 0]), (.blk 2), (.blk 1), .code (cAt (bodyOf Tryz.f12) [1, 1, 1, 0, 1, 0, 0, 1, 1, 1])] ⟨regs 53 [(0, (.d (.slc 7 (List.length L) (lnsF L)))), (2, (.box 2 0)), (4, (.box 21 0)), (6, (.box 6 0)), (23, (.agg [(vi 0), (.clo (.func 66) [(.box 21 0)] []), (vi 1), (.clo (.func 60) [] [(.box 24001 0)]), (vi 3), (.clo (.func 64) [] [(.box 24001 0), (.box 34002 0)]), (vi 2), (.clo (.func 64) [] [(.box 24001 0), (.box 43002 0)])])), (24, (vi 0)), (25, (vb true)), (26, (.agg [(vi 0), (.clo (.func 66) [(.box 21 0)] [])])), (27, (.d (.slc 7 (List.length L) (lnsF L)))), (28, (vi ((↑(List.length L) : Int)))), (29, (vi 0))], [(6, [(vi 0), (.clo (.func 66) [(.box 21 0)] [])]), (2, [(.d (.con (.slice none 0 0))), (vi 0), (vi 0), (vi 0)]), (21, [(.d (.slc 7 (List.length L) (lnsF L))), (.vec 900 3 0 (List.length (T.ps t))), (vi (T.p t)), (vi (T.q t)), (vi 0), (vb (T.wr t))]), (900, [(.arr ⟨true, 50, false, none⟩ 3 (ptR (T.ps t)))]), (24001, [(.box 21 0)]), (34002, [(.d (.con (.func (.func 65) ⟨[]⟩ ⟨[]⟩)))]), (43002, [(.d (.con (.func (.func 44) ⟨[]⟩ ⟨[]⟩)))])]⟩ (RoundQ Tryz.prog G [It.blk (0 : Nat), It.code (Code.seq (Code.region (14 : Nat) #[{ dst := some (49 : Nat), op := Op.move (Operand.tmp (4 : Nat)), type := (57 : Nat), pos := "credit.go:133", after := #[], guard := none }, { dst := some (50 : Nat), op := Op.call { callee := Callee.value (Operand.func (35 : Nat)), args := #[Operand.tmp (49 : Nat)], argTypes := #[(57 : Nat)] }, type := (31 : Nat), pos := "credit.go:133", after := #[{ on := (0 : Nat), ground := Ground.data }], guard := none }, { dst := some (51 : Nat), op := Op.extract (Operand.tmp (50 : Nat)) (0 : Nat), type := (29 : Nat), pos := "credit.go:133", after := #[{ on := (1 : Nat), ground := Ground.data }], guard := none }, { dst := some (52 : Nat), op := Op.extract (Operand.tmp (50 : Nat)) (1 : Nat), type := (30 : Nat), pos := "credit.go:133", after := #[{ on := (1 : Nat), ground := Ground.data }], guard := none }, { dst := none, op := Op.store (29 : Nat) (Operand.tmp (2 : Nat)) (Operand.tmp (51 : Nat)), type := (0 : Nat), pos := "credit.go:133", after := #[{ on := (2 : Nat), ground := Ground.data }, { on := (1 : Nat), ground := Ground.chain }, { on := (0 : Nat), ground := Ground.phase }, { on := (1 : Nat), ground := Ground.phase }, { on := (2 : Nat), ground := Ground.phase }, { on := (3 : Nat), ground := Ground.phase }], guard := none }, { dst := some (3 : Nat), op := Op.assign (Operand.tmp (52 : Nat)), type := (30 : Nat), pos := "credit.go:133", after := #[{ on := (3 : Nat), ground := Ground.data }, { on := (4 : Nat), ground := Ground.chain }, { on := (0 : Nat), ground := Ground.phase }, { on := (1 : Nat), ground := Ground.phase }, { on := (2 : Nat), ground := Ground.phase }, { on := (3 : Nat), ground := Ground.phase }, { on := (4 : Nat), ground := Ground.phase }], guard := none }] false) Code.ret)] (Ret Tryz.prog Tryz.f12 r) (fun x => S12 L (Prod.fst x) (Prod.snd x)) (fun x => Prod.fst x ≤ (4 : Nat) ∧ Prod.snd x = tk L (Prod.fst x)) (fun x => (4 : Nat) - Prod.fst x) ((0 : Nat), t)))) ∧
          ((true = false) →
          AWP Tryz.prog G [.code (cAt (bodyOf Tryz.f12) [1, 1, 1, 1])] ⟨regs 53 [(0, (.d (.slc 7 (List.length L) (lnsF L)))), (2, (.box 2 0)), (4, (.box 21 0)), (23, (.agg [(vi 0), (.clo (.func 66) [(.box 21 0)] []), (vi 1), (.clo (.func 60) [] [(.box 24001 0)]), (vi 3), (.clo (.func 64) [] [(.box 24001 0), (.box 34002 0)]), (vi 2), (.clo (.func 64) [] [(.box 24001 0), (.box 43002 0)])])), (24, (vi 0)), (25, (vb true))], [(2, [(.d (.con (.slice none 0 0))), (vi 0), (vi 0), (vi 0)]), (21, [(.d (.slc 7 (List.length L) (lnsF L))), (.vec 900 3 0 (List.length (T.ps t))), (vi (T.p t)), (vi (T.q t)), (vi 0), (vb (T.wr t))]), (900, [(.arr ⟨true, 50, false, none⟩ 3 (ptR (T.ps t)))]), (24001, [(.box 21 0)]), (34002, [(.d (.con (.func (.func 65) ⟨[]⟩ ⟨[]⟩)))]), (43002, [(.d (.con (.func (.func 44) ⟨[]⟩ ⟨[]⟩)))])]⟩ (Ret Tryz.prog Tryz.f12 r)))) (by kernel_rfl) ?_
        simp only [Bool.false_eq_true, Bool.true_eq_false, false_implies, true_implies, true_and, and_true, forall_const]
        refine ⟨⟨by decide, by decide⟩, ?_⟩
        refine AWP.loop (c := cAt (bodyOf Tryz.f12) [1, 1, 1, 0, 1, 0, 0, 1, 1, 0, 0, 1, 1, 0, 0]) (by kernel_rfl) (fun x : Nat × T => S12i L 0 0 (.clo (.func 66) [.box 21 0] []) x.1 x.2) (fun x => x.1 ≤ L.length ∧ x.2 = phase L 0 x.1 t) (fun x => L.length - x.1) (0, t) ?_ ⟨Nat.zero_le _, rfl⟩ ?_
        · refine of_eq (b :=
          (((((.d (.slc 7 (List.length L) (lnsF L))) : AV) = (.d (.slc 7 (List.length L) (lnsF L)))) ∧
          ((((.box 2 0) : AV) = (.box 2 0)) ∧
          ((((.box 21 0) : AV) = (.box 21 0)) ∧
          ((((.box 6 0) : AV) = (.box 6 0)) ∧
          ((((.agg [(vi 0), (.clo (.func 66) [(.box 21 0)] []), (vi 1), (.clo (.func 60) [] [(.box 24001 0)]), (vi 3), (.clo (.func 64) [] [(.box 24001 0), (.box 34002 0)]), (vi 2), (.clo (.func 64) [] [(.box 24001 0), (.box 43002 0)])]) : AV) = (.agg [(vi 0), (.clo (.func 66) [(.box 21 0)] []), (vi 1), (.clo (.func 60) [] [(.box 24001 0)]), (vi 3), (.clo (.func 64) [] [(.box 24001 0), (.box 34002 0)]), (vi 2), (.clo (.func 64) [] [(.box 24001 0), (.box 43002 0)])])) ∧
          ((((vi 0) : AV) = (vi 0)) ∧
          ((((.d (.slc 7 (List.length L) (lnsF L))) : AV) = (.d (.slc 7 (List.length L) (lnsF L)))) ∧
          ((((vi ((↑(List.length L) : Int))) : AV) = (vi ((↑(List.length L) : Int)))) ∧
          ((((vi 0) : AV) = (vi ((↑(0 : Nat) : Int)))) ∧
          True))))))))) ∧
          ((((some [(vi 0), (.clo (.func 66) [(.box 21 0)] [])]) : (Option (List AV))) = (some [(vi 0), (.clo (.func 66) [(.box 21 0)] [])])) ∧
          ((((some [(.d (.con (.slice none 0 0))), (vi 0), (vi 0), (vi 0)]) : (Option (List AV))) = (some [(.d (.con (.slice none 0 0))), (vi 0), (vi 0), (vi 0)])) ∧
          ((((some [(.d (.slc 7 (List.length L) (lnsF L))), (.vec 900 3 0 (List.length (T.ps t))), (vi (T.p t)), (vi (T.q t)), (vi 0), (vb (T.wr t))]) : (Option (List AV))) = (some [(.d (.slc 7 (List.length L) (lnsF L))), (.vec 900 3 0 (List.length (T.ps t))), (vi (T.p t)), (vi (T.q t)), (vi 0), (vb (T.wr t))])) ∧
          ((((some [(.arr ⟨true, 50, false, none⟩ 3 (ptR (T.ps t)))]) : (Option (List AV))) = (some [(.arr ⟨true, 50, false, none⟩ 3 (ptR (T.ps t)))])) ∧
          ((((some [(.box 21 0)]) : (Option (List AV))) = (some [(.box 21 0)])) ∧
          ((((some [(.d (.con (.func (.func 65) ⟨[]⟩ ⟨[]⟩)))]) : (Option (List AV))) = (some [(.d (.con (.func (.func 65) ⟨[]⟩ ⟨[]⟩)))])) ∧
          ((((some [(.d (.con (.func (.func 44) ⟨[]⟩ ⟨[]⟩)))]) : (Option (List AV))) = (some [(.d (.con (.func (.func 44) ⟨[]⟩ ⟨[]⟩)))])) ∧
          True))))))))) (by kernel_rfl) ?_
          exact ⟨⟨rfl, rfl, rfl, rfl, rfl, rfl, rfl, rfl, rfl, trivial⟩, rfl, rfl, rfl, rfl, rfl, rfl, rfl, trivial⟩
        · rintro ⟨i, u⟩ ⟨hi, hu⟩
          simp only at hi hu
          have hul : u.ps.length ≤ 1000000 := by
            have h1 := phase_len L 0 t i
            have h2 := tk_len L 0
            rw [← ht] at h2
            rw [← hu] at h1
            omega
          refine walk (orc := orcK L u) (keep := []) (cuts := []) (n := 1000) follows ?_
          refine of_eqH (b :=
            ((((decide ((↑i : Int) < (↑(List.length L) : Int))) = true) →
            ((((0 : Int) ≤ (↑i : Int)) ∧
            ((↑i : Int) < (↑(List.length L) : Int))) ∧
            ((((Ln.app (List.getD L (Int.toNat (↑i : Int)) ln0) && Ln.kind (List.getD L (Int.toNat (↑i : Int)) ln0) == (0 : Int)) = true) →
            (FnM Tryz.prog G 66 [(.box 1000000 0), (vi ((↑i : Int)))] [(1000000, [(.d (.slc 7 (List.length L) (lnsF L))), (.vec 1000001 3 0 (List.length (T.ps u))), (vi (T.p u)), (vi (T.q u)), (vi 0), (vb (T.wr u))]), (1000001, [(.arr ⟨true, 50, false, none⟩ 3 (ptR (T.ps u)))])] (.d (.tup [])) [(1000000, [(.d (.slc 7 (List.length L) (lnsF L))), (.vec 900 3 0 (List.length (T.ps (pointsT L (Int.toNat (↑i : Int)) u)))), (vi (T.p (pointsT L (Int.toNat (↑i : Int)) u))), (vi (T.q (pointsT L (Int.toNat (↑i : Int)) u))), (vi 0), (vb (T.wr (pointsT L (Int.toNat (↑i : Int)) u)))]), (900, [(.arr ⟨true, 50, false, none⟩ 3 (ptR (T.ps (pointsT L (Int.toNat (↑i : Int)) u))))])] ∧
            ((I64 ((↑i : Int) + (1 : Int))) ∧
            Again (fun x => S12i L (0 : Nat) (0 : Int) (AV.clo (Fn.func (66 : FuncId)) [AV.box (21 : Nat) (0 : Nat)] []) (Prod.fst x) (Prod.snd x)) (fun x => Prod.fst x ≤ List.length L ∧ Prod.snd x = phase L (0 : Int) (Prod.fst x) t) (fun x => List.length L - Prod.fst x) ((i, u)) ⟨regs 53 [(0, (.d (.slc 7 (List.length L) (lnsF L)))), (2, (.box 2 0)), (4, (.box 21 0)), (6, (.box 6 0)), (7, (vi ((↑i : Int)))), (8, (.box 8 0)), (23, (.agg [(vi 0), (.clo (.func 66) [(.box 21 0)] []), (vi 1), (.clo (.func 60) [] [(.box 24001 0)]), (vi 3), (.clo (.func 64) [] [(.box 24001 0), (.box 34002 0)]), (vi 2), (.clo (.func 64) [] [(.box 24001 0), (.box 43002 0)])])), (24, (vi 0)), (27, (.d (.slc 7 (List.length L) (lnsF L)))), (28, (vi ((↑(List.length L) : Int)))), (29, (vi ((↑i : Int) + (1 : Int)))), (30, (vb (decide ((↑i : Int) < (↑(List.length L) : Int))))), (31, (vi ((↑i : Int)))), (32, (.d (.ptr [(ds (Ln.name (List.getD L (Int.toNat (↑i : Int)) ln0))), (ds (Ln.group (List.getD L (Int.toNat (↑i : Int)) ln0))), (di (Ln.kind (List.getD L (Int.toNat (↑i : Int)) ln0))), (db (Ln.app (List.getD L (Int.toNat (↑i : Int)) ln0))), (di (Ln.n (List.getD L (Int.toNat (↑i : Int)) ln0))), (di (Ln.d (List.getD L (Int.toNat (↑i : Int)) ln0))), (di (Ln.err (List.getD L (Int.toNat (↑i : Int)) ln0)))]))), (33, (.d (.agg [(ds (Ln.name (List.getD L (Int.toNat (↑i : Int)) ln0))), (ds (Ln.group (List.getD L (Int.toNat (↑i : Int)) ln0))), (di (Ln.kind (List.getD L (Int.toNat (↑i : Int)) ln0))), (db (Ln.app (List.getD L (Int.toNat (↑i : Int)) ln0))), (di (Ln.n (List.getD L (Int.toNat (↑i : Int)) ln0))), (di (Ln.d (List.getD L (Int.toNat (↑i : Int)) ln0))), (di (Ln.err (List.getD L (Int.toNat (↑i : Int)) ln0)))]))), (34, (.box 8 3)), (35, (vb (Ln.app (List.getD L (Int.toNat (↑i : Int)) ln0)))), (36, (vb (Ln.app (List.getD L (Int.toNat (↑i : Int)) ln0)))), (42, (vb (Ln.app (List.getD L (Int.toNat (↑i : Int)) ln0) && Ln.kind (List.getD L (Int.toNat (↑i : Int)) ln0) == (0 : Int)))), (43, (.box 6 1)), (44, (.clo (.func 66) [(.box 21 0)] [])), (45, (vi ((↑i : Int)))), (46, (.d (.tup []))), (47, (vi ((↑i : Int) + (1 : Int))))], [(47900, [(.arr ⟨true, 50, false, none⟩ 3 (ptR (T.ps (pointsT L (Int.toNat (↑i : Int)) u))))]), (8, [(vs (Ln.name (List.getD L (Int.toNat (↑i : Int)) ln0))), (vs (Ln.group (List.getD L (Int.toNat (↑i : Int)) ln0))), (vi (Ln.kind (List.getD L (Int.toNat (↑i : Int)) ln0))), (vb (Ln.app (List.getD L (Int.toNat (↑i : Int)) ln0))), (vi (Ln.n (List.getD L (Int.toNat (↑i : Int)) ln0))), (vi (Ln.d (List.getD L (Int.toNat (↑i : Int)) ln0))), (vi (Ln.err (List.getD L (Int.toNat (↑i : Int)) ln0)))]), (6, [(vi 0), (.clo (.func 66) [(.box 21 0)] [])]), (2, [(.d (.con (.slice none 0 0))), (vi 0), (vi 0), (vi 0)]), (21, [(.d (.slc 7 (List.length L) (lnsF L))), (.vec 47900 3 0 (List.length (T.ps (pointsT L (Int.toNat (↑i : Int)) u)))), (vi (T.p (pointsT L (Int.toNat (↑i : Int)) u))), (vi (T.q (pointsT L (Int.toNat (↑i : Int)) u))), (vi 0), (vb (T.wr (pointsT L (Int.toNat (↑i : Int)) u)))]), (900, [.dead]), (24001, [(.box 21 0)]), (34002, [(.d (.con (.func (.func 65) ⟨[]⟩ ⟨[]⟩)))]), (43002, [(.d (.con (.func (.func 44) ⟨[]⟩ ⟨[]⟩)))])]⟩))) ∧
            (((Ln.app (List.getD L (Int.toNat (↑i : Int)) ln0) && Ln.kind (List.getD L (Int.toNat (↑i : Int)) ln0) == (0 : Int)) = false) →
            ((I64 ((↑i : Int) + (1 : Int))) ∧
            Again (fun x => S12i L (0 : Nat) (0 : Int) (AV.clo (Fn.func (66 : FuncId)) [AV.box (21 : Nat) (0 : Nat)] []) (Prod.fst x) (Prod.snd x)) (fun x => Prod.fst x ≤ List.length L ∧ Prod.snd x = phase L (0 : Int) (Prod.fst x) t) (fun x => List.length L - Prod.fst x) ((i, u)) ⟨regs 53 [(0, (.d (.slc 7 (List.length L) (lnsF L)))), (2, (.box 2 0)), (4, (.box 21 0)), (6, (.box 6 0)), (7, (vi ((↑i : Int)))), (8, (.box 8 0)), (23, (.agg [(vi 0), (.clo (.func 66) [(.box 21 0)] []), (vi 1), (.clo (.func 60) [] [(.box 24001 0)]), (vi 3), (.clo (.func 64) [] [(.box 24001 0), (.box 34002 0)]), (vi 2), (.clo (.func 64) [] [(.box 24001 0), (.box 43002 0)])])), (24, (vi 0)), (27, (.d (.slc 7 (List.length L) (lnsF L)))), (28, (vi ((↑(List.length L) : Int)))), (29, (vi ((↑i : Int) + (1 : Int)))), (30, (vb (decide ((↑i : Int) < (↑(List.length L) : Int))))), (31, (vi ((↑i : Int)))), (32, (.d (.ptr [(ds (Ln.name (List.getD L (Int.toNat (↑i : Int)) ln0))), (ds (Ln.group (List.getD L (Int.toNat (↑i : Int)) ln0))), (di (Ln.kind (List.getD L (Int.toNat (↑i : Int)) ln0))), (db (Ln.app (List.getD L (Int.toNat (↑i : Int)) ln0))), (di (Ln.n (List.getD L (Int.toNat (↑i : Int)) ln0))), (di (Ln.d (List.getD L (Int.toNat (↑i : Int)) ln0))), (di (Ln.err (List.getD L (Int.toNat (↑i : Int)) ln0)))]))), (33, (.d (.agg [(ds (Ln.name (List.getD L (Int.toNat (↑i : Int)) ln0))), (ds (Ln.group (List.getD L (Int.toNat (↑i : Int)) ln0))), (di (Ln.kind (List.getD L (Int.toNat (↑i : Int)) ln0))), (db (Ln.app (List.getD L (Int.toNat (↑i : Int)) ln0))), (di (Ln.n (List.getD L (Int.toNat (↑i : Int)) ln0))), (di (Ln.d (List.getD L (Int.toNat (↑i : Int)) ln0))), (di (Ln.err (List.getD L (Int.toNat (↑i : Int)) ln0)))]))), (34, (.box 8 3)), (35, (vb (Ln.app (List.getD L (Int.toNat (↑i : Int)) ln0)))), (36, (vb (Ln.app (List.getD L (Int.toNat (↑i : Int)) ln0)))), (42, (vb (Ln.app (List.getD L (Int.toNat (↑i : Int)) ln0) && Ln.kind (List.getD L (Int.toNat (↑i : Int)) ln0) == (0 : Int)))), (47, (vi ((↑i : Int) + (1 : Int))))], [(8, [(vs (Ln.name (List.getD L (Int.toNat (↑i : Int)) ln0))), (vs (Ln.group (List.getD L (Int.toNat (↑i : Int)) ln0))), (vi (Ln.kind (List.getD L (Int.toNat (↑i : Int)) ln0))), (vb (Ln.app (List.getD L (Int.toNat (↑i : Int)) ln0))), (vi (Ln.n (List.getD L (Int.toNat (↑i : Int)) ln0))), (vi (Ln.d (List.getD L (Int.toNat (↑i : Int)) ln0))), (vi (Ln.err (List.getD L (Int.toNat (↑i : Int)) ln0)))]), (6, [(vi 0), (.clo (.func 66) [(.box 21 0)] [])]), (2, [(.d (.con (.slice none 0 0))), (vi 0), (vi 0), (vi 0)]), (21, [(.d (.slc 7 (List.length L) (lnsF L))), (.vec 900 3 0 (List.length (T.ps u))), (vi (T.p u)), (vi (T.q u)), (vi 0), (vb (T.wr u))]), (900, [(.arr ⟨true, 50, false, none⟩ 3 (ptR (T.ps u)))]), (24001, [(.box 21 0)]), (34002, [(.d (.con (.func (.func 65) ⟨[]⟩ ⟨[]⟩)))]), (43002, [(.d (.con (.func (.func 44) ⟨[]⟩ ⟨[]⟩)))])]⟩))))) ∧
            (((decide ((↑i : Int) < (↑(List.length L) : Int))) = false) →
            AWP Tryz.prog G [(.blk 1), .code (cAt (bodyOf Tryz.f12) [1, 1, 1, 0, 1, 0, 0, 1, 1, 1])] ⟨regs 53 [(0, (.d (.slc 7 (List.length L) (lnsF L)))), (2, (.box 2 0)), (4, (.box 21 0)), (6, (.box 6 0)), (23, (.agg [(vi 0), (.clo (.func 66) [(.box 21 0)] []), (vi 1), (.clo (.func 60) [] [(.box 24001 0)]), (vi 3), (.clo (.func 64) [] [(.box 24001 0), (.box 34002 0)]), (vi 2), (.clo (.func 64) [] [(.box 24001 0), (.box 43002 0)])])), (24, (vi 0)), (27, (.d (.slc 7 (List.length L) (lnsF L)))), (28, (vi ((↑(List.length L) : Int)))), (29, (vi ((↑i : Int)))), (30, (vb (decide ((↑i : Int) < (↑(List.length L) : Int)))))], [(6, [(vi 0), (.clo (.func 66) [(.box 21 0)] [])]), (2, [(.d (.con (.slice none 0 0))), (vi 0), (vi 0), (vi 0)]), (21, [(.d (.slc 7 (List.length L) (lnsF L))), (.vec 900 3 0 (List.length (T.ps u))), (vi (T.p u)), (vi (T.q u)), (vi 0), (vb (T.wr u))]), (900, [(.arr ⟨true, 50, false, none⟩ 3 (ptR (T.ps u)))]), (24001, [(.box 21 0)]), (34002, [(.d (.con (.func (.func 65) ⟨[]⟩ ⟨[]⟩)))]), (43002, [(.d (.con (.func (.func 44) ⟨[]⟩ ⟨[]⟩)))])]⟩ (RoundQ Tryz.prog G [It.blk (0 : Nat), It.code (Code.seq (Code.region (14 : Nat) #[{ dst := some (49 : Nat), op := Op.move (Operand.tmp (4 : Nat)), type := (57 : Nat), pos := "credit.go:133", after := #[], guard := none }, { dst := some (50 : Nat), op := Op.call { callee := Callee.value (Operand.func (35 : Nat)), args := #[Operand.tmp (49 : Nat)], argTypes := #[(57 : Nat)] }, type := (31 : Nat), pos := "credit.go:133", after := #[{ on := (0 : Nat), ground := Ground.data }], guard := none }, { dst := some (51 : Nat), op := Op.extract (Operand.tmp (50 : Nat)) (0 : Nat), type := (29 : Nat), pos := "credit.go:133", after := #[{ on := (1 : Nat), ground := Ground.data }], guard := none }, { dst := some (52 : Nat), op := Op.extract (Operand.tmp (50 : Nat)) (1 : Nat), type := (30 : Nat), pos := "credit.go:133", after := #[{ on := (1 : Nat), ground := Ground.data }], guard := none }, { dst := none, op := Op.store (29 : Nat) (Operand.tmp (2 : Nat)) (Operand.tmp (51 : Nat)), type := (0 : Nat), pos := "credit.go:133", after := #[{ on := (2 : Nat), ground := Ground.data }, { on := (1 : Nat), ground := Ground.chain }, { on := (0 : Nat), ground := Ground.phase }, { on := (1 : Nat), ground := Ground.phase }, { on := (2 : Nat), ground := Ground.phase }, { on := (3 : Nat), ground := Ground.phase }], guard := none }, { dst := some (3 : Nat), op := Op.assign (Operand.tmp (52 : Nat)), type := (30 : Nat), pos := "credit.go:133", after := #[{ on := (3 : Nat), ground := Ground.data }, { on := (4 : Nat), ground := Ground.chain }, { on := (0 : Nat), ground := Ground.phase }, { on := (1 : Nat), ground := Ground.phase }, { on := (2 : Nat), ground := Ground.phase }, { on := (3 : Nat), ground := Ground.phase }, { on := (4 : Nat), ground := Ground.phase }], guard := none }] false) Code.ret)] (Ret Tryz.prog Tryz.f12 r) (fun x => S12 L (Prod.fst x) (Prod.snd x)) (fun x => Prod.fst x ≤ (4 : Nat) ∧ Prod.snd x = tk L (Prod.fst x)) (fun x => (4 : Nat) - Prod.fst x) ((0 : Nat), t))))) (by kernel_rfl) ?_
          simp only [Int.toNat_natCast]
          refine ⟨fun h => ⟨⟨by omega, of_decide_eq_true h⟩, fun h2 => ⟨f66 hZ L u i (by have := of_decide_eq_true h; omega) (by omega) hul, ⟨by omega, by omega⟩, Again.mkR [(47900, 900)] rfl (i + 1, pointsT L i u) ?_ ⟨?_, ?_⟩ ?_⟩, fun h2 => ⟨⟨by omega, by omega⟩, Again.mk (i + 1, u) ?_ ⟨?_, ?_⟩ ?_⟩⟩, fun h => ?_⟩
          · refine of_eq (b :=
            (((((.d (.slc 7 (List.length L) (lnsF L))) : AV) = (.d (.slc 7 (List.length L) (lnsF L)))) ∧
            ((((.box 2 0) : AV) = (.box 2 0)) ∧
            ((((.box 21 0) : AV) = (.box 21 0)) ∧
            ((((.box 6 0) : AV) = (.box 6 0)) ∧
            ((((.agg [(vi 0), (.clo (.func 66) [(.box 21 0)] []), (vi 1), (.clo (.func 60) [] [(.box 24001 0)]), (vi 3), (.clo (.func 64) [] [(.box 24001 0), (.box 34002 0)]), (vi 2), (.clo (.func 64) [] [(.box 24001 0), (.box 43002 0)])]) : AV) = (.agg [(vi 0), (.clo (.func 66) [(.box 21 0)] []), (vi 1), (.clo (.func 60) [] [(.box 24001 0)]), (vi 3), (.clo (.func 64) [] [(.box 24001 0), (.box 34002 0)]), (vi 2), (.clo (.func 64) [] [(.box 24001 0), (.box 43002 0)])])) ∧
            ((((vi 0) : AV) = (vi 0)) ∧
            ((((.d (.slc 7 (List.length L) (lnsF L))) : AV) = (.d (.slc 7 (List.length L) (lnsF L)))) ∧
            ((((vi ((↑(List.length L) : Int))) : AV) = (vi ((↑(List.length L) : Int)))) ∧
            ((((vi ((↑i : Int) + (1 : Int))) : AV) = (vi ((↑(i + (1 : Nat)) : Int)))) ∧
            True))))))))) ∧
            ((((some [(vi 0), (.clo (.func 66) [(.box 21 0)] [])]) : (Option (List AV))) = (some [(vi 0), (.clo (.func 66) [(.box 21 0)] [])])) ∧
            ((((some [(.d (.con (.slice none 0 0))), (vi 0), (vi 0), (vi 0)]) : (Option (List AV))) = (some [(.d (.con (.slice none 0 0))), (vi 0), (vi 0), (vi 0)])) ∧
            ((((some [(.d (.slc 7 (List.length L) (lnsF L))), (.vec 900 3 0 (List.length (T.ps (pointsT L i u)))), (vi (T.p (pointsT L i u))), (vi (T.q (pointsT L i u))), (vi 0), (vb (T.wr (pointsT L i u)))]) : (Option (List AV))) = (some [(.d (.slc 7 (List.length L) (lnsF L))), (.vec 900 3 0 (List.length (T.ps (pointsT L i u)))), (vi (T.p (pointsT L i u))), (vi (T.q (pointsT L i u))), (vi 0), (vb (T.wr (pointsT L i u)))])) ∧
            ((((some [(.arr ⟨true, 50, false, none⟩ 3 (ptR (T.ps (pointsT L i u))))]) : (Option (List AV))) = (some [(.arr ⟨true, 50, false, none⟩ 3 (ptR (T.ps (pointsT L i u))))])) ∧
            ((((some [(.box 21 0)]) : (Option (List AV))) = (some [(.box 21 0)])) ∧
            ((((some [(.d (.con (.func (.func 65) ⟨[]⟩ ⟨[]⟩)))]) : (Option (List AV))) = (some [(.d (.con (.func (.func 65) ⟨[]⟩ ⟨[]⟩)))])) ∧
            ((((some [(.d (.con (.func (.func 44) ⟨[]⟩ ⟨[]⟩)))]) : (Option (List AV))) = (some [(.d (.con (.func (.func 44) ⟨[]⟩ ⟨[]⟩)))])) ∧
            True))))))))) (by kernel_rfl) ?_
            exact ⟨⟨rfl, rfl, rfl, rfl, rfl, rfl, rfl, rfl, rfl, trivial⟩, rfl, rfl, rfl, rfl, rfl, rfl, rfl, trivial⟩
          · simp only [decide_eq_true_eq] at h; simp only; omega
          · simp only [Bool.and_eq_true, beq_iff_eq] at h2
            simp only
            rw [phase_on h2.1 h2.2, ← hu]; rfl
          · simp only [decide_eq_true_eq] at h; simp only; omega
          · refine of_eq (b :=
            (((((.d (.slc 7 (List.length L) (lnsF L))) : AV) = (.d (.slc 7 (List.length L) (lnsF L)))) ∧
            ((((.box 2 0) : AV) = (.box 2 0)) ∧
            ((((.box 21 0) : AV) = (.box 21 0)) ∧
            ((((.box 6 0) : AV) = (.box 6 0)) ∧
            ((((.agg [(vi 0), (.clo (.func 66) [(.box 21 0)] []), (vi 1), (.clo (.func 60) [] [(.box 24001 0)]), (vi 3), (.clo (.func 64) [] [(.box 24001 0), (.box 34002 0)]), (vi 2), (.clo (.func 64) [] [(.box 24001 0), (.box 43002 0)])]) : AV) = (.agg [(vi 0), (.clo (.func 66) [(.box 21 0)] []), (vi 1), (.clo (.func 60) [] [(.box 24001 0)]), (vi 3), (.clo (.func 64) [] [(.box 24001 0), (.box 34002 0)]), (vi 2), (.clo (.func 64) [] [(.box 24001 0), (.box 43002 0)])])) ∧
            ((((vi 0) : AV) = (vi 0)) ∧
            ((((.d (.slc 7 (List.length L) (lnsF L))) : AV) = (.d (.slc 7 (List.length L) (lnsF L)))) ∧
            ((((vi ((↑(List.length L) : Int))) : AV) = (vi ((↑(List.length L) : Int)))) ∧
            ((((vi ((↑i : Int) + (1 : Int))) : AV) = (vi ((↑(i + (1 : Nat)) : Int)))) ∧
            True))))))))) ∧
            ((((some [(vi 0), (.clo (.func 66) [(.box 21 0)] [])]) : (Option (List AV))) = (some [(vi 0), (.clo (.func 66) [(.box 21 0)] [])])) ∧
            ((((some [(.d (.con (.slice none 0 0))), (vi 0), (vi 0), (vi 0)]) : (Option (List AV))) = (some [(.d (.con (.slice none 0 0))), (vi 0), (vi 0), (vi 0)])) ∧
            ((((some [(.d (.slc 7 (List.length L) (lnsF L))), (.vec 900 3 0 (List.length (T.ps u))), (vi (T.p u)), (vi (T.q u)), (vi 0), (vb (T.wr u))]) : (Option (List AV))) = (some [(.d (.slc 7 (List.length L) (lnsF L))), (.vec 900 3 0 (List.length (T.ps u))), (vi (T.p u)), (vi (T.q u)), (vi 0), (vb (T.wr u))])) ∧
            ((((some [(.arr ⟨true, 50, false, none⟩ 3 (ptR (T.ps u)))]) : (Option (List AV))) = (some [(.arr ⟨true, 50, false, none⟩ 3 (ptR (T.ps u)))])) ∧
            ((((some [(.box 21 0)]) : (Option (List AV))) = (some [(.box 21 0)])) ∧
            ((((some [(.d (.con (.func (.func 65) ⟨[]⟩ ⟨[]⟩)))]) : (Option (List AV))) = (some [(.d (.con (.func (.func 65) ⟨[]⟩ ⟨[]⟩)))])) ∧
            ((((some [(.d (.con (.func (.func 44) ⟨[]⟩ ⟨[]⟩)))]) : (Option (List AV))) = (some [(.d (.con (.func (.func 44) ⟨[]⟩ ⟨[]⟩)))])) ∧
            True))))))))) (by kernel_rfl) ?_
            exact ⟨⟨rfl, rfl, rfl, rfl, rfl, rfl, rfl, rfl, rfl, trivial⟩, rfl, rfl, rfl, rfl, rfl, rfl, rfl, trivial⟩
          · simp only [decide_eq_true_eq] at h; simp only; omega
          · simp only
            rw [phase_off, ← hu]
            rintro ⟨h3, h4⟩
            rw [h3, h4] at h2
            simp at h2
          · simp only [decide_eq_true_eq] at h; simp only; omega
          · simp only [decide_eq_false_iff_not] at h
            have hi2 : i = L.length := by omega
            subst hi2
            refine walk (orc := orcK L u) (keep := []) (cuts := []) (n := 1000) follows ?_
            refine of_eqH (b :=
              ((I64 ((0 : Int) + (1 : Int))) ∧
              Again (fun x => S12 L (Prod.fst x) (Prod.snd x)) (fun x => Prod.fst x ≤ (4 : Nat) ∧ Prod.snd x = tk L (Prod.fst x)) (fun x => (4 : Nat) - Prod.fst x) (((0 : Nat), t)) ⟨regs 53 [(0, (.d (.slc 7 (List.length L) (lnsF L)))), (2, (.box 2 0)), (4, (.box 21 0)), (6, (.box 6 0)), (23, (.agg [(vi 0), (.clo (.func 66) [(.box 21 0)] []), (vi 1), (.clo (.func 60) [] [(.box 24001 0)]), (vi 3), (.clo (.func 64) [] [(.box 24001 0), (.box 34002 0)]), (vi 2), (.clo (.func 64) [] [(.box 24001 0), (.box 43002 0)])])), (24, (vi 1)), (27, (.d (.slc 7 (List.length L) (lnsF L)))), (28, (vi ((↑(List.length L) : Int)))), (29, (vi ((↑(List.length L) : Int)))), (30, (vb (decide ((↑(List.length L) : Int) < (↑(List.length L) : Int))))), (48, (vi 1))], [(6, [(vi 0), (.clo (.func 66) [(.box 21 0)] [])]), (2, [(.d (.con (.slice none 0 0))), (vi 0), (vi 0), (vi 0)]), (21, [(.d (.slc 7 (List.length L) (lnsF L))), (.vec 900 3 0 (List.length (T.ps u))), (vi (T.p u)), (vi (T.q u)), (vi 0), (vb (T.wr u))]), (900, [(.arr ⟨true, 50, false, none⟩ 3 (ptR (T.ps u)))]), (24001, [(.box 21 0)]), (34002, [(.d (.con (.func (.func 65) ⟨[]⟩ ⟨[]⟩)))]), (43002, [(.d (.con (.func (.func 44) ⟨[]⟩ ⟨[]⟩)))])]⟩)) (by kernel_rfl) ?_
            refine ⟨⟨by decide, by decide⟩, Again.mk (1, u) ?_ ⟨by simp only; omega, ?_⟩ (by simp only; omega)⟩
            · refine of_eq (b :=
              (((((.d (.slc 7 (List.length L) (lnsF L))) : AV) = (.d (.slc 7 (List.length L) (lnsF L)))) ∧
              ((((.box 2 0) : AV) = (.box 2 0)) ∧
              ((((.box 21 0) : AV) = (.box 21 0)) ∧
              ((((.agg [(vi 0), (.clo (.func 66) [(.box 21 0)] []), (vi 1), (.clo (.func 60) [] [(.box 24001 0)]), (vi 3), (.clo (.func 64) [] [(.box 24001 0), (.box 34002 0)]), (vi 2), (.clo (.func 64) [] [(.box 24001 0), (.box 43002 0)])]) : AV) = (.agg [(vi 0), (.clo (.func 66) [(.box 21 0)] []), (vi 1), (.clo (.func 60) [] [(.box 24001 0)]), (vi 3), (.clo (.func 64) [] [(.box 24001 0), (.box 34002 0)]), (vi 2), (.clo (.func 64) [] [(.box 24001 0), (.box 43002 0)])])) ∧
              ((((vi 1) : AV) = (vi ((↑(1 : Nat) : Int)))) ∧
              True))))) ∧
              ((((some [(.d (.con (.slice none 0 0))), (vi 0), (vi 0), (vi 0)]) : (Option (List AV))) = (some [(.d (.con (.slice none 0 0))), (vi 0), (vi 0), (vi 0)])) ∧
              ((((some [(.d (.slc 7 (List.length L) (lnsF L))), (.vec 900 3 0 (List.length (T.ps u))), (vi (T.p u)), (vi (T.q u)), (vi 0), (vb (T.wr u))]) : (Option (List AV))) = (some [(.d (.slc 7 (List.length L) (lnsF L))), (.vec 900 3 0 (List.length (T.ps u))), (vi (T.p u)), (vi (T.q u)), (vi 0), (vb (T.wr u))])) ∧
              ((((some [(.arr ⟨true, 50, false, none⟩ 3 (ptR (T.ps u)))]) : (Option (List AV))) = (some [(.arr ⟨true, 50, false, none⟩ 3 (ptR (T.ps u)))])) ∧
              ((((some [(.box 21 0)]) : (Option (List AV))) = (some [(.box 21 0)])) ∧
              ((((some [(.d (.con (.func (.func 65) ⟨[]⟩ ⟨[]⟩)))]) : (Option (List AV))) = (some [(.d (.con (.func (.func 65) ⟨[]⟩ ⟨[]⟩)))])) ∧
              ((((some [(.d (.con (.func (.func 44) ⟨[]⟩ ⟨[]⟩)))]) : (Option (List AV))) = (some [(.d (.con (.func (.func 44) ⟨[]⟩ ⟨[]⟩)))])) ∧
              True)))))))) (by kernel_rfl) ?_
              exact ⟨⟨rfl, rfl, rfl, rfl, rfl, trivial⟩, rfl, rfl, rfl, rfl, rfl, rfl, trivial⟩
            · simp only
              rw [hu, ht]; rfl
      · refine walk (orc := orcK L t) (keep := []) (cuts := []) (n := 1000) follows ?_
        refine of_eqH (b :=
          (((true = true) →
          ((((0 : Int) ≤ (1 : Int)) ∧
          ((1 : Int) < (↑(4 : Nat) : Int))) ∧
          AWP Tryz.prog G [.code (cAt (bodyOf Tryz.f12) [1, 1, 1, 0, 1, 0, 0, 1, 1, 0, 0, 1, 1, 0]), (.blk 2), (.blk 1), .code (cAt (bodyOf Tryz.f12) [1, 1, 1, 0, 1, 0, 0, 1, 1, 1])] ⟨regs 53 [(0, (.d (.slc 7 (List.length L) (lnsF L)))), (2, (.box 2 0)), (4, (.box 21 0)), (6, (.box 6 0)), (23, (.agg [(vi 0), (.clo (.func 66) [(.box 21 0)] []), (vi 1), (.clo (.func 60) [] [(.box 24001 0)]), (vi 3), (.clo (.func 64) [] [(.box 24001 0), (.box 34002 0)]), (vi 2), (.clo (.func 64) [] [(.box 24001 0), (.box 43002 0)])])), (24, (vi 1)), (25, (vb true)), (26, (.agg [(vi 1), (.clo (.func 60) [] [(.box 24001 0)])])), (27, (.d (.slc 7 (List.length L) (lnsF L)))), (28, (vi ((↑(List.length L) : Int)))), (29, (vi 0))], [(6, [(vi 1), (.clo (.func 60) [] [(.box 24001 0)])]), (2, [(.d (.con (.slice none 0 0))), (vi 0), (vi 0), (vi 0)]), (21, [(.d (.slc 7 (List.length L) (lnsF L))), (.vec 900 3 0 (List.length (T.ps t))), (vi (T.p t)), (vi (T.q t)), (vi 0), (vb (T.wr t))]), (900, [(.arr ⟨true, 50, false, none⟩ 3 (ptR (T.ps t)))]), (24001, [(.box 21 0)]), (34002, [(.d (.con (.func (.func 65) ⟨[]⟩ ⟨[]⟩)))]), (43002, [(.d (.con (.func (.func 44) ⟨[]⟩ ⟨[]⟩)))])]⟩ (RoundQ Tryz.prog G [It.blk (0 : Nat), It.code (Code.seq (Code.region (14 : Nat) #[{ dst := some (49 : Nat), op := Op.move (Operand.tmp (4 : Nat)), type := (57 : Nat), pos := "credit.go:133", after := #[], guard := none }, { dst := some (50 : Nat), op := Op.call { callee := Callee.value (Operand.func (35 : Nat)), args := #[Operand.tmp (49 : Nat)], argTypes := #[(57 : Nat)] }, type := (31 : Nat), pos := "credit.go:133", after := #[{ on := (0 : Nat), ground := Ground.data }], guard := none }, { dst := some (51 : Nat), op := Op.extract (Operand.tmp (50 : Nat)) (0 : Nat), type := (29 : Nat), pos := "credit.go:133", after := #[{ on := (1 : Nat), ground := Ground.data }], guard := none }, { dst := some (52 : Nat), op := Op.extract (Operand.tmp (50 : Nat)) (1 : Nat), type := (30 : Nat), pos := "credit.go:133", after := #[{ on := (1 : Nat), ground := Ground.data }], guard := none }, { dst := none, op := Op.store (29 : Nat) (Operand.tmp (2 : Nat)) (Operand.tmp (51 : Nat)), type := (0 : Nat), pos := "credit.go:133", after := #[{ on := (2 : Nat), ground := Ground.data }, { on := (1 : Nat), ground := Ground.chain }, { on := (0 : Nat), ground := Ground.phase }, { on := (1 : Nat), ground := Ground.phase }, { on := (2 : Nat), ground := Ground.phase }, { on := (3 : Nat), ground := Ground.phase }], guard := none }, { dst := some (3 : Nat), op := Op.assign (Operand.tmp (52 : Nat)), type := (30 : Nat), pos := "credit.go:133", after := #[{ on := (3 : Nat), ground := Ground.data }, { on := (4 : Nat), ground := Ground.chain }, { on := (0 : Nat), ground := Ground.phase }, { on := (1 : Nat), ground := Ground.phase }, { on := (2 : Nat), ground := Ground.phase }, { on := (3 : Nat), ground := Ground.phase }, { on := (4 : Nat), ground := Ground.phase }], guard := none }] false) Code.ret)] (Ret Tryz.prog Tryz.f12 r) (fun x => S12 L (Prod.fst x) (Prod.snd x)) (fun x => Prod.fst x ≤ (4 : Nat) ∧ Prod.snd x = tk L (Prod.fst x)) (fun x => (4 : Nat) - Prod.fst x) ((1 : Nat), t)))) ∧
          ((true = false) →
          AWP Tryz.prog G [.code (cAt (bodyOf Tryz.f12) [1, 1, 1, 1])] ⟨regs 53 [(0, (.d (.slc 7 (List.length L) (lnsF L)))), (2, (.box 2 0)), (4, (.box 21 0)), (23, (.agg [(vi 0), (.clo (.func 66) [(.box 21 0)] []), (vi 1), (.clo (.func 60) [] [(.box 24001 0)]), (vi 3), (.clo (.func 64) [] [(.box 24001 0), (.box 34002 0)]), (vi 2), (.clo (.func 64) [] [(.box 24001 0), (.box 43002 0)])])), (24, (vi 1)), (25, (vb true))], [(2, [(.d (.con (.slice none 0 0))), (vi 0), (vi 0), (vi 0)]), (21, [(.d (.slc 7 (List.length L) (lnsF L))), (.vec 900 3 0 (List.length (T.ps t))), (vi (T.p t)), (vi (T.q t)), (vi 0), (vb (T.wr t))]), (900, [(.arr ⟨true, 50, false, none⟩ 3 (ptR (T.ps t)))]), (24001, [(.box 21 0)]), (34002, [(.d (.con (.func (.func 65) ⟨[]⟩ ⟨[]⟩)))]), (43002, [(.d (.con (.func (.func 44) ⟨[]⟩ ⟨[]⟩)))])]⟩ (Ret Tryz.prog Tryz.f12 r)))) (by kernel_rfl) ?_
        simp only [Bool.false_eq_true, Bool.true_eq_false, false_implies, true_implies, true_and, and_true, forall_const]
        refine ⟨⟨by decide, by decide⟩, ?_⟩
        refine AWP.loop (c := cAt (bodyOf Tryz.f12) [1, 1, 1, 0, 1, 0, 0, 1, 1, 0, 0, 1, 1, 0, 0]) (by kernel_rfl) (fun x : Nat × T => S12i L 1 1 (.clo (.func 60) [] [.box 24001 0]) x.1 x.2) (fun x => x.1 ≤ L.length ∧ x.2 = phase L 1 x.1 t) (fun x => L.length - x.1) (0, t) ?_ ⟨Nat.zero_le _, rfl⟩ ?_
        · refine of_eq (b :=
          (((((.d (.slc 7 (List.length L) (lnsF L))) : AV) = (.d (.slc 7 (List.length L) (lnsF L)))) ∧
          ((((.box 2 0) : AV) = (.box 2 0)) ∧
          ((((.box 21 0) : AV) = (.box 21 0)) ∧
          ((((.box 6 0) : AV) = (.box 6 0)) ∧
          ((((.agg [(vi 0), (.clo (.func 66) [(.box 21 0)] []), (vi 1), (.clo (.func 60) [] [(.box 24001 0)]), (vi 3), (.clo (.func 64) [] [(.box 24001 0), (.box 34002 0)]), (vi 2), (.clo (.func 64) [] [(.box 24001 0), (.box 43002 0)])]) : AV) = (.agg [(vi 0), (.clo (.func 66) [(.box 21 0)] []), (vi 1), (.clo (.func 60) [] [(.box 24001 0)]), (vi 3), (.clo (.func 64) [] [(.box 24001 0), (.box 34002 0)]), (vi 2), (.clo (.func 64) [] [(.box 24001 0), (.box 43002 0)])])) ∧
          ((((vi 1) : AV) = (vi 1)) ∧
          ((((.d (.slc 7 (List.length L) (lnsF L))) : AV) = (.d (.slc 7 (List.length L) (lnsF L)))) ∧
          ((((vi ((↑(List.length L) : Int))) : AV) = (vi ((↑(List.length L) : Int)))) ∧
          ((((vi 0) : AV) = (vi ((↑(0 : Nat) : Int)))) ∧
          True))))))))) ∧
          ((((some [(vi 1), (.clo (.func 60) [] [(.box 24001 0)])]) : (Option (List AV))) = (some [(vi 1), (.clo (.func 60) [] [(.box 24001 0)])])) ∧
          ((((some [(.d (.con (.slice none 0 0))), (vi 0), (vi 0), (vi 0)]) : (Option (List AV))) = (some [(.d (.con (.slice none 0 0))), (vi 0), (vi 0), (vi 0)])) ∧
          ((((some [(.d (.slc 7 (List.length L) (lnsF L))), (.vec 900 3 0 (List.length (T.ps t))), (vi (T.p t)), (vi (T.q t)), (vi 0), (vb (T.wr t))]) : (Option (List AV))) = (some [(.d (.slc 7 (List.length L) (lnsF L))), (.vec 900 3 0 (List.length (T.ps t))), (vi (T.p t)), (vi (T.q t)), (vi 0), (vb (T.wr t))])) ∧
          ((((some [(.arr ⟨true, 50, false, none⟩ 3 (ptR (T.ps t)))]) : (Option (List AV))) = (some [(.arr ⟨true, 50, false, none⟩ 3 (ptR (T.ps t)))])) ∧
          ((((some [(.box 21 0)]) : (Option (List AV))) = (some [(.box 21 0)])) ∧
          ((((some [(.d (.con (.func (.func 65) ⟨[]⟩ ⟨[]⟩)))]) : (Option (List AV))) = (some [(.d (.con (.func (.func 65) ⟨[]⟩ ⟨[]⟩)))])) ∧
          ((((some [(.d (.con (.func (.func 44) ⟨[]⟩ ⟨[]⟩)))]) : (Option (List AV))) = (some [(.d (.con (.func (.func 44) ⟨[]⟩ ⟨[]⟩)))])) ∧
          True))))))))) (by kernel_rfl) ?_
          exact ⟨⟨rfl, rfl, rfl, rfl, rfl, rfl, rfl, rfl, rfl, trivial⟩, rfl, rfl, rfl, rfl, rfl, rfl, rfl, trivial⟩
        · rintro ⟨i, u⟩ ⟨hi, hu⟩
          simp only at hi hu
          have hul : u.ps.length ≤ 1000000 := by
            have h1 := phase_len L 1 t i
            have h2 := tk_len L 1
            rw [← ht] at h2
            rw [← hu] at h1
            omega
          refine walk (orc := orcK L u) (keep := []) (cuts := []) (n := 1000) follows ?_
          refine of_eqH (b :=
            ((((decide ((↑i : Int) < (↑(List.length L) : Int))) = true) →
            ((((0 : Int) ≤ (↑i : Int)) ∧
            ((↑i : Int) < (↑(List.length L) : Int))) ∧
            ((((Ln.app (List.getD L (Int.toNat (↑i : Int)) ln0) && Ln.kind (List.getD L (Int.toNat (↑i : Int)) ln0) == (1 : Int)) = true) →
            (FnM Tryz.prog G 60 [(vi ((↑i : Int))), (.box 1000000 0)] [(1000000, [(.box 1000001 0)]), (1000001, [(.d (.slc 7 (List.length L) (lnsF L))), (.vec 1000002 3 0 (List.length (T.ps u))), (vi (T.p u)), (vi (T.q u)), (vi 0), (vb (T.wr u))]), (1000002, [(.arr ⟨true, 50, false, none⟩ 3 (ptR (T.ps u)))])] (.d (.tup [])) [(1000000, [(.box 1000001 0)]), (1000001, [(.d (.slc 7 (List.length L) (lnsF L))), (.vec 900 3 0 (List.length (T.ps (penT L (Int.toNat (↑i : Int)) u)))), (vi (T.p (penT L (Int.toNat (↑i : Int)) u))), (vi (T.q (penT L (Int.toNat (↑i : Int)) u))), (vi 0), (vb (T.wr (penT L (Int.toNat (↑i : Int)) u)))]), (900, [(.arr ⟨true, 50, false, none⟩ 3 (ptR (T.ps (penT L (Int.toNat (↑i : Int)) u))))])] ∧
            ((I64 ((↑i : Int) + (1 : Int))) ∧
            Again (fun x => S12i L (1 : Nat) (1 : Int) (AV.clo (Fn.func (60 : FuncId)) [] [AV.box (24001 : Nat) (0 : Nat)]) (Prod.fst x) (Prod.snd x)) (fun x => Prod.fst x ≤ List.length L ∧ Prod.snd x = phase L (1 : Int) (Prod.fst x) t) (fun x => List.length L - Prod.fst x) ((i, u)) ⟨regs 53 [(0, (.d (.slc 7 (List.length L) (lnsF L)))), (2, (.box 2 0)), (4, (.box 21 0)), (6, (.box 6 0)), (7, (vi ((↑i : Int)))), (8, (.box 8 0)), (23, (.agg [(vi 0), (.clo (.func 66) [(.box 21 0)] []), (vi 1), (.clo (.func 60) [] [(.box 24001 0)]), (vi 3), (.clo (.func 64) [] [(.box 24001 0), (.box 34002 0)]), (vi 2), (.clo (.func 64) [] [(.box 24001 0), (.box 43002 0)])])), (24, (vi 1)), (27, (.d (.slc 7 (List.length L) (lnsF L)))), (28, (vi ((↑(List.length L) : Int)))), (29, (vi ((↑i : Int) + (1 : Int)))), (30, (vb (decide ((↑i : Int) < (↑(List.length L) : Int))))), (31, (vi ((↑i : Int)))), (32, (.d (.ptr [(ds (Ln.name (List.getD L (Int.toNat (↑i : Int)) ln0))), (ds (Ln.group (List.getD L (Int.toNat (↑i : Int)) ln0))), (di (Ln.kind (List.getD L (Int.toNat (↑i : Int)) ln0))), (db (Ln.app (List.getD L (Int.toNat (↑i : Int)) ln0))), (di (Ln.n (List.getD L (Int.toNat (↑i : Int)) ln0))), (di (Ln.d (List.getD L (Int.toNat (↑i : Int)) ln0))), (di (Ln.err (List.getD L (Int.toNat (↑i : Int)) ln0)))]))), (33, (.d (.agg [(ds (Ln.name (List.getD L (Int.toNat (↑i : Int)) ln0))), (ds (Ln.group (List.getD L (Int.toNat (↑i : Int)) ln0))), (di (Ln.kind (List.getD L (Int.toNat (↑i : Int)) ln0))), (db (Ln.app (List.getD L (Int.toNat (↑i : Int)) ln0))), (di (Ln.n (List.getD L (Int.toNat (↑i : Int)) ln0))), (di (Ln.d (List.getD L (Int.toNat (↑i : Int)) ln0))), (di (Ln.err (List.getD L (Int.toNat (↑i : Int)) ln0)))]))), (34, (.box 8 3)), (35, (vb (Ln.app (List.getD L (Int.toNat (↑i : Int)) ln0)))), (36, (vb (Ln.app (List.getD L (Int.toNat (↑i : Int)) ln0)))), (42, (vb (Ln.app (List.getD L (Int.toNat (↑i : Int)) ln0) && Ln.kind (List.getD L (Int.toNat (↑i : Int)) ln0) == (1 : Int)))), (43, (.box 6 1)), (44, (.clo (.func 60) [] [(.box 24001 0)])), (45, (vi ((↑i : Int)))), (46, (.d (.tup []))), (47, (vi ((↑i : Int) + (1 : Int))))], [(47900, [(.arr ⟨true, 50, false, none⟩ 3 (ptR (T.ps (penT L (Int.toNat (↑i : Int)) u))))]), (8, [(vs (Ln.name (List.getD L (Int.toNat (↑i : Int)) ln0))), (vs (Ln.group (List.getD L (Int.toNat (↑i : Int)) ln0))), (vi (Ln.kind (List.getD L (Int.toNat (↑i : Int)) ln0))), (vb (Ln.app (List.getD L (Int.toNat (↑i : Int)) ln0))), (vi (Ln.n (List.getD L (Int.toNat (↑i : Int)) ln0))), (vi (Ln.d (List.getD L (Int.toNat (↑i : Int)) ln0))), (vi (Ln.err (List.getD L (Int.toNat (↑i : Int)) ln0)))]), (6, [(vi 1), (.clo (.func 60) [] [(.box 24001 0)])]), (2, [(.d (.con (.slice none 0 0))), (vi 0), (vi 0), (vi 0)]), (21, [(.d (.slc 7 (List.length L) (lnsF L))), (.vec 47900 3 0 (List.length (T.ps (penT L (Int.toNat (↑i : Int)) u)))), (vi (T.p (penT L (Int.toNat (↑i : Int)) u))), (vi (T.q (penT L (Int.toNat (↑i : Int)) u))), (vi 0), (vb (T.wr (penT L (Int.toNat (↑i : Int)) u)))]), (900, [.dead]), (24001, [(.box 21 0)]), (34002, [(.d (.con (.func (.func 65) ⟨[]⟩ ⟨[]⟩)))]), (43002, [(.d (.con (.func (.func 44) ⟨[]⟩ ⟨[]⟩)))])]⟩))) ∧
            (((Ln.app (List.getD L (Int.toNat (↑i : Int)) ln0) && Ln.kind (List.getD L (Int.toNat (↑i : Int)) ln0) == (1 : Int)) = false) →
            ((I64 ((↑i : Int) + (1 : Int))) ∧
            Again (fun x => S12i L (1 : Nat) (1 : Int) (AV.clo (Fn.func (60 : FuncId)) [] [AV.box (24001 : Nat) (0 : Nat)]) (Prod.fst x) (Prod.snd x)) (fun x => Prod.fst x ≤ List.length L ∧ Prod.snd x = phase L (1 : Int) (Prod.fst x) t) (fun x => List.length L - Prod.fst x) ((i, u)) ⟨regs 53 [(0, (.d (.slc 7 (List.length L) (lnsF L)))), (2, (.box 2 0)), (4, (.box 21 0)), (6, (.box 6 0)), (7, (vi ((↑i : Int)))), (8, (.box 8 0)), (23, (.agg [(vi 0), (.clo (.func 66) [(.box 21 0)] []), (vi 1), (.clo (.func 60) [] [(.box 24001 0)]), (vi 3), (.clo (.func 64) [] [(.box 24001 0), (.box 34002 0)]), (vi 2), (.clo (.func 64) [] [(.box 24001 0), (.box 43002 0)])])), (24, (vi 1)), (27, (.d (.slc 7 (List.length L) (lnsF L)))), (28, (vi ((↑(List.length L) : Int)))), (29, (vi ((↑i : Int) + (1 : Int)))), (30, (vb (decide ((↑i : Int) < (↑(List.length L) : Int))))), (31, (vi ((↑i : Int)))), (32, (.d (.ptr [(ds (Ln.name (List.getD L (Int.toNat (↑i : Int)) ln0))), (ds (Ln.group (List.getD L (Int.toNat (↑i : Int)) ln0))), (di (Ln.kind (List.getD L (Int.toNat (↑i : Int)) ln0))), (db (Ln.app (List.getD L (Int.toNat (↑i : Int)) ln0))), (di (Ln.n (List.getD L (Int.toNat (↑i : Int)) ln0))), (di (Ln.d (List.getD L (Int.toNat (↑i : Int)) ln0))), (di (Ln.err (List.getD L (Int.toNat (↑i : Int)) ln0)))]))), (33, (.d (.agg [(ds (Ln.name (List.getD L (Int.toNat (↑i : Int)) ln0))), (ds (Ln.group (List.getD L (Int.toNat (↑i : Int)) ln0))), (di (Ln.kind (List.getD L (Int.toNat (↑i : Int)) ln0))), (db (Ln.app (List.getD L (Int.toNat (↑i : Int)) ln0))), (di (Ln.n (List.getD L (Int.toNat (↑i : Int)) ln0))), (di (Ln.d (List.getD L (Int.toNat (↑i : Int)) ln0))), (di (Ln.err (List.getD L (Int.toNat (↑i : Int)) ln0)))]))), (34, (.box 8 3)), (35, (vb (Ln.app (List.getD L (Int.toNat (↑i : Int)) ln0)))), (36, (vb (Ln.app (List.getD L (Int.toNat (↑i : Int)) ln0)))), (42, (vb (Ln.app (List.getD L (Int.toNat (↑i : Int)) ln0) && Ln.kind (List.getD L (Int.toNat (↑i : Int)) ln0) == (1 : Int)))), (47, (vi ((↑i : Int) + (1 : Int))))], [(8, [(vs (Ln.name (List.getD L (Int.toNat (↑i : Int)) ln0))), (vs (Ln.group (List.getD L (Int.toNat (↑i : Int)) ln0))), (vi (Ln.kind (List.getD L (Int.toNat (↑i : Int)) ln0))), (vb (Ln.app (List.getD L (Int.toNat (↑i : Int)) ln0))), (vi (Ln.n (List.getD L (Int.toNat (↑i : Int)) ln0))), (vi (Ln.d (List.getD L (Int.toNat (↑i : Int)) ln0))), (vi (Ln.err (List.getD L (Int.toNat (↑i : Int)) ln0)))]), (6, [(vi 1), (.clo (.func 60) [] [(.box 24001 0)])]), (2, [(.d (.con (.slice none 0 0))), (vi 0), (vi 0), (vi 0)]), (21, [(.d (.slc 7 (List.length L) (lnsF L))), (.vec 900 3 0 (List.length (T.ps u))), (vi (T.p u)), (vi (T.q u)), (vi 0), (vb (T.wr u))]), (900, [(.arr ⟨true, 50, false, none⟩ 3 (ptR (T.ps u)))]), (24001, [(.box 21 0)]), (34002, [(.d (.con (.func (.func 65) ⟨[]⟩ ⟨[]⟩)))]), (43002, [(.d (.con (.func (.func 44) ⟨[]⟩ ⟨[]⟩)))])]⟩))))) ∧
            (((decide ((↑i : Int) < (↑(List.length L) : Int))) = false) →
            AWP Tryz.prog G [(.blk 1), .code (cAt (bodyOf Tryz.f12) [1, 1, 1, 0, 1, 0, 0, 1, 1, 1])] ⟨regs 53 [(0, (.d (.slc 7 (List.length L) (lnsF L)))), (2, (.box 2 0)), (4, (.box 21 0)), (6, (.box 6 0)), (23, (.agg [(vi 0), (.clo (.func 66) [(.box 21 0)] []), (vi 1), (.clo (.func 60) [] [(.box 24001 0)]), (vi 3), (.clo (.func 64) [] [(.box 24001 0), (.box 34002 0)]), (vi 2), (.clo (.func 64) [] [(.box 24001 0), (.box 43002 0)])])), (24, (vi 1)), (27, (.d (.slc 7 (List.length L) (lnsF L)))), (28, (vi ((↑(List.length L) : Int)))), (29, (vi ((↑i : Int)))), (30, (vb (decide ((↑i : Int) < (↑(List.length L) : Int)))))], [(6, [(vi 1), (.clo (.func 60) [] [(.box 24001 0)])]), (2, [(.d (.con (.slice none 0 0))), (vi 0), (vi 0), (vi 0)]), (21, [(.d (.slc 7 (List.length L) (lnsF L))), (.vec 900 3 0 (List.length (T.ps u))), (vi (T.p u)), (vi (T.q u)), (vi 0), (vb (T.wr u))]), (900, [(.arr ⟨true, 50, false, none⟩ 3 (ptR (T.ps u)))]), (24001, [(.box 21 0)]), (34002, [(.d (.con (.func (.func 65) ⟨[]⟩ ⟨[]⟩)))]), (43002, [(.d (.con (.func (.func 44) ⟨[]⟩ ⟨[]⟩)))])]⟩ (RoundQ Tryz.prog G [It.blk (0 : Nat), It.code (Code.seq (Code.region (14 : Nat) #[{ dst := some (49 : Nat), op := Op.move (Operand.tmp (4 : Nat)), type := (57 : Nat), pos := "credit.go:133", after := #[], guard := none }, { dst := some (50 : Nat), op := Op.call { callee := Callee.value (Operand.func (35 : Nat)), args := #[Operand.tmp (49 : Nat)], argTypes := #[(57 : Nat)] }, type := (31 : Nat), pos := "credit.go:133", after := #[{ on := (0 : Nat), ground := Ground.data }], guard := none }, { dst := some (51 : Nat), op := Op.extract (Operand.tmp (50 : Nat)) (0 : Nat), type := (29 : Nat), pos := "credit.go:133", after := #[{ on := (1 : Nat), ground := Ground.data }], guard := none }, { dst := some (52 : Nat), op := Op.extract (Operand.tmp (50 : Nat)) (1 : Nat), type := (30 : Nat), pos := "credit.go:133", after := #[{ on := (1 : Nat), ground := Ground.data }], guard := none }, { dst := none, op := Op.store (29 : Nat) (Operand.tmp (2 : Nat)) (Operand.tmp (51 : Nat)), type := (0 : Nat), pos := "credit.go:133", after := #[{ on := (2 : Nat), ground := Ground.data }, { on := (1 : Nat), ground := Ground.chain }, { on := (0 : Nat), ground := Ground.phase }, { on := (1 : Nat), ground := Ground.phase }, { on := (2 : Nat), ground := Ground.phase }, { on := (3 : Nat), ground := Ground.phase }], guard := none }, { dst := some (3 : Nat), op := Op.assign (Operand.tmp (52 : Nat)), type := (30 : Nat), pos := "credit.go:133", after := #[{ on := (3 : Nat), ground := Ground.data }, { on := (4 : Nat), ground := Ground.chain }, { on := (0 : Nat), ground := Ground.phase }, { on := (1 : Nat), ground := Ground.phase }, { on := (2 : Nat), ground := Ground.phase }, { on := (3 : Nat), ground := Ground.phase }, { on := (4 : Nat), ground := Ground.phase }], guard := none }] false) Code.ret)] (Ret Tryz.prog Tryz.f12 r) (fun x => S12 L (Prod.fst x) (Prod.snd x)) (fun x => Prod.fst x ≤ (4 : Nat) ∧ Prod.snd x = tk L (Prod.fst x)) (fun x => (4 : Nat) - Prod.fst x) ((1 : Nat), t))))) (by kernel_rfl) ?_
          simp only [Int.toNat_natCast]
          refine ⟨fun h => ⟨⟨by omega, of_decide_eq_true h⟩, fun h2 => ⟨f60 hZ L u i (by have := of_decide_eq_true h; omega) (by omega) hul, ⟨by omega, by omega⟩, Again.mkR [(47900, 900)] rfl (i + 1, penT L i u) ?_ ⟨?_, ?_⟩ ?_⟩, fun h2 => ⟨⟨by omega, by omega⟩, Again.mk (i + 1, u) ?_ ⟨?_, ?_⟩ ?_⟩⟩, fun h => ?_⟩
          · refine of_eq (b :=
            (((((.d (.slc 7 (List.length L) (lnsF L))) : AV) = (.d (.slc 7 (List.length L) (lnsF L)))) ∧
            ((((.box 2 0) : AV) = (.box 2 0)) ∧
            ((((.box 21 0) : AV) = (.box 21 0)) ∧
            ((((.box 6 0) : AV) = (.box 6 0)) ∧
            ((((.agg [(vi 0), (.clo (.func 66) [(.box 21 0)] []), (vi 1), (.clo (.func 60) [] [(.box 24001 0)]), (vi 3), (.clo (.func 64) [] [(.box 24001 0), (.box 34002 0)]), (vi 2), (.clo (.func 64) [] [(.box 24001 0), (.box 43002 0)])]) : AV) = (.agg [(vi 0), (.clo (.func 66) [(.box 21 0)] []), (vi 1), (.clo (.func 60) [] [(.box 24001 0)]), (vi 3), (.clo (.func 64) [] [(.box 24001 0), (.box 34002 0)]), (vi 2), (.clo (.func 64) [] [(.box 24001 0), (.box 43002 0)])])) ∧
            ((((vi 1) : AV) = (vi 1)) ∧
            ((((.d (.slc 7 (List.length L) (lnsF L))) : AV) = (.d (.slc 7 (List.length L) (lnsF L)))) ∧
            ((((vi ((↑(List.length L) : Int))) : AV) = (vi ((↑(List.length L) : Int)))) ∧
            ((((vi ((↑i : Int) + (1 : Int))) : AV) = (vi ((↑(i + (1 : Nat)) : Int)))) ∧
            True))))))))) ∧
            ((((some [(vi 1), (.clo (.func 60) [] [(.box 24001 0)])]) : (Option (List AV))) = (some [(vi 1), (.clo (.func 60) [] [(.box 24001 0)])])) ∧
            ((((some [(.d (.con (.slice none 0 0))), (vi 0), (vi 0), (vi 0)]) : (Option (List AV))) = (some [(.d (.con (.slice none 0 0))), (vi 0), (vi 0), (vi 0)])) ∧
            ((((some [(.d (.slc 7 (List.length L) (lnsF L))), (.vec 900 3 0 (List.length (T.ps (penT L i u)))), (vi (T.p (penT L i u))), (vi (T.q (penT L i u))), (vi 0), (vb (T.wr (penT L i u)))]) : (Option (List AV))) = (some [(.d (.slc 7 (List.length L) (lnsF L))), (.vec 900 3 0 (List.length (T.ps (penT L i u)))), (vi (T.p (penT L i u))), (vi (T.q (penT L i u))), (vi 0), (vb (T.wr (penT L i u)))])) ∧
            ((((some [(.arr ⟨true, 50, false, none⟩ 3 (ptR (T.ps (penT L i u))))]) : (Option (List AV))) = (some [(.arr ⟨true, 50, false, none⟩ 3 (ptR (T.ps (penT L i u))))])) ∧
            ((((some [(.box 21 0)]) : (Option (List AV))) = (some [(.box 21 0)])) ∧
            ((((some [(.d (.con (.func (.func 65) ⟨[]⟩ ⟨[]⟩)))]) : (Option (List AV))) = (some [(.d (.con (.func (.func 65) ⟨[]⟩ ⟨[]⟩)))])) ∧
            ((((some [(.d (.con (.func (.func 44) ⟨[]⟩ ⟨[]⟩)))]) : (Option (List AV))) = (some [(.d (.con (.func (.func 44) ⟨[]⟩ ⟨[]⟩)))])) ∧
            True))))))))) (by kernel_rfl) ?_
            exact ⟨⟨rfl, rfl, rfl, rfl, rfl, rfl, rfl, rfl, rfl, trivial⟩, rfl, rfl, rfl, rfl, rfl, rfl, rfl, trivial⟩
          · simp only [decide_eq_true_eq] at h; simp only; omega
          · simp only [Bool.and_eq_true, beq_iff_eq] at h2
            simp only
            rw [phase_on h2.1 h2.2, ← hu]; rfl
          · simp only [decide_eq_true_eq] at h; simp only; omega
          · refine of_eq (b :=
            (((((.d (.slc 7 (List.length L) (lnsF L))) : AV) = (.d (.slc 7 (List.length L) (lnsF L)))) ∧
            ((((.box 2 0) : AV) = (.box 2 0)) ∧
            ((((.box 21 0) : AV) = (.box 21 0)) ∧
            ((((.box 6 0) : AV) = (.box 6 0)) ∧
            ((((.agg [(vi 0), (.clo (.func 66) [(.box 21 0)] []), (vi 1), (.clo (.func 60) [] [(.box 24001 0)]), (vi 3), (.clo (.func 64) [] [(.box 24001 0), (.box 34002 0)]), (vi 2), (.clo (.func 64) [] [(.box 24001 0), (.box 43002 0)])]) : AV) = (.agg [(vi 0), (.clo (.func 66) [(.box 21 0)] []), (vi 1), (.clo (.func 60) [] [(.box 24001 0)]), (vi 3), (.clo (.func 64) [] [(.box 24001 0), (.box 34002 0)]), (vi 2), (.clo (.func 64) [] [(.box 24001 0), (.box 43002 0)])])) ∧
            ((((vi 1) : AV) = (vi 1)) ∧
            ((((.d (.slc 7 (List.length L) (lnsF L))) : AV) = (.d (.slc 7 (List.length L) (lnsF L)))) ∧
            ((((vi ((↑(List.length L) : Int))) : AV) = (vi ((↑(List.length L) : Int)))) ∧
            ((((vi ((↑i : Int) + (1 : Int))) : AV) = (vi ((↑(i + (1 : Nat)) : Int)))) ∧
            True))))))))) ∧
            ((((some [(vi 1), (.clo (.func 60) [] [(.box 24001 0)])]) : (Option (List AV))) = (some [(vi 1), (.clo (.func 60) [] [(.box 24001 0)])])) ∧
            ((((some [(.d (.con (.slice none 0 0))), (vi 0), (vi 0), (vi 0)]) : (Option (List AV))) = (some [(.d (.con (.slice none 0 0))), (vi 0), (vi 0), (vi 0)])) ∧
            ((((some [(.d (.slc 7 (List.length L) (lnsF L))), (.vec 900 3 0 (List.length (T.ps u))), (vi (T.p u)), (vi (T.q u)), (vi 0), (vb (T.wr u))]) : (Option (List AV))) = (some [(.d (.slc 7 (List.length L) (lnsF L))), (.vec 900 3 0 (List.length (T.ps u))), (vi (T.p u)), (vi (T.q u)), (vi 0), (vb (T.wr u))])) ∧
            ((((some [(.arr ⟨true, 50, false, none⟩ 3 (ptR (T.ps u)))]) : (Option (List AV))) = (some [(.arr ⟨true, 50, false, none⟩ 3 (ptR (T.ps u)))])) ∧
            ((((some [(.box 21 0)]) : (Option (List AV))) = (some [(.box 21 0)])) ∧
            ((((some [(.d (.con (.func (.func 65) ⟨[]⟩ ⟨[]⟩)))]) : (Option (List AV))) = (some [(.d (.con (.func (.func 65) ⟨[]⟩ ⟨[]⟩)))])) ∧
            ((((some [(.d (.con (.func (.func 44) ⟨[]⟩ ⟨[]⟩)))]) : (Option (List AV))) = (some [(.d (.con (.func (.func 44) ⟨[]⟩ ⟨[]⟩)))])) ∧
            True))))))))) (by kernel_rfl) ?_
            exact ⟨⟨rfl, rfl, rfl, rfl, rfl, rfl, rfl, rfl, rfl, trivial⟩, rfl, rfl, rfl, rfl, rfl, rfl, rfl, trivial⟩
          · simp only [decide_eq_true_eq] at h; simp only; omega
          · simp only
            rw [phase_off, ← hu]
            rintro ⟨h3, h4⟩
            rw [h3, h4] at h2
            simp at h2
          · simp only [decide_eq_true_eq] at h; simp only; omega
          · simp only [decide_eq_false_iff_not] at h
            have hi2 : i = L.length := by omega
            subst hi2
            refine walk (orc := orcK L u) (keep := []) (cuts := []) (n := 1000) follows ?_
            refine of_eqH (b :=
              ((I64 ((1 : Int) + (1 : Int))) ∧
              Again (fun x => S12 L (Prod.fst x) (Prod.snd x)) (fun x => Prod.fst x ≤ (4 : Nat) ∧ Prod.snd x = tk L (Prod.fst x)) (fun x => (4 : Nat) - Prod.fst x) (((1 : Nat), t)) ⟨regs 53 [(0, (.d (.slc 7 (List.length L) (lnsF L)))), (2, (.box 2 0)), (4, (.box 21 0)), (6, (.box 6 0)), (23, (.agg [(vi 0), (.clo (.func 66) [(.box 21 0)] []), (vi 1), (.clo (.func 60) [] [(.box 24001 0)]), (vi 3), (.clo (.func 64) [] [(.box 24001 0), (.box 34002 0)]), (vi 2), (.clo (.func 64) [] [(.box 24001 0), (.box 43002 0)])])), (24, (vi 2)), (27, (.d (.slc 7 (List.length L) (lnsF L)))), (28, (vi ((↑(List.length L) : Int)))), (29, (vi ((↑(List.length L) : Int)))), (30, (vb (decide ((↑(List.length L) : Int) < (↑(List.length L) : Int))))), (48, (vi 2))], [(6, [(vi 1), (.clo (.func 60) [] [(.box 24001 0)])]), (2, [(.d (.con (.slice none 0 0))), (vi 0), (vi 0), (vi 0)]), (21, [(.d (.slc 7 (List.length L) (lnsF L))), (.vec 900 3 0 (List.length (T.ps u))), (vi (T.p u)), (vi (T.q u)), (vi 0), (vb (T.wr u))]), (900, [(.arr ⟨true, 50, false, none⟩ 3 (ptR (T.ps u)))]), (24001, [(.box 21 0)]), (34002, [(.d (.con (.func (.func 65) ⟨[]⟩ ⟨[]⟩)))]), (43002, [(.d (.con (.func (.func 44) ⟨[]⟩ ⟨[]⟩)))])]⟩)) (by kernel_rfl) ?_
            refine ⟨⟨by decide, by decide⟩, Again.mk (2, u) ?_ ⟨by simp only; omega, ?_⟩ (by simp only; omega)⟩
            · refine of_eq (b :=
              (((((.d (.slc 7 (List.length L) (lnsF L))) : AV) = (.d (.slc 7 (List.length L) (lnsF L)))) ∧
              ((((.box 2 0) : AV) = (.box 2 0)) ∧
              ((((.box 21 0) : AV) = (.box 21 0)) ∧
              ((((.agg [(vi 0), (.clo (.func 66) [(.box 21 0)] []), (vi 1), (.clo (.func 60) [] [(.box 24001 0)]), (vi 3), (.clo (.func 64) [] [(.box 24001 0), (.box 34002 0)]), (vi 2), (.clo (.func 64) [] [(.box 24001 0), (.box 43002 0)])]) : AV) = (.agg [(vi 0), (.clo (.func 66) [(.box 21 0)] []), (vi 1), (.clo (.func 60) [] [(.box 24001 0)]), (vi 3), (.clo (.func 64) [] [(.box 24001 0), (.box 34002 0)]), (vi 2), (.clo (.func 64) [] [(.box 24001 0), (.box 43002 0)])])) ∧
              ((((vi 2) : AV) = (vi ((↑(2 : Nat) : Int)))) ∧
              True))))) ∧
              ((((some [(.d (.con (.slice none 0 0))), (vi 0), (vi 0), (vi 0)]) : (Option (List AV))) = (some [(.d (.con (.slice none 0 0))), (vi 0), (vi 0), (vi 0)])) ∧
              ((((some [(.d (.slc 7 (List.length L) (lnsF L))), (.vec 900 3 0 (List.length (T.ps u))), (vi (T.p u)), (vi (T.q u)), (vi 0), (vb (T.wr u))]) : (Option (List AV))) = (some [(.d (.slc 7 (List.length L) (lnsF L))), (.vec 900 3 0 (List.length (T.ps u))), (vi (T.p u)), (vi (T.q u)), (vi 0), (vb (T.wr u))])) ∧
              ((((some [(.arr ⟨true, 50, false, none⟩ 3 (ptR (T.ps u)))]) : (Option (List AV))) = (some [(.arr ⟨true, 50, false, none⟩ 3 (ptR (T.ps u)))])) ∧
              ((((some [(.box 21 0)]) : (Option (List AV))) = (some [(.box 21 0)])) ∧
              ((((some [(.d (.con (.func (.func 65) ⟨[]⟩ ⟨[]⟩)))]) : (Option (List AV))) = (some [(.d (.con (.func (.func 65) ⟨[]⟩ ⟨[]⟩)))])) ∧
              ((((some [(.d (.con (.func (.func 44) ⟨[]⟩ ⟨[]⟩)))]) : (Option (List AV))) = (some [(.d (.con (.func (.func 44) ⟨[]⟩ ⟨[]⟩)))])) ∧
              True)))))))) (by kernel_rfl) ?_
              exact ⟨⟨rfl, rfl, rfl, rfl, rfl, trivial⟩, rfl, rfl, rfl, rfl, rfl, rfl, trivial⟩
            · simp only
              rw [hu, ht]; rfl
      · refine walk (orc := orcK L t) (keep := []) (cuts := []) (n := 1000) follows ?_
        refine of_eqH (b :=
          (((true = true) →
          ((((0 : Int) ≤ (2 : Int)) ∧
          ((2 : Int) < (↑(4 : Nat) : Int))) ∧
          AWP Tryz.prog G [.code (cAt (bodyOf Tryz.f12) [1, 1, 1, 0, 1, 0, 0, 1, 1, 0, 0, 1, 1, 0]), (.blk 2), (.blk 1), .code (cAt (bodyOf Tryz.f12) [1, 1, 1, 0, 1, 0, 0, 1, 1, 1])] ⟨regs 53 [(0, (.d (.slc 7 (List.length L) (lnsF L)))), (2, (.box 2 0)), (4, (.box 21 0)), (6, (.box 6 0)), (23, (.agg [(vi 0), (.clo (.func 66) [(.box 21 0)] []), (vi 1), (.clo (.func 60) [] [(.box 24001 0)]), (vi 3), (.clo (.func 64) [] [(.box 24001 0), (.box 34002 0)]), (vi 2), (.clo (.func 64) [] [(.box 24001 0), (.box 43002 0)])])), (24, (vi 2)), (25, (vb true)), (26, (.agg [(vi 3), (.clo (.func 64) [] [(.box 24001 0), (.box 34002 0)])])), (27, (.d (.slc 7 (List.length L) (lnsF L)))), (28, (vi ((↑(List.length L) : Int)))), (29, (vi 0))], [(6, [(vi 3), (.clo (.func 64) [] [(.box 24001 0), (.box 34002 0)])]), (2, [(.d (.con (.slice none 0 0))), (vi 0), (vi 0), (vi 0)]), (21, [(.d (.slc 7 (List.length L) (lnsF L))), (.vec 900 3 0 (List.length (T.ps t))), (vi (T.p t)), (vi (T.q t)), (vi 0), (vb (T.wr t))]), (900, [(.arr ⟨true, 50, false, none⟩ 3 (ptR (T.ps t)))]), (24001, [(.box 21 0)]), (34002, [(.d (.con (.func (.func 65) ⟨[]⟩ ⟨[]⟩)))]), (43002, [(.d (.con (.func (.func 44) ⟨[]⟩ ⟨[]⟩)))])]⟩ (RoundQ Tryz.prog G [It.blk (0 : Nat), It.code (Code.seq (Code.region (14 : Nat) #[{ dst := some (49 : Nat), op := Op.move (Operand.tmp (4 : Nat)), type := (57 : Nat), pos := "credit.go:133", after := #[], guard := none }, { dst := some (50 : Nat), op := Op.call { callee := Callee.value (Operand.func (35 : Nat)), args := #[Operand.tmp (49 : Nat)], argTypes := #[(57 : Nat)] }, type := (31 : Nat), pos := "credit.go:133", after := #[{ on := (0 : Nat), ground := Ground.data }], guard := none }, { dst := some (51 : Nat), op := Op.extract (Operand.tmp (50 : Nat)) (0 : Nat), type := (29 : Nat), pos := "credit.go:133", after := #[{ on := (1 : Nat), ground := Ground.data }], guard := none }, { dst := some (52 : Nat), op := Op.extract (Operand.tmp (50 : Nat)) (1 : Nat), type := (30 : Nat), pos := "credit.go:133", after := #[{ on := (1 : Nat), ground := Ground.data }], guard := none }, { dst := none, op := Op.store (29 : Nat) (Operand.tmp (2 : Nat)) (Operand.tmp (51 : Nat)), type := (0 : Nat), pos := "credit.go:133", after := #[{ on := (2 : Nat), ground := Ground.data }, { on := (1 : Nat), ground := Ground.chain }, { on := (0 : Nat), ground := Ground.phase }, { on := (1 : Nat), ground := Ground.phase }, { on := (2 : Nat), ground := Ground.phase }, { on := (3 : Nat), ground := Ground.phase }], guard := none }, { dst := some (3 : Nat), op := Op.assign (Operand.tmp (52 : Nat)), type := (30 : Nat), pos := "credit.go:133", after := #[{ on := (3 : Nat), ground := Ground.data }, { on := (4 : Nat), ground := Ground.chain }, { on := (0 : Nat), ground := Ground.phase }, { on := (1 : Nat), ground := Ground.phase }, { on := (2 : Nat), ground := Ground.phase }, { on := (3 : Nat), ground := Ground.phase }, { on := (4 : Nat), ground := Ground.phase }], guard := none }] false) Code.ret)] (Ret Tryz.prog Tryz.f12 r) (fun x => S12 L (Prod.fst x) (Prod.snd x)) (fun x => Prod.fst x ≤ (4 : Nat) ∧ Prod.snd x = tk L (Prod.fst x)) (fun x => (4 : Nat) - Prod.fst x) ((2 : Nat), t)))) ∧
          ((true = false) →
          AWP Tryz.prog G [.code (cAt (bodyOf Tryz.f12) [1, 1, 1, 1])] ⟨regs 53 [(0, (.d (.slc 7 (List.length L) (lnsF L)))), (2, (.box 2 0)), (4, (.box 21 0)), (23, (.agg [(vi 0), (.clo (.func 66) [(.box 21 0)] []), (vi 1), (.clo (.func 60) [] [(.box 24001 0)]), (vi 3), (.clo (.func 64) [] [(.box 24001 0), (.box 34002 0)]), (vi 2), (.clo (.func 64) [] [(.box 24001 0), (.box 43002 0)])])), (24, (vi 2)), (25, (vb true))], [(2, [(.d (.con (.slice none 0 0))), (vi 0), (vi 0), (vi 0)]), (21, [(.d (.slc 7 (List.length L) (lnsF L))), (.vec 900 3 0 (List.length (T.ps t))), (vi (T.p t)), (vi (T.q t)), (vi 0), (vb (T.wr t))]), (900, [(.arr ⟨true, 50, false, none⟩ 3 (ptR (T.ps t)))]), (24001, [(.box 21 0)]), (34002, [(.d (.con (.func (.func 65) ⟨[]⟩ ⟨[]⟩)))]), (43002, [(.d (.con (.func (.func 44) ⟨[]⟩ ⟨[]⟩)))])]⟩ (Ret Tryz.prog Tryz.f12 r)))) (by kernel_rfl) ?_
        simp only [Bool.false_eq_true, Bool.true_eq_false, false_implies, true_implies, true_and, and_true, forall_const]
        refine ⟨⟨by decide, by decide⟩, ?_⟩
        refine AWP.loop (c := cAt (bodyOf Tryz.f12) [1, 1, 1, 0, 1, 0, 0, 1, 1, 0, 0, 1, 1, 0, 0]) (by kernel_rfl) (fun x : Nat × T => S12i L 2 3 (.clo (.func 64) [] [.box 24001 0, .box 34002 0]) x.1 x.2) (fun x => x.1 ≤ L.length ∧ x.2 = phase L 3 x.1 t) (fun x => L.length - x.1) (0, t) ?_ ⟨Nat.zero_le _, rfl⟩ ?_
        · refine of_eq (b :=
          (((((.d (.slc 7 (List.length L) (lnsF L))) : AV) = (.d (.slc 7 (List.length L) (lnsF L)))) ∧
          ((((.box 2 0) : AV) = (.box 2 0)) ∧
          ((((.box 21 0) : AV) = (.box 21 0)) ∧
          ((((.box 6 0) : AV) = (.box 6 0)) ∧
          ((((.agg [(vi 0), (.clo (.func 66) [(.box 21 0)] []), (vi 1), (.clo (.func 60) [] [(.box 24001 0)]), (vi 3), (.clo (.func 64) [] [(.box 24001 0), (.box 34002 0)]), (vi 2), (.clo (.func 64) [] [(.box 24001 0), (.box 43002 0)])]) : AV) = (.agg [(vi 0), (.clo (.func 66) [(.box 21 0)] []), (vi 1), (.clo (.func 60) [] [(.box 24001 0)]), (vi 3), (.clo (.func 64) [] [(.box 24001 0), (.box 34002 0)]), (vi 2), (.clo (.func 64) [] [(.box 24001 0), (.box 43002 0)])])) ∧
          ((((vi 2) : AV) = (vi 2)) ∧
          ((((.d (.slc 7 (List.length L) (lnsF L))) : AV) = (.d (.slc 7 (List.length L) (lnsF L)))) ∧
          ((((vi ((↑(List.length L) : Int))) : AV) = (vi ((↑(List.length L) : Int)))) ∧
          ((((vi 0) : AV) = (vi ((↑(0 : Nat) : Int)))) ∧
          True))))))))) ∧
          ((((some [(vi 3), (.clo (.func 64) [] [(.box 24001 0), (.box 34002 0)])]) : (Option (List AV))) = (some [(vi 3), (.clo (.func 64) [] [(.box 24001 0), (.box 34002 0)])])) ∧
          ((((some [(.d (.con (.slice none 0 0))), (vi 0), (vi 0), (vi 0)]) : (Option (List AV))) = (some [(.d (.con (.slice none 0 0))), (vi 0), (vi 0), (vi 0)])) ∧
          ((((some [(.d (.slc 7 (List.length L) (lnsF L))), (.vec 900 3 0 (List.length (T.ps t))), (vi (T.p t)), (vi (T.q t)), (vi 0), (vb (T.wr t))]) : (Option (List AV))) = (some [(.d (.slc 7 (List.length L) (lnsF L))), (.vec 900 3 0 (List.length (T.ps t))), (vi (T.p t)), (vi (T.q t)), (vi 0), (vb (T.wr t))])) ∧
          ((((some [(.arr ⟨true, 50, false, none⟩ 3 (ptR (T.ps t)))]) : (Option (List AV))) = (some [(.arr ⟨true, 50, false, none⟩ 3 (ptR (T.ps t)))])) ∧
          ((((some [(.box 21 0)]) : (Option (List AV))) = (some [(.box 21 0)])) ∧
          ((((some [(.d (.con (.func (.func 65) ⟨[]⟩ ⟨[]⟩)))]) : (Option (List AV))) = (some [(.d (.con (.func (.func 65) ⟨[]⟩ ⟨[]⟩)))])) ∧
          ((((some [(.d (.con (.func (.func 44) ⟨[]⟩ ⟨[]⟩)))]) : (Option (List AV))) = (some [(.d (.con (.func (.func 44) ⟨[]⟩ ⟨[]⟩)))])) ∧
          True))))))))) (by kernel_rfl) ?_
          exact ⟨⟨rfl, rfl, rfl, rfl, rfl, rfl, rfl, rfl, rfl, trivial⟩, rfl, rfl, rfl, rfl, rfl, rfl, rfl, trivial⟩
        · rintro ⟨i, u⟩ ⟨hi, hu⟩
          simp only at hi hu
          have hul : u.ps.length ≤ 1000000 := by
            have h1 := phase_len L 3 t i
            have h2 := tk_len L 2
            rw [← ht] at h2
            rw [← hu] at h1
            omega
          refine walk (orc := orcK L u) (keep := []) (cuts := []) (n := 1000) follows ?_
          refine of_eqH (b :=
            ((((decide ((↑i : Int) < (↑(List.length L) : Int))) = true) →
            ((((0 : Int) ≤ (↑i : Int)) ∧
            ((↑i : Int) < (↑(List.length L) : Int))) ∧
            ((((Ln.app (List.getD L (Int.toNat (↑i : Int)) ln0) && Ln.kind (List.getD L (Int.toNat (↑i : Int)) ln0) == (3 : Int)) = true) →
            (FnM Tryz.prog G 64 [(vi ((↑i : Int))), (.box 1000000 0), (.box 1000001 0)] [(1000000, [(.box 1000002 0)]), (1000001, [(.d (.con (.func (.func 65) ⟨[]⟩ ⟨[]⟩)))]), (1000002, [(.d (.slc 7 (List.length L) (lnsF L))), (.vec 1000003 3 0 (List.length (T.ps u))), (vi (T.p u)), (vi (T.q u)), (vi 0), (vb (T.wr u))]), (1000003, [(.arr ⟨true, 50, false, none⟩ 3 (ptR (T.ps u)))])] (.d (.tup [])) [(1000000, [(.box 1000002 0)]), (1000001, [(.d (.con (.func (.func 65) ⟨[]⟩ ⟨[]⟩)))]), (1000002, [(.d (.slc 7 (List.length L) (lnsF L))), (.vec 900 3 0 (List.length (T.ps (floorT L (Int.toNat (↑i : Int)) u)))), (vi (T.p (floorT L (Int.toNat (↑i : Int)) u))), (vi (T.q (floorT L (Int.toNat (↑i : Int)) u))), (vi 0), (vb (T.wr (floorT L (Int.toNat (↑i : Int)) u)))]), (900, [(.arr ⟨true, 50, false, none⟩ 3 (ptR (T.ps (floorT L (Int.toNat (↑i : Int)) u))))])] ∧
            ((I64 ((↑i : Int) + (1 : Int))) ∧
            Again (fun x => S12i L (2 : Nat) (3 : Int) (AV.clo (Fn.func (64 : FuncId)) [] [AV.box (24001 : Nat) (0 : Nat), AV.box (34002 : Nat) (0 : Nat)]) (Prod.fst x) (Prod.snd x)) (fun x => Prod.fst x ≤ List.length L ∧ Prod.snd x = phase L (3 : Int) (Prod.fst x) t) (fun x => List.length L - Prod.fst x) ((i, u)) ⟨regs 53 [(0, (.d (.slc 7 (List.length L) (lnsF L)))), (2, (.box 2 0)), (4, (.box 21 0)), (6, (.box 6 0)), (7, (vi ((↑i : Int)))), (8, (.box 8 0)), (23, (.agg [(vi 0), (.clo (.func 66) [(.box 21 0)] []), (vi 1), (.clo (.func 60) [] [(.box 24001 0)]), (vi 3), (.clo (.func 64) [] [(.box 24001 0), (.box 34002 0)]), (vi 2), (.clo (.func 64) [] [(.box 24001 0), (.box 43002 0)])])), (24, (vi 2)), (27, (.d (.slc 7 (List.length L) (lnsF L)))), (28, (vi ((↑(List.length L) : Int)))), (29, (vi ((↑i : Int) + (1 : Int)))), (30, (vb (decide ((↑i : Int) < (↑(List.length L) : Int))))), (31, (vi ((↑i : Int)))), (32, (.d (.ptr [(ds (Ln.name (List.getD L (Int.toNat (↑i : Int)) ln0))), (ds (Ln.group (List.getD L (Int.toNat (↑i : Int)) ln0))), (di (Ln.kind (List.getD L (Int.toNat (↑i : Int)) ln0))), (db (Ln.app (List.getD L (Int.toNat (↑i : Int)) ln0))), (di (Ln.n (List.getD L (Int.toNat (↑i : Int)) ln0))), (di (Ln.d (List.getD L (Int.toNat (↑i : Int)) ln0))), (di (Ln.err (List.getD L (Int.toNat (↑i : Int)) ln0)))]))), (33, (.d (.agg [(ds (Ln.name (List.getD L (Int.toNat (↑i : Int)) ln0))), (ds (Ln.group (List.getD L (Int.toNat (↑i : Int)) ln0))), (di (Ln.kind (List.getD L (Int.toNat (↑i : Int)) ln0))), (db (Ln.app (List.getD L (Int.toNat (↑i : Int)) ln0))), (di (Ln.n (List.getD L (Int.toNat (↑i : Int)) ln0))), (di (Ln.d (List.getD L (Int.toNat (↑i : Int)) ln0))), (di (Ln.err (List.getD L (Int.toNat (↑i : Int)) ln0)))]))), (34, (.box 8 3)), (35, (vb (Ln.app (List.getD L (Int.toNat (↑i : Int)) ln0)))), (36, (vb (Ln.app (List.getD L (Int.toNat (↑i : Int)) ln0)))), (42, (vb (Ln.app (List.getD L (Int.toNat (↑i : Int)) ln0) && Ln.kind (List.getD L (Int.toNat (↑i : Int)) ln0) == (3 : Int)))), (43, (.box 6 1)), (44, (.clo (.func 64) [] [(.box 24001 0), (.box 34002 0)])), (45, (vi ((↑i : Int)))), (46, (.d (.tup []))), (47, (vi ((↑i : Int) + (1 : Int))))], [(47900, [(.arr ⟨true, 50, false, none⟩ 3 (ptR (T.ps (floorT L (Int.toNat (↑i : Int)) u))))]), (8, [(vs (Ln.name (List.getD L (Int.toNat (↑i : Int)) ln0))), (vs (Ln.group (List.getD L (Int.toNat (↑i : Int)) ln0))), (vi (Ln.kind (List.getD L (Int.toNat (↑i : Int)) ln0))), (vb (Ln.app (List.getD L (Int.toNat (↑i : Int)) ln0))), (vi (Ln.n (List.getD L (Int.toNat (↑i : Int)) ln0))), (vi (Ln.d (List.getD L (Int.toNat (↑i : Int)) ln0))), (vi (Ln.err (List.getD L (Int.toNat (↑i : Int)) ln0)))]), (6, [(vi 3), (.clo (.func 64) [] [(.box 24001 0), (.box 34002 0)])]), (2, [(.d (.con (.slice none 0 0))), (vi 0), (vi 0), (vi 0)]), (21, [(.d (.slc 7 (List.length L) (lnsF L))), (.vec 47900 3 0 (List.length (T.ps (floorT L (Int.toNat (↑i : Int)) u)))), (vi (T.p (floorT L (Int.toNat (↑i : Int)) u))), (vi (T.q (floorT L (Int.toNat (↑i : Int)) u))), (vi 0), (vb (T.wr (floorT L (Int.toNat (↑i : Int)) u)))]), (900, [.dead]), (24001, [(.box 21 0)]), (34002, [(.d (.con (.func (.func 65) ⟨[]⟩ ⟨[]⟩)))]), (43002, [(.d (.con (.func (.func 44) ⟨[]⟩ ⟨[]⟩)))])]⟩))) ∧
            (((Ln.app (List.getD L (Int.toNat (↑i : Int)) ln0) && Ln.kind (List.getD L (Int.toNat (↑i : Int)) ln0) == (3 : Int)) = false) →
            ((I64 ((↑i : Int) + (1 : Int))) ∧
            Again (fun x => S12i L (2 : Nat) (3 : Int) (AV.clo (Fn.func (64 : FuncId)) [] [AV.box (24001 : Nat) (0 : Nat), AV.box (34002 : Nat) (0 : Nat)]) (Prod.fst x) (Prod.snd x)) (fun x => Prod.fst x ≤ List.length L ∧ Prod.snd x = phase L (3 : Int) (Prod.fst x) t) (fun x => List.length L - Prod.fst x) ((i, u)) ⟨regs 53 [(0, (.d (.slc 7 (List.length L) (lnsF L)))), (2, (.box 2 0)), (4, (.box 21 0)), (6, (.box 6 0)), (7, (vi ((↑i : Int)))), (8, (.box 8 0)), (23, (.agg [(vi 0), (.clo (.func 66) [(.box 21 0)] []), (vi 1), (.clo (.func 60) [] [(.box 24001 0)]), (vi 3), (.clo (.func 64) [] [(.box 24001 0), (.box 34002 0)]), (vi 2), (.clo (.func 64) [] [(.box 24001 0), (.box 43002 0)])])), (24, (vi 2)), (27, (.d (.slc 7 (List.length L) (lnsF L)))), (28, (vi ((↑(List.length L) : Int)))), (29, (vi ((↑i : Int) + (1 : Int)))), (30, (vb (decide ((↑i : Int) < (↑(List.length L) : Int))))), (31, (vi ((↑i : Int)))), (32, (.d (.ptr [(ds (Ln.name (List.getD L (Int.toNat (↑i : Int)) ln0))), (ds (Ln.group (List.getD L (Int.toNat (↑i : Int)) ln0))), (di (Ln.kind (List.getD L (Int.toNat (↑i : Int)) ln0))), (db (Ln.app (List.getD L (Int.toNat (↑i : Int)) ln0))), (di (Ln.n (List.getD L (Int.toNat (↑i : Int)) ln0))), (di (Ln.d (List.getD L (Int.toNat (↑i : Int)) ln0))), (di (Ln.err (List.getD L (Int.toNat (↑i : Int)) ln0)))]))), (33, (.d (.agg [(ds (Ln.name (List.getD L (Int.toNat (↑i : Int)) ln0))), (ds (Ln.group (List.getD L (Int.toNat (↑i : Int)) ln0))), (di (Ln.kind (List.getD L (Int.toNat (↑i : Int)) ln0))), (db (Ln.app (List.getD L (Int.toNat (↑i : Int)) ln0))), (di (Ln.n (List.getD L (Int.toNat (↑i : Int)) ln0))), (di (Ln.d (List.getD L (Int.toNat (↑i : Int)) ln0))), (di (Ln.err (List.getD L (Int.toNat (↑i : Int)) ln0)))]))), (34, (.box 8 3)), (35, (vb (Ln.app (List.getD L (Int.toNat (↑i : Int)) ln0)))), (36, (vb (Ln.app (List.getD L (Int.toNat (↑i : Int)) ln0)))), (42, (vb (Ln.app (List.getD L (Int.toNat (↑i : Int)) ln0) && Ln.kind (List.getD L (Int.toNat (↑i : Int)) ln0) == (3 : Int)))), (47, (vi ((↑i : Int) + (1 : Int))))], [(8, [(vs (Ln.name (List.getD L (Int.toNat (↑i : Int)) ln0))), (vs (Ln.group (List.getD L (Int.toNat (↑i : Int)) ln0))), (vi (Ln.kind (List.getD L (Int.toNat (↑i : Int)) ln0))), (vb (Ln.app (List.getD L (Int.toNat (↑i : Int)) ln0))), (vi (Ln.n (List.getD L (Int.toNat (↑i : Int)) ln0))), (vi (Ln.d (List.getD L (Int.toNat (↑i : Int)) ln0))), (vi (Ln.err (List.getD L (Int.toNat (↑i : Int)) ln0)))]), (6, [(vi 3), (.clo (.func 64) [] [(.box 24001 0), (.box 34002 0)])]), (2, [(.d (.con (.slice none 0 0))), (vi 0), (vi 0), (vi 0)]), (21, [(.d (.slc 7 (List.length L) (lnsF L))), (.vec 900 3 0 (List.length (T.ps u))), (vi (T.p u)), (vi (T.q u)), (vi 0), (vb (T.wr u))]), (900, [(.arr ⟨true, 50, false, none⟩ 3 (ptR (T.ps u)))]), (24001, [(.box 21 0)]), (34002, [(.d (.con (.func (.func 65) ⟨[]⟩ ⟨[]⟩)))]), (43002, [(.d (.con (.func (.func 44) ⟨[]⟩ ⟨[]⟩)))])]⟩))))) ∧
            (((decide ((↑i : Int) < (↑(List.length L) : Int))) = false) →
            AWP Tryz.prog G [(.blk 1), .code (cAt (bodyOf Tryz.f12) [1, 1, 1, 0, 1, 0, 0, 1, 1, 1])] ⟨regs 53 [(0, (.d (.slc 7 (List.length L) (lnsF L)))), (2, (.box 2 0)), (4, (.box 21 0)), (6, (.box 6 0)), (23, (.agg [(vi 0), (.clo (.func 66) [(.box 21 0)] []), (vi 1), (.clo (.func 60) [] [(.box 24001 0)]), (vi 3), (.clo (.func 64) [] [(.box 24001 0), (.box 34002 0)]), (vi 2), (.clo (.func 64) [] [(.box 24001 0), (.box 43002 0)])])), (24, (vi 2)), (27, (.d (.slc 7 (List.length L) (lnsF L)))), (28, (vi ((↑(List.length L) : Int)))), (29, (vi ((↑i : Int)))), (30, (vb (decide ((↑i : Int) < (↑(List.length L) : Int)))))], [(6, [(vi 3), (.clo (.func 64) [] [(.box 24001 0), (.box 34002 0)])]), (2, [(.d (.con (.slice none 0 0))), (vi 0), (vi 0), (vi 0)]), (21, [(.d (.slc 7 (List.length L) (lnsF L))), (.vec 900 3 0 (List.length (T.ps u))), (vi (T.p u)), (vi (T.q u)), (vi 0), (vb (T.wr u))]), (900, [(.arr ⟨true, 50, false, none⟩ 3 (ptR (T.ps u)))]), (24001, [(.box 21 0)]), (34002, [(.d (.con (.func (.func 65) ⟨[]⟩ ⟨[]⟩)))]), (43002, [(.d (.con (.func (.func 44) ⟨[]⟩ ⟨[]⟩)))])]⟩ (RoundQ Tryz.prog G [It.blk (0 : Nat), It.code (Code.seq (Code.region (14 : Nat) #[{ dst := some (49 : Nat), op := Op.move (Operand.tmp (4 : Nat)), type := (57 : Nat), pos := "credit.go:133", after := #[], guard := none }, { dst := some (50 : Nat), op := Op.call { callee := Callee.value (Operand.func (35 : Nat)), args := #[Operand.tmp (49 : Nat)], argTypes := #[(57 : Nat)] }, type := (31 : Nat), pos := "credit.go:133", after := #[{ on := (0 : Nat), ground := Ground.data }], guard := none }, { dst := some (51 : Nat), op := Op.extract (Operand.tmp (50 : Nat)) (0 : Nat), type := (29 : Nat), pos := "credit.go:133", after := #[{ on := (1 : Nat), ground := Ground.data }], guard := none }, { dst := some (52 : Nat), op := Op.extract (Operand.tmp (50 : Nat)) (1 : Nat), type := (30 : Nat), pos := "credit.go:133", after := #[{ on := (1 : Nat), ground := Ground.data }], guard := none }, { dst := none, op := Op.store (29 : Nat) (Operand.tmp (2 : Nat)) (Operand.tmp (51 : Nat)), type := (0 : Nat), pos := "credit.go:133", after := #[{ on := (2 : Nat), ground := Ground.data }, { on := (1 : Nat), ground := Ground.chain }, { on := (0 : Nat), ground := Ground.phase }, { on := (1 : Nat), ground := Ground.phase }, { on := (2 : Nat), ground := Ground.phase }, { on := (3 : Nat), ground := Ground.phase }], guard := none }, { dst := some (3 : Nat), op := Op.assign (Operand.tmp (52 : Nat)), type := (30 : Nat), pos := "credit.go:133", after := #[{ on := (3 : Nat), ground := Ground.data }, { on := (4 : Nat), ground := Ground.chain }, { on := (0 : Nat), ground := Ground.phase }, { on := (1 : Nat), ground := Ground.phase }, { on := (2 : Nat), ground := Ground.phase }, { on := (3 : Nat), ground := Ground.phase }, { on := (4 : Nat), ground := Ground.phase }], guard := none }] false) Code.ret)] (Ret Tryz.prog Tryz.f12 r) (fun x => S12 L (Prod.fst x) (Prod.snd x)) (fun x => Prod.fst x ≤ (4 : Nat) ∧ Prod.snd x = tk L (Prod.fst x)) (fun x => (4 : Nat) - Prod.fst x) ((2 : Nat), t))))) (by kernel_rfl) ?_
          simp only [Int.toNat_natCast]
          refine ⟨fun h => ⟨⟨by omega, of_decide_eq_true h⟩, fun h2 => ⟨f64_65 hZ L u i (by have := of_decide_eq_true h; omega) (by omega) hul, ⟨by omega, by omega⟩, Again.mkR [(47900, 900)] rfl (i + 1, floorT L i u) ?_ ⟨?_, ?_⟩ ?_⟩, fun h2 => ⟨⟨by omega, by omega⟩, Again.mk (i + 1, u) ?_ ⟨?_, ?_⟩ ?_⟩⟩, fun h => ?_⟩
          · refine of_eq (b :=
            (((((.d (.slc 7 (List.length L) (lnsF L))) : AV) = (.d (.slc 7 (List.length L) (lnsF L)))) ∧
            ((((.box 2 0) : AV) = (.box 2 0)) ∧
            ((((.box 21 0) : AV) = (.box 21 0)) ∧
            ((((.box 6 0) : AV) = (.box 6 0)) ∧
            ((((.agg [(vi 0), (.clo (.func 66) [(.box 21 0)] []), (vi 1), (.clo (.func 60) [] [(.box 24001 0)]), (vi 3), (.clo (.func 64) [] [(.box 24001 0), (.box 34002 0)]), (vi 2), (.clo (.func 64) [] [(.box 24001 0), (.box 43002 0)])]) : AV) = (.agg [(vi 0), (.clo (.func 66) [(.box 21 0)] []), (vi 1), (.clo (.func 60) [] [(.box 24001 0)]), (vi 3), (.clo (.func 64) [] [(.box 24001 0), (.box 34002 0)]), (vi 2), (.clo (.func 64) [] [(.box 24001 0), (.box 43002 0)])])) ∧
            ((((vi 2) : AV) = (vi 2)) ∧
            ((((.d (.slc 7 (List.length L) (lnsF L))) : AV) = (.d (.slc 7 (List.length L) (lnsF L)))) ∧
            ((((vi ((↑(List.length L) : Int))) : AV) = (vi ((↑(List.length L) : Int)))) ∧
            ((((vi ((↑i : Int) + (1 : Int))) : AV) = (vi ((↑(i + (1 : Nat)) : Int)))) ∧
            True))))))))) ∧
            ((((some [(vi 3), (.clo (.func 64) [] [(.box 24001 0), (.box 34002 0)])]) : (Option (List AV))) = (some [(vi 3), (.clo (.func 64) [] [(.box 24001 0), (.box 34002 0)])])) ∧
            ((((some [(.d (.con (.slice none 0 0))), (vi 0), (vi 0), (vi 0)]) : (Option (List AV))) = (some [(.d (.con (.slice none 0 0))), (vi 0), (vi 0), (vi 0)])) ∧
            ((((some [(.d (.slc 7 (List.length L) (lnsF L))), (.vec 900 3 0 (List.length (T.ps (floorT L i u)))), (vi (T.p (floorT L i u))), (vi (T.q (floorT L i u))), (vi 0), (vb (T.wr (floorT L i u)))]) : (Option (List AV))) = (some [(.d (.slc 7 (List.length L) (lnsF L))), (.vec 900 3 0 (List.length (T.ps (floorT L i u)))), (vi (T.p (floorT L i u))), (vi (T.q (floorT L i u))), (vi 0), (vb (T.wr (floorT L i u)))])) ∧
            ((((some [(.arr ⟨true, 50, false, none⟩ 3 (ptR (T.ps (floorT L i u))))]) : (Option (List AV))) = (some [(.arr ⟨true, 50, false, none⟩ 3 (ptR (T.ps (floorT L i u))))])) ∧
            ((((some [(.box 21 0)]) : (Option (List AV))) = (some [(.box 21 0)])) ∧
            ((((some [(.d (.con (.func (.func 65) ⟨[]⟩ ⟨[]⟩)))]) : (Option (List AV))) = (some [(.d (.con (.func (.func 65) ⟨[]⟩ ⟨[]⟩)))])) ∧
            ((((some [(.d (.con (.func (.func 44) ⟨[]⟩ ⟨[]⟩)))]) : (Option (List AV))) = (some [(.d (.con (.func (.func 44) ⟨[]⟩ ⟨[]⟩)))])) ∧
            True))))))))) (by kernel_rfl) ?_
            exact ⟨⟨rfl, rfl, rfl, rfl, rfl, rfl, rfl, rfl, rfl, trivial⟩, rfl, rfl, rfl, rfl, rfl, rfl, rfl, trivial⟩
          · simp only [decide_eq_true_eq] at h; simp only; omega
          · simp only [Bool.and_eq_true, beq_iff_eq] at h2
            simp only
            rw [phase_on h2.1 h2.2, ← hu]; rfl
          · simp only [decide_eq_true_eq] at h; simp only; omega
          · refine of_eq (b :=
            (((((.d (.slc 7 (List.length L) (lnsF L))) : AV) = (.d (.slc 7 (List.length L) (lnsF L)))) ∧
            ((((.box 2 0) : AV) = (.box 2 0)) ∧
            ((((.box 21 0) : AV) = (.box 21 0)) ∧
            ((((.box 6 0) : AV) = (.box 6 0)) ∧
            ((((.agg [(vi 0), (.clo (.func 66) [(.box 21 0)] []), (vi 1), (.clo (.func 60) [] [(.box 24001 0)]), (vi 3), (.clo (.func 64) [] [(.box 24001 0), (.box 34002 0)]), (vi 2), (.clo (.func 64) [] [(.box 24001 0), (.box 43002 0)])]) : AV) = (.agg [(vi 0), (.clo (.func 66) [(.box 21 0)] []), (vi 1), (.clo (.func 60) [] [(.box 24001 0)]), (vi 3), (.clo (.func 64) [] [(.box 24001 0), (.box 34002 0)]), (vi 2), (.clo (.func 64) [] [(.box 24001 0), (.box 43002 0)])])) ∧
            ((((vi 2) : AV) = (vi 2)) ∧
            ((((.d (.slc 7 (List.length L) (lnsF L))) : AV) = (.d (.slc 7 (List.length L) (lnsF L)))) ∧
            ((((vi ((↑(List.length L) : Int))) : AV) = (vi ((↑(List.length L) : Int)))) ∧
            ((((vi ((↑i : Int) + (1 : Int))) : AV) = (vi ((↑(i + (1 : Nat)) : Int)))) ∧
            True))))))))) ∧
            ((((some [(vi 3), (.clo (.func 64) [] [(.box 24001 0), (.box 34002 0)])]) : (Option (List AV))) = (some [(vi 3), (.clo (.func 64) [] [(.box 24001 0), (.box 34002 0)])])) ∧
            ((((some [(.d (.con (.slice none 0 0))), (vi 0), (vi 0), (vi 0)]) : (Option (List AV))) = (some [(.d (.con (.slice none 0 0))), (vi 0), (vi 0), (vi 0)])) ∧
            ((((some [(.d (.slc 7 (List.length L) (lnsF L))), (.vec 900 3 0 (List.length (T.ps u))), (vi (T.p u)), (vi (T.q u)), (vi 0), (vb (T.wr u))]) : (Option (List AV))) = (some [(.d (.slc 7 (List.length L) (lnsF L))), (.vec 900 3 0 (List.length (T.ps u))), (vi (T.p u)), (vi (T.q u)), (vi 0), (vb (T.wr u))])) ∧
            ((((some [(.arr ⟨true, 50, false, none⟩ 3 (ptR (T.ps u)))]) : (Option (List AV))) = (some [(.arr ⟨true, 50, false, none⟩ 3 (ptR (T.ps u)))])) ∧
            ((((some [(.box 21 0)]) : (Option (List AV))) = (some [(.box 21 0)])) ∧
            ((((some [(.d (.con (.func (.func 65) ⟨[]⟩ ⟨[]⟩)))]) : (Option (List AV))) = (some [(.d (.con (.func (.func 65) ⟨[]⟩ ⟨[]⟩)))])) ∧
            ((((some [(.d (.con (.func (.func 44) ⟨[]⟩ ⟨[]⟩)))]) : (Option (List AV))) = (some [(.d (.con (.func (.func 44) ⟨[]⟩ ⟨[]⟩)))])) ∧
            True))))))))) (by kernel_rfl) ?_
            exact ⟨⟨rfl, rfl, rfl, rfl, rfl, rfl, rfl, rfl, rfl, trivial⟩, rfl, rfl, rfl, rfl, rfl, rfl, rfl, trivial⟩
          · simp only [decide_eq_true_eq] at h; simp only; omega
          · simp only
            rw [phase_off, ← hu]
            rintro ⟨h3, h4⟩
            rw [h3, h4] at h2
            simp at h2
          · simp only [decide_eq_true_eq] at h; simp only; omega
          · simp only [decide_eq_false_iff_not] at h
            have hi2 : i = L.length := by omega
            subst hi2
            refine walk (orc := orcK L u) (keep := []) (cuts := []) (n := 1000) follows ?_
            refine of_eqH (b :=
              ((I64 ((2 : Int) + (1 : Int))) ∧
              Again (fun x => S12 L (Prod.fst x) (Prod.snd x)) (fun x => Prod.fst x ≤ (4 : Nat) ∧ Prod.snd x = tk L (Prod.fst x)) (fun x => (4 : Nat) - Prod.fst x) (((2 : Nat), t)) ⟨regs 53 [(0, (.d (.slc 7 (List.length L) (lnsF L)))), (2, (.box 2 0)), (4, (.box 21 0)), (6, (.box 6 0)), (23, (.agg [(vi 0), (.clo (.func 66) [(.box 21 0)] []), (vi 1), (.clo (.func 60) [] [(.box 24001 0)]), (vi 3), (.clo (.func 64) [] [(.box 24001 0), (.box 34002 0)]), (vi 2), (.clo (.func 64) [] [(.box 24001 0), (.box 43002 0)])])), (24, (vi 3)), (27, (.d (.slc 7 (List.length L) (lnsF L)))), (28, (vi ((↑(List.length L) : Int)))), (29, (vi ((↑(List.length L) : Int)))), (30, (vb (decide ((↑(List.length L) : Int) < (↑(List.length L) : Int))))), (48, (vi 3))], [(6, [(vi 3), (.clo (.func 64) [] [(.box 24001 0), (.box 34002 0)])]), (2, [(.d (.con (.slice none 0 0))), (vi 0), (vi 0), (vi 0)]), (21, [(.d (.slc 7 (List.length L) (lnsF L))), (.vec 900 3 0 (List.length (T.ps u))), (vi (T.p u)), (vi (T.q u)), (vi 0), (vb (T.wr u))]), (900, [(.arr ⟨true, 50, false, none⟩ 3 (ptR (T.ps u)))]), (24001, [(.box 21 0)]), (34002, [(.d (.con (.func (.func 65) ⟨[]⟩ ⟨[]⟩)))]), (43002, [(.d (.con (.func (.func 44) ⟨[]⟩ ⟨[]⟩)))])]⟩)) (by kernel_rfl) ?_
            refine ⟨⟨by decide, by decide⟩, Again.mk (3, u) ?_ ⟨by simp only; omega, ?_⟩ (by simp only; omega)⟩
            · refine of_eq (b :=
              (((((.d (.slc 7 (List.length L) (lnsF L))) : AV) = (.d (.slc 7 (List.length L) (lnsF L)))) ∧
              ((((.box 2 0) : AV) = (.box 2 0)) ∧
              ((((.box 21 0) : AV) = (.box 21 0)) ∧
              ((((.agg [(vi 0), (.clo (.func 66) [(.box 21 0)] []), (vi 1), (.clo (.func 60) [] [(.box 24001 0)]), (vi 3), (.clo (.func 64) [] [(.box 24001 0), (.box 34002 0)]), (vi 2), (.clo (.func 64) [] [(.box 24001 0), (.box 43002 0)])]) : AV) = (.agg [(vi 0), (.clo (.func 66) [(.box 21 0)] []), (vi 1), (.clo (.func 60) [] [(.box 24001 0)]), (vi 3), (.clo (.func 64) [] [(.box 24001 0), (.box 34002 0)]), (vi 2), (.clo (.func 64) [] [(.box 24001 0), (.box 43002 0)])])) ∧
              ((((vi 3) : AV) = (vi ((↑(3 : Nat) : Int)))) ∧
              True))))) ∧
              ((((some [(.d (.con (.slice none 0 0))), (vi 0), (vi 0), (vi 0)]) : (Option (List AV))) = (some [(.d (.con (.slice none 0 0))), (vi 0), (vi 0), (vi 0)])) ∧
              ((((some [(.d (.slc 7 (List.length L) (lnsF L))), (.vec 900 3 0 (List.length (T.ps u))), (vi (T.p u)), (vi (T.q u)), (vi 0), (vb (T.wr u))]) : (Option (List AV))) = (some [(.d (.slc 7 (List.length L) (lnsF L))), (.vec 900 3 0 (List.length (T.ps u))), (vi (T.p u)), (vi (T.q u)), (vi 0), (vb (T.wr u))])) ∧
              ((((some [(.arr ⟨true, 50, false, none⟩ 3 (ptR (T.ps u)))]) : (Option (List AV))) = (some [(.arr ⟨true, 50, false, none⟩ 3 (ptR (T.ps u)))])) ∧
              ((((some [(.box 21 0)]) : (Option (List AV))) = (some [(.box 21 0)])) ∧
              ((((some [(.d (.con (.func (.func 65) ⟨[]⟩ ⟨[]⟩)))]) : (Option (List AV))) = (some [(.d (.con (.func (.func 65) ⟨[]⟩ ⟨[]⟩)))])) ∧
              ((((some [(.d (.con (.func (.func 44) ⟨[]⟩ ⟨[]⟩)))]) : (Option (List AV))) = (some [(.d (.con (.func (.func 44) ⟨[]⟩ ⟨[]⟩)))])) ∧
              True)))))))) (by kernel_rfl) ?_
              exact ⟨⟨rfl, rfl, rfl, rfl, rfl, trivial⟩, rfl, rfl, rfl, rfl, rfl, rfl, trivial⟩
            · simp only
              rw [hu, ht]; rfl
      · refine walk (orc := orcK L t) (keep := []) (cuts := []) (n := 1000) follows ?_
        refine of_eqH (b :=
          (((true = true) →
          ((((0 : Int) ≤ (3 : Int)) ∧
          ((3 : Int) < (↑(4 : Nat) : Int))) ∧
          AWP Tryz.prog G [.code (cAt (bodyOf Tryz.f12) [1, 1, 1, 0, 1, 0, 0, 1, 1, 0, 0, 1, 1, 0]), (.blk 2), (.blk 1), .code (cAt (bodyOf Tryz.f12) [1, 1, 1, 0, 1, 0, 0, 1, 1, 1])] ⟨regs 53 [(0, (.d (.slc 7 (List.length L) (lnsF L)))), (2, (.box 2 0)), (4, (.box 21 0)), (6, (.box 6 0)), (23, (.agg [(vi 0), (.clo (.func 66) [(.box 21 0)] []), (vi 1), (.clo (.func 60) [] [(.box 24001 0)]), (vi 3), (.clo (.func 64) [] [(.box 24001 0), (.box 34002 0)]), (vi 2), (.clo (.func 64) [] [(.box 24001 0), (.box 43002 0)])])), (24, (vi 3)), (25, (vb true)), (26, (.agg [(vi 2), (.clo (.func 64) [] [(.box 24001 0), (.box 43002 0)])])), (27, (.d (.slc 7 (List.length L) (lnsF L)))), (28, (vi ((↑(List.length L) : Int)))), (29, (vi 0))], [(6, [(vi 2), (.clo (.func 64) [] [(.box 24001 0), (.box 43002 0)])]), (2, [(.d (.con (.slice none 0 0))), (vi 0), (vi 0), (vi 0)]), (21, [(.d (.slc 7 (List.length L) (lnsF L))), (.vec 900 3 0 (List.length (T.ps t))), (vi (T.p t)), (vi (T.q t)), (vi 0), (vb (T.wr t))]), (900, [(.arr ⟨true, 50, false, none⟩ 3 (ptR (T.ps t)))]), (24001, [(.box 21 0)]), (34002, [(.d (.con (.func (.func 65) ⟨[]⟩ ⟨[]⟩)))]), (43002, [(.d (.con (.func (.func 44) ⟨[]⟩ ⟨[]⟩)))])]⟩ (RoundQ Tryz.prog G [It.blk (0 : Nat), It.code (Code.seq (Code.region (14 : Nat) #[{ dst := some (49 : Nat), op := Op.move (Operand.tmp (4 : Nat)), type := (57 : Nat), pos := "credit.go:133", after := #[], guard := none }, { dst := some (50 : Nat), op := Op.call { callee := Callee.value (Operand.func (35 : Nat)), args := #[Operand.tmp (49 : Nat)], argTypes := #[(57 : Nat)] }, type := (31 : Nat), pos := "credit.go:133", after := #[{ on := (0 : Nat), ground := Ground.data }], guard := none }, { dst := some (51 : Nat), op := Op.extract (Operand.tmp (50 : Nat)) (0 : Nat), type := (29 : Nat), pos := "credit.go:133", after := #[{ on := (1 : Nat), ground := Ground.data }], guard := none }, { dst := some (52 : Nat), op := Op.extract (Operand.tmp (50 : Nat)) (1 : Nat), type := (30 : Nat), pos := "credit.go:133", after := #[{ on := (1 : Nat), ground := Ground.data }], guard := none }, { dst := none, op := Op.store (29 : Nat) (Operand.tmp (2 : Nat)) (Operand.tmp (51 : Nat)), type := (0 : Nat), pos := "credit.go:133", after := #[{ on := (2 : Nat), ground := Ground.data }, { on := (1 : Nat), ground := Ground.chain }, { on := (0 : Nat), ground := Ground.phase }, { on := (1 : Nat), ground := Ground.phase }, { on := (2 : Nat), ground := Ground.phase }, { on := (3 : Nat), ground := Ground.phase }], guard := none }, { dst := some (3 : Nat), op := Op.assign (Operand.tmp (52 : Nat)), type := (30 : Nat), pos := "credit.go:133", after := #[{ on := (3 : Nat), ground := Ground.data }, { on := (4 : Nat), ground := Ground.chain }, { on := (0 : Nat), ground := Ground.phase }, { on := (1 : Nat), ground := Ground.phase }, { on := (2 : Nat), ground := Ground.phase }, { on := (3 : Nat), ground := Ground.phase }, { on := (4 : Nat), ground := Ground.phase }], guard := none }] false) Code.ret)] (Ret Tryz.prog Tryz.f12 r) (fun x => S12 L (Prod.fst x) (Prod.snd x)) (fun x => Prod.fst x ≤ (4 : Nat) ∧ Prod.snd x = tk L (Prod.fst x)) (fun x => (4 : Nat) - Prod.fst x) ((3 : Nat), t)))) ∧
          ((true = false) →
          AWP Tryz.prog G [.code (cAt (bodyOf Tryz.f12) [1, 1, 1, 1])] ⟨regs 53 [(0, (.d (.slc 7 (List.length L) (lnsF L)))), (2, (.box 2 0)), (4, (.box 21 0)), (23, (.agg [(vi 0), (.clo (.func 66) [(.box 21 0)] []), (vi 1), (.clo (.func 60) [] [(.box 24001 0)]), (vi 3), (.clo (.func 64) [] [(.box 24001 0), (.box 34002 0)]), (vi 2), (.clo (.func 64) [] [(.box 24001 0), (.box 43002 0)])])), (24, (vi 3)), (25, (vb true))], [(2, [(.d (.con (.slice none 0 0))), (vi 0), (vi 0), (vi 0)]), (21, [(.d (.slc 7 (List.length L) (lnsF L))), (.vec 900 3 0 (List.length (T.ps t))), (vi (T.p t)), (vi (T.q t)), (vi 0), (vb (T.wr t))]), (900, [(.arr ⟨true, 50, false, none⟩ 3 (ptR (T.ps t)))]), (24001, [(.box 21 0)]), (34002, [(.d (.con (.func (.func 65) ⟨[]⟩ ⟨[]⟩)))]), (43002, [(.d (.con (.func (.func 44) ⟨[]⟩ ⟨[]⟩)))])]⟩ (Ret Tryz.prog Tryz.f12 r)))) (by kernel_rfl) ?_
        simp only [Bool.false_eq_true, Bool.true_eq_false, false_implies, true_implies, true_and, and_true, forall_const]
        refine ⟨⟨by decide, by decide⟩, ?_⟩
        refine AWP.loop (c := cAt (bodyOf Tryz.f12) [1, 1, 1, 0, 1, 0, 0, 1, 1, 0, 0, 1, 1, 0, 0]) (by kernel_rfl) (fun x : Nat × T => S12i L 3 2 (.clo (.func 64) [] [.box 24001 0, .box 43002 0]) x.1 x.2) (fun x => x.1 ≤ L.length ∧ x.2 = phase L 2 x.1 t) (fun x => L.length - x.1) (0, t) ?_ ⟨Nat.zero_le _, rfl⟩ ?_
        · refine of_eq (b :=
          (((((.d (.slc 7 (List.length L) (lnsF L))) : AV) = (.d (.slc 7 (List.length L) (lnsF L)))) ∧
          ((((.box 2 0) : AV) = (.box 2 0)) ∧
          ((((.box 21 0) : AV) = (.box 21 0)) ∧
          ((((.box 6 0) : AV) = (.box 6 0)) ∧
          ((((.agg [(vi 0), (.clo (.func 66) [(.box 21 0)] []), (vi 1), (.clo (.func 60) [] [(.box 24001 0)]), (vi 3), (.clo (.func 64) [] [(.box 24001 0), (.box 34002 0)]), (vi 2), (.clo (.func 64) [] [(.box 24001 0), (.box 43002 0)])]) : AV) = (.agg [(vi 0), (.clo (.func 66) [(.box 21 0)] []), (vi 1), (.clo (.func 60) [] [(.box 24001 0)]), (vi 3), (.clo (.func 64) [] [(.box 24001 0), (.box 34002 0)]), (vi 2), (.clo (.func 64) [] [(.box 24001 0), (.box 43002 0)])])) ∧
          ((((vi 3) : AV) = (vi 3)) ∧
          ((((.d (.slc 7 (List.length L) (lnsF L))) : AV) = (.d (.slc 7 (List.length L) (lnsF L)))) ∧
          ((((vi ((↑(List.length L) : Int))) : AV) = (vi ((↑(List.length L) : Int)))) ∧
          ((((vi 0) : AV) = (vi ((↑(0 : Nat) : Int)))) ∧
          True))))))))) ∧
          ((((some [(vi 2), (.clo (.func 64) [] [(.box 24001 0), (.box 43002 0)])]) : (Option (List AV))) = (some [(vi 2), (.clo (.func 64) [] [(.box 24001 0), (.box 43002 0)])])) ∧
          ((((some [(.d (.con (.slice none 0 0))), (vi 0), (vi 0), (vi 0)]) : (Option (List AV))) = (some [(.d (.con (.slice none 0 0))), (vi 0), (vi 0), (vi 0)])) ∧
          ((((some [(.d (.slc 7 (List.length L) (lnsF L))), (.vec 900 3 0 (List.length (T.ps t))), (vi (T.p t)), (vi (T.q t)), (vi 0), (vb (T.wr t))]) : (Option (List AV))) = (some [(.d (.slc 7 (List.length L) (lnsF L))), (.vec 900 3 0 (List.length (T.ps t))), (vi (T.p t)), (vi (T.q t)), (vi 0), (vb (T.wr t))])) ∧
          ((((some [(.arr ⟨true, 50, false, none⟩ 3 (ptR (T.ps t)))]) : (Option (List AV))) = (some [(.arr ⟨true, 50, false, none⟩ 3 (ptR (T.ps t)))])) ∧
          ((((some [(.box 21 0)]) : (Option (List AV))) = (some [(.box 21 0)])) ∧
          ((((some [(.d (.con (.func (.func 65) ⟨[]⟩ ⟨[]⟩)))]) : (Option (List AV))) = (some [(.d (.con (.func (.func 65) ⟨[]⟩ ⟨[]⟩)))])) ∧
          ((((some [(.d (.con (.func (.func 44) ⟨[]⟩ ⟨[]⟩)))]) : (Option (List AV))) = (some [(.d (.con (.func (.func 44) ⟨[]⟩ ⟨[]⟩)))])) ∧
          True))))))))) (by kernel_rfl) ?_
          exact ⟨⟨rfl, rfl, rfl, rfl, rfl, rfl, rfl, rfl, rfl, trivial⟩, rfl, rfl, rfl, rfl, rfl, rfl, rfl, trivial⟩
        · rintro ⟨i, u⟩ ⟨hi, hu⟩
          simp only at hi hu
          have hul : u.ps.length ≤ 1000000 := by
            have h1 := phase_len L 2 t i
            have h2 := tk_len L 3
            rw [← ht] at h2
            rw [← hu] at h1
            omega
          refine walk (orc := orcK L u) (keep := []) (cuts := []) (n := 1000) follows ?_
          refine of_eqH (b :=
            ((((decide ((↑i : Int) < (↑(List.length L) : Int))) = true) →
            ((((0 : Int) ≤ (↑i : Int)) ∧
            ((↑i : Int) < (↑(List.length L) : Int))) ∧
            ((((Ln.app (List.getD L (Int.toNat (↑i : Int)) ln0) && Ln.kind (List.getD L (Int.toNat (↑i : Int)) ln0) == (2 : Int)) = true) →
            (FnM Tryz.prog G 64 [(vi ((↑i : Int))), (.box 1000000 0), (.box 1000001 0)] [(1000000, [(.box 1000002 0)]), (1000001, [(.d (.con (.func (.func 44) ⟨[]⟩ ⟨[]⟩)))]), (1000002, [(.d (.slc 7 (List.length L) (lnsF L))), (.vec 1000003 3 0 (List.length (T.ps u))), (vi (T.p u)), (vi (T.q u)), (vi 0), (vb (T.wr u))]), (1000003, [(.arr ⟨true, 50, false, none⟩ 3 (ptR (T.ps u)))])] (.d (.tup [])) [(1000000, [(.box 1000002 0)]), (1000001, [(.d (.con (.func (.func 44) ⟨[]⟩ ⟨[]⟩)))]), (1000002, [(.d (.slc 7 (List.length L) (lnsF L))), (.vec 900 3 0 (List.length (T.ps (capT L (Int.toNat (↑i : Int)) u)))), (vi (T.p (capT L (Int.toNat (↑i : Int)) u))), (vi (T.q (capT L (Int.toNat (↑i : Int)) u))), (vi 0), (vb (T.wr (capT L (Int.toNat (↑i : Int)) u)))]), (900, [(.arr ⟨true, 50, false, none⟩ 3 (ptR (T.ps (capT L (Int.toNat (↑i : Int)) u))))])] ∧
            ((I64 ((↑i : Int) + (1 : Int))) ∧
            Again (fun x => S12i L (3 : Nat) (2 : Int) (AV.clo (Fn.func (64 : FuncId)) [] [AV.box (24001 : Nat) (0 : Nat), AV.box (43002 : Nat) (0 : Nat)]) (Prod.fst x) (Prod.snd x)) (fun x => Prod.fst x ≤ List.length L ∧ Prod.snd x = phase L (2 : Int) (Prod.fst x) t) (fun x => List.length L - Prod.fst x) ((i, u)) ⟨regs 53 [(0, (.d (.slc 7 (List.length L) (lnsF L)))), (2, (.box 2 0)), (4, (.box 21 0)), (6, (.box 6 0)), (7, (vi ((↑i : Int)))), (8, (.box 8 0)), (23, (.agg [(vi 0), (.clo (.func 66) [(.box 21 0)] []), (vi 1), (.clo (.func 60) [] [(.box 24001 0)]), (vi 3), (.clo (.func 64) [] [(.box 24001 0), (.box 34002 0)]), (vi 2), (.clo (.func 64) [] [(.box 24001 0), (.box 43002 0)])])), (24, (vi 3)), (27, (.d (.slc 7 (List.length L) (lnsF L)))), (28, (vi ((↑(List.length L) : Int)))), (29, (vi ((↑i : Int) + (1 : Int)))), (30, (vb (decide ((↑i : Int) < (↑(List.length L) : Int))))), (31, (vi ((↑i : Int)))), (32, (.d (.ptr [(ds (Ln.name (List.getD L (Int.toNat (↑i : Int)) ln0))), (ds (Ln.group (List.getD L (Int.toNat (↑i : Int)) ln0))), (di (Ln.kind (List.getD L (Int.toNat (↑i : Int)) ln0))), (db (Ln.app (List.getD L (Int.toNat (↑i : Int)) ln0))), (di (Ln.n (List.getD L (Int.toNat (↑i : Int)) ln0))), (di (Ln.d (List.getD L (Int.toNat (↑i : Int)) ln0))), (di (Ln.err (List.getD L (Int.toNat (↑i : Int)) ln0)))]))), (33, (.d (.agg [(ds (Ln.name (List.getD L (Int.toNat (↑i : Int)) ln0))), (ds (Ln.group (List.getD L (Int.toNat (↑i : Int)) ln0))), (di (Ln.kind (List.getD L (Int.toNat (↑i : Int)) ln0))), (db (Ln.app (List.getD L (Int.toNat (↑i : Int)) ln0))), (di (Ln.n (List.getD L (Int.toNat (↑i : Int)) ln0))), (di (Ln.d (List.getD L (Int.toNat (↑i : Int)) ln0))), (di (Ln.err (List.getD L (Int.toNat (↑i : Int)) ln0)))]))), (34, (.box 8 3)), (35, (vb (Ln.app (List.getD L (Int.toNat (↑i : Int)) ln0)))), (36, (vb (Ln.app (List.getD L (Int.toNat (↑i : Int)) ln0)))), (42, (vb (Ln.app (List.getD L (Int.toNat (↑i : Int)) ln0) && Ln.kind (List.getD L (Int.toNat (↑i : Int)) ln0) == (2 : Int)))), (43, (.box 6 1)), (44, (.clo (.func 64) [] [(.box 24001 0), (.box 43002 0)])), (45, (vi ((↑i : Int)))), (46, (.d (.tup []))), (47, (vi ((↑i : Int) + (1 : Int))))], [(47900, [(.arr ⟨true, 50, false, none⟩ 3 (ptR (T.ps (capT L (Int.toNat (↑i : Int)) u))))]), (8, [(vs (Ln.name (List.getD L (Int.toNat (↑i : Int)) ln0))), (vs (Ln.group (List.getD L (Int.toNat (↑i : Int)) ln0))), (vi (Ln.kind (List.getD L (Int.toNat (↑i : Int)) ln0))), (vb (Ln.app (List.getD L (Int.toNat (↑i : Int)) ln0))), (vi (Ln.n (List.getD L (Int.toNat (↑i : Int)) ln0))), (vi (Ln.d (List.getD L (Int.toNat (↑i : Int)) ln0))), (vi (Ln.err (List.getD L (Int.toNat (↑i : Int)) ln0)))]), (6, [(vi 2), (.clo (.func 64) [] [(.box 24001 0), (.box 43002 0)])]), (2, [(.d (.con (.slice none 0 0))), (vi 0), (vi 0), (vi 0)]), (21, [(.d (.slc 7 (List.length L) (lnsF L))), (.vec 47900 3 0 (List.length (T.ps (capT L (Int.toNat (↑i : Int)) u)))), (vi (T.p (capT L (Int.toNat (↑i : Int)) u))), (vi (T.q (capT L (Int.toNat (↑i : Int)) u))), (vi 0), (vb (T.wr (capT L (Int.toNat (↑i : Int)) u)))]), (900, [.dead]), (24001, [(.box 21 0)]), (34002, [(.d (.con (.func (.func 65) ⟨[]⟩ ⟨[]⟩)))]), (43002, [(.d (.con (.func (.func 44) ⟨[]⟩ ⟨[]⟩)))])]⟩))) ∧
            (((Ln.app (List.getD L (Int.toNat (↑i : Int)) ln0) && Ln.kind (List.getD L (Int.toNat (↑i : Int)) ln0) == (2 : Int)) = false) →
            ((I64 ((↑i : Int) + (1 : Int))) ∧
            Again (fun x => S12i L (3 : Nat) (2 : Int) (AV.clo (Fn.func (64 : FuncId)) [] [AV.box (24001 : Nat) (0 : Nat), AV.box (43002 : Nat) (0 : Nat)]) (Prod.fst x) (Prod.snd x)) (fun x => Prod.fst x ≤ List.length L ∧ Prod.snd x = phase L (2 : Int) (Prod.fst x) t) (fun x => List.length L - Prod.fst x) ((i, u)) ⟨regs 53 [(0, (.d (.slc 7 (List.length L) (lnsF L)))), (2, (.box 2 0)), (4, (.box 21 0)), (6, (.box 6 0)), (7, (vi ((↑i : Int)))), (8, (.box 8 0)), (23, (.agg [(vi 0), (.clo (.func 66) [(.box 21 0)] []), (vi 1), (.clo (.func 60) [] [(.box 24001 0)]), (vi 3), (.clo (.func 64) [] [(.box 24001 0), (.box 34002 0)]), (vi 2), (.clo (.func 64) [] [(.box 24001 0), (.box 43002 0)])])), (24, (vi 3)), (27, (.d (.slc 7 (List.length L) (lnsF L)))), (28, (vi ((↑(List.length L) : Int)))), (29, (vi ((↑i : Int) + (1 : Int)))), (30, (vb (decide ((↑i : Int) < (↑(List.length L) : Int))))), (31, (vi ((↑i : Int)))), (32, (.d (.ptr [(ds (Ln.name (List.getD L (Int.toNat (↑i : Int)) ln0))), (ds (Ln.group (List.getD L (Int.toNat (↑i : Int)) ln0))), (di (Ln.kind (List.getD L (Int.toNat (↑i : Int)) ln0))), (db (Ln.app (List.getD L (Int.toNat (↑i : Int)) ln0))), (di (Ln.n (List.getD L (Int.toNat (↑i : Int)) ln0))), (di (Ln.d (List.getD L (Int.toNat (↑i : Int)) ln0))), (di (Ln.err (List.getD L (Int.toNat (↑i : Int)) ln0)))]))), (33, (.d (.agg [(ds (Ln.name (List.getD L (Int.toNat (↑i : Int)) ln0))), (ds (Ln.group (List.getD L (Int.toNat (↑i : Int)) ln0))), (di (Ln.kind (List.getD L (Int.toNat (↑i : Int)) ln0))), (db (Ln.app (List.getD L (Int.toNat (↑i : Int)) ln0))), (di (Ln.n (List.getD L (Int.toNat (↑i : Int)) ln0))), (di (Ln.d (List.getD L (Int.toNat (↑i : Int)) ln0))), (di (Ln.err (List.getD L (Int.toNat (↑i : Int)) ln0)))]))), (34, (.box 8 3)), (35, (vb (Ln.app (List.getD L (Int.toNat (↑i : Int)) ln0)))), (36, (vb (Ln.app (List.getD L (Int.toNat (↑i : Int)) ln0)))), (42, (vb (Ln.app (List.getD L (Int.toNat (↑i : Int)) ln0) && Ln.kind (List.getD L (Int.toNat (↑i : Int)) ln0) == (2 : Int)))), (47, (vi ((↑i : Int) + (1 : Int))))], [(8, [(vs (Ln.name (List.getD L (Int.toNat (↑i : Int)) ln0))), (vs (Ln.group (List.getD L (Int.toNat (↑i : Int)) ln0))), (vi (Ln.kind (List.getD L (Int.toNat (↑i : Int)) ln0))), (vb (Ln.app (List.getD L (Int.toNat (↑i : Int)) ln0))), (vi (Ln.n (List.getD L (Int.toNat (↑i : Int)) ln0))), (vi (Ln.d (List.getD L (Int.toNat (↑i : Int)) ln0))), (vi (Ln.err (List.getD L (Int.toNat (↑i : Int)) ln0)))]), (6, [(vi 2), (.clo (.func 64) [] [(.box 24001 0), (.box 43002 0)])]), (2, [(.d (.con (.slice none 0 0))), (vi 0), (vi 0), (vi 0)]), (21, [(.d (.slc 7 (List.length L) (lnsF L))), (.vec 900 3 0 (List.length (T.ps u))), (vi (T.p u)), (vi (T.q u)), (vi 0), (vb (T.wr u))]), (900, [(.arr ⟨true, 50, false, none⟩ 3 (ptR (T.ps u)))]), (24001, [(.box 21 0)]), (34002, [(.d (.con (.func (.func 65) ⟨[]⟩ ⟨[]⟩)))]), (43002, [(.d (.con (.func (.func 44) ⟨[]⟩ ⟨[]⟩)))])]⟩))))) ∧
            (((decide ((↑i : Int) < (↑(List.length L) : Int))) = false) →
            AWP Tryz.prog G [(.blk 1), .code (cAt (bodyOf Tryz.f12) [1, 1, 1, 0, 1, 0, 0, 1, 1, 1])] ⟨regs 53 [(0, (.d (.slc 7 (List.length L) (lnsF L)))), (2, (.box 2 0)), (4, (.box 21 0)), (6, (.box 6 0)), (23, (.agg [(vi 0), (.clo (.func 66) [(.box 21 0)] []), (vi 1), (.clo (.func 60) [] [(.box 24001 0)]), (vi 3), (.clo (.func 64) [] [(.box 24001 0), (.box 34002 0)]), (vi 2), (.clo (.func 64) [] [(.box 24001 0), (.box 43002 0)])])), (24, (vi 3)), (27, (.d (.slc 7 (List.length L) (lnsF L)))), (28, (vi ((↑(List.length L) : Int)))), (29, (vi ((↑i : Int)))), (30, (vb (decide ((↑i : Int) < (↑(List.length L) : Int)))))], [(6, [(vi 2), (.clo (.func 64) [] [(.box 24001 0), (.box 43002 0)])]), (2, [(.d (.con (.slice none 0 0))), (vi 0), (vi 0), (vi 0)]), (21, [(.d (.slc 7 (List.length L) (lnsF L))), (.vec 900 3 0 (List.length (T.ps u))), (vi (T.p u)), (vi (T.q u)), (vi 0), (vb (T.wr u))]), (900, [(.arr ⟨true, 50, false, none⟩ 3 (ptR (T.ps u)))]), (24001, [(.box 21 0)]), (34002, [(.d (.con (.func (.func 65) ⟨[]⟩ ⟨[]⟩)))]), (43002, [(.d (.con (.func (.func 44) ⟨[]⟩ ⟨[]⟩)))])]⟩ (RoundQ Tryz.prog G [It.blk (0 : Nat), It.code (Code.seq (Code.region (14 : Nat) #[{ dst := some (49 : Nat), op := Op.move (Operand.tmp (4 : Nat)), type := (57 : Nat), pos := "credit.go:133", after := #[], guard := none }, { dst := some (50 : Nat), op := Op.call { callee := Callee.value (Operand.func (35 : Nat)), args := #[Operand.tmp (49 : Nat)], argTypes := #[(57 : Nat)] }, type := (31 : Nat), pos := "credit.go:133", after := #[{ on := (0 : Nat), ground := Ground.data }], guard := none }, { dst := some (51 : Nat), op := Op.extract (Operand.tmp (50 : Nat)) (0 : Nat), type := (29 : Nat), pos := "credit.go:133", after := #[{ on := (1 : Nat), ground := Ground.data }], guard := none }, { dst := some (52 : Nat), op := Op.extract (Operand.tmp (50 : Nat)) (1 : Nat), type := (30 : Nat), pos := "credit.go:133", after := #[{ on := (1 : Nat), ground := Ground.data }], guard := none }, { dst := none, op := Op.store (29 : Nat) (Operand.tmp (2 : Nat)) (Operand.tmp (51 : Nat)), type := (0 : Nat), pos := "credit.go:133", after := #[{ on := (2 : Nat), ground := Ground.data }, { on := (1 : Nat), ground := Ground.chain }, { on := (0 : Nat), ground := Ground.phase }, { on := (1 : Nat), ground := Ground.phase }, { on := (2 : Nat), ground := Ground.phase }, { on := (3 : Nat), ground := Ground.phase }], guard := none }, { dst := some (3 : Nat), op := Op.assign (Operand.tmp (52 : Nat)), type := (30 : Nat), pos := "credit.go:133", after := #[{ on := (3 : Nat), ground := Ground.data }, { on := (4 : Nat), ground := Ground.chain }, { on := (0 : Nat), ground := Ground.phase }, { on := (1 : Nat), ground := Ground.phase }, { on := (2 : Nat), ground := Ground.phase }, { on := (3 : Nat), ground := Ground.phase }, { on := (4 : Nat), ground := Ground.phase }], guard := none }] false) Code.ret)] (Ret Tryz.prog Tryz.f12 r) (fun x => S12 L (Prod.fst x) (Prod.snd x)) (fun x => Prod.fst x ≤ (4 : Nat) ∧ Prod.snd x = tk L (Prod.fst x)) (fun x => (4 : Nat) - Prod.fst x) ((3 : Nat), t))))) (by kernel_rfl) ?_
          simp only [Int.toNat_natCast]
          refine ⟨fun h => ⟨⟨by omega, of_decide_eq_true h⟩, fun h2 => ⟨f64_44 hZ L u i (by have := of_decide_eq_true h; omega) (by omega) hul, ⟨by omega, by omega⟩, Again.mkR [(47900, 900)] rfl (i + 1, capT L i u) ?_ ⟨?_, ?_⟩ ?_⟩, fun h2 => ⟨⟨by omega, by omega⟩, Again.mk (i + 1, u) ?_ ⟨?_, ?_⟩ ?_⟩⟩, fun h => ?_⟩
          · refine of_eq (b :=
            (((((.d (.slc 7 (List.length L) (lnsF L))) : AV) = (.d (.slc 7 (List.length L) (lnsF L)))) ∧
            ((((.box 2 0) : AV) = (.box 2 0)) ∧
            ((((.box 21 0) : AV) = (.box 21 0)) ∧
            ((((.box 6 0) : AV) = (.box 6 0)) ∧
            ((((.agg [(vi 0), (.clo (.func 66) [(.box 21 0)] []), (vi 1), (.clo (.func 60) [] [(.box 24001 0)]), (vi 3), (.clo (.func 64) [] [(.box 24001 0), (.box 34002 0)]), (vi 2), (.clo (.func 64) [] [(.box 24001 0), (.box 43002 0)])]) : AV) = (.agg [(vi 0), (.clo (.func 66) [(.box 21 0)] []), (vi 1), (.clo (.func 60) [] [(.box 24001 0)]), (vi 3), (.clo (.func 64) [] [(.box 24001 0), (.box 34002 0)]), (vi 2), (.clo (.func 64) [] [(.box 24001 0), (.box 43002 0)])])) ∧
            ((((vi 3) : AV) = (vi 3)) ∧
            ((((.d (.slc 7 (List.length L) (lnsF L))) : AV) = (.d (.slc 7 (List.length L) (lnsF L)))) ∧
            ((((vi ((↑(List.length L) : Int))) : AV) = (vi ((↑(List.length L) : Int)))) ∧
            ((((vi ((↑i : Int) + (1 : Int))) : AV) = (vi ((↑(i + (1 : Nat)) : Int)))) ∧
            True))))))))) ∧
            ((((some [(vi 2), (.clo (.func 64) [] [(.box 24001 0), (.box 43002 0)])]) : (Option (List AV))) = (some [(vi 2), (.clo (.func 64) [] [(.box 24001 0), (.box 43002 0)])])) ∧
            ((((some [(.d (.con (.slice none 0 0))), (vi 0), (vi 0), (vi 0)]) : (Option (List AV))) = (some [(.d (.con (.slice none 0 0))), (vi 0), (vi 0), (vi 0)])) ∧
            ((((some [(.d (.slc 7 (List.length L) (lnsF L))), (.vec 900 3 0 (List.length (T.ps (capT L i u)))), (vi (T.p (capT L i u))), (vi (T.q (capT L i u))), (vi 0), (vb (T.wr (capT L i u)))]) : (Option (List AV))) = (some [(.d (.slc 7 (List.length L) (lnsF L))), (.vec 900 3 0 (List.length (T.ps (capT L i u)))), (vi (T.p (capT L i u))), (vi (T.q (capT L i u))), (vi 0), (vb (T.wr (capT L i u)))])) ∧
            ((((some [(.arr ⟨true, 50, false, none⟩ 3 (ptR (T.ps (capT L i u))))]) : (Option (List AV))) = (some [(.arr ⟨true, 50, false, none⟩ 3 (ptR (T.ps (capT L i u))))])) ∧
            ((((some [(.box 21 0)]) : (Option (List AV))) = (some [(.box 21 0)])) ∧
            ((((some [(.d (.con (.func (.func 65) ⟨[]⟩ ⟨[]⟩)))]) : (Option (List AV))) = (some [(.d (.con (.func (.func 65) ⟨[]⟩ ⟨[]⟩)))])) ∧
            ((((some [(.d (.con (.func (.func 44) ⟨[]⟩ ⟨[]⟩)))]) : (Option (List AV))) = (some [(.d (.con (.func (.func 44) ⟨[]⟩ ⟨[]⟩)))])) ∧
            True))))))))) (by kernel_rfl) ?_
            exact ⟨⟨rfl, rfl, rfl, rfl, rfl, rfl, rfl, rfl, rfl, trivial⟩, rfl, rfl, rfl, rfl, rfl, rfl, rfl, trivial⟩
          · simp only [decide_eq_true_eq] at h; simp only; omega
          · simp only [Bool.and_eq_true, beq_iff_eq] at h2
            simp only
            rw [phase_on h2.1 h2.2, ← hu]; rfl
          · simp only [decide_eq_true_eq] at h; simp only; omega
          · refine of_eq (b :=
            (((((.d (.slc 7 (List.length L) (lnsF L))) : AV) = (.d (.slc 7 (List.length L) (lnsF L)))) ∧
            ((((.box 2 0) : AV) = (.box 2 0)) ∧
            ((((.box 21 0) : AV) = (.box 21 0)) ∧
            ((((.box 6 0) : AV) = (.box 6 0)) ∧
            ((((.agg [(vi 0), (.clo (.func 66) [(.box 21 0)] []), (vi 1), (.clo (.func 60) [] [(.box 24001 0)]), (vi 3), (.clo (.func 64) [] [(.box 24001 0), (.box 34002 0)]), (vi 2), (.clo (.func 64) [] [(.box 24001 0), (.box 43002 0)])]) : AV) = (.agg [(vi 0), (.clo (.func 66) [(.box 21 0)] []), (vi 1), (.clo (.func 60) [] [(.box 24001 0)]), (vi 3), (.clo (.func 64) [] [(.box 24001 0), (.box 34002 0)]), (vi 2), (.clo (.func 64) [] [(.box 24001 0), (.box 43002 0)])])) ∧
            ((((vi 3) : AV) = (vi 3)) ∧
            ((((.d (.slc 7 (List.length L) (lnsF L))) : AV) = (.d (.slc 7 (List.length L) (lnsF L)))) ∧
            ((((vi ((↑(List.length L) : Int))) : AV) = (vi ((↑(List.length L) : Int)))) ∧
            ((((vi ((↑i : Int) + (1 : Int))) : AV) = (vi ((↑(i + (1 : Nat)) : Int)))) ∧
            True))))))))) ∧
            ((((some [(vi 2), (.clo (.func 64) [] [(.box 24001 0), (.box 43002 0)])]) : (Option (List AV))) = (some [(vi 2), (.clo (.func 64) [] [(.box 24001 0), (.box 43002 0)])])) ∧
            ((((some [(.d (.con (.slice none 0 0))), (vi 0), (vi 0), (vi 0)]) : (Option (List AV))) = (some [(.d (.con (.slice none 0 0))), (vi 0), (vi 0), (vi 0)])) ∧
            ((((some [(.d (.slc 7 (List.length L) (lnsF L))), (.vec 900 3 0 (List.length (T.ps u))), (vi (T.p u)), (vi (T.q u)), (vi 0), (vb (T.wr u))]) : (Option (List AV))) = (some [(.d (.slc 7 (List.length L) (lnsF L))), (.vec 900 3 0 (List.length (T.ps u))), (vi (T.p u)), (vi (T.q u)), (vi 0), (vb (T.wr u))])) ∧
            ((((some [(.arr ⟨true, 50, false, none⟩ 3 (ptR (T.ps u)))]) : (Option (List AV))) = (some [(.arr ⟨true, 50, false, none⟩ 3 (ptR (T.ps u)))])) ∧
            ((((some [(.box 21 0)]) : (Option (List AV))) = (some [(.box 21 0)])) ∧
            ((((some [(.d (.con (.func (.func 65) ⟨[]⟩ ⟨[]⟩)))]) : (Option (List AV))) = (some [(.d (.con (.func (.func 65) ⟨[]⟩ ⟨[]⟩)))])) ∧
            ((((some [(.d (.con (.func (.func 44) ⟨[]⟩ ⟨[]⟩)))]) : (Option (List AV))) = (some [(.d (.con (.func (.func 44) ⟨[]⟩ ⟨[]⟩)))])) ∧
            True))))))))) (by kernel_rfl) ?_
            exact ⟨⟨rfl, rfl, rfl, rfl, rfl, rfl, rfl, rfl, rfl, trivial⟩, rfl, rfl, rfl, rfl, rfl, rfl, rfl, trivial⟩
          · simp only [decide_eq_true_eq] at h; simp only; omega
          · simp only
            rw [phase_off, ← hu]
            rintro ⟨h3, h4⟩
            rw [h3, h4] at h2
            simp at h2
          · simp only [decide_eq_true_eq] at h; simp only; omega
          · simp only [decide_eq_false_iff_not] at h
            have hi2 : i = L.length := by omega
            subst hi2
            refine walk (orc := orcK L u) (keep := []) (cuts := []) (n := 1000) follows ?_
            refine of_eqH (b :=
              ((I64 ((3 : Int) + (1 : Int))) ∧
              Again (fun x => S12 L (Prod.fst x) (Prod.snd x)) (fun x => Prod.fst x ≤ (4 : Nat) ∧ Prod.snd x = tk L (Prod.fst x)) (fun x => (4 : Nat) - Prod.fst x) (((3 : Nat), t)) ⟨regs 53 [(0, (.d (.slc 7 (List.length L) (lnsF L)))), (2, (.box 2 0)), (4, (.box 21 0)), (6, (.box 6 0)), (23, (.agg [(vi 0), (.clo (.func 66) [(.box 21 0)] []), (vi 1), (.clo (.func 60) [] [(.box 24001 0)]), (vi 3), (.clo (.func 64) [] [(.box 24001 0), (.box 34002 0)]), (vi 2), (.clo (.func 64) [] [(.box 24001 0), (.box 43002 0)])])), (24, (vi 4)), (27, (.d (.slc 7 (List.length L) (lnsF L)))), (28, (vi ((↑(List.length L) : Int)))), (29, (vi ((↑(List.length L) : Int)))), (30, (vb (decide ((↑(List.length L) : Int) < (↑(List.length L) : Int))))), (48, (vi 4))], [(6, [(vi 2), (.clo (.func 64) [] [(.box 24001 0), (.box 43002 0)])]), (2, [(.d (.con (.slice none 0 0))), (vi 0), (vi 0), (vi 0)]), (21, [(.d (.slc 7 (List.length L) (lnsF L))), (.vec 900 3 0 (List.length (T.ps u))), (vi (T.p u)), (vi (T.q u)), (vi 0), (vb (T.wr u))]), (900, [(.arr ⟨true, 50, false, none⟩ 3 (ptR (T.ps u)))]), (24001, [(.box 21 0)]), (34002, [(.d (.con (.func (.func 65) ⟨[]⟩ ⟨[]⟩)))]), (43002, [(.d (.con (.func (.func 44) ⟨[]⟩ ⟨[]⟩)))])]⟩)) (by kernel_rfl) ?_
            refine ⟨⟨by decide, by decide⟩, Again.mk (4, u) ?_ ⟨by simp only; omega, ?_⟩ (by simp only; omega)⟩
            · refine of_eq (b :=
              (((((.d (.slc 7 (List.length L) (lnsF L))) : AV) = (.d (.slc 7 (List.length L) (lnsF L)))) ∧
              ((((.box 2 0) : AV) = (.box 2 0)) ∧
              ((((.box 21 0) : AV) = (.box 21 0)) ∧
              ((((.agg [(vi 0), (.clo (.func 66) [(.box 21 0)] []), (vi 1), (.clo (.func 60) [] [(.box 24001 0)]), (vi 3), (.clo (.func 64) [] [(.box 24001 0), (.box 34002 0)]), (vi 2), (.clo (.func 64) [] [(.box 24001 0), (.box 43002 0)])]) : AV) = (.agg [(vi 0), (.clo (.func 66) [(.box 21 0)] []), (vi 1), (.clo (.func 60) [] [(.box 24001 0)]), (vi 3), (.clo (.func 64) [] [(.box 24001 0), (.box 34002 0)]), (vi 2), (.clo (.func 64) [] [(.box 24001 0), (.box 43002 0)])])) ∧
              ((((vi 4) : AV) = (vi ((↑(4 : Nat) : Int)))) ∧
              True))))) ∧
              ((((some [(.d (.con (.slice none 0 0))), (vi 0), (vi 0), (vi 0)]) : (Option (List AV))) = (some [(.d (.con (.slice none 0 0))), (vi 0), (vi 0), (vi 0)])) ∧
              ((((some [(.d (.slc 7 (List.length L) (lnsF L))), (.vec 900 3 0 (List.length (T.ps u))), (vi (T.p u)), (vi (T.q u)), (vi 0), (vb (T.wr u))]) : (Option (List AV))) = (some [(.d (.slc 7 (List.length L) (lnsF L))), (.vec 900 3 0 (List.length (T.ps u))), (vi (T.p u)), (vi (T.q u)), (vi 0), (vb (T.wr u))])) ∧
              ((((some [(.arr ⟨true, 50, false, none⟩ 3 (ptR (T.ps u)))]) : (Option (List AV))) = (some [(.arr ⟨true, 50, false, none⟩ 3 (ptR (T.ps u)))])) ∧
              ((((some [(.box 21 0)]) : (Option (List AV))) = (some [(.box 21 0)])) ∧
              ((((some [(.d (.con (.func (.func 65) ⟨[]⟩ ⟨[]⟩)))]) : (Option (List AV))) = (some [(.d (.con (.func (.func 65) ⟨[]⟩ ⟨[]⟩)))])) ∧
              ((((some [(.d (.con (.func (.func 44) ⟨[]⟩ ⟨[]⟩)))]) : (Option (List AV))) = (some [(.d (.con (.func (.func 44) ⟨[]⟩ ⟨[]⟩)))])) ∧
              True)))))))) (by kernel_rfl) ?_
              exact ⟨⟨rfl, rfl, rfl, rfl, rfl, trivial⟩, rfl, rfl, rfl, rfl, rfl, rfl, trivial⟩
            · simp only
              rw [hu, ht]; rfl
      · have ht' : t = combT L := ht
        subst ht'
        cases hbt : badT (combT L) with
        | true =>
          refine walk (orc := orcZ L (combT L) true) (keep := []) (cuts := [14]) (n := 1000) follows ?_
          refine of_eqH (b :=
            (((false = true) →
            False) ∧
            ((false = false) →
            AWP Tryz.prog G [.code (cAt (bodyOf Tryz.f12) [1, 1, 1, 1])] ⟨regs 53 [(0, (.d (.slc 7 (List.length L) (lnsF L)))), (2, (.box 2 0)), (4, (.box 21 0)), (23, (.agg [(vi 0), (.clo (.func 66) [(.box 21 0)] []), (vi 1), (.clo (.func 60) [] [(.box 24001 0)]), (vi 3), (.clo (.func 64) [] [(.box 24001 0), (.box 34002 0)]), (vi 2), (.clo (.func 64) [] [(.box 24001 0), (.box 43002 0)])])), (24, (vi 4)), (25, (vb false))], [(2, [(.d (.con (.slice none 0 0))), (vi 0), (vi 0), (vi 0)]), (21, [(.d (.slc 7 (List.length L) (lnsF L))), (.vec 900 3 0 (List.length (T.ps (combT L)))), (vi (T.p (combT L))), (vi (T.q (combT L))), (vi 0), (vb (T.wr (combT L)))]), (900, [(.arr ⟨true, 50, false, none⟩ 3 (ptR (T.ps (combT L))))]), (24001, [(.box 21 0)]), (34002, [(.d (.con (.func (.func 65) ⟨[]⟩ ⟨[]⟩)))]), (43002, [(.d (.con (.func (.func 44) ⟨[]⟩ ⟨[]⟩)))])]⟩ (Ret Tryz.prog Tryz.f12 r)))) (by kernel_rfl) ?_
          simp only [Bool.false_eq_true, Bool.true_eq_false, false_implies, true_implies, true_and, and_true, forall_const]
          refine walk (orc := orcZ L (combT L) true) (keep := []) (cuts := []) (n := 1000) follows ?_
          refine of_eqH (b :=
            (FnM Tryz.prog G 35 [(.box 1000000 0)] [(1000000, [(.d (.slc 7 (List.length L) (lnsF L))), (.vec 1000001 3 0 (List.length (T.ps (combT L)))), (vi (T.p (combT L))), (vi (T.q (combT L))), (vi 0), (vb (T.wr (combT L)))]), (1000001, [(.arr ⟨true, 50, false, none⟩ 3 (ptR (T.ps (combT L))))])] (.d (.tup [(.agg [(.con (.slice none 0 0)), (di 0), (di 0), (di 0)]), (di 2)])) [(1000000, [(.d (.slc 7 (List.length L) (lnsF L))), (.vec 1000001 3 0 (List.length (T.ps (combT L)))), (vi (T.p (combT L))), (vi (T.q (combT L))), (vi 0), (vb (T.wr (combT L)))]), (1000001, [(.arr ⟨true, 50, false, none⟩ 3 (ptR (T.ps (combT L))))])] ∧
            (((.tup [(.agg [(.con (.slice none 0 0)), (di 0), (di 0), (di 0)]), (di 2)]) : DV) = r))) (by kernel_rfl) ?_
          exact ⟨f35_bad L _ hbt, (hr2 hgood hbt).symm⟩
        | false =>
          refine walk (orc := orcZ L (combT L) false) (keep := []) (cuts := [14]) (n := 1000) follows ?_
          refine of_eqH (b :=
            (((false = true) →
            False) ∧
            ((false = false) →
            AWP Tryz.prog G [.code (cAt (bodyOf Tryz.f12) [1, 1, 1, 1])] ⟨regs 53 [(0, (.d (.slc 7 (List.length L) (lnsF L)))), (2, (.box 2 0)), (4, (.box 21 0)), (23, (.agg [(vi 0), (.clo (.func 66) [(.box 21 0)] []), (vi 1), (.clo (.func 60) [] [(.box 24001 0)]), (vi 3), (.clo (.func 64) [] [(.box 24001 0), (.box 34002 0)]), (vi 2), (.clo (.func 64) [] [(.box 24001 0), (.box 43002 0)])])), (24, (vi 4)), (25, (vb false))], [(2, [(.d (.con (.slice none 0 0))), (vi 0), (vi 0), (vi 0)]), (21, [(.d (.slc 7 (List.length L) (lnsF L))), (.vec 900 3 0 (List.length (T.ps (combT L)))), (vi (T.p (combT L))), (vi (T.q (combT L))), (vi 0), (vb (T.wr (combT L)))]), (900, [(.arr ⟨true, 50, false, none⟩ 3 (ptR (T.ps (combT L))))]), (24001, [(.box 21 0)]), (34002, [(.d (.con (.func (.func 65) ⟨[]⟩ ⟨[]⟩)))]), (43002, [(.d (.con (.func (.func 44) ⟨[]⟩ ⟨[]⟩)))])]⟩ (Ret Tryz.prog Tryz.f12 r)))) (by kernel_rfl) ?_
          simp only [Bool.false_eq_true, Bool.true_eq_false, false_implies, true_implies, true_and, and_true, forall_const]
          refine walk (orc := orcZ L (combT L) false) (keep := []) (cuts := []) (n := 1000) follows ?_
          refine of_eqH (b :=
            (FnM Tryz.prog G 35 [(.box 1000000 0)] [(1000000, [(.d (.slc 7 (List.length L) (lnsF L))), (.vec 1000001 3 0 (List.length (T.ps (combT L)))), (vi (T.p (combT L))), (vi (T.q (combT L))), (vi 0), (vb (T.wr (combT L)))]), (1000001, [(.arr ⟨true, 50, false, none⟩ 3 (ptR (T.ps (combT L))))])] (.tup [(.agg [(.vec 1000001 3 0 (List.length (T.ps (combT L)))), (vi (T.p (combT L))), (vi (T.q (combT L))), (vi (hunF (T.p (combT L)) (T.q (combT L))))]), (vi 0)]) [(1000000, [(.d (.slc 7 (List.length L) (lnsF L))), (.vec 1000001 3 0 (List.length (T.ps (combT L)))), (vi (T.p (combT L))), (vi (T.q (combT L))), (vi (hunF (T.p (combT L)) (T.q (combT L)))), (vb (T.wr (combT L)))]), (1000001, [(.arr ⟨true, 50, false, none⟩ 3 (ptR (T.ps (combT L))))])] ∧
            (((.tup [(.agg [(.slc 3 (List.length (T.ps (combT L))) (fun i => ptR (T.ps (combT L)) ((0 : Nat) + i))), (di (T.p (combT L))), (di (T.q (combT L))), (di (hunF (T.p (combT L)) (T.q (combT L))))]), (di 0)]) : DV) = r))) (by kernel_rfl) ?_
          refine ⟨f35_good L _ hbt, ?_⟩
          rw [hr3 hgood hbt]
          unfold crR
          simp only [Nat.zero_add]
/-- What Combine answers: the parts, the points, the hundredths, the error. -/
def cPs (L : List Ln) : List Pt := if badL L then [] else if badT (combT L) then [] else (combT L).ps
def cP (L : List Ln) : Int := if badL L then 0 else if badT (combT L) then 0 else (combT L).p
def cQ (L : List Ln) : Int := if badL L then 0 else if badT (combT L) then 0 else (combT L).q
def cH (L : List Ln) : Int := if badL L then 0 else if badT (combT L) then 0 else hunF (combT L).p (combT L).q
def cE (L : List Ln) : Int := if badL L then 1 else if badT (combT L) then 2 else 0
/-- A credit. -/
abbrev crV (ps : List Pt) (p q h : Int) : DV := .agg [.slc 3 ps.length (ptF ps), di p, di q, di h]
theorem nil_slc {sz : Nat} {f : Nat → DV} {h : IH} {v : Value} (hv : DV.rel h (.con (.slice none 0 0)) v) : DV.rel h (.slc sz 0 f) v := by
  have hv : v = _ := hv
  subst hv
  exact ⟨none, 0, rfl, Nat.le_refl _, .inl rfl⟩
theorem f12c (hZ : Glob G 0 zeroL) (L : List Ln) (hS : Short L) (hL : L.length ≤ 100000) : FnOK Tryz.prog G 12 [lnsD L] (.tup [crV (cPs L) (cP L) (cQ L) (cH L), di (cE L)]) := by
  have hnil : ∀ (e : Int) (k : IH) (v : Value), DV.rel k (.tup [nilC, di e]) v → DV.rel k (.tup [crV [] 0 0 0, di e]) v := by
    rintro e k v ⟨vs, rfl, v1, vs1, rfl, ⟨us, rfl, w1, us1, rfl, h1, h2⟩, h3⟩
    exact ⟨_, rfl, _, _, rfl, ⟨_, rfl, _, _, rfl, nil_slc h1, h2⟩, h3⟩
  unfold cPs cP cQ cH cE
  cases hb : badL L with
  | true =>
    simp only [if_true]
    exact FnOK.res (f12 hZ L hS hL _ (fun _ => rfl) (fun h => by rw [hb] at h; cases h) (fun h => by rw [hb] at h; cases h)) (hnil 1)
  | false =>
    simp only [Bool.false_eq_true, if_false]
    cases ht : badT (combT L) with
    | true =>
      simp only [if_true]
      exact FnOK.res (f12 hZ L hS hL _ (fun h => by rw [hb] at h; cases h) (fun _ _ => rfl) (fun _ h => by rw [ht] at h; cases h)) (hnil 2)
    | false =>
      simp only [Bool.false_eq_true, if_false]
      refine FnOK.res (f12 hZ L hS hL _ (fun h => by rw [hb] at h; cases h) (fun _ h => by rw [ht] at h; cases h) (fun _ _ => rfl)) ?_
      rintro k v ⟨vs, rfl, v1, vs1, rfl, ⟨us, rfl, w1, us1, rfl, h1, h2⟩, h3⟩
      exact ⟨_, rfl, _, _, rfl, ⟨_, rfl, _, _, rfl, DV.rel_slc_congr (fun i hi => ptR_F hi) h1, h2⟩, h3⟩
end Go.Proofs
