import Derived.Test.YtlpnfbfdekbbmaaDoorAcC
import Derived.Test.YtlpnfbfdekbbmaaDoorGB
import Derived.Test.YtlpnfbfdekbbmaaDoorShelf
import Derived.Laws.Runes
set_option autoImplicit false
namespace Go.Proofs
open Go Go.Ab Go.RowKit
set_option maxHeartbeats 1000000
set_option maxRecDepth 100000
variable {G : IH}
/-- The table that strconv.Itoa reads lies in the memory that stays. -/
def Tab (G : IH) : Prop := ∀ w, G.holds w → Lib.TabIs Tryd.prog w "internal/strconv.uint64pow10" .u64 Lib.pow10Tab
theorem f46 (hT : Tab G) (n : Int) (h : I64 n) : FnOK Tryd.prog G 46 [di n] (ds (bs (Lib.itoa n))) := by
  refine FnOK.of_calls (args := [.int .i64 n]) (v := .string (bs (Lib.itoa n))) Tryd.call46 fun w hw => ?_
  refine Calls.mono (Tryd.strconv_Itoa n h.1 h.2 w (hT w hw)) ?_
  rintro e w' ⟨he, k, os, rfl⟩
  exact ⟨he, below_grow w k os⟩
def idxB (s : ByteArray) (c : Int) : Int := Lib.indexByte s.data.toList c.toNat.toUInt8
def hasP (s p : ByteArray) : Bool := Lib.hasPrefix s.data.toList p.data.toList
/-- strings.HasPrefix. -/
theorem f43 (s p : ByteArray) : FnOK Tryd.prog G 43 [ds s, ds p] (db (hasP s p)) := by
  refine FnOK.of_calls (args := [.string s, .string p]) (v := .bool _) Tryd.call43 fun w _ => ?_
  refine Calls.mono (Tryd.strings_HasPrefix s p w) ?_
  rintro e w' ⟨he, rfl⟩
  exact ⟨he, Below.refl _ _⟩
/-- strings.IndexByte. -/
theorem f68 (s : ByteArray) (c : Int) : FnOK Tryd.prog G 68 [ds s, .con (.int .u8 c)] (di (idxB s c)) := by
  refine FnOK.of_calls (args := [.string s, .int .u8 c]) (v := .int .i64 _) Tryd.call68 fun w _ => ?_
  refine Calls.mono (Tryd.strings_IndexByte s c w) ?_
  rintro e w' ⟨he, rfl⟩
  exact ⟨he, Below.refl _ _⟩
theorem f62a (s : ByteArray) (r : Int) (h0 : 0 ≤ r) (h1 : r < 128) : FnOK Tryd.prog G 62 [ds s, .con (.int .i32 r)] (di (idxB s r)) := by
  refine FnOK.of_calls (args := [.string s, .int .i32 r]) (v := .int .i64 _) Tryd.call62 fun w _ => ?_
  refine Calls.mono (Tryd.strings_IndexRune_ascii s r w h0 h1) ?_
  rintro e w' ⟨he, rfl⟩
  exact ⟨he, Below.refl _ _⟩
theorem f69 (r : Int) : FnOK Tryd.prog G 69 [.con (.int .i32 r)] (db (Lib.validRune r)) := by
  refine FnOK.of_calls (args := [.int .i32 r]) (v := .bool _) Tryd.call69 fun w _ => ?_
  refine Calls.mono (Tryd.utf8_ValidRune r w) ?_
  rintro e w' ⟨he, rfl⟩
  exact ⟨he, Below.refl _ _⟩
def orcIR : Oracle := fun f args => match f, args with
  | 69, [.con (.int .i32 r)] => some (db (Lib.validRune r))
  | 68, [.con (.string s), .con (.int .u8 c)] => some (di (idxB s c))
  | _, _ => none
abbrev hexS : ByteArray := { data := #[48, 49, 50, 51, 52, 53, 54, 55, 56, 57, 97, 98, 99, 100, 101, 102] }
def S62 (r : Int) (x : Nat) : AS := ⟨regs 187 [(0, vs hexS), (1, .d (.con (.int .i32 r))), (7, vs (Utf8.encode r)), (8, vi 1), (9, vi 1)], []⟩
theorem enc_nat : ∀ k : Nat, k < 128 → (Utf8.encode ((128 + k : Nat) : Int)).size = 2 ∧ 128 ≤ byteAt (Utf8.encode ((128 + k : Nat) : Int)) 1 ∧ byteAt (Utf8.encode ((128 + k : Nat) : Int)) 1 < 256 := by decide +kernel
theorem enc_size (r : Int) (h0 : 128 ≤ r) (h1 : r < 256) : (Utf8.encode r).size = 2 := by
  have := (enc_nat (r.toNat - 128) (by omega)).1
  have e : ((128 + (r.toNat - 128) : Nat) : Int) = r := by omega
  rwa [e] at this
theorem enc_last (r : Int) (h0 : 128 ≤ r) (h1 : r < 256) : 128 ≤ byteAt (Utf8.encode r) 1 ∧ byteAt (Utf8.encode r) 1 < 256 := by
  have := (enc_nat (r.toNat - 128) (by omega)).2
  have e : ((128 + (r.toNat - 128) : Nat) : Int) = r := by omega
  rwa [e] at this
theorem f62b (r : Int) (h0 : 128 ≤ r) (h1 : r < 256) : FnOK Tryd.prog G 62 [ds hexS, .con (.int .i32 r)] (di (-1)) := by
  refine FnOK.walk (orc := orcIR) (keep := []) follows Tryd.func62 rfl Tryd.call62 ?_
  refine of_eqH (b :=
    ((((decide ((0 : Int) ≤ r) && decide (r < (128 : Int))) = true) →
    (FnOK Tryd.prog G ((68 : Nat)) [(.con (.string hexS)), (.con (.int .u8 (IntKind.wrap IntKind.u8 r)))] (.con (.int .i64 (idxB hexS (IntKind.wrap IntKind.u8 r)))) ∧
    (((.con (.int .i64 (idxB hexS (IntKind.wrap IntKind.u8 r)))) : DV) = (di (-1 : Int))))) ∧
    (((decide ((0 : Int) ≤ r) && decide (r < (128 : Int))) = false) →
    ((((r == (65533 : Int)) = true) →
    False) ∧
    (((r == (65533 : Int)) = false) →
    (FnOK Tryd.prog G ((69 : Nat)) [(.con (.int .i32 r))] (.con (.bool (Lib.validRune r))) ∧
    ((((!Lib.validRune r) = true) →
    (((.con (.int .i64 ((-1 : Int)))) : DV) = (di (-1 : Int)))) ∧
    (((!Lib.validRune r) = false) →
    ((I64 ((↑(ByteArray.size (Utf8.encode r)) : Int) - (1 : Int))) ∧
    AWP Tryd.prog G [.code (cAt (bodyOf Tryd.f62) [1, 0, 1, 1, 1, 1, 1, 1, 0, 1, 1, 1, 1, 0, 0]), (.blk ((1 : Nat))), .code (cAt (bodyOf Tryd.f62) [1, 0, 1, 1, 1, 1, 1, 1, 0, 1, 1, 1, 1, 1]), .scp, (.blk ((0 : Nat)))] ⟨[(.d (.con (.string hexS))), (.d (.con (.int .i32 r))), .any, .any, (.d (.con (.int .i64 ((0 : Int))))), .any, .any, (.d (.con (.string (Utf8.encode r)))), (.d (.con (.int .i64 ((↑(ByteArray.size (Utf8.encode r)) : Int) - (1 : Int))))), (.d (.con (.int .i64 ((↑(ByteArray.size (Utf8.encode r)) : Int) - (1 : Int))))), (.d (.con (.int .i64 ((0 : Int))))), .any, .any, .any, .any, .any, .any, (.d (.con (.int .i32 r))), (.d (.con (.string (Utf8.encode r)))), (.d (.con (.string (Utf8.encode r)))), (.d (.con (.int .i64 ((↑(ByteArray.size (Utf8.encode r)) : Int))))), (.d (.con (.int .i64 ((↑(ByteArray.size (Utf8.encode r)) : Int) - (1 : Int))))), (.d (.con (.int .i64 ((↑(ByteArray.size (Utf8.encode r)) : Int) - (1 : Int))))), .any, .any, .any, .any, .any, .any, .any, .any, .any, .any, .any, .any, .any, .any, .any, .any, .any, .any, .any, .any, .any, .any, .any, .any, .any, .any, .any, .any, .any, .any, .any, .any, .any, .any, .any, .any, .any, .any, .any, .any, .any, .any, .any, .any, .any, .any, .any, .any, .any, .any, .any, .any, .any, .any, .any, .any, .any, .any, .any, .any, .any, .any, .any, .any, .any, .any, .any, .any, .any, .any, .any, .any, .any, .any, .any, .any, .any, .any, .any, .any, .any, .any, .any, .any, .any, .any, .any, .any, .any, .any, .any, .any, .any, .any, .any, .any, .any, .any, .any, .any, .any, .any, .any, .any, .any, .any, .any, .any, .any, .any, .any, .any, .any, .any, .any, .any, .any, .any, .any, .any, .any, .any, .any, .any, .any, .any, .any, .any, .any, .any, .any, .any, .any, .any, .any, .any, .any, (.d (.con (.bool (decide ((0 : Int) ≤ r) && decide (r < (128 : Int)))))), (.d (.con (.int .i32 r))), (.d (.con (.bool (decide ((0 : Int) ≤ r))))), (.d (.con (.bool (decide ((0 : Int) ≤ r))))), .any, .any, (.d (.con (.bool (decide ((0 : Int) ≤ r) && decide (r < (128 : Int)))))), .any, .any, .any, .any, (.d (.con (.bool (r == (65533 : Int))))), (.d (.con (.int .i32 r))), (.d (.con (.bool (r == (65533 : Int))))), .any, .any, .any, .any, .any, .any, .any, .any, .any, (.d (.con (.bool (!Lib.validRune r)))), (.d (.con (.int .i32 r))), (.d (.con (.bool (Lib.validRune r)))), (.d (.con (.bool (!Lib.validRune r))))], []⟩ (Ret Tryd.prog Tryd.f62 (di (-1 : Int)))))))))))) (by kernel_rfl) ?_
  have hv : Lib.validRune r = true := by
    unfold Lib.validRune
    simp; omega
  have hs : (Utf8.encode r).size = 2 := enc_size r h0 h1
  have hb : 128 ≤ byteAt (Utf8.encode r) 1 ∧ byteAt (Utf8.encode r) 1 < 256 := enc_last r h0 h1
  rw [hs]
  refine ⟨fun h => ?_, fun _ => ⟨fun h => ?_, fun _ => ⟨f69 r, fun h => ?_, fun _ => ⟨⟨by decide, by decide⟩, ?_⟩⟩⟩⟩
  · simp at h; omega
  · simp at h; omega
  · simp [hv] at h
  refine AWP.loop (c := cAt (bodyOf Tryd.f62) [1, 0, 1, 1, 1, 1, 1, 1, 0, 1, 1, 1, 1, 0, 0, 0]) (by kernel_rfl) (S62 r) (fun _ => True) (fun _ => 0) 0 ?_ trivial ?_
  · refine of_eq (b :=
    (((((.d (.con (.string hexS))) : AV) = (.d (.con (.string hexS)))) ∧
    ((((.d (.con (.int .i32 r))) : AV) = (.d (.con (.int .i32 r)))) ∧
    ((((.d (.con (.string (Utf8.encode r)))) : AV) = (.d (.con (.string (Utf8.encode r))))) ∧
    ((((.d (.con (.int .i64 ((1 : Int))))) : AV) = (.d (.con (.int .i64 ((1 : Int)))))) ∧
    ((((.d (.con (.int .i64 ((1 : Int))))) : AV) = (.d (.con (.int .i64 ((1 : Int)))))) ∧
    True))))) ∧
    True)) (by kernel_rfl) ?_
    exact ⟨⟨rfl, rfl, rfl, rfl, rfl, trivial⟩, trivial⟩
  · intro i _
    refine walk (orc := orcIR) (keep := []) (cuts := []) (n := 1000) follows ?_
    refine of_eqH (b :=
      (((true = true) →
      (((((0 : Int) ≤ (1 : Int)) ∧
      ((1 : Int) < (↑(ByteArray.size hexS) : Int))) ∧
      (((0 : Int) ≤ (1 : Int)) ∧
      ((1 : Int) < (↑(ByteArray.size (Utf8.encode r)) : Int)))) ∧
      ((((byteAt hexS (Int.toNat (1 : Int)) != byteAt (Utf8.encode r) (Int.toNat (1 : Int))) = true) →
      (((I64 ((1 : Int) + (1 : Int))) ∧
      ((((0 : Int) ≤ (1 : Int) + (1 : Int)) ∧
      (((1 : Int) + (1 : Int) ≤ (↑(ByteArray.size hexS) : Int)) ∧
      ((↑(ByteArray.size hexS) : Int) ≤ (↑(ByteArray.size hexS) : Int)))) ∧
      ((((0 : Int) ≤ (1 : Int)) ∧
      ((1 : Int) < (↑(ByteArray.size (Utf8.encode r)) : Int))) ∧
      FnOK Tryd.prog G ((68 : Nat)) [(.con (.string (ByteArray.extract hexS (Int.toNat ((1 : Int) + (1 : Int))) (Int.toNat (↑(ByteArray.size hexS) : Int))))), (.con (.int .u8 (byteAt (Utf8.encode r) (Int.toNat (1 : Int)))))] (.con (.int .i64 (idxB (ByteArray.extract hexS (Int.toNat ((1 : Int) + (1 : Int))) (Int.toNat (↑(ByteArray.size hexS) : Int))) (byteAt (Utf8.encode r) (Int.toNat (1 : Int))))))))) ∧
      ((((decide (idxB (ByteArray.extract hexS (Int.toNat ((1 : Int) + (1 : Int))) (Int.toNat (↑(ByteArray.size hexS) : Int))) (byteAt (Utf8.encode r) (Int.toNat (1 : Int))) < (0 : Int))) = true) →
      (((.con (.int .i64 ((-1 : Int)))) : DV) = (di (-1 : Int)))) ∧
      (((decide (idxB (ByteArray.extract hexS (Int.toNat ((1 : Int) + (1 : Int))) (Int.toNat (↑(ByteArray.size hexS) : Int))) (byteAt (Utf8.encode r) (Int.toNat (1 : Int))) < (0 : Int))) = false) →
      (((I64 (idxB (ByteArray.extract hexS (Int.toNat ((1 : Int) + (1 : Int))) (Int.toNat (↑(ByteArray.size hexS) : Int))) (byteAt (Utf8.encode r) (Int.toNat (1 : Int))) + (1 : Int))) ∧
      (I64 ((1 : Int) + (idxB (ByteArray.extract hexS (Int.toNat ((1 : Int) + (1 : Int))) (Int.toNat (↑(ByteArray.size hexS) : Int))) (byteAt (Utf8.encode r) (Int.toNat (1 : Int))) + (1 : Int))))) ∧
      AWP Tryd.prog G [.code (cAt (bodyOf Tryd.f62) [1, 0, 1, 1, 1, 1, 1, 1, 0, 1, 1, 1, 1, 0, 0, 0, 1, 0, 0, 1, 0, 1, 0]), (.blk ((3 : Nat))), .code (cAt (bodyOf Tryd.f62) [1, 0, 1, 1, 1, 1, 1, 1, 0, 1, 1, 1, 1, 0, 0, 0, 1, 0, 0, 1, 1]), .scp, (.blk ((2 : Nat)))] ⟨[(.d (.con (.string hexS))), (.d (.con (.int .i32 r))), .any, .any, .any, .any, .any, (.d (.con (.string (Utf8.encode r)))), (.d (.con (.int .i64 ((1 : Int))))), (.d (.con (.int .i64 ((1 : Int) + (idxB (ByteArray.extract hexS (Int.toNat ((1 : Int) + (1 : Int))) (Int.toNat (↑(ByteArray.size hexS) : Int))) (byteAt (Utf8.encode r) (Int.toNat (1 : Int))) + (1 : Int)))))), .any, (.d (.con (.int .i64 (idxB (ByteArray.extract hexS (Int.toNat ((1 : Int) + (1 : Int))) (Int.toNat (↑(ByteArray.size hexS) : Int))) (byteAt (Utf8.encode r) (Int.toNat (1 : Int))))))), (.d (.con (.int .i64 ((1 : Int))))), .any, .any, .any, .any, .any, .any, .any, .any, .any, .any, (.d (.con (.int .i64 ((1 : Int))))), (.d (.con (.string hexS))), (.d (.con (.int .i64 ((16 : Int))))), (.d (.con (.bool true))), (.d (.con (.string hexS))), (.d (.con (.int .i64 ((1 : Int))))), (.d (.con (.int .u8 ((49 : Int))))), (.d (.con (.string (Utf8.encode r)))), (.d (.con (.int .i64 ((1 : Int))))), (.d (.con (.int .u8 (byteAt (Utf8.encode r) (Int.toNat (1 : Int)))))), (.d (.con (.bool (byteAt hexS (Int.toNat (1 : Int)) != byteAt (Utf8.encode r) (Int.toNat (1 : Int)))))), (.d (.con (.string hexS))), (.d (.con (.int .i64 ((1 : Int))))), (.d (.con (.int .i64 ((2 : Int))))), (.d (.con (.string (ByteArray.extract hexS (Int.toNat ((1 : Int) + (1 : Int))) (Int.toNat (↑(ByteArray.size hexS) : Int)))))), (.d (.con (.string (Utf8.encode r)))), (.d (.con (.int .i64 ((1 : Int))))), (.d (.con (.int .u8 (byteAt (Utf8.encode r) (Int.toNat (1 : Int)))))), (.d (.con (.int .i64 (idxB (ByteArray.extract hexS (Int.toNat ((1 : Int) + (1 : Int))) (Int.toNat (↑(ByteArray.size hexS) : Int))) (byteAt (Utf8.encode r) (Int.toNat (1 : Int))))))), (.d (.con (.int .i64 (idxB (ByteArray.extract hexS (Int.toNat ((1 : Int) + (1 : Int))) (Int.toNat (↑(ByteArray.size hexS) : Int))) (byteAt (Utf8.encode r) (Int.toNat (1 : Int))))))), (.d (.con (.bool (decide (idxB (ByteArray.extract hexS (Int.toNat ((1 : Int) + (1 : Int))) (Int.toNat (↑(ByteArray.size hexS) : Int))) (byteAt (Utf8.encode r) (Int.toNat (1 : Int))) < (0 : Int)))))), (.d (.con (.int .i64 ((1 : Int))))), (.d (.con (.int .i64 (idxB (ByteArray.extract hexS (Int.toNat ((1 : Int) + (1 : Int))) (Int.toNat (↑(ByteArray.size hexS) : Int))) (byteAt (Utf8.encode r) (Int.toNat (1 : Int))))))), (.d (.con (.int .i64 (idxB (ByteArray.extract hexS (Int.toNat ((1 : Int) + (1 : Int))) (Int.toNat (↑(ByteArray.size hexS) : Int))) (byteAt (Utf8.encode r) (Int.toNat (1 : Int))) + (1 : Int))))), (.d (.con (.int .i64 ((1 : Int) + (idxB (ByteArray.extract hexS (Int.toNat ((1 : Int) + (1 : Int))) (Int.toNat (↑(ByteArray.size hexS) : Int))) (byteAt (Utf8.encode r) (Int.toNat (1 : Int))) + (1 : Int)))))), .any, .any, .any, .any, .any, .any, .any, .any, .any, .any, .any, .any, .any, .any, .any, .any, .any, .any, .any, .any, .any, .any, .any, .any, .any, .any, .any, .any, .any, .any, .any, .any, .any, .any, .any, .any, .any, .any, .any, .any, .any, .any, .any, .any, .any, .any, .any, .any, .any, .any, .any, .any, .any, .any, .any, .any, .any, .any, .any, .any, .any, .any, .any, .any, .any, .any, .any, .any, .any, .any, .any, .any, .any, .any, .any, .any, .any, .any, .any, .any, .any, .any, .any, .any, .any, .any, .any, .any, .any, .any, .any, .any, .any, .any, .any, .any, .any, .any, .any, .any, .any, .any, .any, .any, .any, .any, .any, .any, .any, .any, .any, .any, .any, .any, .any, .any, .any, .any, .any, .any, .any, .any, .any, .any, .any, .any, .any, .any, .any, .any, .any, .any, .any, .any, .any, .any, .any, .any, .any], []⟩ (RoundQ Tryd.prog G [It.blk (1 : Nat), It.code (Code.seq (Code.seq (Code.region (19 : Nat) #[{ dst := some (4 : Nat), op := Op.assign (Operand.const (Value.int IntKind.i64 (-1 : Int))), type := (3 : Nat), pos := "strings.go:155", after := #[], guard := none }] false) Code.ret) (Code.seq (Code.label (1 : Nat)) (Code.seq (Code.cond (Operand.const (Value.bool true)) (Code.seq (Code.region (20 : Nat) #[{ dst := some (99 : Nat), op := Op.move (Operand.tmp (0 : Nat)), type := (9 : Nat), pos := "strings.go:160", after := #[], guard := none }, { dst := some (100 : Nat), op := Op.move (Operand.tmp (9 : Nat)), type := (3 : Nat), pos := "strings.go:160", after := #[], guard := none }, { dst := some (101 : Nat), op := Op.move (Operand.tmp (8 : Nat)), type := (3 : Nat), pos := "strings.go:160", after := #[], guard := none }, { dst := some (102 : Nat), op := Op.binOp BinOp.sub (3 : Nat) (Operand.tmp (100 : Nat)) (Operand.tmp (101 : Nat)) (3 : Nat), type := (3 : Nat), pos := "strings.go:160", after := #[{ on := (1 : Nat), ground := Ground.data }, { on := (2 : Nat), ground := Ground.data }], guard := none }, { dst := some (103 : Nat), op := Op.slice (9 : Nat) (Operand.tmp (99 : Nat)) (some (Operand.tmp (102 : Nat))) none none, type := (9 : Nat), pos := "strings.go:160", after := #[{ on := (0 : Nat), ground := Ground.data }, { on := (3 : Nat), ground := Ground.data }], guard := none }, { dst := some (104 : Nat), op := Op.move (Operand.tmp (1 : Nat)), type := (21 : Nat), pos := "strings.go:160", after := #[], guard := none }, { dst := some (105 : Nat), op := Op.convert (21 : Nat) (9 : Nat) (Operand.tmp (104 : Nat)), type := (9 : Nat), pos := "strings.go:160", after := #[{ on := (5 : Nat), ground := Ground.data }], guard := none }, { dst := some (106 : Nat), op := Op.call { callee := Callee.value (Operand.func (71 : Nat)), args := #[Operand.tmp (103 : Nat), Operand.tmp (105 : Nat)], argTypes := #[(9 : Nat), (9 : Nat)] }, type := (3 : Nat), pos := "strings.go:160", after := #[{ on := (4 : Nat), ground := Ground.data }, { on := (6 : Nat), ground := Ground.data }], guard := none }, { dst := some (13 : Nat), op := Op.assign (Operand.tmp (106 : Nat)), type := (3 : Nat), pos := "strings.go:160", after := #[{ on := (7 : Nat), ground := Ground.data }, { on := (7 : Nat), ground := Ground.chain }, { on := (0 : Nat), ground := Ground.phase }, { on := (1 : Nat), ground := Ground.phase }, { on := (2 : Nat), ground := Ground.phase }, { on := (3 : Nat), ground := Ground.phase }, { on := (4 : Nat), ground := Ground.phase }, { on := (5 : Nat), ground := Ground.phase }, { on := (6 : Nat), ground := Ground.phase }, { on := (7 : Nat), ground := Ground.phase }], guard := none }] false) (Code.seq (Code.region (21 : Nat) #[{ dst := some (107 : Nat), op := Op.move (Operand.tmp (13 : Nat)), type := (3 : Nat), pos := "strings.go:160", after := #[], guard := none }, { dst := some (108 : Nat), op := Op.binOp BinOp.geq (3 : Nat) (Operand.tmp (107 : Nat)) (Operand.const (Value.int IntKind.i64 (0 : Int))) (3 : Nat), type := (4 : Nat), pos := "strings.go:160", after := #[{ on := (0 : Nat), ground := Ground.data }], guard := none }] false) (Code.cond (Operand.tmp (108 : Nat)) (Code.seq (Code.region (22 : Nat) #[{ dst := some (109 : Nat), op := Op.move (Operand.tmp (9 : Nat)), type := (3 : Nat), pos := "strings.go:161", after := #[], guard := none }, { dst := some (110 : Nat), op := Op.move (Operand.tmp (13 : Nat)), type := (3 : Nat), pos := "strings.go:161", after := #[], guard := none }, { dst := some (111 : Nat), op := Op.binOp BinOp.add (3 : Nat) (Operand.tmp (109 : Nat)) (Operand.tmp (110 : Nat)) (3 : Nat), type := (3 : Nat), pos := "strings.go:161", after := #[{ on := (0 : Nat), ground := Ground.data }, { on := (1 : Nat), ground := Ground.data }], guard := none }, { dst := some (112 : Nat), op := Op.move (Operand.tmp (8 : Nat)), type := (3 : Nat), pos := "strings.go:161", after := #[], guard := none }, { dst := some (113 : Nat), op := Op.binOp BinOp.sub (3 : Nat) (Operand.tmp (111 : Nat)) (Operand.tmp (112 : Nat)) (3 : Nat), type := (3 : Nat), pos := "strings.go:161", after := #[{ on := (2 : Nat), ground := Ground.data }, { on := (3 : Nat), ground := Ground.data }], guard := none }, { dst := some (4 : Nat), op := Op.assign (Operand.tmp (113 : Nat)), type := (3 : Nat), pos := "strings.go:161", after := #[{ on := (4 : Nat), ground := Ground.data }, { on := (0 : Nat), ground := Ground.phase }, { on := (1 : Nat), ground := Ground.phase }, { on := (2 : Nat), ground := Ground.phase }, { on := (3 : Nat), ground := Ground.phase }, { on := (4 : Nat), ground := Ground.phase }], guard := none }] false) Code.ret) Code.skip))) (Code.scope (Code.seq (Code.region (23 : Nat) #[{ dst := some (114 : Nat), op := Op.move (Operand.tmp (7 : Nat)), type := (9 : Nat), pos := "strings.go:164", after := #[], guard := none }, { dst := some (115 : Nat), op := Op.move (Operand.tmp (8 : Nat)), type := (3 : Nat), pos := "strings.go:164", after := #[], guard := none }, { dst := some (116 : Nat), op := Op.index (9 : Nat) (Operand.tmp (114 : Nat)) (Operand.tmp (115 : Nat)), type := (5 : Nat), pos := "strings.go:164", after := #[{ on := (0 : Nat), ground := Ground.data }, { on := (1 : Nat), ground := Ground.data }], guard := none }, { dst := some (14 : Nat), op := Op.assign (Operand.tmp (116 : Nat)), type := (5 : Nat), pos := "strings.go:164", after := #[{ on := (2 : Nat), ground := Ground.data }, { on := (0 : Nat), ground := Ground.phase }, { on := (1 : Nat), ground := Ground.phase }, { on := (2 : Nat), ground := Ground.phase }], guard := none }] false) (Code.seq (Code.region (24 : Nat) #[{ dst := some (117 : Nat), op := Op.move (Operand.tmp (7 : Nat)), type := (9 : Nat), pos := "strings.go:165", after := #[], guard := none }, { dst := some (118 : Nat), op := Op.move (Operand.tmp (8 : Nat)), type := (3 : Nat), pos := "strings.go:165", after := #[], guard := none }, { dst := some (119 : Nat), op := Op.binOp BinOp.sub (3 : Nat) (Operand.tmp (118 : Nat)) (Operand.const (Value.int IntKind.i64 (1 : Int))) (3 : Nat), type := (3 : Nat), pos := "strings.go:165", after := #[{ on := (1 : Nat), ground := Ground.data }], guard := none }, { dst := some (120 : Nat), op := Op.index (9 : Nat) (Operand.tmp (117 : Nat)) (Operand.tmp (119 : Nat)), type := (5 : Nat), pos := "strings.go:165", after := #[{ on := (0 : Nat), ground := Ground.data }, { on := (2 : Nat), ground := Ground.data }], guard := none }, { dst := some (15 : Nat), op := Op.assign (Operand.tmp (120 : Nat)), type := (5 : Nat), pos := "strings.go:165", after := #[{ on := (3 : Nat), ground := Ground.data }, { on := (0 : Nat), ground := Ground.phase }, { on := (1 : Nat), ground := Ground.phase }, { on := (2 : Nat), ground := Ground.phase }, { on := (3 : Nat), ground := Ground.phase }], guard := none }] false) (Code.seq (Code.label (2 : Nat)) (Code.block (5 : Nat) (Code.loop (Code.seq (Code.seq (Code.region (25 : Nat) #[{ dst := some (121 : Nat), op := Op.move (Operand.tmp (9 : Nat)), type := (3 : Nat), pos := "strings.go:167", after := #[], guard := none }, { dst := some (122 : Nat), op := Op.move (Operand.tmp (0 : Nat)), type := (9 : Nat), pos := "strings.go:167", after := #[], guard := none }, { dst := some (123 : Nat), op := Op.call { callee := Callee.builtin Builtin.len, args := #[Operand.tmp (122 : Nat)], argTypes := #[(9 : Nat)] }, type := (3 : Nat), pos := "strings.go:167", after := #[{ on := (1 : Nat), ground := Ground.data }], guard := none }, { dst := some (124 : Nat), op := Op.binOp BinOp.lss (3 : Nat) (Operand.tmp (121 : Nat)) (Operand.tmp (123 : Nat)) (3 : Nat), type := (4 : Nat), pos := "strings.go:167", after := #[{ on := (0 : Nat), ground := Ground.data }, { on := (2 : Nat), ground := Ground.data }], guard := none }] false) (Code.cond (Operand.tmp (124 : Nat)) Code.skip (Code.exit (5 : Nat)))) (Code.seq (Code.block (6 : Nat) (Code.seq (Code.region (27 : Nat) #[{ dst := some (127 : Nat), op := Op.move (Operand.tmp (0 : Nat)), type := (9 : Nat), pos := "strings.go:168", after := #[], guard := none }, { dst := some (128 : Nat), op := Op.move (Operand.tmp (9 : Nat)), type := (3 : Nat), pos := "strings.go:168", after := #[], guard := none }, { dst := some (129 : Nat), op := Op.index (9 : Nat) (Operand.tmp (127 : Nat)) (Operand.tmp (128 : Nat)), type := (5 : Nat), pos := "strings.go:168", after := #[{ on := (0 : Nat), ground := Ground.data }, { on := (1 : Nat), ground := Ground.data }], guard := none }, { dst := some (130 : Nat), op := Op.move (Operand.tmp (14 : Nat)), type := (5 : Nat), pos := "strings.go:168", after := #[], guard := none }, { dst := some (131 : Nat), op := Op.binOp BinOp.eql (5 : Nat) (Operand.tmp (129 : Nat)) (Operand.tmp (130 : Nat)) (5 : Nat), type := (4 : Nat), pos := "strings.go:168", after := #[{ on := (2 : Nat), ground := Ground.data }, { on := (3 : Nat), ground := Ground.data }], guard := none }, { dst := some (132 : Nat), op := Op.move (Operand.tmp (131 : Nat)), type := (4 : Nat), pos := "strings.go:168", after := #[{ on := (4 : Nat), ground := Ground.data }], guard := none }, { dst := some (133 : Nat), op := Op.move (Operand.tmp (0 : Nat)), type := (9 : Nat), pos := "strings.go:168", after := #[{ on := (5 : Nat), ground := Ground.guard }], guard := some ((5 : Nat), true) }, { dst := some (134 : Nat), op := Op.move (Operand.tmp (9 : Nat)), type := (3 : Nat), pos := "strings.go:168", after := #[{ on := (5 : Nat), ground := Ground.guard }], guard := some ((5 : Nat), true) }, { dst := some (135 : Nat), op := Op.binOp BinOp.sub (3 : Nat) (Operand.tmp (134 : Nat)) (Operand.const (Value.int IntKind.i64 (1 : Int))) (3 : Nat), type := (3 : Nat), pos := "strings.go:168", after := #[{ on := (7 : Nat), ground := Ground.data }, { on := (5 : Nat), ground := Ground.guard }], guard := some ((5 : Nat), true) }, { dst := some (136 : Nat), op := Op.index (9 : Nat) (Operand.tmp (133 : Nat)) (Operand.tmp (135 : Nat)), type := (5 : Nat), pos := "strings.go:168", after := #[{ on := (6 : Nat), ground := Ground.data }, { on := (8 : Nat), ground := Ground.data }, { on := (5 : Nat), ground := Ground.guard }], guard := some ((5 : Nat), true) }, { dst := some (137 : Nat), op := Op.move (Operand.tmp (15 : Nat)), type := (5 : Nat), pos := "strings.go:168", after := #[{ on := (5 : Nat), ground := Ground.guard }], guard := some ((5 : Nat), true) }, { dst := some (138 : Nat), op := Op.binOp BinOp.eql (5 : Nat) (Operand.tmp (136 : Nat)) (Operand.tmp (137 : Nat)) (5 : Nat), type := (4 : Nat), pos := "strings.go:168", after := #[{ on := (9 : Nat), ground := Ground.data }, { on := (10 : Nat), ground := Ground.data }, { on := (5 : Nat), ground := Ground.guard }], guard := some ((5 : Nat), true) }, { dst := some (139 : Nat), op := Op.pick (Operand.tmp (132 : Nat)) (Operand.tmp (138 : Nat)) (Operand.const (Value.bool false)), type := (4 : Nat), pos := "strings.go:168", after := #[{ on := (5 : Nat), ground := Ground.data }, { on := (11 : Nat), ground := Ground.data }], guard := none }] false) (Code.cond (Operand.tmp (139 : Nat)) (Code.seq (Code.seq (Code.region (28 : Nat) #[{ dst := some (16 : Nat), op := Op.assign (Operand.const (Value.int IntKind.i64 (2 : Int))), type := (3 : Nat), pos := "strings.go:169", after := #[], guard := none }] false) (Code.block (7 : Nat) (Code.loop (Code.seq (Code.seq (Code.region (29 : Nat) #[{ dst := some (140 : Nat), op := Op.move (Operand.tmp (16 : Nat)), type := (3 : Nat), pos := "strings.go:169", after := #[], guard := none }, { dst := some (141 : Nat), op := Op.move (Operand.tmp (7 : Nat)), type := (9 : Nat), pos := "strings.go:169", after := #[], guard := none }, { dst := some (142 : Nat), op := Op.call { callee := Callee.builtin Builtin.len, args := #[Operand.tmp (141 : Nat)], argTypes := #[(9 : Nat)] }, type := (3 : Nat), pos := "strings.go:169", after := #[{ on := (1 : Nat), ground := Ground.data }], guard := none }, { dst := some (143 : Nat), op := Op.binOp BinOp.lss (3 : Nat) (Operand.tmp (140 : Nat)) (Operand.tmp (142 : Nat)) (3 : Nat), type := (4 : Nat), pos := "strings.go:169", after := #[{ on := (0 : Nat), ground := Ground.data }, { on := (2 : Nat), ground := Ground.data }], guard := none }] false) (Code.cond (Operand.tmp (143 : Nat)) Code.skip (Code.exit (7 : Nat)))) (Code.seq (Code.block (8 : Nat) (Code.seq (Code.region (31 : Nat) #[{ dst := some (146 : Nat), op := Op.move (Operand.tmp (0 : Nat)), type := (9 : Nat), pos := "strings.go:170", after := #[], guard := none }, { dst := some (147 : Nat), op := Op.move (Operand.tmp (9 : Nat)), type := (3 : Nat), pos := "strings.go:170", after := #[], guard := none }, { dst := some (148 : Nat), op := Op.move (Operand.tmp (16 : Nat)), type := (3 : Nat), pos := "strings.go:170", after := #[], guard := none }, { dst := some (149 : Nat), op := Op.binOp BinOp.sub (3 : Nat) (Operand.tmp (147 : Nat)) (Operand.tmp (148 : Nat)) (3 : Nat), type := (3 : Nat), pos := "strings.go:170", after := #[{ on := (1 : Nat), ground := Ground.data }, { on := (2 : Nat), ground := Ground.data }], guard := none }, { dst := some (150 : Nat), op := Op.index (9 : Nat) (Operand.tmp (146 : Nat)) (Operand.tmp (149 : Nat)), type := (5 : Nat), pos := "strings.go:170", after := #[{ on := (0 : Nat), ground := Ground.data }, { on := (3 : Nat), ground := Ground.data }], guard := none }, { dst := some (151 : Nat), op := Op.move (Operand.tmp (7 : Nat)), type := (9 : Nat), pos := "strings.go:170", after := #[], guard := none }, { dst := some (152 : Nat), op := Op.move (Operand.tmp (8 : Nat)), type := (3 : Nat), pos := "strings.go:170", after := #[], guard := none }, { dst := some (153 : Nat), op := Op.move (Operand.tmp (16 : Nat)), type := (3 : Nat), pos := "strings.go:170", after := #[], guard := none }, { dst := some (154 : Nat), op := Op.binOp BinOp.sub (3 : Nat) (Operand.tmp (152 : Nat)) (Operand.tmp (153 : Nat)) (3 : Nat), type := (3 : Nat), pos := "strings.go:170", after := #[{ on := (6 : Nat), ground := Ground.data }, { on := (7 : Nat), ground := Ground.data }], guard := none }, { dst := some (155 : Nat), op := Op.index (9 : Nat) (Operand.tmp (151 : Nat)) (Operand.tmp (154 : Nat)), type := (5 : Nat), pos := "strings.go:170", after := #[{ on := (5 : Nat), ground := Ground.data }, { on := (8 : Nat), ground := Ground.data }], guard := none }, { dst := some (156 : Nat), op := Op.binOp BinOp.neq (5 : Nat) (Operand.tmp (150 : Nat)) (Operand.tmp (155 : Nat)) (5 : Nat), type := (4 : Nat), pos := "strings.go:170", after := #[{ on := (4 : Nat), ground := Ground.data }, { on := (9 : Nat), ground := Ground.data }], guard := none }] true) (Code.cond (Operand.tmp (156 : Nat)) (Code.exit (6 : Nat)) Code.skip))) (Code.region (30 : Nat) #[{ dst := some (144 : Nat), op := Op.move (Operand.tmp (16 : Nat)), type := (3 : Nat), pos := "strings.go:169", after := #[], guard := none }, { dst := some (145 : Nat), op := Op.binOp BinOp.add (3 : Nat) (Operand.tmp (144 : Nat)) (Operand.const (Value.int IntKind.i64 (1 : Int))) (3 : Nat), type := (3 : Nat), pos := "strings.go:169", after := #[{ on := (0 : Nat), ground := Ground.data }], guard := none }, { dst := some (16 : Nat), op := Op.assign (Operand.tmp (145 : Nat)), type := (3 : Nat), pos := "strings.go:169", after := #[{ on := (1 : Nat), ground := Ground.data }, { on := (0 : Nat), ground := Ground.phase }, { on := (1 : Nat), ground := Ground.phase }], guard := none }] false)))))) (Code.seq (Code.region (32 : Nat) #[{ dst := some (157 : Nat), op := Op.move (Operand.tmp (9 : Nat)), type := (3 : Nat), pos := "strings.go:174", after := #[], guard := none }, { dst := some (158 : Nat), op := Op.move (Operand.tmp (8 : Nat)), type := (3 : Nat), pos := "strings.go:174", after := #[], guard := none }, { dst := some (159 : Nat), op := Op.binOp BinOp.sub (3 : Nat) (Operand.tmp (157 : Nat)) (Operand.tmp (158 : Nat)) (3 : Nat), type := (3 : Nat), pos := "strings.go:174", after := #[{ on := (0 : Nat), ground := Ground.data }, { on := (1 : Nat), ground := Ground.data }], guard := none }, { dst := some (4 : Nat), op := Op.assign (Operand.tmp (159 : Nat)), type := (3 : Nat), pos := "strings.go:174", after := #[{ on := (2 : Nat), ground := Ground.data }, { on := (0 : Nat), ground := Ground.phase }, { on := (1 : Nat), ground := Ground.phase }, { on := (2 : Nat), ground := Ground.phase }], guard := none }] false) Code.ret)) Code.skip))) (Code.region (26 : Nat) #[{ dst := some (125 : Nat), op := Op.move (Operand.tmp (9 : Nat)), type := (3 : Nat), pos := "strings.go:167", after := #[], guard := none }, { dst := some (126 : Nat), op := Op.binOp BinOp.add (3 : Nat) (Operand.tmp (125 : Nat)) (Operand.const (Value.int IntKind.i64 (1 : Int))) (3 : Nat), type := (3 : Nat), pos := "strings.go:167", after := #[{ on := (0 : Nat), ground := Ground.data }], guard := none }, { dst := some (9 : Nat), op := Op.assign (Operand.tmp (126 : Nat)), type := (3 : Nat), pos := "strings.go:167", after := #[{ on := (1 : Nat), ground := Ground.data }, { on := (0 : Nat), ground := Ground.phase }, { on := (1 : Nat), ground := Ground.phase }], guard := none }] false)))))))))) (Code.seq (Code.region (33 : Nat) #[{ dst := some (4 : Nat), op := Op.assign (Operand.const (Value.int IntKind.i64 (-1 : Int))), type := (3 : Nat), pos := "strings.go:178", after := #[], guard := none }] false) Code.ret)))), It.scp, It.blk (0 : Nat)] (Ret Tryd.prog Tryd.f62 (di (-1 : Int))) (S62 r) (fun x => True) (fun x => (0 : Nat)) i)))))) ∧
      (((byteAt hexS (Int.toNat (1 : Int)) != byteAt (Utf8.encode r) (Int.toNat (1 : Int))) = false) →
      AWP Tryd.prog G [.code (cAt (bodyOf Tryd.f62) [1, 0, 1, 1, 1, 1, 1, 1, 0, 1, 1, 1, 1, 0, 0, 0, 1, 0, 0, 1, 0, 1, 0]), (.blk ((3 : Nat))), .code (cAt (bodyOf Tryd.f62) [1, 0, 1, 1, 1, 1, 1, 1, 0, 1, 1, 1, 1, 0, 0, 0, 1, 0, 0, 1, 1]), .scp, (.blk ((2 : Nat)))] ⟨[(.d (.con (.string hexS))), (.d (.con (.int .i32 r))), .any, .any, .any, .any, .any, (.d (.con (.string (Utf8.encode r)))), (.d (.con (.int .i64 ((1 : Int))))), (.d (.con (.int .i64 ((1 : Int))))), .any, .any, (.d (.con (.int .i64 ((1 : Int))))), .any, .any, .any, .any, .any, .any, .any, .any, .any, .any, (.d (.con (.int .i64 ((1 : Int))))), (.d (.con (.string hexS))), (.d (.con (.int .i64 ((16 : Int))))), (.d (.con (.bool true))), (.d (.con (.string hexS))), (.d (.con (.int .i64 ((1 : Int))))), (.d (.con (.int .u8 ((49 : Int))))), (.d (.con (.string (Utf8.encode r)))), (.d (.con (.int .i64 ((1 : Int))))), (.d (.con (.int .u8 (byteAt (Utf8.encode r) (Int.toNat (1 : Int)))))), (.d (.con (.bool (byteAt hexS (Int.toNat (1 : Int)) != byteAt (Utf8.encode r) (Int.toNat (1 : Int)))))), .any, .any, .any, .any, .any, .any, .any, .any, .any, .any, .any, .any, .any, .any, .any, .any, .any, .any, .any, .any, .any, .any, .any, .any, .any, .any, .any, .any, .any, .any, .any, .any, .any, .any, .any, .any, .any, .any, .any, .any, .any, .any, .any, .any, .any, .any, .any, .any, .any, .any, .any, .any, .any, .any, .any, .any, .any, .any, .any, .any, .any, .any, .any, .any, .any, .any, .any, .any, .any, .any, .any, .any, .any, .any, .any, .any, .any, .any, .any, .any, .any, .any, .any, .any, .any, .any, .any, .any, .any, .any, .any, .any, .any, .any, .any, .any, .any, .any, .any, .any, .any, .any, .any, .any, .any, .any, .any, .any, .any, .any, .any, .any, .any, .any, .any, .any, .any, .any, .any, .any, .any, .any, .any, .any, .any, .any, .any, .any, .any, .any, .any, .any, .any, .any, .any, .any, .any, .any, .any, .any, .any, .any, .any, .any, .any, .any, .any, .any, .any, .any, .any, .any, .any], []⟩ (RoundQ Tryd.prog G [It.blk (1 : Nat), It.code (Code.seq (Code.seq (Code.region (19 : Nat) #[{ dst := some (4 : Nat), op := Op.assign (Operand.const (Value.int IntKind.i64 (-1 : Int))), type := (3 : Nat), pos := "strings.go:155", after := #[], guard := none }] false) Code.ret) (Code.seq (Code.label (1 : Nat)) (Code.seq (Code.cond (Operand.const (Value.bool true)) (Code.seq (Code.region (20 : Nat) #[{ dst := some (99 : Nat), op := Op.move (Operand.tmp (0 : Nat)), type := (9 : Nat), pos := "strings.go:160", after := #[], guard := none }, { dst := some (100 : Nat), op := Op.move (Operand.tmp (9 : Nat)), type := (3 : Nat), pos := "strings.go:160", after := #[], guard := none }, { dst := some (101 : Nat), op := Op.move (Operand.tmp (8 : Nat)), type := (3 : Nat), pos := "strings.go:160", after := #[], guard := none }, { dst := some (102 : Nat), op := Op.binOp BinOp.sub (3 : Nat) (Operand.tmp (100 : Nat)) (Operand.tmp (101 : Nat)) (3 : Nat), type := (3 : Nat), pos := "strings.go:160", after := #[{ on := (1 : Nat), ground := Ground.data }, { on := (2 : Nat), ground := Ground.data }], guard := none }, { dst := some (103 : Nat), op := Op.slice (9 : Nat) (Operand.tmp (99 : Nat)) (some (Operand.tmp (102 : Nat))) none none, type := (9 : Nat), pos := "strings.go:160", after := #[{ on := (0 : Nat), ground := Ground.data }, { on := (3 : Nat), ground := Ground.data }], guard := none }, { dst := some (104 : Nat), op := Op.move (Operand.tmp (1 : Nat)), type := (21 : Nat), pos := "strings.go:160", after := #[], guard := none }, { dst := some (105 : Nat), op := Op.convert (21 : Nat) (9 : Nat) (Operand.tmp (104 : Nat)), type := (9 : Nat), pos := "strings.go:160", after := #[{ on := (5 : Nat), ground := Ground.data }], guard := none }, { dst := some (106 : Nat), op := Op.call { callee := Callee.value (Operand.func (71 : Nat)), args := #[Operand.tmp (103 : Nat), Operand.tmp (105 : Nat)], argTypes := #[(9 : Nat), (9 : Nat)] }, type := (3 : Nat), pos := "strings.go:160", after := #[{ on := (4 : Nat), ground := Ground.data }, { on := (6 : Nat), ground := Ground.data }], guard := none }, { dst := some (13 : Nat), op := Op.assign (Operand.tmp (106 : Nat)), type := (3 : Nat), pos := "strings.go:160", after := #[{ on := (7 : Nat), ground := Ground.data }, { on := (7 : Nat), ground := Ground.chain }, { on := (0 : Nat), ground := Ground.phase }, { on := (1 : Nat), ground := Ground.phase }, { on := (2 : Nat), ground := Ground.phase }, { on := (3 : Nat), ground := Ground.phase }, { on := (4 : Nat), ground := Ground.phase }, { on := (5 : Nat), ground := Ground.phase }, { on := (6 : Nat), ground := Ground.phase }, { on := (7 : Nat), ground := Ground.phase }], guard := none }] false) (Code.seq (Code.region (21 : Nat) #[{ dst := some (107 : Nat), op := Op.move (Operand.tmp (13 : Nat)), type := (3 : Nat), pos := "strings.go:160", after := #[], guard := none }, { dst := some (108 : Nat), op := Op.binOp BinOp.geq (3 : Nat) (Operand.tmp (107 : Nat)) (Operand.const (Value.int IntKind.i64 (0 : Int))) (3 : Nat), type := (4 : Nat), pos := "strings.go:160", after := #[{ on := (0 : Nat), ground := Ground.data }], guard := none }] false) (Code.cond (Operand.tmp (108 : Nat)) (Code.seq (Code.region (22 : Nat) #[{ dst := some (109 : Nat), op := Op.move (Operand.tmp (9 : Nat)), type := (3 : Nat), pos := "strings.go:161", after := #[], guard := none }, { dst := some (110 : Nat), op := Op.move (Operand.tmp (13 : Nat)), type := (3 : Nat), pos := "strings.go:161", after := #[], guard := none }, { dst := some (111 : Nat), op := Op.binOp BinOp.add (3 : Nat) (Operand.tmp (109 : Nat)) (Operand.tmp (110 : Nat)) (3 : Nat), type := (3 : Nat), pos := "strings.go:161", after := #[{ on := (0 : Nat), ground := Ground.data }, { on := (1 : Nat), ground := Ground.data }], guard := none }, { dst := some (112 : Nat), op := Op.move (Operand.tmp (8 : Nat)), type := (3 : Nat), pos := "strings.go:161", after := #[], guard := none }, { dst := some (113 : Nat), op := Op.binOp BinOp.sub (3 : Nat) (Operand.tmp (111 : Nat)) (Operand.tmp (112 : Nat)) (3 : Nat), type := (3 : Nat), pos := "strings.go:161", after := #[{ on := (2 : Nat), ground := Ground.data }, { on := (3 : Nat), ground := Ground.data }], guard := none }, { dst := some (4 : Nat), op := Op.assign (Operand.tmp (113 : Nat)), type := (3 : Nat), pos := "strings.go:161", after := #[{ on := (4 : Nat), ground := Ground.data }, { on := (0 : Nat), ground := Ground.phase }, { on := (1 : Nat), ground := Ground.phase }, { on := (2 : Nat), ground := Ground.phase }, { on := (3 : Nat), ground := Ground.phase }, { on := (4 : Nat), ground := Ground.phase }], guard := none }] false) Code.ret) Code.skip))) (Code.scope (Code.seq (Code.region (23 : Nat) #[{ dst := some (114 : Nat), op := Op.move (Operand.tmp (7 : Nat)), type := (9 : Nat), pos := "strings.go:164", after := #[], guard := none }, { dst := some (115 : Nat), op := Op.move (Operand.tmp (8 : Nat)), type := (3 : Nat), pos := "strings.go:164", after := #[], guard := none }, { dst := some (116 : Nat), op := Op.index (9 : Nat) (Operand.tmp (114 : Nat)) (Operand.tmp (115 : Nat)), type := (5 : Nat), pos := "strings.go:164", after := #[{ on := (0 : Nat), ground := Ground.data }, { on := (1 : Nat), ground := Ground.data }], guard := none }, { dst := some (14 : Nat), op := Op.assign (Operand.tmp (116 : Nat)), type := (5 : Nat), pos := "strings.go:164", after := #[{ on := (2 : Nat), ground := Ground.data }, { on := (0 : Nat), ground := Ground.phase }, { on := (1 : Nat), ground := Ground.phase }, { on := (2 : Nat), ground := Ground.phase }], guard := none }] false) (Code.seq (Code.region (24 : Nat) #[{ dst := some (117 : Nat), op := Op.move (Operand.tmp (7 : Nat)), type := (9 : Nat), pos := "strings.go:165", after := #[], guard := none }, { dst := some (118 : Nat), op := Op.move (Operand.tmp (8 : Nat)), type := (3 : Nat), pos := "strings.go:165", after := #[], guard := none }, { dst := some (119 : Nat), op := Op.binOp BinOp.sub (3 : Nat) (Operand.tmp (118 : Nat)) (Operand.const (Value.int IntKind.i64 (1 : Int))) (3 : Nat), type := (3 : Nat), pos := "strings.go:165", after := #[{ on := (1 : Nat), ground := Ground.data }], guard := none }, { dst := some (120 : Nat), op := Op.index (9 : Nat) (Operand.tmp (117 : Nat)) (Operand.tmp (119 : Nat)), type := (5 : Nat), pos := "strings.go:165", after := #[{ on := (0 : Nat), ground := Ground.data }, { on := (2 : Nat), ground := Ground.data }], guard := none }, { dst := some (15 : Nat), op := Op.assign (Operand.tmp (120 : Nat)), type := (5 : Nat), pos := "strings.go:165", after := #[{ on := (3 : Nat), ground := Ground.data }, { on := (0 : Nat), ground := Ground.phase }, { on := (1 : Nat), ground := Ground.phase }, { on := (2 : Nat), ground := Ground.phase }, { on := (3 : Nat), ground := Ground.phase }], guard := none }] false) (Code.seq (Code.label (2 : Nat)) (Code.block (5 : Nat) (Code.loop (Code.seq (Code.seq (Code.region (25 : Nat) #[{ dst := some (121 : Nat), op := Op.move (Operand.tmp (9 : Nat)), type := (3 : Nat), pos := "strings.go:167", after := #[], guard := none }, { dst := some (122 : Nat), op := Op.move (Operand.tmp (0 : Nat)), type := (9 : Nat), pos := "strings.go:167", after := #[], guard := none }, { dst := some (123 : Nat), op := Op.call { callee := Callee.builtin Builtin.len, args := #[Operand.tmp (122 : Nat)], argTypes := #[(9 : Nat)] }, type := (3 : Nat), pos := "strings.go:167", after := #[{ on := (1 : Nat), ground := Ground.data }], guard := none }, { dst := some (124 : Nat), op := Op.binOp BinOp.lss (3 : Nat) (Operand.tmp (121 : Nat)) (Operand.tmp (123 : Nat)) (3 : Nat), type := (4 : Nat), pos := "strings.go:167", after := #[{ on := (0 : Nat), ground := Ground.data }, { on := (2 : Nat), ground := Ground.data }], guard := none }] false) (Code.cond (Operand.tmp (124 : Nat)) Code.skip (Code.exit (5 : Nat)))) (Code.seq (Code.block (6 : Nat) (Code.seq (Code.region (27 : Nat) #[{ dst := some (127 : Nat), op := Op.move (Operand.tmp (0 : Nat)), type := (9 : Nat), pos := "strings.go:168", after := #[], guard := none }, { dst := some (128 : Nat), op := Op.move (Operand.tmp (9 : Nat)), type := (3 : Nat), pos := "strings.go:168", after := #[], guard := none }, { dst := some (129 : Nat), op := Op.index (9 : Nat) (Operand.tmp (127 : Nat)) (Operand.tmp (128 : Nat)), type := (5 : Nat), pos := "strings.go:168", after := #[{ on := (0 : Nat), ground := Ground.data }, { on := (1 : Nat), ground := Ground.data }], guard := none }, { dst := some (130 : Nat), op := Op.move (Operand.tmp (14 : Nat)), type := (5 : Nat), pos := "strings.go:168", after := #[], guard := none }, { dst := some (131 : Nat), op := Op.binOp BinOp.eql (5 : Nat) (Operand.tmp (129 : Nat)) (Operand.tmp (130 : Nat)) (5 : Nat), type := (4 : Nat), pos := "strings.go:168", after := #[{ on := (2 : Nat), ground := Ground.data }, { on := (3 : Nat), ground := Ground.data }], guard := none }, { dst := some (132 : Nat), op := Op.move (Operand.tmp (131 : Nat)), type := (4 : Nat), pos := "strings.go:168", after := #[{ on := (4 : Nat), ground := Ground.data }], guard := none }, { dst := some (133 : Nat), op := Op.move (Operand.tmp (0 : Nat)), type := (9 : Nat), pos := "strings.go:168", after := #[{ on := (5 : Nat), ground := Ground.guard }], guard := some ((5 : Nat), true) }, { dst := some (134 : Nat), op := Op.move (Operand.tmp (9 : Nat)), type := (3 : Nat), pos := "strings.go:168", after := #[{ on := (5 : Nat), ground := Ground.guard }], guard := some ((5 : Nat), true) }, { dst := some (135 : Nat), op := Op.binOp BinOp.sub (3 : Nat) (Operand.tmp (134 : Nat)) (Operand.const (Value.int IntKind.i64 (1 : Int))) (3 : Nat), type := (3 : Nat), pos := "strings.go:168", after := #[{ on := (7 : Nat), ground := Ground.data }, { on := (5 : Nat), ground := Ground.guard }], guard := some ((5 : Nat), true) }, { dst := some (136 : Nat), op := Op.index (9 : Nat) (Operand.tmp (133 : Nat)) (Operand.tmp (135 : Nat)), type := (5 : Nat), pos := "strings.go:168", after := #[{ on := (6 : Nat), ground := Ground.data }, { on := (8 : Nat), ground := Ground.data }, { on := (5 : Nat), ground := Ground.guard }], guard := some ((5 : Nat), true) }, { dst := some (137 : Nat), op := Op.move (Operand.tmp (15 : Nat)), type := (5 : Nat), pos := "strings.go:168", after := #[{ on := (5 : Nat), ground := Ground.guard }], guard := some ((5 : Nat), true) }, { dst := some (138 : Nat), op := Op.binOp BinOp.eql (5 : Nat) (Operand.tmp (136 : Nat)) (Operand.tmp (137 : Nat)) (5 : Nat), type := (4 : Nat), pos := "strings.go:168", after := #[{ on := (9 : Nat), ground := Ground.data }, { on := (10 : Nat), ground := Ground.data }, { on := (5 : Nat), ground := Ground.guard }], guard := some ((5 : Nat), true) }, { dst := some (139 : Nat), op := Op.pick (Operand.tmp (132 : Nat)) (Operand.tmp (138 : Nat)) (Operand.const (Value.bool false)), type := (4 : Nat), pos := "strings.go:168", after := #[{ on := (5 : Nat), ground := Ground.data }, { on := (11 : Nat), ground := Ground.data }], guard := none }] false) (Code.cond (Operand.tmp (139 : Nat)) (Code.seq (Code.seq (Code.region (28 : Nat) #[{ dst := some (16 : Nat), op := Op.assign (Operand.const (Value.int IntKind.i64 (2 : Int))), type := (3 : Nat), pos := "strings.go:169", after := #[], guard := none }] false) (Code.block (7 : Nat) (Code.loop (Code.seq (Code.seq (Code.region (29 : Nat) #[{ dst := some (140 : Nat), op := Op.move (Operand.tmp (16 : Nat)), type := (3 : Nat), pos := "strings.go:169", after := #[], guard := none }, { dst := some (141 : Nat), op := Op.move (Operand.tmp (7 : Nat)), type := (9 : Nat), pos := "strings.go:169", after := #[], guard := none }, { dst := some (142 : Nat), op := Op.call { callee := Callee.builtin Builtin.len, args := #[Operand.tmp (141 : Nat)], argTypes := #[(9 : Nat)] }, type := (3 : Nat), pos := "strings.go:169", after := #[{ on := (1 : Nat), ground := Ground.data }], guard := none }, { dst := some (143 : Nat), op := Op.binOp BinOp.lss (3 : Nat) (Operand.tmp (140 : Nat)) (Operand.tmp (142 : Nat)) (3 : Nat), type := (4 : Nat), pos := "strings.go:169", after := #[{ on := (0 : Nat), ground := Ground.data }, { on := (2 : Nat), ground := Ground.data }], guard := none }] false) (Code.cond (Operand.tmp (143 : Nat)) Code.skip (Code.exit (7 : Nat)))) (Code.seq (Code.block (8 : Nat) (Code.seq (Code.region (31 : Nat) #[{ dst := some (146 : Nat), op := Op.move (Operand.tmp (0 : Nat)), type := (9 : Nat), pos := "strings.go:170", after := #[], guard := none }, { dst := some (147 : Nat), op := Op.move (Operand.tmp (9 : Nat)), type := (3 : Nat), pos := "strings.go:170", after := #[], guard := none }, { dst := some (148 : Nat), op := Op.move (Operand.tmp (16 : Nat)), type := (3 : Nat), pos := "strings.go:170", after := #[], guard := none }, { dst := some (149 : Nat), op := Op.binOp BinOp.sub (3 : Nat) (Operand.tmp (147 : Nat)) (Operand.tmp (148 : Nat)) (3 : Nat), type := (3 : Nat), pos := "strings.go:170", after := #[{ on := (1 : Nat), ground := Ground.data }, { on := (2 : Nat), ground := Ground.data }], guard := none }, { dst := some (150 : Nat), op := Op.index (9 : Nat) (Operand.tmp (146 : Nat)) (Operand.tmp (149 : Nat)), type := (5 : Nat), pos := "strings.go:170", after := #[{ on := (0 : Nat), ground := Ground.data }, { on := (3 : Nat), ground := Ground.data }], guard := none }, { dst := some (151 : Nat), op := Op.move (Operand.tmp (7 : Nat)), type := (9 : Nat), pos := "strings.go:170", after := #[], guard := none }, { dst := some (152 : Nat), op := Op.move (Operand.tmp (8 : Nat)), type := (3 : Nat), pos := "strings.go:170", after := #[], guard := none }, { dst := some (153 : Nat), op := Op.move (Operand.tmp (16 : Nat)), type := (3 : Nat), pos := "strings.go:170", after := #[], guard := none }, { dst := some (154 : Nat), op := Op.binOp BinOp.sub (3 : Nat) (Operand.tmp (152 : Nat)) (Operand.tmp (153 : Nat)) (3 : Nat), type := (3 : Nat), pos := "strings.go:170", after := #[{ on := (6 : Nat), ground := Ground.data }, { on := (7 : Nat), ground := Ground.data }], guard := none }, { dst := some (155 : Nat), op := Op.index (9 : Nat) (Operand.tmp (151 : Nat)) (Operand.tmp (154 : Nat)), type := (5 : Nat), pos := "strings.go:170", after := #[{ on := (5 : Nat), ground := Ground.data }, { on := (8 : Nat), ground := Ground.data }], guard := none }, { dst := some (156 : Nat), op := Op.binOp BinOp.neq (5 : Nat) (Operand.tmp (150 : Nat)) (Operand.tmp (155 : Nat)) (5 : Nat), type := (4 : Nat), pos := "strings.go:170", after := #[{ on := (4 : Nat), ground := Ground.data }, { on := (9 : Nat), ground := Ground.data }], guard := none }] true) (Code.cond (Operand.tmp (156 : Nat)) (Code.exit (6 : Nat)) Code.skip))) (Code.region (30 : Nat) #[{ dst := some (144 : Nat), op := Op.move (Operand.tmp (16 : Nat)), type := (3 : Nat), pos := "strings.go:169", after := #[], guard := none }, { dst := some (145 : Nat), op := Op.binOp BinOp.add (3 : Nat) (Operand.tmp (144 : Nat)) (Operand.const (Value.int IntKind.i64 (1 : Int))) (3 : Nat), type := (3 : Nat), pos := "strings.go:169", after := #[{ on := (0 : Nat), ground := Ground.data }], guard := none }, { dst := some (16 : Nat), op := Op.assign (Operand.tmp (145 : Nat)), type := (3 : Nat), pos := "strings.go:169", after := #[{ on := (1 : Nat), ground := Ground.data }, { on := (0 : Nat), ground := Ground.phase }, { on := (1 : Nat), ground := Ground.phase }], guard := none }] false)))))) (Code.seq (Code.region (32 : Nat) #[{ dst := some (157 : Nat), op := Op.move (Operand.tmp (9 : Nat)), type := (3 : Nat), pos := "strings.go:174", after := #[], guard := none }, { dst := some (158 : Nat), op := Op.move (Operand.tmp (8 : Nat)), type := (3 : Nat), pos := "strings.go:174", after := #[], guard := none }, { dst := some (159 : Nat), op := Op.binOp BinOp.sub (3 : Nat) (Operand.tmp (157 : Nat)) (Operand.tmp (158 : Nat)) (3 : Nat), type := (3 : Nat), pos := "strings.go:174", after := #[{ on := (0 : Nat), ground := Ground.data }, { on := (1 : Nat), ground := Ground.data }], guard := none }, { dst := some (4 : Nat), op := Op.assign (Operand.tmp (159 : Nat)), type := (3 : Nat), pos := "strings.go:174", after := #[{ on := (2 : Nat), ground := Ground.data }, { on := (0 : Nat), ground := Ground.phase }, { on := (1 : Nat), ground := Ground.phase }, { on := (2 : Nat), ground := Ground.phase }], guard := none }] false) Code.ret)) Code.skip))) (Code.region (26 : Nat) #[{ dst := some (125 : Nat), op := Op.move (Operand.tmp (9 : Nat)), type := (3 : Nat), pos := "strings.go:167", after := #[], guard := none }, { dst := some (126 : Nat), op := Op.binOp BinOp.add (3 : Nat) (Operand.tmp (125 : Nat)) (Operand.const (Value.int IntKind.i64 (1 : Int))) (3 : Nat), type := (3 : Nat), pos := "strings.go:167", after := #[{ on := (0 : Nat), ground := Ground.data }], guard := none }, { dst := some (9 : Nat), op := Op.assign (Operand.tmp (126 : Nat)), type := (3 : Nat), pos := "strings.go:167", after := #[{ on := (1 : Nat), ground := Ground.data }, { on := (0 : Nat), ground := Ground.phase }, { on := (1 : Nat), ground := Ground.phase }], guard := none }] false)))))))))) (Code.seq (Code.region (33 : Nat) #[{ dst := some (4 : Nat), op := Op.assign (Operand.const (Value.int IntKind.i64 (-1 : Int))), type := (3 : Nat), pos := "strings.go:178", after := #[], guard := none }] false) Code.ret)))), It.scp, It.blk (0 : Nat)] (Ret Tryd.prog Tryd.f62 (di (-1 : Int))) (S62 r) (fun x => True) (fun x => (0 : Nat)) i))))) ∧
      ((true = false) →
      AWP Tryd.prog G [.code (cAt (bodyOf Tryd.f62) [1, 0, 1, 1, 1, 1, 1, 1, 0, 1, 1, 1, 1, 1]), .scp, (.blk ((0 : Nat)))] ⟨[(.d (.con (.string hexS))), (.d (.con (.int .i32 r))), .any, .any, .any, .any, .any, (.d (.con (.string (Utf8.encode r)))), (.d (.con (.int .i64 ((1 : Int))))), (.d (.con (.int .i64 ((1 : Int))))), .any, .any, .any, .any, .any, .any, .any, .any, .any, .any, .any, .any, .any, (.d (.con (.int .i64 ((1 : Int))))), (.d (.con (.string hexS))), (.d (.con (.int .i64 ((16 : Int))))), (.d (.con (.bool true))), .any, .any, .any, .any, .any, .any, .any, .any, .any, .any, .any, .any, .any, .any, .any, .any, .any, .any, .any, .any, .any, .any, .any, .any, .any, .any, .any, .any, .any, .any, .any, .any, .any, .any, .any, .any, .any, .any, .any, .any, .any, .any, .any, .any, .any, .any, .any, .any, .any, .any, .any, .any, .any, .any, .any, .any, .any, .any, .any, .any, .any, .any, .any, .any, .any, .any, .any, .any, .any, .any, .any, .any, .any, .any, .any, .any, .any, .any, .any, .any, .any, .any, .any, .any, .any, .any, .any, .any, .any, .any, .any, .any, .any, .any, .any, .any, .any, .any, .any, .any, .any, .any, .any, .any, .any, .any, .any, .any, .any, .any, .any, .any, .any, .any, .any, .any, .any, .any, .any, .any, .any, .any, .any, .any, .any, .any, .any, .any, .any, .any, .any, .any, .any, .any, .any, .any, .any, .any, .any, .any, .any, .any, .any, .any, .any, .any, .any, .any, .any, .any, .any, .any, .any, .any, .any, .any, .any, .any, .any, .any], []⟩ (Ret Tryd.prog Tryd.f62 (di (-1 : Int)))))) (by kernel_rfl) ?_
    have hix : idxB (ByteArray.extract hexS (Int.toNat ((1 : Int) + (1 : Int))) (Int.toNat (hexS.size : Int))) (byteAt (Utf8.encode r) (Int.toNat (1 : Int))) = -1 := by
      have e : ByteArray.extract hexS (Int.toNat ((1 : Int) + (1 : Int))) (Int.toNat (hexS.size : Int)) = bs [50, 51, 52, 53, 54, 55, 56, 57, 97, 98, 99, 100, 101, 102] := by rw [extract_bs]; rfl
      rw [e]
      have e1 : Int.toNat (1 : Int) = 1 := rfl
      rw [e1]
      generalize byteAt (Utf8.encode r) 1 = c at hb
      obtain ⟨k, rfl⟩ := Int.eq_ofNat_of_zero_le (show 0 ≤ c by omega)
      have key : ∀ k : Nat, k < 256 → 128 ≤ k → idxB (bs [50, 51, 52, 53, 54, 55, 56, 57, 97, 98, 99, 100, 101, 102]) (k : Int) = -1 := by decide +kernel
      exact key k (by omega) (by omega)
    have hne : (byteAt hexS (Int.toNat (1 : Int)) != byteAt (Utf8.encode r) (Int.toNat (1 : Int))) = true := by
      have e1 : Int.toNat (1 : Int) = 1 := rfl
      have e2 : byteAt hexS 1 = 49 := rfl
      rw [e1, e2]
      simp; omega
    have hz : hexS.size = 16 := rfl
    refine ⟨fun _ => ⟨⟨⟨by omega, by omega⟩, by omega, by rw [hs]; decide⟩, fun _ => ⟨⟨⟨by decide, by decide⟩, ⟨by omega, by omega, by omega⟩, ⟨by omega, by rw [hs]; decide⟩, f68 _ _⟩, fun _ => rfl, fun h => ?_⟩, fun h => ?_⟩, fun h => by cases h⟩
    · rw [hix] at h; cases h
    · rw [hne] at h; cases h
end Go.Proofs

set_option autoImplicit false
namespace Go.Proofs
open Go Go.Ab Go.RowKit
set_option maxHeartbeats 1000000
set_option maxRecDepth 100000
variable {G : IH}
def irD (c : Int) : Int := match hexI c with | some d => d | none => -1
theorem ir_low : ∀ k : Nat, k < 128 → idxB hexS (k : Int) = irD (k : Int) := by decide +kernel
theorem ir_high (r : Int) (h0 : 128 ≤ r) : irD r = -1 := by
  unfold irD hexI
  rw [if_neg (by omega), if_neg (by omega)]
theorem f62 (r : Int) (h0 : 0 ≤ r) (h1 : r < 256) : FnOK Tryd.prog G 62 [ds hexS, .con (.int .i32 r)] (di (irD r)) := by
  by_cases h : r < 128
  · have := f62a (G := G) hexS r h0 h
    have e := ir_low r.toNat (by omega)
    rw [show ((r.toNat : Nat) : Int) = r by omega] at e
    rwa [e] at this
  · rw [ir_high r (by omega)]
    exact f62b r (by omega) h1
def orcDg : Oracle := fun f args => match f, args with
  | 62, [_, .con (.int .i32 r)] => some (di (irD r))
  | _, _ => none
def dV (c : Int) : Int := ((hexI c).getD 0 : Nat)
def dB (c : Int) : Bool := (hexI c).isSome
theorem f53 (r : Int) (h0 : 0 ≤ r) (h1 : r < 256) : FnOK Tryd.prog G 53 [.con (.int .i32 r)] (.tup [di (dV r), db (dB r)]) := by
  refine FnOK.walk (orc := orcDg) (keep := []) follows Tryd.func53 rfl Tryd.call53 ?_
  refine of_eqH (b :=
    (FnOK Tryd.prog G ((62 : Nat)) [(.con (.string ({ data := #[(48 : UInt8), (49 : UInt8), (50 : UInt8), (51 : UInt8), (52 : UInt8), (53 : UInt8), (54 : UInt8), (55 : UInt8), (56 : UInt8), (57 : UInt8), (97 : UInt8), (98 : UInt8), (99 : UInt8), (100 : UInt8), (101 : UInt8), (102 : UInt8)] }))), (.con (.int .i32 r))] (.con (.int .i64 (irD r))) ∧
    (((.tup [(.con (.int .i64 (if (0 : Int) > irD r then (0 : Int) else irD r))), (.con (.bool (decide (irD r ≥ (0 : Int)))))]) : DV) = (.tup [(di (dV r)), (db (dB r))])))) (by kernel_rfl) ?_
  refine ⟨f62 r h0 h1, ?_⟩
  unfold irD dV dB
  cases hexI r with
  | none => rfl
  | some d =>
    have e1 : (if (0 : Int) > (d : Int) then (0 : Int) else (d : Int)) = d := if_neg (by omega)
    have e2 : decide ((d : Int) ≥ 0) = true := by simp
    simp only [e1, e2]
    rfl
def orcNum : Oracle := fun f args => match f, args with
  | 53, [.con (.int .i32 r)] => some (.tup [di (dV r), db (dB r)])
  | _, _ => none
/-- The number that digits are, and whether they are. -/
def numU (s : ByteArray) : Int := ((numP s s.size).getD 0 : Nat)
theorem or16 (n d : Nat) (hd : d < 16) (h : n * 16 + d < 18446744073709551616) : IntKind.wrap .u64 ((BitVec.ofInt (IntKind.bits .u64) (IntKind.wrap .u64 ((n : Int) * 2 ^ min (Int.toNat 4) (IntKind.bits .u64))) ||| BitVec.ofInt (IntKind.bits .u64) (IntKind.wrap .u64 (d : Int))).toNat : Int) = ((16 * n + d : Nat) : Int) := by
  have e1 : (n : Int) * 2 ^ min (Int.toNat 4) (IntKind.bits .u64) = ((n * 16 : Nat) : Int) := by
    have : (2 : Int) ^ min (Int.toNat 4) (IntKind.bits .u64) = 16 := rfl
    rw [this]; push_cast; rfl
  rw [e1, u64_nat (n * 16) (by omega), u64_nat d (by omega)]
  have e2 : (BitVec.ofInt (IntKind.bits .u64) ((n * 16 : Nat) : Int) ||| BitVec.ofInt (IntKind.bits .u64) (d : Int)).toNat = 16 * n + d := by
    show (BitVec.ofInt 64 ((n * 16 : Nat) : Int) ||| BitVec.ofInt 64 (d : Int)).toNat = _
    rw [ofInt_nat, ofInt_nat]
    simp only [BitVec.toNat_or, BitVec.toNat_ofNat]
    rw [Nat.mod_eq_of_lt (by omega : n * 16 < 2 ^ 64), Nat.mod_eq_of_lt (by omega : d < 2 ^ 64)]
    have := Nat.shiftLeft_add_eq_or_of_lt (show d < 2 ^ 4 by omega) n
    rw [Nat.shiftLeft_eq] at this
    rw [show n * 16 = n * 2 ^ 4 by rfl, ← this]; omega
  rw [e2, u64_nat _ (by omega)]
noncomputable def S41 (s : ByteArray) (x : Nat × Nat) : AS := ⟨regs Tryd.f41.ntmps [(0, vs s), (4, vu x.2), (9, vi s.size), (10, vi x.1)], []⟩
theorem f41 (s : ByteArray) (hs : s.size ≤ 16) : FnOK Tryd.prog G 41 [ds s] (.tup [du (numU s), db (numB s)]) := by
  refine FnOK.walk (orc := orcNum) (keep := []) follows Tryd.func41 rfl Tryd.call41 ?_
  refine of_eqH (b :=
    AWP Tryd.prog G [.code (cAt (bodyOf Tryd.f41) [1, 1, 0, 1, 0]), (.blk ((0 : Nat))), .code (cAt (bodyOf Tryd.f41) [1, 1, 1])] ⟨[(.d (.con (.string s))), .any, (.d (.con (.int .u64 ((0 : Int))))), (.d (.con (.bool false))), (.d (.con (.int .u64 ((0 : Int))))), .any, .any, .any, (.d (.con (.string s))), (.d (.con (.int .i64 ((↑(ByteArray.size s) : Int))))), (.d (.con (.int .i64 ((0 : Int))))), .any, .any, .any, .any, .any, .any, .any, .any, .any, .any, .any, .any, .any, .any, .any, .any, .any, .any, .any], []⟩ (Ret Tryd.prog Tryd.f41 (DV.tup [du (numU s), db (numB s)]))) (by kernel_rfl) ?_
  refine AWP.loop (c := cAt (bodyOf Tryd.f41) [1, 1, 0, 1, 0, 0]) (by kernel_rfl) (S41 s) (fun x => x.1 ≤ s.size ∧ numP s x.1 = some x.2) (fun x => s.size - x.1) (0, 0) ?_ ⟨Nat.zero_le _, rfl⟩ ?_
  · refine of_eq (b :=
    (((((.d (.con (.string s))) : AV) = (.d (.con (.string s)))) ∧
    ((((.d (.con (.int .u64 ((0 : Int))))) : AV) = (.d (.con (.int .u64 ((0 : Int)))))) ∧
    ((((.d (.con (.int .i64 ((↑(ByteArray.size s) : Int))))) : AV) = (.d (.con (.int .i64 ((↑(ByteArray.size s) : Int)))))) ∧
    ((((.d (.con (.int .i64 ((0 : Int))))) : AV) = (.d (.con (.int .i64 ((0 : Int)))))) ∧
    True)))) ∧
    True)) (by kernel_rfl) ?_
    exact ⟨⟨rfl, rfl, rfl, rfl, trivial⟩, trivial⟩
  · rintro ⟨i, n⟩ ⟨hi, hn⟩
    simp only at hi hn
    refine walk (orc := orcNum) (keep := []) (cuts := []) (n := 1000) follows ?_
    refine of_eqH (b :=
      ((((decide ((↑i : Int) < (↑(ByteArray.size s) : Int))) = true) →
      (((((0 : Int) ≤ (↑i : Int)) ∧
      ((↑i : Int) < (↑(ByteArray.size s) : Int))) ∧
      FnOK Tryd.prog G ((53 : Nat)) [(.con (.int .i32 (IntKind.wrap IntKind.i32 (byteAt s (Int.toNat (↑i : Int))))))] (.tup [(.con (.int .i64 (dV (IntKind.wrap IntKind.i32 (byteAt s (Int.toNat (↑i : Int))))))), (.con (.bool (dB (IntKind.wrap IntKind.i32 (byteAt s (Int.toNat (↑i : Int)))))))])) ∧
      ((((!dB (IntKind.wrap IntKind.i32 (byteAt s (Int.toNat (↑i : Int))))) = true) →
      (((.tup [(.con (.int .u64 ((0 : Int)))), (.con (.bool false))]) : DV) = (.tup [(du (numU s)), (db (numB s))]))) ∧
      (((!dB (IntKind.wrap IntKind.i32 (byteAt s (Int.toNat (↑i : Int))))) = false) →
      (((0 : Int) ≤ (4 : Int)) ∧
      ((I64 ((↑i : Int) + (1 : Int))) ∧
      Again (S41 s) (fun x => Prod.fst x ≤ ByteArray.size s ∧ numP s (Prod.fst x) = some (Prod.snd x)) (fun x => ByteArray.size s - Prod.fst x) ((i, n)) ⟨[(.d (.con (.string s))), .any, .any, .any, (.d (.con (.int .u64 (IntKind.wrap IntKind.u64 (↑(BitVec.toNat (BitVec.ofInt (IntKind.bits IntKind.u64) (IntKind.wrap IntKind.u64 ((↑n : Int) * (2 : Int) ^ min (Int.toNat (4 : Int)) (IntKind.bits IntKind.u64))) ||| BitVec.ofInt (IntKind.bits IntKind.u64) (IntKind.wrap IntKind.u64 (dV (IntKind.wrap IntKind.i32 (byteAt s (Int.toNat (↑i : Int)))))))) : Int))))), (.d (.con (.int .i64 ((↑i : Int))))), (.d (.con (.int .i64 (dV (IntKind.wrap IntKind.i32 (byteAt s (Int.toNat (↑i : Int)))))))), (.d (.con (.bool (dB (IntKind.wrap IntKind.i32 (byteAt s (Int.toNat (↑i : Int)))))))), .any, (.d (.con (.int .i64 ((↑(ByteArray.size s) : Int))))), (.d (.con (.int .i64 ((↑i : Int) + (1 : Int))))), (.d (.con (.bool (decide ((↑i : Int) < (↑(ByteArray.size s) : Int)))))), (.d (.con (.int .i64 ((↑i : Int))))), (.d (.tup [(.con (.int .i64 (dV (IntKind.wrap IntKind.i32 (byteAt s (Int.toNat (↑i : Int))))))), (.con (.bool (dB (IntKind.wrap IntKind.i32 (byteAt s (Int.toNat (↑i : Int)))))))])), (.d (.con (.string s))), (.d (.con (.int .i64 ((↑i : Int))))), (.d (.con (.int .u8 (byteAt s (Int.toNat (↑i : Int)))))), (.d (.con (.int .i32 (IntKind.wrap IntKind.i32 (byteAt s (Int.toNat (↑i : Int))))))), (.d (.tup [(.con (.int .i64 (dV (IntKind.wrap IntKind.i32 (byteAt s (Int.toNat (↑i : Int))))))), (.con (.bool (dB (IntKind.wrap IntKind.i32 (byteAt s (Int.toNat (↑i : Int)))))))])), (.d (.con (.int .i64 (dV (IntKind.wrap IntKind.i32 (byteAt s (Int.toNat (↑i : Int)))))))), (.d (.con (.bool (dB (IntKind.wrap IntKind.i32 (byteAt s (Int.toNat (↑i : Int)))))))), (.d (.con (.bool (dB (IntKind.wrap IntKind.i32 (byteAt s (Int.toNat (↑i : Int)))))))), (.d (.con (.bool (!dB (IntKind.wrap IntKind.i32 (byteAt s (Int.toNat (↑i : Int)))))))), (.d (.con (.int .u64 ((↑n : Int))))), (.d (.con (.int .u64 (IntKind.wrap IntKind.u64 ((↑n : Int) * (2 : Int) ^ min (Int.toNat (4 : Int)) (IntKind.bits IntKind.u64)))))), (.d (.con (.int .i64 (dV (IntKind.wrap IntKind.i32 (byteAt s (Int.toNat (↑i : Int)))))))), (.d (.con (.int .u64 (IntKind.wrap IntKind.u64 (dV (IntKind.wrap IntKind.i32 (byteAt s (Int.toNat (↑i : Int))))))))), (.d (.con (.int .u64 (IntKind.wrap IntKind.u64 (↑(BitVec.toNat (BitVec.ofInt (IntKind.bits IntKind.u64) (IntKind.wrap IntKind.u64 ((↑n : Int) * (2 : Int) ^ min (Int.toNat (4 : Int)) (IntKind.bits IntKind.u64))) ||| BitVec.ofInt (IntKind.bits IntKind.u64) (IntKind.wrap IntKind.u64 (dV (IntKind.wrap IntKind.i32 (byteAt s (Int.toNat (↑i : Int)))))))) : Int))))), (.d (.con (.int .i64 ((↑i : Int) + (1 : Int))))), .any], []⟩)))))) ∧
      (((decide ((↑i : Int) < (↑(ByteArray.size s) : Int))) = false) →
      AWP Tryd.prog G [.code (cAt (bodyOf Tryd.f41) [1, 1, 1])] ⟨[(.d (.con (.string s))), .any, .any, .any, (.d (.con (.int .u64 ((↑n : Int))))), .any, .any, .any, .any, (.d (.con (.int .i64 ((↑(ByteArray.size s) : Int))))), (.d (.con (.int .i64 ((↑i : Int))))), (.d (.con (.bool (decide ((↑i : Int) < (↑(ByteArray.size s) : Int)))))), .any, .any, .any, .any, .any, .any, .any, .any, .any, .any, .any, .any, .any, .any, .any, .any, .any, .any], []⟩ (Ret Tryd.prog Tryd.f41 (DV.tup [du (numU s), db (numB s)]))))) (by kernel_rfl) ?_
    have hb := byteAt_bd s i
    have ew : IntKind.wrap .i32 (byteAt s i) = byteAt s i := IntWalk.i32_in _ ⟨by omega, by omega⟩
    simp only [Int.toNat_natCast, ew]
    refine ⟨fun h => ?_, fun h => ?_⟩
    · have hi' : i < s.size := by simpa using h
      have hk := f53 (G := G) (byteAt s i) hb.1 (by omega)
      refine ⟨⟨⟨by omega, by omega⟩, hk⟩, fun h1 => ?_, fun h1 => ⟨by omega, ⟨by omega, by omega⟩, ?_⟩⟩
      · have h1 : (hexI (byteAt s i)).isSome = false := by simpa [dB] using h1
        have h1 : hexI (byteAt s i) = none := by simpa using h1
        have e3 : numP s (i + 1) = none := by simp only [numP, hn, h1]
        have e4 := numP_none e3 s.size hi'
        unfold numU numB
        rw [e4]; rfl
      · have h1 : (hexI (byteAt s i)).isSome = true := by simpa [dB] using h1
        obtain ⟨d, hd⟩ := Option.isSome_iff_exists.1 h1
        have e3 : numP s (i + 1) = some (16 * n + d) := by simp only [numP, hn, hd]
        have hbd := numP_bd e3
        have hb2 := numP_bd hn
        have hle : 16 ^ (i + 1) ≤ 16 ^ 16 := Nat.pow_le_pow_right (by decide) (by omega)
        have hd16 : d < 16 := by
          have hd' := hd
          unfold hexI at hd'
          split at hd'
          · simp only [Option.some.injEq] at hd'; omega
          · split at hd'
            · simp only [Option.some.injEq] at hd'; omega
            · cases hd'
        have eV : dV (byteAt s i) = (d : Int) := by unfold dV; rw [hd]; rfl
        rw [eV, or16 n d hd16 (by omega)]
        refine Again.mk (i + 1, 16 * n + d) ?_ ⟨by simp only; omega, e3⟩ (by simp only; omega)
        refine of_eq (b :=
          (((((.d (.con (.string s))) : AV) = (.d (.con (.string s)))) ∧
          ((((.d (.con (.int .u64 ((↑((16 : Nat) * n + d) : Int))))) : AV) = (.d (.con (.int .u64 ((↑((16 : Nat) * n + d) : Int)))))) ∧
          ((((.d (.con (.int .i64 ((↑(ByteArray.size s) : Int))))) : AV) = (.d (.con (.int .i64 ((↑(ByteArray.size s) : Int)))))) ∧
          ((((.d (.con (.int .i64 ((↑i : Int) + (1 : Int))))) : AV) = (.d (.con (.int .i64 ((↑(i + (1 : Nat)) : Int)))))) ∧
          True)))) ∧
          True)) (by kernel_rfl) ?_
        exact ⟨⟨rfl, rfl, rfl, rfl, trivial⟩, trivial⟩
    · have : i = s.size := by simp at h; omega
      subst this
      refine walk (orc := orcNum) (keep := []) (cuts := []) (n := 1000) follows ?_
      refine of_eqH (b :=
        (((.tup [(.con (.int .u64 ((↑n : Int)))), (.con (.bool true))]) : DV) = (.tup [(du (numU s)), (db (numB s))]))) (by kernel_rfl) ?_
      have hb2 := numP_bd hn
      have hle : 16 ^ s.size ≤ 16 ^ 16 := Nat.pow_le_pow_right (by decide) hs
      unfold numU numB
      rw [hn]
      rfl
noncomputable def S50 (s : ByteArray) (x : Nat × Nat) : AS := ⟨regs Tryd.f50.ntmps [(0, vs s), (4, vu x.2), (9, vi s.size), (10, vi x.1)], []⟩
theorem f50 (s : ByteArray) (hs : s.size ≤ 8) : FnOK Tryd.prog G 50 [ds s] (.tup [di (numU s), db (numB s)]) := by
  refine FnOK.walk (orc := orcNum) (keep := []) follows Tryd.func50 rfl Tryd.call50 ?_
  refine of_eqH (b :=
    AWP Tryd.prog G [.code (cAt (bodyOf Tryd.f50) [1, 1, 0, 1, 0]), (.blk ((0 : Nat))), .code (cAt (bodyOf Tryd.f50) [1, 1, 1])] ⟨[(.d (.con (.string s))), .any, (.d (.con (.int .i64 ((0 : Int))))), (.d (.con (.bool false))), (.d (.con (.int .u64 ((0 : Int))))), .any, .any, .any, (.d (.con (.string s))), (.d (.con (.int .i64 ((↑(ByteArray.size s) : Int))))), (.d (.con (.int .i64 ((0 : Int))))), .any, .any, .any, .any, .any, .any, .any, .any, .any, .any, .any, .any, .any, .any, .any, .any, .any, .any, .any, .any], []⟩ (Ret Tryd.prog Tryd.f50 (DV.tup [di (numU s), db (numB s)]))) (by kernel_rfl) ?_
  refine AWP.loop (c := cAt (bodyOf Tryd.f50) [1, 1, 0, 1, 0, 0]) (by kernel_rfl) (S50 s) (fun x => x.1 ≤ s.size ∧ numP s x.1 = some x.2) (fun x => s.size - x.1) (0, 0) ?_ ⟨Nat.zero_le _, rfl⟩ ?_
  · refine of_eq (b :=
    (((((.d (.con (.string s))) : AV) = (.d (.con (.string s)))) ∧
    ((((.d (.con (.int .u64 ((0 : Int))))) : AV) = (.d (.con (.int .u64 ((0 : Int)))))) ∧
    ((((.d (.con (.int .i64 ((↑(ByteArray.size s) : Int))))) : AV) = (.d (.con (.int .i64 ((↑(ByteArray.size s) : Int)))))) ∧
    ((((.d (.con (.int .i64 ((0 : Int))))) : AV) = (.d (.con (.int .i64 ((0 : Int)))))) ∧
    True)))) ∧
    True)) (by kernel_rfl) ?_
    exact ⟨⟨rfl, rfl, rfl, rfl, trivial⟩, trivial⟩
  · rintro ⟨i, n⟩ ⟨hi, hn⟩
    simp only at hi hn
    refine walk (orc := orcNum) (keep := []) (cuts := []) (n := 1000) follows ?_
    refine of_eqH (b :=
      ((((decide ((↑i : Int) < (↑(ByteArray.size s) : Int))) = true) →
      (((((0 : Int) ≤ (↑i : Int)) ∧
      ((↑i : Int) < (↑(ByteArray.size s) : Int))) ∧
      FnOK Tryd.prog G ((53 : Nat)) [(.con (.int .i32 (IntKind.wrap IntKind.i32 (byteAt s (Int.toNat (↑i : Int))))))] (.tup [(.con (.int .i64 (dV (IntKind.wrap IntKind.i32 (byteAt s (Int.toNat (↑i : Int))))))), (.con (.bool (dB (IntKind.wrap IntKind.i32 (byteAt s (Int.toNat (↑i : Int)))))))])) ∧
      ((((!dB (IntKind.wrap IntKind.i32 (byteAt s (Int.toNat (↑i : Int))))) = true) →
      (((.tup [(.con (.int .i64 ((0 : Int)))), (.con (.bool false))]) : DV) = (.tup [(di (numU s)), (db (numB s))]))) ∧
      (((!dB (IntKind.wrap IntKind.i32 (byteAt s (Int.toNat (↑i : Int))))) = false) →
      (((0 : Int) ≤ (4 : Int)) ∧
      ((I64 ((↑i : Int) + (1 : Int))) ∧
      Again (S50 s) (fun x => Prod.fst x ≤ ByteArray.size s ∧ numP s (Prod.fst x) = some (Prod.snd x)) (fun x => ByteArray.size s - Prod.fst x) ((i, n)) ⟨[(.d (.con (.string s))), .any, .any, .any, (.d (.con (.int .u64 (IntKind.wrap IntKind.u64 (↑(BitVec.toNat (BitVec.ofInt (IntKind.bits IntKind.u64) (IntKind.wrap IntKind.u64 ((↑n : Int) * (2 : Int) ^ min (Int.toNat (4 : Int)) (IntKind.bits IntKind.u64))) ||| BitVec.ofInt (IntKind.bits IntKind.u64) (IntKind.wrap IntKind.u64 (dV (IntKind.wrap IntKind.i32 (byteAt s (Int.toNat (↑i : Int)))))))) : Int))))), (.d (.con (.int .i64 ((↑i : Int))))), (.d (.con (.int .i64 (dV (IntKind.wrap IntKind.i32 (byteAt s (Int.toNat (↑i : Int)))))))), (.d (.con (.bool (dB (IntKind.wrap IntKind.i32 (byteAt s (Int.toNat (↑i : Int)))))))), .any, (.d (.con (.int .i64 ((↑(ByteArray.size s) : Int))))), (.d (.con (.int .i64 ((↑i : Int) + (1 : Int))))), (.d (.con (.bool (decide ((↑i : Int) < (↑(ByteArray.size s) : Int)))))), (.d (.con (.int .i64 ((↑i : Int))))), (.d (.tup [(.con (.int .i64 (dV (IntKind.wrap IntKind.i32 (byteAt s (Int.toNat (↑i : Int))))))), (.con (.bool (dB (IntKind.wrap IntKind.i32 (byteAt s (Int.toNat (↑i : Int)))))))])), (.d (.con (.string s))), (.d (.con (.int .i64 ((↑i : Int))))), (.d (.con (.int .u8 (byteAt s (Int.toNat (↑i : Int)))))), (.d (.con (.int .i32 (IntKind.wrap IntKind.i32 (byteAt s (Int.toNat (↑i : Int))))))), (.d (.tup [(.con (.int .i64 (dV (IntKind.wrap IntKind.i32 (byteAt s (Int.toNat (↑i : Int))))))), (.con (.bool (dB (IntKind.wrap IntKind.i32 (byteAt s (Int.toNat (↑i : Int)))))))])), (.d (.con (.int .i64 (dV (IntKind.wrap IntKind.i32 (byteAt s (Int.toNat (↑i : Int)))))))), (.d (.con (.bool (dB (IntKind.wrap IntKind.i32 (byteAt s (Int.toNat (↑i : Int)))))))), (.d (.con (.bool (dB (IntKind.wrap IntKind.i32 (byteAt s (Int.toNat (↑i : Int)))))))), (.d (.con (.bool (!dB (IntKind.wrap IntKind.i32 (byteAt s (Int.toNat (↑i : Int)))))))), (.d (.con (.int .u64 ((↑n : Int))))), (.d (.con (.int .u64 (IntKind.wrap IntKind.u64 ((↑n : Int) * (2 : Int) ^ min (Int.toNat (4 : Int)) (IntKind.bits IntKind.u64)))))), (.d (.con (.int .i64 (dV (IntKind.wrap IntKind.i32 (byteAt s (Int.toNat (↑i : Int)))))))), (.d (.con (.int .u64 (IntKind.wrap IntKind.u64 (dV (IntKind.wrap IntKind.i32 (byteAt s (Int.toNat (↑i : Int))))))))), (.d (.con (.int .u64 (IntKind.wrap IntKind.u64 (↑(BitVec.toNat (BitVec.ofInt (IntKind.bits IntKind.u64) (IntKind.wrap IntKind.u64 ((↑n : Int) * (2 : Int) ^ min (Int.toNat (4 : Int)) (IntKind.bits IntKind.u64))) ||| BitVec.ofInt (IntKind.bits IntKind.u64) (IntKind.wrap IntKind.u64 (dV (IntKind.wrap IntKind.i32 (byteAt s (Int.toNat (↑i : Int)))))))) : Int))))), (.d (.con (.int .i64 ((↑i : Int) + (1 : Int))))), .any, .any], []⟩)))))) ∧
      (((decide ((↑i : Int) < (↑(ByteArray.size s) : Int))) = false) →
      AWP Tryd.prog G [.code (cAt (bodyOf Tryd.f50) [1, 1, 1])] ⟨[(.d (.con (.string s))), .any, .any, .any, (.d (.con (.int .u64 ((↑n : Int))))), .any, .any, .any, .any, (.d (.con (.int .i64 ((↑(ByteArray.size s) : Int))))), (.d (.con (.int .i64 ((↑i : Int))))), (.d (.con (.bool (decide ((↑i : Int) < (↑(ByteArray.size s) : Int)))))), .any, .any, .any, .any, .any, .any, .any, .any, .any, .any, .any, .any, .any, .any, .any, .any, .any, .any, .any], []⟩ (Ret Tryd.prog Tryd.f50 (DV.tup [di (numU s), db (numB s)]))))) (by kernel_rfl) ?_
    have hb := byteAt_bd s i
    have ew : IntKind.wrap .i32 (byteAt s i) = byteAt s i := IntWalk.i32_in _ ⟨by omega, by omega⟩
    simp only [Int.toNat_natCast, ew]
    refine ⟨fun h => ?_, fun h => ?_⟩
    · have hi' : i < s.size := by simpa using h
      have hk := f53 (G := G) (byteAt s i) hb.1 (by omega)
      refine ⟨⟨⟨by omega, by omega⟩, hk⟩, fun h1 => ?_, fun h1 => ⟨by omega, ⟨by omega, by omega⟩, ?_⟩⟩
      · have h1 : (hexI (byteAt s i)).isSome = false := by simpa [dB] using h1
        have h1 : hexI (byteAt s i) = none := by simpa using h1
        have e3 : numP s (i + 1) = none := by simp only [numP, hn, h1]
        have e4 := numP_none e3 s.size hi'
        unfold numU numB
        rw [e4]; rfl
      · have h1 : (hexI (byteAt s i)).isSome = true := by simpa [dB] using h1
        obtain ⟨d, hd⟩ := Option.isSome_iff_exists.1 h1
        have e3 : numP s (i + 1) = some (16 * n + d) := by simp only [numP, hn, hd]
        have hbd := numP_bd e3
        have hb2 := numP_bd hn
        have hle : 16 ^ (i + 1) ≤ 16 ^ 16 := Nat.pow_le_pow_right (by decide) (by omega)
        have hd16 : d < 16 := by
          have hd' := hd
          unfold hexI at hd'
          split at hd'
          · simp only [Option.some.injEq] at hd'; omega
          · split at hd'
            · simp only [Option.some.injEq] at hd'; omega
            · cases hd'
        have eV : dV (byteAt s i) = (d : Int) := by unfold dV; rw [hd]; rfl
        rw [eV, or16 n d hd16 (by omega)]
        refine Again.mk (i + 1, 16 * n + d) ?_ ⟨by simp only; omega, e3⟩ (by simp only; omega)
        refine of_eq (b :=
          (((((.d (.con (.string s))) : AV) = (.d (.con (.string s)))) ∧
          ((((.d (.con (.int .u64 ((↑((16 : Nat) * n + d) : Int))))) : AV) = (.d (.con (.int .u64 ((↑((16 : Nat) * n + d) : Int)))))) ∧
          ((((.d (.con (.int .i64 ((↑(ByteArray.size s) : Int))))) : AV) = (.d (.con (.int .i64 ((↑(ByteArray.size s) : Int)))))) ∧
          ((((.d (.con (.int .i64 ((↑i : Int) + (1 : Int))))) : AV) = (.d (.con (.int .i64 ((↑(i + (1 : Nat)) : Int)))))) ∧
          True)))) ∧
          True)) (by kernel_rfl) ?_
        exact ⟨⟨rfl, rfl, rfl, rfl, trivial⟩, trivial⟩
    · have : i = s.size := by simp at h; omega
      subst this
      refine walk (orc := orcNum) (keep := []) (cuts := []) (n := 1000) follows ?_
      refine of_eqH (b :=
        (((.tup [(.con (.int .i64 (IntKind.wrap IntKind.i64 (↑n : Int)))), (.con (.bool true))]) : DV) = (.tup [(di (numU s)), (db (numB s))]))) (by kernel_rfl) ?_
      have hb2 := numP_bd hn
      have hle : 16 ^ s.size ≤ 16 ^ 8 := Nat.pow_le_pow_right (by decide) hs
      unfold numU numB
      rw [hn]
      simp only [Option.getD_some]
      rw [i64_nat n (by omega)]
      rfl
noncomputable def S51 (s : ByteArray) (x : Nat × Nat) : AS := ⟨regs Tryd.f51.ntmps [(0, vs s), (4, vu x.2), (9, vi s.size), (10, vi x.1)], []⟩
theorem f51 (s : ByteArray) (hs : s.size ≤ 2) : FnOK Tryd.prog G 51 [ds s] (.tup [(fun z => .con (.int .u8 z)) (numU s), db (numB s)]) := by
  refine FnOK.walk (orc := orcNum) (keep := []) follows Tryd.func51 rfl Tryd.call51 ?_
  refine of_eqH (b :=
    AWP Tryd.prog G [.code (cAt (bodyOf Tryd.f51) [1, 1, 0, 1, 0]), (.blk ((0 : Nat))), .code (cAt (bodyOf Tryd.f51) [1, 1, 1])] ⟨[(.d (.con (.string s))), .any, (.d (.con (.int .u8 ((0 : Int))))), (.d (.con (.bool false))), (.d (.con (.int .u64 ((0 : Int))))), .any, .any, .any, (.d (.con (.string s))), (.d (.con (.int .i64 ((↑(ByteArray.size s) : Int))))), (.d (.con (.int .i64 ((0 : Int))))), .any, .any, .any, .any, .any, .any, .any, .any, .any, .any, .any, .any, .any, .any, .any, .any, .any, .any, .any, .any], []⟩ (Ret Tryd.prog Tryd.f51 (DV.tup [(fun z => DV.con (Value.int IntKind.u8 z)) (numU s), db (numB s)]))) (by kernel_rfl) ?_
  refine AWP.loop (c := cAt (bodyOf Tryd.f51) [1, 1, 0, 1, 0, 0]) (by kernel_rfl) (S51 s) (fun x => x.1 ≤ s.size ∧ numP s x.1 = some x.2) (fun x => s.size - x.1) (0, 0) ?_ ⟨Nat.zero_le _, rfl⟩ ?_
  · refine of_eq (b :=
    (((((.d (.con (.string s))) : AV) = (.d (.con (.string s)))) ∧
    ((((.d (.con (.int .u64 ((0 : Int))))) : AV) = (.d (.con (.int .u64 ((0 : Int)))))) ∧
    ((((.d (.con (.int .i64 ((↑(ByteArray.size s) : Int))))) : AV) = (.d (.con (.int .i64 ((↑(ByteArray.size s) : Int)))))) ∧
    ((((.d (.con (.int .i64 ((0 : Int))))) : AV) = (.d (.con (.int .i64 ((0 : Int)))))) ∧
    True)))) ∧
    True)) (by kernel_rfl) ?_
    exact ⟨⟨rfl, rfl, rfl, rfl, trivial⟩, trivial⟩
  · rintro ⟨i, n⟩ ⟨hi, hn⟩
    simp only at hi hn
    refine walk (orc := orcNum) (keep := []) (cuts := []) (n := 1000) follows ?_
    refine of_eqH (b :=
      ((((decide ((↑i : Int) < (↑(ByteArray.size s) : Int))) = true) →
      (((((0 : Int) ≤ (↑i : Int)) ∧
      ((↑i : Int) < (↑(ByteArray.size s) : Int))) ∧
      FnOK Tryd.prog G ((53 : Nat)) [(.con (.int .i32 (IntKind.wrap IntKind.i32 (byteAt s (Int.toNat (↑i : Int))))))] (.tup [(.con (.int .i64 (dV (IntKind.wrap IntKind.i32 (byteAt s (Int.toNat (↑i : Int))))))), (.con (.bool (dB (IntKind.wrap IntKind.i32 (byteAt s (Int.toNat (↑i : Int)))))))])) ∧
      ((((!dB (IntKind.wrap IntKind.i32 (byteAt s (Int.toNat (↑i : Int))))) = true) →
      (((.tup [(.con (.int .u8 ((0 : Int)))), (.con (.bool false))]) : DV) = (.tup [((fun z => DV.con (Value.int IntKind.u8 z)) (numU s)), (db (numB s))]))) ∧
      (((!dB (IntKind.wrap IntKind.i32 (byteAt s (Int.toNat (↑i : Int))))) = false) →
      (((0 : Int) ≤ (4 : Int)) ∧
      ((I64 ((↑i : Int) + (1 : Int))) ∧
      Again (S51 s) (fun x => Prod.fst x ≤ ByteArray.size s ∧ numP s (Prod.fst x) = some (Prod.snd x)) (fun x => ByteArray.size s - Prod.fst x) ((i, n)) ⟨[(.d (.con (.string s))), .any, .any, .any, (.d (.con (.int .u64 (IntKind.wrap IntKind.u64 (↑(BitVec.toNat (BitVec.ofInt (IntKind.bits IntKind.u64) (IntKind.wrap IntKind.u64 ((↑n : Int) * (2 : Int) ^ min (Int.toNat (4 : Int)) (IntKind.bits IntKind.u64))) ||| BitVec.ofInt (IntKind.bits IntKind.u64) (IntKind.wrap IntKind.u64 (dV (IntKind.wrap IntKind.i32 (byteAt s (Int.toNat (↑i : Int)))))))) : Int))))), (.d (.con (.int .i64 ((↑i : Int))))), (.d (.con (.int .i64 (dV (IntKind.wrap IntKind.i32 (byteAt s (Int.toNat (↑i : Int)))))))), (.d (.con (.bool (dB (IntKind.wrap IntKind.i32 (byteAt s (Int.toNat (↑i : Int)))))))), .any, (.d (.con (.int .i64 ((↑(ByteArray.size s) : Int))))), (.d (.con (.int .i64 ((↑i : Int) + (1 : Int))))), (.d (.con (.bool (decide ((↑i : Int) < (↑(ByteArray.size s) : Int)))))), (.d (.con (.int .i64 ((↑i : Int))))), (.d (.tup [(.con (.int .i64 (dV (IntKind.wrap IntKind.i32 (byteAt s (Int.toNat (↑i : Int))))))), (.con (.bool (dB (IntKind.wrap IntKind.i32 (byteAt s (Int.toNat (↑i : Int)))))))])), (.d (.con (.string s))), (.d (.con (.int .i64 ((↑i : Int))))), (.d (.con (.int .u8 (byteAt s (Int.toNat (↑i : Int)))))), (.d (.con (.int .i32 (IntKind.wrap IntKind.i32 (byteAt s (Int.toNat (↑i : Int))))))), (.d (.tup [(.con (.int .i64 (dV (IntKind.wrap IntKind.i32 (byteAt s (Int.toNat (↑i : Int))))))), (.con (.bool (dB (IntKind.wrap IntKind.i32 (byteAt s (Int.toNat (↑i : Int)))))))])), (.d (.con (.int .i64 (dV (IntKind.wrap IntKind.i32 (byteAt s (Int.toNat (↑i : Int)))))))), (.d (.con (.bool (dB (IntKind.wrap IntKind.i32 (byteAt s (Int.toNat (↑i : Int)))))))), (.d (.con (.bool (dB (IntKind.wrap IntKind.i32 (byteAt s (Int.toNat (↑i : Int)))))))), (.d (.con (.bool (!dB (IntKind.wrap IntKind.i32 (byteAt s (Int.toNat (↑i : Int)))))))), (.d (.con (.int .u64 ((↑n : Int))))), (.d (.con (.int .u64 (IntKind.wrap IntKind.u64 ((↑n : Int) * (2 : Int) ^ min (Int.toNat (4 : Int)) (IntKind.bits IntKind.u64)))))), (.d (.con (.int .i64 (dV (IntKind.wrap IntKind.i32 (byteAt s (Int.toNat (↑i : Int)))))))), (.d (.con (.int .u64 (IntKind.wrap IntKind.u64 (dV (IntKind.wrap IntKind.i32 (byteAt s (Int.toNat (↑i : Int))))))))), (.d (.con (.int .u64 (IntKind.wrap IntKind.u64 (↑(BitVec.toNat (BitVec.ofInt (IntKind.bits IntKind.u64) (IntKind.wrap IntKind.u64 ((↑n : Int) * (2 : Int) ^ min (Int.toNat (4 : Int)) (IntKind.bits IntKind.u64))) ||| BitVec.ofInt (IntKind.bits IntKind.u64) (IntKind.wrap IntKind.u64 (dV (IntKind.wrap IntKind.i32 (byteAt s (Int.toNat (↑i : Int)))))))) : Int))))), (.d (.con (.int .i64 ((↑i : Int) + (1 : Int))))), .any, .any], []⟩)))))) ∧
      (((decide ((↑i : Int) < (↑(ByteArray.size s) : Int))) = false) →
      AWP Tryd.prog G [.code (cAt (bodyOf Tryd.f51) [1, 1, 1])] ⟨[(.d (.con (.string s))), .any, .any, .any, (.d (.con (.int .u64 ((↑n : Int))))), .any, .any, .any, .any, (.d (.con (.int .i64 ((↑(ByteArray.size s) : Int))))), (.d (.con (.int .i64 ((↑i : Int))))), (.d (.con (.bool (decide ((↑i : Int) < (↑(ByteArray.size s) : Int)))))), .any, .any, .any, .any, .any, .any, .any, .any, .any, .any, .any, .any, .any, .any, .any, .any, .any, .any, .any], []⟩ (Ret Tryd.prog Tryd.f51 (DV.tup [(fun z => DV.con (Value.int IntKind.u8 z)) (numU s), db (numB s)]))))) (by kernel_rfl) ?_
    have hb := byteAt_bd s i
    have ew : IntKind.wrap .i32 (byteAt s i) = byteAt s i := IntWalk.i32_in _ ⟨by omega, by omega⟩
    simp only [Int.toNat_natCast, ew]
    refine ⟨fun h => ?_, fun h => ?_⟩
    · have hi' : i < s.size := by simpa using h
      have hk := f53 (G := G) (byteAt s i) hb.1 (by omega)
      refine ⟨⟨⟨by omega, by omega⟩, hk⟩, fun h1 => ?_, fun h1 => ⟨by omega, ⟨by omega, by omega⟩, ?_⟩⟩
      · have h1 : (hexI (byteAt s i)).isSome = false := by simpa [dB] using h1
        have h1 : hexI (byteAt s i) = none := by simpa using h1
        have e3 : numP s (i + 1) = none := by simp only [numP, hn, h1]
        have e4 := numP_none e3 s.size hi'
        unfold numU numB
        rw [e4]; rfl
      · have h1 : (hexI (byteAt s i)).isSome = true := by simpa [dB] using h1
        obtain ⟨d, hd⟩ := Option.isSome_iff_exists.1 h1
        have e3 : numP s (i + 1) = some (16 * n + d) := by simp only [numP, hn, hd]
        have hbd := numP_bd e3
        have hb2 := numP_bd hn
        have hle : 16 ^ (i + 1) ≤ 16 ^ 16 := Nat.pow_le_pow_right (by decide) (by omega)
        have hd16 : d < 16 := by
          have hd' := hd
          unfold hexI at hd'
          split at hd'
          · simp only [Option.some.injEq] at hd'; omega
          · split at hd'
            · simp only [Option.some.injEq] at hd'; omega
            · cases hd'
        have eV : dV (byteAt s i) = (d : Int) := by unfold dV; rw [hd]; rfl
        rw [eV, or16 n d hd16 (by omega)]
        refine Again.mk (i + 1, 16 * n + d) ?_ ⟨by simp only; omega, e3⟩ (by simp only; omega)
        refine of_eq (b :=
          (((((.d (.con (.string s))) : AV) = (.d (.con (.string s)))) ∧
          ((((.d (.con (.int .u64 ((↑((16 : Nat) * n + d) : Int))))) : AV) = (.d (.con (.int .u64 ((↑((16 : Nat) * n + d) : Int)))))) ∧
          ((((.d (.con (.int .i64 ((↑(ByteArray.size s) : Int))))) : AV) = (.d (.con (.int .i64 ((↑(ByteArray.size s) : Int)))))) ∧
          ((((.d (.con (.int .i64 ((↑i : Int) + (1 : Int))))) : AV) = (.d (.con (.int .i64 ((↑(i + (1 : Nat)) : Int)))))) ∧
          True)))) ∧
          True)) (by kernel_rfl) ?_
        exact ⟨⟨rfl, rfl, rfl, rfl, trivial⟩, trivial⟩
    · have : i = s.size := by simp at h; omega
      subst this
      refine walk (orc := orcNum) (keep := []) (cuts := []) (n := 1000) follows ?_
      refine of_eqH (b :=
        (((.tup [(.con (.int .u8 (IntKind.wrap IntKind.u8 (↑n : Int)))), (.con (.bool true))]) : DV) = (.tup [(.con (.int .u8 (numU s))), (db (numB s))]))) (by kernel_rfl) ?_
      have hb2 := numP_bd hn
      have hle : 16 ^ s.size ≤ 16 ^ 2 := Nat.pow_le_pow_right (by decide) hs
      unfold numU numB
      rw [hn]
      simp only [Option.getD_some]
      rw [u8_nat n (by omega)]
      rfl
end Go.Proofs

set_option autoImplicit false
namespace Go.Proofs
open Go Go.Ab Go.RowKit
set_option maxHeartbeats 1000000
set_option maxRecDepth 100000
variable {G : IH}
theorem f17' (g : Int) (p : ByteArray) : FnOK Tryd.prog G 17 [di g, ds p] (.tup [ds (encS g p), di (encE g p)]) := encR_eq g p ▸ f17 g p
def orcDecP : Oracle := fun f args => match f, args with
  | 29, [.con (.int .i64 g)] => some (db (okGen g))
  | 50, [.con (.string s)] => some (.tup [di (numU s), db (numB s)])
  | 51, [.con (.string s)] => some (.tup [.con (.int .u8 (numU s)), db (numB s)])
  | 17, [.con (.int .i64 g), .con (.string p)] => some (.tup [ds (encS g p), di (encE g p)])
  | 43, [.con (.string s), .con (.string p)] => some (db (hasP s p))
  | _, _ => none
/-- What decode returns. -/
noncomputable def decQ (g : Int) (s : ByteArray) : DV := match decSpec g.toNat s.data.toList with
  | some p => .tup [ds p, di (50 + 2 * p.size : Nat), db true]
  | none => .tup [ds ByteArray.empty, di 0, db false]
theorem numU_at {s : ByteArray} {i j n : Nat} (h : numAt s i j = some n) : numU (s.extract i j) = n ∧ numB (s.extract i j) = true := by
  unfold numAt at h
  unfold numU numB
  rw [h, Option.getD_some]
  exact ⟨rfl, rfl⟩
def payC (s : ByteArray) (j : Nat) : UInt8 := UInt8.ofNat ((numAt s (41 + 2 * j) (43 + 2 * j)).getD 0)
theorem payB_C (s : ByteArray) (n : Nat) : payB s n = (List.range n).map (payC s) := rfl
theorem decQ_none {g : Int} {s : ByteArray} (h : decSpec g.toNat s.data.toList = none) : decQ g s = .tup [ds ByteArray.empty, di 0, db false] := by
  unfold decQ; rw [h]
noncomputable def S30 (g : Int) (s : ByteArray) (n : Nat) (x : Nat) : AS := ⟨regs Tryd.f30.ntmps [(0, vs s), (1, vi g), (7, vi n), (9, .vec 39 1 0 n), (40, vi n), (41, vi x)], [(39, [.arr byteK 1 (rowB (payC s) x)])]⟩
theorem f30 (s : ByteArray) (g : Int) (hg : okGen g = true) (hsd : s.size < 1000000) : FnOK Tryd.prog G 30 [ds s, di g] (decQ g s) := by
  refine FnOK.walk (orc := orcDecP) (keep := []) follows Tryd.func30 rfl Tryd.call30 ?_
  refine of_eqH (b :=
    ((((decide ((↑(ByteArray.size s) : Int) < (50 : Int))) = true) →
    (((.tup [(.con (.string ({ data := #[] }))), (.con (.int .i64 ((0 : Int)))), (.con (.bool false))]) : DV) = (decQ g s))) ∧
    (((decide ((↑(ByteArray.size s) : Int) < (50 : Int))) = false) →
    (((((0 : Int) ≤ (33 : Int)) ∧
    (((33 : Int) ≤ (41 : Int)) ∧
    ((41 : Int) ≤ (↑(ByteArray.size s) : Int)))) ∧
    FnOK Tryd.prog G ((50 : Nat)) [(.con (.string (ByteArray.extract s (Int.toNat (33 : Int)) (Int.toNat (41 : Int)))))] (.tup [(.con (.int .i64 (numU (ByteArray.extract s (Int.toNat (33 : Int)) (Int.toNat (41 : Int)))))), (.con (.bool (numB (ByteArray.extract s (Int.toNat (33 : Int)) (Int.toNat (41 : Int))))))])) ∧
    (((((!(!numB (ByteArray.extract s (Int.toNat (33 : Int)) (Int.toNat (41 : Int))) || decide (numU (ByteArray.extract s (Int.toNat (33 : Int)) (Int.toNat (41 : Int))) > (30000 : Int)))) = true) →
    (I64 ((2 : Int) * numU (ByteArray.extract s (Int.toNat (33 : Int)) (Int.toNat (41 : Int)))))) ∧
    ((((!(!numB (ByteArray.extract s (Int.toNat (33 : Int)) (Int.toNat (41 : Int))) || decide (numU (ByteArray.extract s (Int.toNat (33 : Int)) (Int.toNat (41 : Int))) > (30000 : Int)))) = true) →
    (I64 ((41 : Int) + (2 : Int) * numU (ByteArray.extract s (Int.toNat (33 : Int)) (Int.toNat (41 : Int)))))) ∧
    (((!(!numB (ByteArray.extract s (Int.toNat (33 : Int)) (Int.toNat (41 : Int))) || decide (numU (ByteArray.extract s (Int.toNat (33 : Int)) (Int.toNat (41 : Int))) > (30000 : Int)))) = true) →
    (I64 ((41 : Int) + (2 : Int) * numU (ByteArray.extract s (Int.toNat (33 : Int)) (Int.toNat (41 : Int))) + (9 : Int)))))) ∧
    ((((!numB (ByteArray.extract s (Int.toNat (33 : Int)) (Int.toNat (41 : Int))) || decide (numU (ByteArray.extract s (Int.toNat (33 : Int)) (Int.toNat (41 : Int))) > (30000 : Int)) || decide ((↑(ByteArray.size s) : Int) < (41 : Int) + (2 : Int) * numU (ByteArray.extract s (Int.toNat (33 : Int)) (Int.toNat (41 : Int))) + (9 : Int))) = true) →
    (((.tup [(.con (.string ({ data := #[] }))), (.con (.int .i64 ((0 : Int)))), (.con (.bool false))]) : DV) = (decQ g s))) ∧
    (((!numB (ByteArray.extract s (Int.toNat (33 : Int)) (Int.toNat (41 : Int))) || decide (numU (ByteArray.extract s (Int.toNat (33 : Int)) (Int.toNat (41 : Int))) > (30000 : Int)) || decide ((↑(ByteArray.size s) : Int) < (41 : Int) + (2 : Int) * numU (ByteArray.extract s (Int.toNat (33 : Int)) (Int.toNat (41 : Int))) + (9 : Int))) = false) →
    ((((numU (ByteArray.extract s (Int.toNat (33 : Int)) (Int.toNat (41 : Int)))) = (numU (ByteArray.extract s (Int.toNat (33 : Int)) (Int.toNat (41 : Int))))) ∧
    (((0 : Int) ≤ numU (ByteArray.extract s (Int.toNat (33 : Int)) (Int.toNat (41 : Int)))) ∧
    (((↑(1 : Nat) : Int) * numU (ByteArray.extract s (Int.toNat (33 : Int)) (Int.toNat (41 : Int))) ≤ (281474976710656 : Int)) ∧
    (numU (ByteArray.extract s (Int.toNat (33 : Int)) (Int.toNat (41 : Int))) ≤ (9223372036854775807 : Int))))) ∧
    AWP Tryd.prog G [.code (cAt (bodyOf Tryd.f30) [1, 1, 1, 1, 1, 0, 1, 0]), (.blk ((0 : Nat))), .code (cAt (bodyOf Tryd.f30) [1, 1, 1, 1, 1, 1])] ⟨[(.d (.con (.string s))), (.d (.con (.int .i64 g))), .any, .any, (.d (.con (.string ({ data := #[] })))), (.d (.con (.int .i64 ((0 : Int))))), (.d (.con (.bool false))), (.d (.con (.int .i64 (numU (ByteArray.extract s (Int.toNat (33 : Int)) (Int.toNat (41 : Int))))))), (.d (.con (.bool (numB (ByteArray.extract s (Int.toNat (33 : Int)) (Int.toNat (41 : Int))))))), (.vec ((39 : Nat)) ((1 : Nat)) ((0 : Nat)) (Int.toNat (numU (ByteArray.extract s (Int.toNat (33 : Int)) (Int.toNat (41 : Int)))))), .any, .any, .any, .any, (.d (.con (.string s))), (.d (.con (.int .i64 ((↑(ByteArray.size s) : Int))))), (.d (.con (.bool (decide ((↑(ByteArray.size s) : Int) < (50 : Int)))))), (.d (.tup [(.con (.int .i64 (numU (ByteArray.extract s (Int.toNat (33 : Int)) (Int.toNat (41 : Int)))))), (.con (.bool (numB (ByteArray.extract s (Int.toNat (33 : Int)) (Int.toNat (41 : Int))))))])), (.d (.con (.string s))), (.d (.con (.string (ByteArray.extract s (Int.toNat (33 : Int)) (Int.toNat (41 : Int)))))), (.d (.tup [(.con (.int .i64 (numU (ByteArray.extract s (Int.toNat (33 : Int)) (Int.toNat (41 : Int)))))), (.con (.bool (numB (ByteArray.extract s (Int.toNat (33 : Int)) (Int.toNat (41 : Int))))))])), (.d (.con (.int .i64 (numU (ByteArray.extract s (Int.toNat (33 : Int)) (Int.toNat (41 : Int))))))), (.d (.con (.bool (numB (ByteArray.extract s (Int.toNat (33 : Int)) (Int.toNat (41 : Int))))))), (.d (.con (.bool (numB (ByteArray.extract s (Int.toNat (33 : Int)) (Int.toNat (41 : Int))))))), (.d (.con (.bool (!numB (ByteArray.extract s (Int.toNat (33 : Int)) (Int.toNat (41 : Int))))))), (.d (.con (.bool (!numB (ByteArray.extract s (Int.toNat (33 : Int)) (Int.toNat (41 : Int))))))), .any, .any, (.d (.con (.bool (!numB (ByteArray.extract s (Int.toNat (33 : Int)) (Int.toNat (41 : Int))) || decide (numU (ByteArray.extract s (Int.toNat (33 : Int)) (Int.toNat (41 : Int))) > (30000 : Int)))))), (.d (.con (.bool (!numB (ByteArray.extract s (Int.toNat (33 : Int)) (Int.toNat (41 : Int))) || decide (numU (ByteArray.extract s (Int.toNat (33 : Int)) (Int.toNat (41 : Int))) > (30000 : Int)))))), .any, .any, .any, .any, .any, .any, .any, (.d (.con (.bool (!numB (ByteArray.extract s (Int.toNat (33 : Int)) (Int.toNat (41 : Int))) || decide (numU (ByteArray.extract s (Int.toNat (33 : Int)) (Int.toNat (41 : Int))) > (30000 : Int)) || decide ((↑(ByteArray.size s) : Int) < (41 : Int) + (2 : Int) * numU (ByteArray.extract s (Int.toNat (33 : Int)) (Int.toNat (41 : Int))) + (9 : Int)))))), (.d (.con (.int .i64 (numU (ByteArray.extract s (Int.toNat (33 : Int)) (Int.toNat (41 : Int))))))), (.vec ((39 : Nat)) ((1 : Nat)) ((0 : Nat)) (Int.toNat (numU (ByteArray.extract s (Int.toNat (33 : Int)) (Int.toNat (41 : Int)))))), (.d (.con (.int .i64 (numU (ByteArray.extract s (Int.toNat (33 : Int)) (Int.toNat (41 : Int))))))), (.d (.con (.int .i64 ((0 : Int))))), .any, .any, .any, .any, .any, .any, .any, .any, .any, .any, .any, .any, .any, .any, .any, .any, .any, .any, .any, .any, .any, .any, .any, .any, .any, .any, .any, .any, .any, .any, .any, .any, .any, .any, .any, .any, .any, .any, .any], [(((39 : Nat)), [(.arr ⟨false, ((5 : Nat)), false⟩ ((1 : Nat)) (fun x => DV.con (List.getD [Value.int IntKind.u8 (0 : Int)] (0 : Nat) undef)))])]⟩ (Ret Tryd.prog Tryd.f30 (decQ g s)))))))))) (by kernel_rfl) ?_
  have hread := decSpec_read g.toNat s
  have e33 : Int.toNat (33 : Int) = 33 := rfl
  have e41 : Int.toNat (41 : Int) = 41 := rfl
  rw [e33, e41]
  have hsl : s.data.toList.length = s.size := Array.length_toList
  have h50 : FnOK Tryd.prog G 50 [ds (s.extract 33 41)] (.tup [di (numU (s.extract 33 41)), db (numB (s.extract 33 41))]) := f50 _ (by rw [ByteArray.size_extract]; omega)
  refine ⟨fun h3 => ?_, fun h3 => ?_⟩
  · have h3 : s.size < 50 := by simp at h3; omega
    rw [decQ_none]
    · rfl
    · cases hx : decSpec g.toNat s.data.toList with
      | none => rfl
      | some p =>
        have := (read_enc (decSpec_eq hx).2).1
        omega
  · have h3 : ¬ s.size < 50 := by simp at h3; omega
    cases hn : numAt s 33 41 with
    | none =>
      rw [hn] at hread
      have hb := numB_none hn
      rw [decQ_none hread]
      refine ⟨⟨⟨by omega, by omega, by omega⟩, h50⟩, ⟨fun h4 => ?_, fun h4 => ?_, fun h4 => ?_⟩, fun h4 => rfl, fun h4 => ?_⟩
      · rw [hb] at h4; simp at h4
      · rw [hb] at h4; simp at h4
      · rw [hb] at h4; simp at h4
      · rw [hb] at h4; simp at h4
    | some n =>
      rw [hn] at hread
      simp only at hread
      obtain ⟨hv, hb⟩ := numU_at hn
      refine ⟨⟨⟨by omega, by omega, by omega⟩, h50⟩, ⟨fun h4 => ?_, fun h4 => ?_, fun h4 => ?_⟩, fun h4 => ?_, fun h4 => ?_⟩
      · rw [hv, hb] at h4
        rw [hv]
        simp at h4
        exact ⟨by omega, by omega⟩
      · rw [hv, hb] at h4
        rw [hv]
        simp at h4
        exact ⟨by omega, by omega⟩
      · rw [hv, hb] at h4
        rw [hv]
        simp at h4
        exact ⟨by omega, by omega⟩
      · rw [hv, hb] at h4
        rw [decQ_none]
        · rfl
        · rw [hread, if_neg]
          rintro ⟨k1, k2, _⟩
          simp at h4
          omega
      · rw [hv, hb] at h4 ⊢
        have h4 : n ≤ 30000 ∧ 50 + 2 * n ≤ s.size := by simp at h4; omega
        simp only [Int.toNat_natCast]
        refine ⟨⟨trivial, by omega, by omega, by omega⟩, ?_⟩
        refine AWP.loop (c := cAt (bodyOf Tryd.f30) [1, 1, 1, 1, 1, 0, 1, 0, 0]) (by kernel_rfl) (S30 g s n) (fun x => x ≤ n ∧ ∀ i, i < x → (numAt s (41 + 2 * i) (43 + 2 * i)).isSome = true) (fun x => n - x) 0 ?_ ⟨Nat.zero_le _, fun i hi => by omega⟩ ?_
        · refine of_eq (b :=
          (((((.d (.con (.string s))) : AV) = (.d (.con (.string s)))) ∧
          ((((.d (.con (.int .i64 g))) : AV) = (.d (.con (.int .i64 g)))) ∧
          ((((.d (.con (.int .i64 ((↑n : Int))))) : AV) = (.d (.con (.int .i64 ((↑n : Int)))))) ∧
          ((((.vec ((39 : Nat)) ((1 : Nat)) ((0 : Nat)) n) : AV) = (.vec ((39 : Nat)) ((1 : Nat)) ((0 : Nat)) n)) ∧
          ((((.d (.con (.int .i64 ((↑n : Int))))) : AV) = (.d (.con (.int .i64 ((↑n : Int)))))) ∧
          ((((.d (.con (.int .i64 ((0 : Int))))) : AV) = (.d (.con (.int .i64 ((0 : Int)))))) ∧
          True)))))) ∧
          ((((some [(.arr ⟨false, ((5 : Nat)), false⟩ ((1 : Nat)) (fun x => DV.con (List.getD [Value.int IntKind.u8 (0 : Int)] (0 : Nat) undef)))]) : (Option (List AV))) = (some [(.arr ⟨false, ((5 : Nat)), false⟩ ((1 : Nat)) (rowB (payC s) (0 : Nat)))])) ∧
          True))) (by kernel_rfl) ?_
          refine ⟨⟨rfl, rfl, rfl, rfl, rfl, rfl, trivial⟩, ?_, trivial⟩
          rw [rowB_zero]; rfl
        · rintro i ⟨hi, hall⟩
          refine walk (orc := orcDecP) (keep := []) (cuts := []) (n := 1000) follows ?_
          refine of_eqH (b :=
            ((((decide ((↑i : Int) < (↑n : Int))) = true) →
            (((I64 ((2 : Int) * (↑i : Int))) ∧
            (I64 ((41 : Int) + (2 : Int) * (↑i : Int)))) ∧
            (((I64 ((41 : Int) + (2 : Int) * (↑i : Int) + (2 : Int))) ∧
            ((((0 : Int) ≤ (41 : Int) + (2 : Int) * (↑i : Int)) ∧
            (((41 : Int) + (2 : Int) * (↑i : Int) ≤ (41 : Int) + (2 : Int) * (↑i : Int) + (2 : Int)) ∧
            ((41 : Int) + (2 : Int) * (↑i : Int) + (2 : Int) ≤ (↑(ByteArray.size s) : Int)))) ∧
            (FnOK Tryd.prog G ((51 : Nat)) [(.con (.string (ByteArray.extract s (Int.toNat ((41 : Int) + (2 : Int) * (↑i : Int))) (Int.toNat ((41 : Int) + (2 : Int) * (↑i : Int) + (2 : Int))))))] (.tup [(.con (.int .u8 (numU (ByteArray.extract s (Int.toNat ((41 : Int) + (2 : Int) * (↑i : Int))) (Int.toNat ((41 : Int) + (2 : Int) * (↑i : Int) + (2 : Int))))))), (.con (.bool (numB (ByteArray.extract s (Int.toNat ((41 : Int) + (2 : Int) * (↑i : Int))) (Int.toNat ((41 : Int) + (2 : Int) * (↑i : Int) + (2 : Int)))))))]) ∧
            (((0 : Int) ≤ (↑i : Int)) ∧
            ((↑i : Int) < (↑n : Int)))))) ∧
            ((((!numB (ByteArray.extract s (Int.toNat ((41 : Int) + (2 : Int) * (↑i : Int))) (Int.toNat ((41 : Int) + (2 : Int) * (↑i : Int) + (2 : Int))))) = true) →
            (((.tup [(.con (.string ({ data := #[] }))), (.con (.int .i64 ((0 : Int)))), (.con (.bool false))]) : DV) = (decQ g s))) ∧
            (((!numB (ByteArray.extract s (Int.toNat ((41 : Int) + (2 : Int) * (↑i : Int))) (Int.toNat ((41 : Int) + (2 : Int) * (↑i : Int) + (2 : Int))))) = false) →
            ((I64 ((↑i : Int) + (1 : Int))) ∧
            Again (S30 g s n) (fun x => x ≤ n ∧ ∀ (i : Nat), i < x → Option.isSome (numAt s ((41 : Nat) + (2 : Nat) * i) ((43 : Nat) + (2 : Nat) * i)) = true) (fun x => n - x) i ⟨[(.d (.con (.string s))), (.d (.con (.int .i64 g))), .any, .any, .any, .any, .any, (.d (.con (.int .i64 ((↑n : Int))))), (.d (.con (.bool (numB (ByteArray.extract s (Int.toNat ((41 : Int) + (2 : Int) * (↑i : Int))) (Int.toNat ((41 : Int) + (2 : Int) * (↑i : Int) + (2 : Int)))))))), (.vec ((39 : Nat)) ((1 : Nat)) ((0 : Nat)) n), (.d (.con (.int .i64 ((↑i : Int))))), (.d (.con (.int .i64 ((41 : Int) + (2 : Int) * (↑i : Int))))), .any, .any, .any, .any, .any, .any, .any, .any, .any, .any, .any, .any, .any, .any, .any, .any, .any, .any, .any, .any, .any, .any, .any, .any, .any, .any, .any, .any, (.d (.con (.int .i64 ((↑n : Int))))), (.d (.con (.int .i64 ((↑i : Int) + (1 : Int))))), (.d (.con (.bool (decide ((↑i : Int) < (↑n : Int)))))), (.d (.con (.int .i64 ((↑i : Int))))), (.d (.con (.int .i64 ((↑i : Int))))), (.d (.con (.int .i64 ((2 : Int) * (↑i : Int))))), (.d (.con (.int .i64 ((41 : Int) + (2 : Int) * (↑i : Int))))), (.d (.tup [(.con (.int .u8 (numU (ByteArray.extract s (Int.toNat ((41 : Int) + (2 : Int) * (↑i : Int))) (Int.toNat ((41 : Int) + (2 : Int) * (↑i : Int) + (2 : Int))))))), (.con (.bool (numB (ByteArray.extract s (Int.toNat ((41 : Int) + (2 : Int) * (↑i : Int))) (Int.toNat ((41 : Int) + (2 : Int) * (↑i : Int) + (2 : Int)))))))])), (.vec ((39 : Nat)) ((1 : Nat)) ((0 : Nat)) n), (.d (.con (.int .i64 ((↑i : Int))))), (.d (.con (.string s))), (.d (.con (.int .i64 ((41 : Int) + (2 : Int) * (↑i : Int))))), (.d (.con (.int .i64 ((41 : Int) + (2 : Int) * (↑i : Int))))), (.d (.con (.int .i64 ((41 : Int) + (2 : Int) * (↑i : Int) + (2 : Int))))), (.d (.con (.string (ByteArray.extract s (Int.toNat ((41 : Int) + (2 : Int) * (↑i : Int))) (Int.toNat ((41 : Int) + (2 : Int) * (↑i : Int) + (2 : Int))))))), (.d (.tup [(.con (.int .u8 (numU (ByteArray.extract s (Int.toNat ((41 : Int) + (2 : Int) * (↑i : Int))) (Int.toNat ((41 : Int) + (2 : Int) * (↑i : Int) + (2 : Int))))))), (.con (.bool (numB (ByteArray.extract s (Int.toNat ((41 : Int) + (2 : Int) * (↑i : Int))) (Int.toNat ((41 : Int) + (2 : Int) * (↑i : Int) + (2 : Int)))))))])), (.d (.con (.int .u8 (numU (ByteArray.extract s (Int.toNat ((41 : Int) + (2 : Int) * (↑i : Int))) (Int.toNat ((41 : Int) + (2 : Int) * (↑i : Int) + (2 : Int)))))))), (.d (.con (.bool (numB (ByteArray.extract s (Int.toNat ((41 : Int) + (2 : Int) * (↑i : Int))) (Int.toNat ((41 : Int) + (2 : Int) * (↑i : Int) + (2 : Int)))))))), (.elem ((39 : Nat)) ((1 : Nat)) ((0 : Nat) + Int.toNat (↑i : Int)) ((0 : Nat))), (.d (.con (.bool (numB (ByteArray.extract s (Int.toNat ((41 : Int) + (2 : Int) * (↑i : Int))) (Int.toNat ((41 : Int) + (2 : Int) * (↑i : Int) + (2 : Int)))))))), (.d (.con (.bool (!numB (ByteArray.extract s (Int.toNat ((41 : Int) + (2 : Int) * (↑i : Int))) (Int.toNat ((41 : Int) + (2 : Int) * (↑i : Int) + (2 : Int)))))))), (.d (.con (.int .i64 ((↑i : Int) + (1 : Int))))), .any, .any, .any, .any, .any, .any, .any, .any, .any, .any, .any, .any, .any, .any, .any, .any, .any, .any, .any], [(((39 : Nat)), [(.arr ⟨false, ((5 : Nat)), false⟩ ((1 : Nat)) (fun j => bif Nat.beq j ((0 : Nat) + Int.toNat (↑i : Int)) then DV.con (Value.int IntKind.u8 (numU (ByteArray.extract s (Int.toNat ((41 : Int) + (2 : Int) * (↑i : Int))) (Int.toNat ((41 : Int) + (2 : Int) * (↑i : Int) + (2 : Int)))))) else rowB (payC s) i j))])]⟩)))))) ∧
            (((decide ((↑i : Int) < (↑n : Int))) = false) →
            AWP Tryd.prog G [.code (cAt (bodyOf Tryd.f30) [1, 1, 1, 1, 1, 1])] ⟨[(.d (.con (.string s))), (.d (.con (.int .i64 g))), .any, .any, .any, .any, .any, (.d (.con (.int .i64 ((↑n : Int))))), .any, (.vec ((39 : Nat)) ((1 : Nat)) ((0 : Nat)) n), .any, .any, .any, .any, .any, .any, .any, .any, .any, .any, .any, .any, .any, .any, .any, .any, .any, .any, .any, .any, .any, .any, .any, .any, .any, .any, .any, .any, .any, .any, (.d (.con (.int .i64 ((↑n : Int))))), (.d (.con (.int .i64 ((↑i : Int))))), (.d (.con (.bool (decide ((↑i : Int) < (↑n : Int)))))), .any, .any, .any, .any, .any, .any, .any, .any, .any, .any, .any, .any, .any, .any, .any, .any, .any, .any, .any, .any, .any, .any, .any, .any, .any, .any, .any, .any, .any, .any, .any, .any, .any, .any, .any, .any, .any, .any], [(((39 : Nat)), [(.arr ⟨false, ((5 : Nat)), false⟩ ((1 : Nat)) (rowB (payC s) i))])]⟩ (Ret Tryd.prog Tryd.f30 (decQ g s))))) (by kernel_rfl) ?_
          have e1 : Int.toNat ((41 : Int) + (2 : Int) * (i : Int)) = 41 + 2 * i := by omega
          have e2 : Int.toNat ((41 : Int) + (2 : Int) * (i : Int) + (2 : Int)) = 43 + 2 * i := by omega
          rw [e1, e2]
          refine ⟨fun h5 => ?_, fun h5 => ?_⟩
          · have hi' : i < n := by simpa using h5
            have h51 : FnOK Tryd.prog G 51 [ds (s.extract (41 + 2 * i) (43 + 2 * i))] (.tup [.con (.int .u8 (numU (s.extract (41 + 2 * i) (43 + 2 * i)))), db (numB (s.extract (41 + 2 * i) (43 + 2 * i)))]) := f51 _ (by rw [ByteArray.size_extract]; omega)
            refine ⟨⟨⟨by omega, by omega⟩, ⟨by omega, by omega⟩⟩, ⟨⟨by omega, by omega⟩, ⟨by omega, by omega, by omega⟩, h51, by omega, by omega⟩, ?_⟩
            cases hc : numAt s (41 + 2 * i) (43 + 2 * i) with
            | none =>
              have hcb := numB_none hc
              rw [hcb]
              refine ⟨fun _ => ?_, fun h6 => by simp at h6⟩
              rw [decQ_none]
              · rfl
              · rw [hread, if_neg]
                rintro ⟨_, _, k3, _⟩
                have := k3 i hi'
                rw [hc] at this; cases this
            | some c =>
              obtain ⟨hcv, hcb⟩ := numU_at hc
              have hc256 : c < 256 := by
                have hc' := hc
                unfold numAt at hc'
                have := numP_bd hc'
                have h2 : (s.extract (41 + 2 * i) (43 + 2 * i)).size = 2 := by rw [ByteArray.size_extract]; omega
                rw [h2] at this
                omega
              rw [hcv, hcb]
              refine ⟨fun h6 => by simp at h6, fun _ => ⟨⟨by omega, by omega⟩, Again.mk (i + 1) ?_ ⟨by omega, fun j hj => ?_⟩ (by omega)⟩⟩
              · refine of_eq (b :=
                (((((.d (.con (.string s))) : AV) = (.d (.con (.string s)))) ∧
                ((((.d (.con (.int .i64 g))) : AV) = (.d (.con (.int .i64 g)))) ∧
                ((((.d (.con (.int .i64 ((↑n : Int))))) : AV) = (.d (.con (.int .i64 ((↑n : Int)))))) ∧
                ((((.vec ((39 : Nat)) ((1 : Nat)) ((0 : Nat)) n) : AV) = (.vec ((39 : Nat)) ((1 : Nat)) ((0 : Nat)) n)) ∧
                ((((.d (.con (.int .i64 ((↑n : Int))))) : AV) = (.d (.con (.int .i64 ((↑n : Int)))))) ∧
                ((((.d (.con (.int .i64 ((↑i : Int) + (1 : Int))))) : AV) = (.d (.con (.int .i64 ((↑(i + (1 : Nat)) : Int)))))) ∧
                True)))))) ∧
                ((((some [(.arr ⟨false, ((5 : Nat)), false⟩ ((1 : Nat)) (fun j => bif Nat.beq j ((0 : Nat) + Int.toNat (↑i : Int)) then DV.con (Value.int IntKind.u8 (↑c : Int)) else rowB (payC s) i j))]) : (Option (List AV))) = (some [(.arr ⟨false, ((5 : Nat)), false⟩ ((1 : Nat)) (rowB (payC s) (i + (1 : Nat))))])) ∧
                True))) (by kernel_rfl) ?_
                refine ⟨⟨rfl, rfl, rfl, rfl, rfl, rfl, trivial⟩, ?_, trivial⟩
                have e5 : ((c : Nat) : Int) = ((payC s i).toNat : Int) := by
                  unfold payC
                  rw [hc]
                  simp only [Option.getD_some, UInt8.toNat_ofNat']; omega
                simp only [Int.toNat_natCast, Nat.zero_add]
                rw [← rowB_succ (payC s) i _ e5]
              · rcases Nat.lt_or_ge j i with hj' | hj'
                · exact hall j hj'
                · obtain rfl : j = i := by omega
                  rw [hc]; rfl
          · have : i = n := by simp at h5; omega
            subst this
            refine walk (orc := orcDecP) (keep := []) (cuts := []) (n := 1000) follows ?_
            refine of_eqH (b :=
              ((BytesAt i (fun i_1 => rowB (payC s) i ((0 : Nat) + i_1)) ∧
              FnOK Tryd.prog G ((17 : Nat)) [(.con (.int .i64 g)), (.con (.string ({ data := List.toArray (bytesOf i fun i_1 => rowB (payC s) i ((0 : Nat) + i_1)) })))] (.tup [(.con (.string (encS g { data := List.toArray (bytesOf i fun i_1 => rowB (payC s) i ((0 : Nat) + i_1)) }))), (.con (.int .i64 (encE g { data := List.toArray (bytesOf i fun i_1 => rowB (payC s) i ((0 : Nat) + i_1)) })))])) ∧
              ((((!encE g { data := List.toArray (bytesOf i fun i_1 => rowB (payC s) i ((0 : Nat) + i_1)) } != (0 : Int)) = true) →
              FnOK Tryd.prog G ((43 : Nat)) [(.con (.string s)), (.con (.string (encS g { data := List.toArray (bytesOf i fun i_1 => rowB (payC s) i ((0 : Nat) + i_1)) })))] (.con (.bool (hasP s (encS g { data := List.toArray (bytesOf i fun i_1 => rowB (payC s) i ((0 : Nat) + i_1)) }))))) ∧
              ((((encE g { data := List.toArray (bytesOf i fun i_1 => rowB (payC s) i ((0 : Nat) + i_1)) } != (0 : Int) || !hasP s (encS g { data := List.toArray (bytesOf i fun i_1 => rowB (payC s) i ((0 : Nat) + i_1)) })) = true) →
              (((.tup [(.con (.string ({ data := #[] }))), (.con (.int .i64 ((0 : Int)))), (.con (.bool false))]) : DV) = (decQ g s))) ∧
              (((encE g { data := List.toArray (bytesOf i fun i_1 => rowB (payC s) i ((0 : Nat) + i_1)) } != (0 : Int) || !hasP s (encS g { data := List.toArray (bytesOf i fun i_1 => rowB (payC s) i ((0 : Nat) + i_1)) })) = false) →
              (BytesAt i (fun i_1 => rowB (payC s) i ((0 : Nat) + i_1)) ∧
              (((.tup [(.con (.string ({ data := List.toArray (bytesOf i fun i_1 => rowB (payC s) i ((0 : Nat) + i_1)) }))), (.con (.int .i64 ((↑(ByteArray.size (encS g { data := List.toArray (bytesOf i fun i_1 => rowB (payC s) i ((0 : Nat) + i_1)) })) : Int)))), (.con (.bool true))]) : DV) = (decQ g s)))))))) (by kernel_rfl) ?_
            have eP : (⟨(bytesOf i fun j => rowB (payC s) i (0 + j)).toArray⟩ : ByteArray) = bs (payB s i) := by rw [rowB_bytes]; rfl
            rw [eP]
            have hp : (bs (payB s i)).size = i := by rw [bs_size, payB_len]
            have hok : okGen g = true ∧ (bs (payB s i)).size ≤ 30000 := ⟨hg, by rw [hp]; exact h4.1⟩
            have hS : encS g (bs (payB s i)) = bs (encL g.toNat (bs (payB s i))) := if_pos hok
            have hE : encE g (bs (payB s i)) = 0 := by
              unfold encE
              rw [if_pos hg, if_neg (by omega)]
            have hP : hasP s (bs (encL g.toNat (bs (payB s i)))) = true ↔ s.data.toList.take (50 + 2 * i) = encL g.toNat (bs (payB s i)) := by
              have : hasP s (bs (encL g.toNat (bs (payB s i)))) = (encL g.toNat (bs (payB s i))).isPrefixOf s.data.toList := rfl
              rw [this, List.isPrefixOf_iff_prefix, List.prefix_iff_eq_take, encL_len, hp]
              exact ⟨fun h => h.symm, fun h => h.symm⟩
            have hN : (bs (encL g.toNat (bs (payB s i)))).size = 50 + 2 * i := by rw [bs_size, encL_len, hp]
            have k17 := f17' (G := G) g (bs (payB s i))
            rw [hS, hE] at k17 ⊢
            refine ⟨⟨rowB_at _ _, k17⟩, fun _ => f43 _ _, fun h6 => ?_, fun h6 => ⟨rowB_at _ _, ?_⟩⟩
            · have h6 : ¬ hasP s (bs (encL g.toNat (bs (payB s i)))) = true := by simpa using h6
              rw [decQ_none]
              · rfl
              · rw [hread, if_neg]
                rintro ⟨_, _, _, k4⟩
                exact h6 (hP.2 k4)
            · have h6 : hasP s (bs (encL g.toNat (bs (payB s i)))) = true := by simpa using h6
              rw [if_pos ⟨h4.1, h4.2, hall, hP.1 h6⟩] at hread
              unfold decQ
              rw [hread, hN]
              simp only [hp]
/-! the same with opaque functions -/
noncomputable def dcP (g : Int) (s : ByteArray) : ByteArray := (decSpec g.toNat s.data.toList).getD ByteArray.empty
noncomputable def dcN (g : Int) (s : ByteArray) : Int := match decSpec g.toNat s.data.toList with | some p => (50 + 2 * p.size : Nat) | none => 0
noncomputable def dcB (g : Int) (s : ByteArray) : Bool := (decSpec g.toNat s.data.toList).isSome
theorem decQ_eq (g : Int) (s : ByteArray) : decQ g s = .tup [ds (dcP g s), di (dcN g s), db (dcB g s)] := by
  unfold decQ dcP dcN dcB
  cases decSpec g.toNat s.data.toList <;> rfl
theorem f30' (s : ByteArray) (g : Int) (hg : okGen g = true) (hsd : s.size < 1000000) : FnOK Tryd.prog G 30 [ds s, di g] (.tup [ds (dcP g s), di (dcN g s), db (dcB g s)]) := decQ_eq g s ▸ f30 s g hg hsd
noncomputable def orc16 : Oracle := fun f args => match f, args with
  | 29, [.con (.int .i64 g)] => some (db (okGen g))
  | 30, [.con (.string s), .con (.int .i64 g)] => some (.tup [ds (dcP g s), di (dcN g s), db (dcB g s)])
  | _, _ => none
theorem f16 (d : ByteArray) (a g : Int) (hd : d.size < 1000000) : FnOK Tryd.prog G 16 [ds d, di a, di g] (decR d a g) := by
  refine FnOK.walk (orc := orc16) (keep := []) follows Tryd.func16 rfl Tryd.call16 ?_
  refine of_eqH (b :=
    (FnOK Tryd.prog G ((29 : Nat)) [(.con (.int .i64 g))] (.con (.bool (okGen g))) ∧
    ((((!okGen g || decide (a < (0 : Int)) || decide (a > (↑(ByteArray.size d) : Int))) = true) →
    (((.tup [(.con (.string ({ data := #[] }))), (.con (.int .i64 ((0 : Int)))), (.con (.int .i64 ((2 : Int))))]) : DV) = (decR d a g))) ∧
    (((!okGen g || decide (a < (0 : Int)) || decide (a > (↑(ByteArray.size d) : Int))) = false) →
    ((((a == (↑(ByteArray.size d) : Int)) = true) →
    (((.tup [(.con (.string ({ data := #[] }))), (.con (.int .i64 ((0 : Int)))), (.con (.int .i64 ((7 : Int))))]) : DV) = (decR d a g))) ∧
    (((a == (↑(ByteArray.size d) : Int)) = false) →
    (((((0 : Int) ≤ a) ∧
    ((a ≤ (↑(ByteArray.size d) : Int)) ∧
    ((↑(ByteArray.size d) : Int) ≤ (↑(ByteArray.size d) : Int)))) ∧
    FnOK Tryd.prog G ((30 : Nat)) [(.con (.string (ByteArray.extract d (Int.toNat a) (Int.toNat (↑(ByteArray.size d) : Int))))), (.con (.int .i64 g))] (.tup [(.con (.string (dcP g (ByteArray.extract d (Int.toNat a) (Int.toNat (↑(ByteArray.size d) : Int)))))), (.con (.int .i64 (dcN g (ByteArray.extract d (Int.toNat a) (Int.toNat (↑(ByteArray.size d) : Int)))))), (.con (.bool (dcB g (ByteArray.extract d (Int.toNat a) (Int.toNat (↑(ByteArray.size d) : Int))))))])) ∧
    ((((!dcB g (ByteArray.extract d (Int.toNat a) (Int.toNat (↑(ByteArray.size d) : Int)))) = true) →
    (((.tup [(.con (.string ({ data := #[] }))), (.con (.int .i64 ((0 : Int)))), (.con (.int .i64 ((11 : Int))))]) : DV) = (decR d a g))) ∧
    (((!dcB g (ByteArray.extract d (Int.toNat a) (Int.toNat (↑(ByteArray.size d) : Int)))) = false) →
    (((.tup [(.con (.string (dcP g (ByteArray.extract d (Int.toNat a) (Int.toNat (↑(ByteArray.size d) : Int)))))), (.con (.int .i64 (dcN g (ByteArray.extract d (Int.toNat a) (Int.toNat (↑(ByteArray.size d) : Int)))))), (.con (.int .i64 ((0 : Int))))]) : DV) = (decR d a g))))))))))) (by kernel_rfl) ?_
  refine ⟨f29 g, fun h => ?_, fun h => ⟨fun h2 => ?_, fun h2 => ?_⟩⟩
  · have : ¬ (okGen g = true ∧ 0 ≤ a ∧ a ≤ d.size) := by
      simp at h
      rintro ⟨h1, h2, h3⟩
      rw [h1] at h
      simp at h
      omega
    rw [decR, if_neg this]; rfl
  · have h : okGen g = true ∧ 0 ≤ a ∧ a ≤ d.size := by
      simp at h
      exact ⟨h.1.1, by omega, by omega⟩
    rw [decR, if_pos h, if_pos (by simpa using h2)]; rfl
  · have h : okGen g = true ∧ 0 ≤ a ∧ a ≤ d.size := by
      simp at h
      exact ⟨h.1.1, by omega, by omega⟩
    have h2 : ¬ a = d.size := by simpa using h2
    have hR : decR d a g = decRs g.toNat (ByteArray.extract d (Int.toNat a) (Int.toNat (d.size : Int))) := by
      rw [decR, if_pos h, if_neg h2]; rfl
    rw [hR]
    have hsd : (ByteArray.extract d (Int.toNat a) (Int.toNat (d.size : Int))).size < 1000000 := by
      rw [ByteArray.size_extract]; omega
    generalize ByteArray.extract d (Int.toNat a) (Int.toNat (d.size : Int)) = s at hsd ⊢
    refine ⟨⟨⟨by omega, by omega, by omega⟩, f30' s g h.1 hsd⟩, fun h3 => ?_, fun h3 => ?_⟩
    · have h3 : dcB g s = false := by simpa using h3
      unfold dcB at h3
      rw [decRs_none (by simpa using h3)]; rfl
    · have h3 : dcB g s = true := by simpa using h3
      unfold dcB at h3
      obtain ⟨p, hp⟩ := Option.isSome_iff_exists.1 h3
      unfold decRs dcP dcN
      rw [hp]; rfl
/-- The content of the record at an offset. -/
noncomputable def deO (d : ByteArray) (a g : Int) : Option ByteArray := if okGen g = true ∧ 0 ≤ a ∧ a < d.size then decSpec g.toNat (d.data.toList.drop a.toNat) else none
noncomputable def deS (d : ByteArray) (a g : Int) : ByteArray := (deO d a g).getD ByteArray.empty
noncomputable def deN (d : ByteArray) (a g : Int) : Int := match deO d a g with | some p => (50 + 2 * p.size : Nat) | none => 0
noncomputable def deE (d : ByteArray) (a g : Int) : Int := match deO d a g with | some _ => 0 | none => if okGen g = true ∧ 0 ≤ a ∧ a ≤ d.size then if a = d.size then 7 else 11 else 2
theorem decR_eq (d : ByteArray) (a g : Int) : decR d a g = .tup [ds (deS d a g), di (deN d a g), di (deE d a g)] := by
  unfold decR deS deN deE deO
  by_cases h : okGen g = true ∧ 0 ≤ a ∧ a ≤ d.size
  · by_cases h2 : a = d.size
    · rw [if_pos h, if_pos h2, if_neg (fun k => by omega)]
      simp only [if_pos h, if_pos h2]; rfl
    · rw [if_pos h, if_neg h2, if_pos ⟨h.1, h.2.1, by omega⟩]
      unfold decRs
      rw [ext_drop]
      cases decSpec g.toNat (d.data.toList.drop a.toNat) with
      | none => simp only [if_pos h, if_neg h2]; rfl
      | some p => rfl
  · rw [if_neg h, if_neg (fun k => h ⟨k.1, k.2.1, by omega⟩)]
    simp only [if_neg h]; rfl
theorem f16' (d : ByteArray) (a g : Int) (hd : d.size < 1000000) : FnOK Tryd.prog G 16 [ds d, di a, di g] (.tup [ds (deS d a g), di (deN d a g), di (deE d a g)]) := decR_eq d a g ▸ f16 d a g hd
theorem f19' (d : ByteArray) (a g : Int) (hd : d.size < 1000000) : FnOK Tryd.prog G 19 [ds d, di a, di g] (.tup [ds (deS d a g), di (deN d a g), di (deE d a g)]) := decR_eq d a g ▸ f19 d a g hd
end Go.Proofs
