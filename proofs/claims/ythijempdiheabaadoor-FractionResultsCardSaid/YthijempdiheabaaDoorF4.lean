import Derived.Test.YthijempdiheabaaDoorAb15
import Derived.Test.YthijempdiheabaaDoorFb
import Derived.Test.YthijempdiheabaaDoorF3
set_option autoImplicit false
namespace Go.Proofs
open Go Go.Ab
set_option maxHeartbeats 1000000
set_option maxRecDepth 100000
variable {G : IH}
theorem wrap_u8 {z : Int} (h0 : 0 ≤ z) (h1 : z < 256) : IntKind.wrap .u8 z = z := by
  simp [IntKind.wrap, IntKind.bits, IntKind.signed]; omega
theorem one_byte {z : Int} (h0 : 0 ≤ z) (h1 : z < 256) : BytesAt 1 (elemF false 1 [.con (.int .u8 (IntKind.wrap .u8 z))]) ∧ bytesOf 1 (elemF false 1 [.con (.int .u8 (IntKind.wrap .u8 z))]) = [UInt8.ofNat z.toNat] := by
  rw [wrap_u8 h0 h1]
  refine ⟨fun i hi => ?_, rfl⟩
  have : i = 0 := by omega
  subst this; rfl
def numS (x : List UInt8 × Int) : AS := ⟨regs 21 [(0, vi x.2), (3, vs (str x.1))], []⟩
def numI (n : Int) (x : List UInt8 × Int) : Prop := 0 ≤ x.2 ∧ x.2 ≤ n ∧ ((x.1 = [] ∧ x.2 = n) ∨ (x.1 ≠ [] ∧ 0 < x.2 ∧ Lib.decDigits n.toNat = Lib.decDigits x.2.toNat ++ x.1) ∨ (x.1 ≠ [] ∧ x.2 = 0 ∧ Lib.decDigits n.toNat = x.1))
def numM (x : List UInt8 × Int) : Nat := x.2.toNat + (if x.1 = [] then 1 else 0)
theorem dec_small {u : Nat} (h : u < 10) : Lib.decDigits u = [UInt8.ofNat (48 + u)] := by rw [Lib.decDigits, dif_pos h]
theorem dec_big {u : Nat} (h : ¬ u < 10) : Lib.decDigits u = Lib.decDigits (u / 10) ++ [UInt8.ofNat (48 + u % 10)] := by rw [Lib.decDigits, dif_neg h]
theorem f47 (n : Int) (h0 : 0 ≤ n) (hn : n ≤ 9223372036854775807) : FnOK Tryd.prog G 47 [di n] (ds (str (Lib.decDigits n.toNat))) := by
  refine FnOK.walk (orc := orc) (keep := [0,2,3,9]) follows Tryd.func47 rfl Tryd.call47 ?_
  refine of_eqH (b :=
    AWP Tryd.prog G [.code (cAt (bodyOf Tryd.f47) [1, 1, 0, 0]), (.blk ((0 : Nat))), .code (cAt (bodyOf Tryd.f47) [1, 1, 1])] ⟨[(.d (.con (.int .i64 n))), .any, (.d (.con (.string ({ data := #[] })))), (.d (.con (.string ({ data := #[] })))), .any, .any, .any, .any, .any, .any, .any, .any, .any, .any, .any, .any, .any, .any, .any, .any, .any], []⟩ (Ret Tryd.prog Tryd.f47 (ds (str (Lib.decDigits (Int.toNat n)))))) (by kernel_rfl) ?_
  refine AWP.loop (c := cAt (bodyOf Tryd.f47) [1, 1, 0, 0, 0]) (by kernel_rfl) numS (numI n) numM ([], n) ?_ ⟨h0, Int.le_refl _, .inl ⟨rfl, rfl⟩⟩ ?_
  · refine of_eq (b :=
    (((((.d (.con (.int .i64 n))) : AV) = (.d (.con (.int .i64 n)))) ∧
    ((((.d (.con (.string ({ data := #[] })))) : AV) = (.d (.con (.string (str []))))) ∧
    True)) ∧
    True)) (by kernel_rfl) ?_
    exact ⟨⟨rfl, rfl, trivial⟩, trivial⟩
  · rintro ⟨l, k⟩ ⟨hk, hkn, hI⟩
    simp only at hk hkn hI
    refine walk (orc := orc) (keep := [0,2,3,9]) (cuts := []) (n := 1000) follows ?_
    refine of_eqH (b :=
      ((((ByteArray.toList (str l) == ByteArray.toList { data := #[] } || decide (k > (0 : Int))) = true) →
      (((I64 ((48 : Int) + Int.tmod k (10 : Int))) ∧
      (BytesAt ((1 : Nat)) (elemF false ((1 : Nat)) [(.con (.int .u8 (IntKind.wrap IntKind.u8 ((48 : Int) + Int.tmod k (10 : Int)))))]) ∧
      (ByteArray.size { data := List.toArray (bytesOf (1 : Nat) (elemF false (1 : Nat) [DV.con (Value.int IntKind.u8 (IntKind.wrap IntKind.u8 ((48 : Int) + Int.tmod k (10 : Int))))])) } + ByteArray.size (str l) ≤ (9223372036854775807 : Nat)))) ∧
      ((R64 k) ∧
      Again numS (numI n) numM ((l, k)) ⟨[(.d (.con (.int .i64 (Int.tdiv k (10 : Int))))), .any, .any, (.d (.con (.string ({ data := List.toArray (bytesOf (1 : Nat) (elemF false (1 : Nat) [DV.con (Value.int IntKind.u8 (IntKind.wrap IntKind.u8 ((48 : Int) + Int.tmod k (10 : Int))))])) } ++ str l)))), .any, .any, .any, .any, .any, (.d (.con (.bool (ByteArray.toList (str l) == ByteArray.toList { data := #[] } || decide (k > (0 : Int)))))), .any, .any, .any, .any, .any, .any, .any, .any, .any, .any, .any], []⟩))) ∧
      (((ByteArray.toList (str l) == ByteArray.toList { data := #[] } || decide (k > (0 : Int))) = false) →
      AWP Tryd.prog G [.code (cAt (bodyOf Tryd.f47) [1, 1, 1])] ⟨[(.d (.con (.int .i64 k))), .any, .any, (.d (.con (.string (str l)))), .any, .any, .any, .any, .any, (.d (.con (.bool (ByteArray.toList (str l) == ByteArray.toList { data := #[] } || decide (k > (0 : Int)))))), .any, .any, .any, .any, .any, .any, .any, .any, .any, .any, .any], []⟩ (Ret Tryd.prog Tryd.f47 (ds (str (Lib.decDigits (Int.toNat n)))))))) (by kernel_rfl) ?_
    simp only [str_toList]
    have hlen := dec_len n hn
    have hll : l.length ≤ 20 := by
      rcases hI with ⟨rfl, _⟩ | ⟨_, _, h⟩ | ⟨_, _, h⟩
      · simp
      · rw [h, List.length_append] at hlen; omega
      · rw [h] at hlen; exact hlen
    have hm := tmod_bd (x := k) (y := 10) hk (by omega)
    have hmod : k.tmod 10 = k % 10 := Int.tmod_eq_emod_of_nonneg hk
    have hdiv : k.tdiv 10 = k / 10 := Int.tdiv_eq_ediv_of_nonneg hk
    obtain ⟨b1, b2⟩ := one_byte (z := 48 + k.tmod 10) (by omega) (by omega)
    rw [b2, hdiv]
    simp only [str_app, str_size]
    refine ⟨fun h => ⟨⟨⟨by omega, by omega⟩, b1, by simp; omega⟩, ⟨by omega, by omega⟩, Again.mk ([UInt8.ofNat (48 + k.tmod 10).toNat] ++ l, k / 10) ?_ ⟨by simp only; omega, by simp only; omega, ?_⟩ ?_⟩, fun h => ?_⟩
    · refine of_eq (b :=
      (((((.d (.con (.int .i64 (k / (10 : Int))))) : AV) = (.d (.con (.int .i64 (k / (10 : Int)))))) ∧
      ((((.d (.con (.string (str ([UInt8.ofNat (Int.toNat ((48 : Int) + Int.tmod k (10 : Int)))] ++ l))))) : AV) = (.d (.con (.string (str ([UInt8.ofNat (Int.toNat ((48 : Int) + Int.tmod k (10 : Int)))] ++ l)))))) ∧
      True)) ∧
      True)) (by kernel_rfl) ?_
      exact ⟨⟨rfl, rfl, trivial⟩, trivial⟩
    · have e1 : (48 + k.tmod 10).toNat = 48 + k.toNat % 10 := by omega
      rw [e1]
      have key : Lib.decDigits n.toNat = Lib.decDigits k.toNat ++ l := by
        rcases hI with ⟨rfl, rfl⟩ | ⟨_, _, h⟩ | ⟨hl, hk0, _⟩
        · simp
        · exact h
        · exfalso; revert h; simp [hl, hk0]
      by_cases hk9 : k.toNat < 10
      · right; right
        refine ⟨by simp, by omega, ?_⟩
        rw [key, dec_small hk9, Nat.mod_eq_of_lt hk9]
      · right; left
        refine ⟨by simp, by omega, ?_⟩
        rw [key, dec_big hk9, show (k / 10).toNat = k.toNat / 10 by omega]
        simp
    · simp only [numM, if_neg (show ¬ ([UInt8.ofNat (48 + k.tmod 10).toNat] ++ l = []) by simp)]
      rcases hI with ⟨rfl, _⟩ | ⟨hl, hk0, _⟩ | ⟨hl, hk0, _⟩
      · rw [if_pos rfl]; omega
      · rw [if_neg hl]; omega
      · exfalso; revert h; simp [hl, hk0]
    · refine walk (orc := orc) (keep := []) (cuts := []) (n := 1000) follows ?_
      refine of_eqH (b :=
        (((.con (.string (str l))) : DV) = (ds (str (Lib.decDigits (Int.toNat n)))))) (by kernel_rfl) ?_
      rcases hI with ⟨rfl, _⟩ | ⟨hl, hk0, _⟩ | ⟨hl, hk0, he⟩
      · simp at h
      · simp at h; omega
      · rw [he]
theorem f18 (n d : Int) : FnOK Tryd.prog G 18 [fr n d] (ds (str (fmt n d))) := by
  refine FnOK.walk (orc := orc) (keep := []) follows Tryd.func18 rfl Tryd.call18 ?_
  refine of_eqH (b :=
    (FnOK Tryd.prog G ((16 : Nat)) [(.agg [(.con (.int .i64 n)), (.con (.int .i64 d))])] (.con (.bool (ok n d))) ∧
    ((((!ok n d) = true) →
    (((.con (.string ({ data := #[] }))) : DV) = (ds (str (fmt n d))))) ∧
    (((!ok n d) = false) →
    (FnOK Tryd.prog G ((46 : Nat)) [(.con (.int .i64 n))] (.tup [(.con (.string (str (sg n)))), (.con (.int .i64 ((↑(Int.natAbs n) : Int))))]) ∧
    ((((d == (1 : Int)) = true) →
    ((FnOK Tryd.prog G ((47 : Nat)) [(.con (.int .i64 ((↑(Int.natAbs n) : Int))))] (.con (.string (str (Lib.decDigits (Int.toNat (↑(Int.natAbs n) : Int)))))) ∧
    (ByteArray.size (str (sg n)) + ByteArray.size (str (Lib.decDigits (Int.toNat (↑(Int.natAbs n) : Int)))) ≤ (9223372036854775807 : Nat))) ∧
    (((.con (.string (str (sg n) ++ str (Lib.decDigits (Int.toNat (↑(Int.natAbs n) : Int)))))) : DV) = (ds (str (fmt n d)))))) ∧
    (((d == (1 : Int)) = false) →
    ((FnOK Tryd.prog G ((47 : Nat)) [(.con (.int .i64 ((↑(Int.natAbs n) : Int))))] (.con (.string (str (Lib.decDigits (Int.toNat (↑(Int.natAbs n) : Int)))))) ∧
    ((ByteArray.size (str (sg n)) + ByteArray.size (str (Lib.decDigits (Int.toNat (↑(Int.natAbs n) : Int)))) ≤ (9223372036854775807 : Nat)) ∧
    ((ByteArray.size (str (sg n) ++ str (Lib.decDigits (Int.toNat (↑(Int.natAbs n) : Int)))) + ByteArray.size { data := #[(47 : UInt8)] } ≤ (9223372036854775807 : Nat)) ∧
    (FnOK Tryd.prog G ((47 : Nat)) [(.con (.int .i64 d))] (.con (.string (str (Lib.decDigits (Int.toNat d))))) ∧
    (ByteArray.size (str (sg n) ++ str (Lib.decDigits (Int.toNat (↑(Int.natAbs n) : Int))) ++ { data := #[(47 : UInt8)] }) + ByteArray.size (str (Lib.decDigits (Int.toNat d))) ≤ (9223372036854775807 : Nat)))))) ∧
    (((.con (.string (str (sg n) ++ str (Lib.decDigits (Int.toNat (↑(Int.natAbs n) : Int))) ++ { data := #[(47 : UInt8)] } ++ str (Lib.decDigits (Int.toNat d))))) : DV) = (ds (str (fmt n d)))))))))))) (by kernel_rfl) ?_
  refine ⟨f16 n d, fun h => ?_, fun h => ?_⟩
  · have h : ok n d = false := by simpa using h
    simp [fmt, h]
  · have h : ok n d = true := by simpa using h
    have hb := ok_spec h
    have l0 := sg_len n
    have l1 := dec_len (n.natAbs : Int) (by omega)
    have l2 := dec_len d (by omega)
    simp only [str_app, str_size, List.length_append, List.length_cons, List.length_nil]
    refine ⟨f46 n ⟨by omega, by omega⟩, fun h1 => ⟨⟨f47 _ (by omega) (by omega), by omega⟩, ?_⟩, fun h1 => ⟨⟨f47 _ (by omega) (by omega), by omega, by omega, f47 d (by omega) (by omega), by omega⟩, ?_⟩⟩
    · have h1 : d = 1 := by simpa using h1
      subst h1
      simp [fmt, h, itoa_sg]
    · have h1 : d ≠ 1 := by simpa using h1
      have e1 : d.natAbs = d.toNat := by omega
      have e2 : sg d = [] := by unfold sg; rw [if_neg (by omega)]
      simp [fmt, h, h1, itoa_sg, e1, e2]
end Go.Proofs
