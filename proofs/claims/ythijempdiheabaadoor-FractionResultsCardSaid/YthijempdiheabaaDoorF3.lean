import Derived.Test.YthijempdiheabaaDoorAb15
import Derived.Test.YthijempdiheabaaDoorFb
import Derived.Test.YthijempdiheabaaDoorF2
import Derived.Test.YthijempdiheabaaDoorShelf
set_option autoImplicit false
namespace Go.Proofs
open Go Go.Ab
set_option maxHeartbeats 1000000
set_option maxRecDepth 100000
theorem str_app (a b : List UInt8) : str a ++ str b = str (a ++ b) := ByteArray.ext (by rw [ByteArray.data_append]; simp)
theorem str_size (a : List UInt8) : ByteArray.size (str a) = a.length := by simp [ByteArray.size]
theorem str_toList (a : List UInt8) : ByteArray.toList (str a) = a := by simp
theorem str_extract (a : List UInt8) (i j : Nat) : ByteArray.extract (str a) i j = str ((a.drop i).take (j - i)) := ByteArray.ext (by rw [ByteArray.data_extract]; simp)
theorem itoa_len (n : Int) (h : I64 n) : (Lib.itoa n).length ≤ 21 := Lib.itoa_length_le n h.1 h.2
theorem dec_len (n : Int) (h : n ≤ 9223372036854775807) : (Lib.decDigits n.toNat).length ≤ 20 := by
  rw [Lib.decDigits_length]; exact Lib.nDigits_le20 _ (by omega)
theorem itoa_sg (n : Int) : Lib.itoa n = sg n ++ Lib.decDigits n.natAbs := by
  unfold Lib.itoa sg
  split
  · rfl
  · rw [show n.toNat = n.natAbs by omega]; rfl
theorem sg_len (n : Int) : (sg n).length ≤ 1 := by unfold sg; split <;> simp

/-- The table that strconv.Itoa reads lies in the memory that stays. -/
def Tab (G : IH) : Prop := ∀ w, G.holds w → Lib.TabIs Tryd.prog w "internal/strconv.uint64pow10" .u64 Lib.pow10Tab
variable {G : IH}
theorem f44 (hT : Tab G) (n : Int) (h : I64 n) : FnOK Tryd.prog G 44 [di n] (ds (str (Lib.itoa n))) := by
  refine FnOK.of_calls (args := [.int .i64 n]) (v := .string (str (Lib.itoa n))) Tryd.call44 fun w hw => ?_
  refine Calls.mono (Tryd.strconv_Itoa n h.1 h.2 w (hT w hw)) ?_
  rintro e w' ⟨he, k, os, rfl⟩
  exact ⟨he, below_grow w k os⟩
theorem f17 (hT : Tab G) (n d : Int) : FnOK Tryd.prog G 17 [fr n d] (ds (str (fmt n d))) := by
  refine FnOK.walk (orc := orc) (keep := []) follows Tryd.func17 rfl Tryd.call17 ?_
  refine of_eqH (b :=
    (FnOK Tryd.prog G ((15 : Nat)) [(.agg [(.con (.int .i64 n)), (.con (.int .i64 d))])] (.con (.bool (ok n d))) ∧
    ((((!ok n d) = true) →
    (((.con (.string ({ data := #[] }))) : DV) = (ds (str (fmt n d))))) ∧
    (((!ok n d) = false) →
    ((((d == (1 : Int)) = true) →
    (FnOK Tryd.prog G ((44 : Nat)) [(.con (.int .i64 n))] (.con (.string (str (Lib.itoa n)))) ∧
    (((.con (.string (str (Lib.itoa n)))) : DV) = (ds (str (fmt n d)))))) ∧
    (((d == (1 : Int)) = false) →
    ((FnOK Tryd.prog G ((44 : Nat)) [(.con (.int .i64 n))] (.con (.string (str (Lib.itoa n)))) ∧
    ((ByteArray.size (str (Lib.itoa n)) + ByteArray.size { data := #[(47 : UInt8)] } ≤ (9223372036854775807 : Nat)) ∧
    (FnOK Tryd.prog G ((44 : Nat)) [(.con (.int .i64 d))] (.con (.string (str (Lib.itoa d)))) ∧
    (ByteArray.size (str (Lib.itoa n) ++ { data := #[(47 : UInt8)] }) + ByteArray.size (str (Lib.itoa d)) ≤ (9223372036854775807 : Nat))))) ∧
    (((.con (.string (str (Lib.itoa n) ++ { data := #[(47 : UInt8)] } ++ str (Lib.itoa d)))) : DV) = (ds (str (fmt n d))))))))))) (by kernel_rfl) ?_
  refine ⟨f15 n d, fun h => ?_, fun h => ?_⟩
  · have h : ok n d = false := by simpa using h
    simp [fmt, h]
  · have h : ok n d = true := by simpa using h
    have hb := ok_spec h
    have hn : I64 n := ⟨by omega, by omega⟩
    have hd : I64 d := ⟨by omega, by omega⟩
    have l1 := itoa_len n hn
    have l2 := itoa_len d hd
    simp only [str_app, str_size, List.length_append, List.length_cons, List.length_nil]
    refine ⟨fun h1 => ⟨f44 hT n hn, ?_⟩, fun h1 => ⟨⟨f44 hT n hn, by omega, f44 hT d hd, by omega⟩, ?_⟩⟩
    · have h1 : d = 1 := by simpa using h1
      subst h1
      simp [fmt, h]
    · have h1 : d ≠ 1 := by simpa using h1
      simp [fmt, h, h1]
theorem f46' (n : Int) (h : R64 n) : FnOK Tryd.prog G 46 [di n] (.tup [ds (str (sg n)), di (n.natAbs : Int)]) := f46 n h
theorem f45 (hT : Tab G) (n p : Int) (hn : R64 n) (hp : 0 < p) (hp' : p ≤ 1000000000) : FnOK Tryd.prog G 45 [di n, di p] (ds (str (pt n p))) := by
  obtain ⟨n0, n1⟩ := hn
  have b1 := tmod_bd (x := (n.natAbs : Int)) (y := p) (by omega) hp
  have hm : I64 (p + Int.tmod (n.natAbs : Int) p) := ⟨by omega, by omega⟩
  have hq : I64 (Int.tdiv (n.natAbs : Int) p) := by
    rw [Int.tdiv_eq_ediv_of_nonneg (by omega)]
    exact ediv_I64 hp ⟨by omega, by omega⟩
  have l1 := itoa_len _ hm
  have l2 := itoa_len _ hq
  have l3 : 1 ≤ (Lib.itoa (p + Int.tmod (n.natAbs : Int) p)).length := by
    have h1 := Lib.decDigits_length ((p + Int.tmod (n.natAbs : Int) p).natAbs)
    have h2 : 1 ≤ Lib.nDigits ((p + Int.tmod (n.natAbs : Int) p).natAbs) := by unfold Lib.nDigits; split <;> omega
    rw [itoa_sg, List.length_append]; omega
  have tk : ∀ l : List UInt8, List.take (Int.toNat (l.length : Int) - Int.toNat 1) (List.drop (Int.toNat 1) l) = l.drop 1 := by
    intro l
    rw [List.take_of_length_le (by simp)]; rfl
  refine FnOK.walk (orc := orc) (keep := []) follows Tryd.func45 rfl Tryd.call45 ?_
  refine of_eqH (b :=
    ((((decide (n < (0 : Int))) = true) →
    ((FnOK Tryd.prog G ((49 : Nat)) [(.con (.int .i64 n))] (.con (.int .i64 ((↑(Int.natAbs n) : Int)))) ∧
    ((p ≠ (0 : Int)) ∧
    ((I64 (p + Int.tmod (↑(Int.natAbs n) : Int) p)) ∧
    (FnOK Tryd.prog G ((44 : Nat)) [(.con (.int .i64 (p + Int.tmod (↑(Int.natAbs n) : Int) p)))] (.con (.string (str (Lib.itoa (p + Int.tmod (↑(Int.natAbs n) : Int) p))))) ∧
    (((0 : Int) ≤ (1 : Int)) ∧
    (((1 : Int) ≤ (↑(ByteArray.size (str (Lib.itoa (p + Int.tmod (↑(Int.natAbs n) : Int) p)))) : Int)) ∧
    ((↑(ByteArray.size (str (Lib.itoa (p + Int.tmod (↑(Int.natAbs n) : Int) p)))) : Int) ≤ (↑(ByteArray.size (str (Lib.itoa (p + Int.tmod (↑(Int.natAbs n) : Int) p)))) : Int)))))))) ∧
    ((FnOK Tryd.prog G ((49 : Nat)) [(.con (.int .i64 n))] (.con (.int .i64 ((↑(Int.natAbs n) : Int)))) ∧
    ((p ≠ (0 : Int)) ∧
    ((R64 (↑(Int.natAbs n) : Int)) ∧
    (FnOK Tryd.prog G ((44 : Nat)) [(.con (.int .i64 (Int.tdiv (↑(Int.natAbs n) : Int) p)))] (.con (.string (str (Lib.itoa (Int.tdiv (↑(Int.natAbs n) : Int) p))))) ∧
    ((ByteArray.size { data := #[(45 : UInt8)] } + ByteArray.size (str (Lib.itoa (Int.tdiv (↑(Int.natAbs n) : Int) p))) ≤ (9223372036854775807 : Nat)) ∧
    ((ByteArray.size ({ data := #[(45 : UInt8)] } ++ str (Lib.itoa (Int.tdiv (↑(Int.natAbs n) : Int) p))) + ByteArray.size { data := #[(46 : UInt8)] } ≤ (9223372036854775807 : Nat)) ∧
    (ByteArray.size ({ data := #[(45 : UInt8)] } ++ str (Lib.itoa (Int.tdiv (↑(Int.natAbs n) : Int) p)) ++ { data := #[(46 : UInt8)] }) + ByteArray.size (ByteArray.extract (str (Lib.itoa (p + Int.tmod (↑(Int.natAbs n) : Int) p))) (Int.toNat (1 : Int)) (Int.toNat (↑(ByteArray.size (str (Lib.itoa (p + Int.tmod (↑(Int.natAbs n) : Int) p)))) : Int))) ≤ (9223372036854775807 : Nat)))))))) ∧
    (((.con (.string ({ data := #[(45 : UInt8)] } ++ str (Lib.itoa (Int.tdiv (↑(Int.natAbs n) : Int) p)) ++ { data := #[(46 : UInt8)] } ++ ByteArray.extract (str (Lib.itoa (p + Int.tmod (↑(Int.natAbs n) : Int) p))) (Int.toNat (1 : Int)) (Int.toNat (↑(ByteArray.size (str (Lib.itoa (p + Int.tmod (↑(Int.natAbs n) : Int) p)))) : Int))))) : DV) = (ds (str (pt n p))))))) ∧
    (((decide (n < (0 : Int))) = false) →
    ((FnOK Tryd.prog G ((49 : Nat)) [(.con (.int .i64 n))] (.con (.int .i64 ((↑(Int.natAbs n) : Int)))) ∧
    ((p ≠ (0 : Int)) ∧
    ((I64 (p + Int.tmod (↑(Int.natAbs n) : Int) p)) ∧
    (FnOK Tryd.prog G ((44 : Nat)) [(.con (.int .i64 (p + Int.tmod (↑(Int.natAbs n) : Int) p)))] (.con (.string (str (Lib.itoa (p + Int.tmod (↑(Int.natAbs n) : Int) p))))) ∧
    (((0 : Int) ≤ (1 : Int)) ∧
    (((1 : Int) ≤ (↑(ByteArray.size (str (Lib.itoa (p + Int.tmod (↑(Int.natAbs n) : Int) p)))) : Int)) ∧
    ((↑(ByteArray.size (str (Lib.itoa (p + Int.tmod (↑(Int.natAbs n) : Int) p)))) : Int) ≤ (↑(ByteArray.size (str (Lib.itoa (p + Int.tmod (↑(Int.natAbs n) : Int) p)))) : Int)))))))) ∧
    ((FnOK Tryd.prog G ((49 : Nat)) [(.con (.int .i64 n))] (.con (.int .i64 ((↑(Int.natAbs n) : Int)))) ∧
    ((p ≠ (0 : Int)) ∧
    ((R64 (↑(Int.natAbs n) : Int)) ∧
    (FnOK Tryd.prog G ((44 : Nat)) [(.con (.int .i64 (Int.tdiv (↑(Int.natAbs n) : Int) p)))] (.con (.string (str (Lib.itoa (Int.tdiv (↑(Int.natAbs n) : Int) p))))) ∧
    ((ByteArray.size { data := #[] } + ByteArray.size (str (Lib.itoa (Int.tdiv (↑(Int.natAbs n) : Int) p))) ≤ (9223372036854775807 : Nat)) ∧
    ((ByteArray.size ({ data := #[] } ++ str (Lib.itoa (Int.tdiv (↑(Int.natAbs n) : Int) p))) + ByteArray.size { data := #[(46 : UInt8)] } ≤ (9223372036854775807 : Nat)) ∧
    (ByteArray.size ({ data := #[] } ++ str (Lib.itoa (Int.tdiv (↑(Int.natAbs n) : Int) p)) ++ { data := #[(46 : UInt8)] }) + ByteArray.size (ByteArray.extract (str (Lib.itoa (p + Int.tmod (↑(Int.natAbs n) : Int) p))) (Int.toNat (1 : Int)) (Int.toNat (↑(ByteArray.size (str (Lib.itoa (p + Int.tmod (↑(Int.natAbs n) : Int) p)))) : Int))) ≤ (9223372036854775807 : Nat)))))))) ∧
    (((.con (.string ({ data := #[] } ++ str (Lib.itoa (Int.tdiv (↑(Int.natAbs n) : Int) p)) ++ { data := #[(46 : UInt8)] } ++ ByteArray.extract (str (Lib.itoa (p + Int.tmod (↑(Int.natAbs n) : Int) p))) (Int.toNat (1 : Int)) (Int.toNat (↑(ByteArray.size (str (Lib.itoa (p + Int.tmod (↑(Int.natAbs n) : Int) p)))) : Int))))) : DV) = (ds (str (pt n p))))))))) (by kernel_rfl) ?_
  simp only [str_app, str_size, str_extract, tk, List.length_append, List.length_cons, List.length_nil, List.length_drop]
  refine ⟨fun h => ?_, fun h => ?_⟩
  · have h : n < 0 := by simpa using h
    refine ⟨⟨f49 n (by omega) (by omega), by omega, hm, f44 hT _ hm, by omega, by omega, by omega⟩, ⟨f49 n (by omega) (by omega), by omega, ⟨by omega, by omega⟩, f44 hT _ hq, by omega, by omega, by omega⟩, ?_⟩
    simp [pt, sg, h]
  · have h : ¬ n < 0 := by simpa using h
    refine ⟨⟨f49 n (by omega) (by omega), by omega, hm, f44 hT _ hm, by omega, by omega, by omega⟩, ⟨f49 n (by omega) (by omega), by omega, ⟨by omega, by omega⟩, f44 hT _ hq, by omega, by omega, by omega⟩, ?_⟩
    simp [pt, sg, h]
theorem f19 (hT : Tab G) (n : Int) : FnOK Tryd.prog G 19 [di n] (ds (str (pts n))) := by
  refine FnOK.walk (orc := orc) (keep := []) follows Tryd.func19 rfl Tryd.call19 ?_
  refine of_eqH (b :=
    ((((decide (n < (-100000000 : Int)) || decide (n > (100000000 : Int))) = true) →
    (((.con (.string ({ data := #[] }))) : DV) = (ds (str (pts n))))) ∧
    (((decide (n < (-100000000 : Int)) || decide (n > (100000000 : Int))) = false) →
    (FnOK Tryd.prog G ((45 : Nat)) [(.con (.int .i64 n)), (.con (.int .i64 ((100 : Int))))] (.con (.string (str (pt n (100 : Int))))) ∧
    (((.con (.string (str (pt n (100 : Int))))) : DV) = (ds (str (pts n)))))))) (by kernel_rfl) ?_
  refine ⟨fun h => ?_, fun h => ⟨?_, ?_⟩⟩
  · simp at h
    simp only [pts]; rw [if_neg (by omega)]
  · simp at h
    exact f45 hT n 100 ⟨by omega, by omega⟩ (by omega) (by omega)
  · simp at h
    simp only [pts]; rw [if_pos (by omega)]
end Go.Proofs
