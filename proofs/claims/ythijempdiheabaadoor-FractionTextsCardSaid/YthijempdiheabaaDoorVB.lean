import Derived.Test.YthijempdiheabaaDoorAcC
import Derived.Test.YthijempdiheabaaDoorVA
import Derived.Test.YthijempdiheabaaDoorB0
import Derived.Test.YthijempdiheabaaDoorFB
set_option autoImplicit false
namespace Go.Proofs
open Go Go.Ab Go.RowKit
set_option maxHeartbeats 1000000
set_option maxRecDepth 100000
variable {G : IH}
/-- What is said behind the sign. -/
def prsT (t : ByteArray) (g : Int) : FE := match partsO t.data.toList with
  | none => (0, 0, 3)
  | some (a, b) => if b = 0 then (0, 0, 2) else red (g * a) b
def orc40 : Oracle := fun f args => match f, args with
  | 63, [.con (.string s)] => some (.tup [di (dgK s), di (dgV s)])
  | 43, [.con (.int .i64 a), .con (.int .i64 b)] => some (fe (red a b))
  | _, _ => none
noncomputable def S40 (t : ByteArray) (g : Int) : AS := ⟨regs Tryd.f40.ntmps [(0, vs t), (2, .box 2 0), (3, vi 0), (4, vi g)], [(2, [vi 0, vi 0])]⟩
theorem ro_cons (D U : List UInt8) (c : UInt8) : restO D (c :: U) = if c = 47 then (dgO U 7).map fun b => (valD D, b) else if c = 46 then (dgO U 6).map fun b => (valD D * 10 ^ U.length + b, 10 ^ U.length) else none := rfl
theorem ro_none {D U : List UInt8} {c : UInt8} (h : (spl U).1.length ≠ U.length ∨ (spl U).1.length < 1 ∨ (c ≠ 46 ∧ c ≠ 47) ∨ (c = 46 ∧ 6 < (spl U).1.length) ∨ 7 < (spl U).1.length) : restO D (c :: U) = none := by
  rw [ro_cons, dgO_spl, dgO_spl]
  by_cases c1 : c = 47
  · rw [if_pos c1, if_neg]
    · rfl
    · rintro ⟨q1, q2, q3⟩
      rcases h with h | h | h | h | h
      · omega
      · omega
      · exact h.2 c1
      · rw [c1] at h; exact absurd h.1 (by decide)
      · omega
  · rw [if_neg c1]
    by_cases c2 : c = 46
    · rw [if_pos c2, if_neg]
      · rfl
      · rintro ⟨q1, q2, q3⟩
        rcases h with h | h | h | h | h
        · omega
        · omega
        · exact h.1 c2
        · omega
        · omega
    · rw [if_neg c2]
theorem ro_slash {D U : List UInt8} (q1 : (spl U).1.length = U.length) (q2 : 1 ≤ U.length) (q3 : U.length ≤ 7) : restO D (47 :: U) = some (valD D, valD U) := by
  rw [ro_cons, if_pos rfl, dgO_spl, if_pos ⟨q1, q2, q3⟩]; rfl
theorem ro_dot {D U : List UInt8} (q1 : (spl U).1.length = U.length) (q2 : 1 ≤ U.length) (q3 : U.length ≤ 6) : restO D (46 :: U) = some (valD D * 10 ^ U.length + valD U, 10 ^ U.length) := by
  rw [ro_cons, if_neg (by decide), if_pos rfl, dgO_spl, if_pos ⟨q1, q2, q3⟩]; rfl
def rsO (o : Option (Nat × Nat)) (g : Int) : FE := match o with
  | none => (0, 0, 3)
  | some (a, b) => if b = 0 then (0, 0, 2) else red (g * a) b
theorem prsT_rs (t : ByteArray) (g : Int) : prsT t g = rsO (partsO t.data.toList) g := rfl
noncomputable def S40r (r : ByteArray) (n g : Int) : AS := ⟨regs Tryd.f40.ntmps [(2, .box 2 0), (3, vi 0), (4, vi g), (6, vi n), (7, vs r)], [(2, [vi 0, vi 0])]⟩
noncomputable def S40l (n g j m : Int) (i : Nat) : AS := ⟨regs Tryd.f40.ntmps [(2, .box 2 0), (3, vi 0), (4, vi g), (6, vi n), (8, vi j), (9, vi m), (10, vi ((10 ^ i : Nat) : Int)), (11, vi i)], [(2, [vi 0, vi 0])]⟩
theorem mul_g {g x : Int} (hg : g = 1 ∨ g = -1) (h0 : 0 ≤ x) (h1 : x < 1000000000000000000) : I64 (g * x) ∧ R64 (g * x) := by
  rcases hg with rfl | rfl
  · exact ⟨⟨by omega, by omega⟩, by omega, by omega⟩
  · exact ⟨⟨by omega, by omega⟩, by omega, by omega⟩
theorem i64_nat {p : Nat} (h : p < 1000000000000000000) : I64 (p : Int) ∧ R64 (p : Int) := ⟨⟨by omega, by omega⟩, by omega, by omega⟩
theorem i64_ten {p : Nat} (h : p ≤ 1000000) : I64 (10 * (p : Int)) := ⟨by omega, by omega⟩
theorem f40_rest (r : ByteArray) (hs : r.size ≤ 900000) (D U : List UInt8) (c : UInt8) (hr : r.data.toList = c :: U) (hn : valD D < 10000000000) (g : Int) (hg : g = 1 ∨ g = -1) :
    AWP Tryd.prog G [.code (cAt (bodyOf Tryd.f40) [1, 1, 1, 1, 1, 1, 1])] (S40r r (valD D : Nat) g) (Ret Tryd.prog Tryd.f40 (fe (rsO (restO D (c :: U)) g))) := by
  have hsz : r.size = U.length + 1 := by rw [← size_list, hr]; rfl
  have hu : (ByteArray.extract r (Int.toNat 1) (Int.toNat (r.size : Int))).data.toList = U := by
    rw [extract_list, hr]
    show (U.take _) = U
    rw [List.take_of_length_le]
    show U.length ≤ Int.toNat (r.size : Int) - 1
    omega
  have hz : byteAt r 0 = (c.toNat : Int) := by
    have := byteAt_get (s := r) (k := 0) (by rw [hr]; simp)
    rw [this]
    simp only [hr, List.getElem_cons_zero]
  refine walk (orc := orc40) (keep := []) (cuts := []) (n := 1000) follows ?_
  refine of_eqH (b :=
    (((((0 : Int) ≤ (1 : Int)) ∧
    (((1 : Int) ≤ (↑(ByteArray.size r) : Int)) ∧
    ((↑(ByteArray.size r) : Int) ≤ (↑(ByteArray.size r) : Int)))) ∧
    FnOK Tryd.prog G ((63 : Nat)) [(.con (.string (ByteArray.extract r (Int.toNat (1 : Int)) (Int.toNat (↑(ByteArray.size r) : Int)))))] (.tup [(.con (.int .i64 (dgK (ByteArray.extract r (Int.toNat (1 : Int)) (Int.toNat (↑(ByteArray.size r) : Int)))))), (.con (.int .i64 (dgV (ByteArray.extract r (Int.toNat (1 : Int)) (Int.toNat (↑(ByteArray.size r) : Int))))))])) ∧
    (((I64 (dgK (ByteArray.extract r (Int.toNat (1 : Int)) (Int.toNat (↑(ByteArray.size r) : Int))) + (1 : Int))) ∧
    ((((!(dgK (ByteArray.extract r (Int.toNat (1 : Int)) (Int.toNat (↑(ByteArray.size r) : Int))) + (1 : Int) != (↑(ByteArray.size r) : Int) || decide (dgK (ByteArray.extract r (Int.toNat (1 : Int)) (Int.toNat (↑(ByteArray.size r) : Int))) < (1 : Int)))) = true) →
    (((0 : Int) ≤ (0 : Int)) ∧
    ((0 : Int) < (↑(ByteArray.size r) : Int)))) ∧
    ((((!(dgK (ByteArray.extract r (Int.toNat (1 : Int)) (Int.toNat (↑(ByteArray.size r) : Int))) + (1 : Int) != (↑(ByteArray.size r) : Int) || decide (dgK (ByteArray.extract r (Int.toNat (1 : Int)) (Int.toNat (↑(ByteArray.size r) : Int))) < (1 : Int))) && byteAt r (Int.toNat (0 : Int)) != (46 : Int)) = true) →
    (((0 : Int) ≤ (0 : Int)) ∧
    ((0 : Int) < (↑(ByteArray.size r) : Int)))) ∧
    (((!(dgK (ByteArray.extract r (Int.toNat (1 : Int)) (Int.toNat (↑(ByteArray.size r) : Int))) + (1 : Int) != (↑(ByteArray.size r) : Int) || decide (dgK (ByteArray.extract r (Int.toNat (1 : Int)) (Int.toNat (↑(ByteArray.size r) : Int))) < (1 : Int)) || byteAt r (Int.toNat (0 : Int)) != (46 : Int) && byteAt r (Int.toNat (0 : Int)) != (47 : Int))) = true) →
    (((0 : Int) ≤ (0 : Int)) ∧
    ((0 : Int) < (↑(ByteArray.size r) : Int))))))) ∧
    ((((dgK (ByteArray.extract r (Int.toNat (1 : Int)) (Int.toNat (↑(ByteArray.size r) : Int))) + (1 : Int) != (↑(ByteArray.size r) : Int) || decide (dgK (ByteArray.extract r (Int.toNat (1 : Int)) (Int.toNat (↑(ByteArray.size r) : Int))) < (1 : Int)) || byteAt r (Int.toNat (0 : Int)) != (46 : Int) && byteAt r (Int.toNat (0 : Int)) != (47 : Int) || byteAt r (Int.toNat (0 : Int)) == (46 : Int) && decide (dgK (ByteArray.extract r (Int.toNat (1 : Int)) (Int.toNat (↑(ByteArray.size r) : Int))) > (6 : Int)) || decide (dgK (ByteArray.extract r (Int.toNat (1 : Int)) (Int.toNat (↑(ByteArray.size r) : Int))) > (7 : Int))) = true) →
    (((.tup [(.agg [(.con (.int .i64 ((0 : Int)))), (.con (.int .i64 ((0 : Int))))]), (.con (.int .i64 ((3 : Int))))]) : DV) = (fe (rsO (restO D (c :: U)) g)))) ∧
    (((dgK (ByteArray.extract r (Int.toNat (1 : Int)) (Int.toNat (↑(ByteArray.size r) : Int))) + (1 : Int) != (↑(ByteArray.size r) : Int) || decide (dgK (ByteArray.extract r (Int.toNat (1 : Int)) (Int.toNat (↑(ByteArray.size r) : Int))) < (1 : Int)) || byteAt r (Int.toNat (0 : Int)) != (46 : Int) && byteAt r (Int.toNat (0 : Int)) != (47 : Int) || byteAt r (Int.toNat (0 : Int)) == (46 : Int) && decide (dgK (ByteArray.extract r (Int.toNat (1 : Int)) (Int.toNat (↑(ByteArray.size r) : Int))) > (6 : Int)) || decide (dgK (ByteArray.extract r (Int.toNat (1 : Int)) (Int.toNat (↑(ByteArray.size r) : Int))) > (7 : Int))) = false) →
    ((((0 : Int) ≤ (0 : Int)) ∧
    ((0 : Int) < (↑(ByteArray.size r) : Int))) ∧
    ((((byteAt r (Int.toNat (0 : Int)) == (47 : Int)) = true) →
    ((((dgV (ByteArray.extract r (Int.toNat (1 : Int)) (Int.toNat (↑(ByteArray.size r) : Int))) == (0 : Int)) = true) →
    (((.tup [(.agg [(.con (.int .i64 ((0 : Int)))), (.con (.int .i64 ((0 : Int))))]), (.con (.int .i64 ((2 : Int))))]) : DV) = (fe (rsO (restO D (c :: U)) g)))) ∧
    (((dgV (ByteArray.extract r (Int.toNat (1 : Int)) (Int.toNat (↑(ByteArray.size r) : Int))) == (0 : Int)) = false) →
    (((I64 (g * (↑(valD D) : Int))) ∧
    FnOK Tryd.prog G ((43 : Nat)) [(.con (.int .i64 (g * (↑(valD D) : Int)))), (.con (.int .i64 (dgV (ByteArray.extract r (Int.toNat (1 : Int)) (Int.toNat (↑(ByteArray.size r) : Int))))))] (.tup [(.agg [(.con (.int .i64 (Prod.fst (red (g * (↑(valD D) : Int)) (dgV (ByteArray.extract r (Int.toNat (1 : Int)) (Int.toNat (↑(ByteArray.size r) : Int)))))))), (.con (.int .i64 (Prod.fst (Prod.snd (red (g * (↑(valD D) : Int)) (dgV (ByteArray.extract r (Int.toNat (1 : Int)) (Int.toNat (↑(ByteArray.size r) : Int)))))))))]), (.con (.int .i64 (Prod.snd (Prod.snd (red (g * (↑(valD D) : Int)) (dgV (ByteArray.extract r (Int.toNat (1 : Int)) (Int.toNat (↑(ByteArray.size r) : Int)))))))))])) ∧
    (((.tup [(.agg [(.con (.int .i64 (Prod.fst (red (g * (↑(valD D) : Int)) (dgV (ByteArray.extract r (Int.toNat (1 : Int)) (Int.toNat (↑(ByteArray.size r) : Int)))))))), (.con (.int .i64 (Prod.fst (Prod.snd (red (g * (↑(valD D) : Int)) (dgV (ByteArray.extract r (Int.toNat (1 : Int)) (Int.toNat (↑(ByteArray.size r) : Int)))))))))]), (.con (.int .i64 (Prod.snd (Prod.snd (red (g * (↑(valD D) : Int)) (dgV (ByteArray.extract r (Int.toNat (1 : Int)) (Int.toNat (↑(ByteArray.size r) : Int)))))))))]) : DV) = (fe (rsO (restO D (c :: U)) g))))))) ∧
    (((byteAt r (Int.toNat (0 : Int)) == (47 : Int)) = false) →
    AWP Tryd.prog G [.code (cAt (bodyOf Tryd.f40) [1, 1, 1, 1, 1, 1, 1, 1, 1, 1, 1, 0, 1, 0]), (.blk ((0 : Nat))), .code (cAt (bodyOf Tryd.f40) [1, 1, 1, 1, 1, 1, 1, 1, 1, 1, 1, 1])] ⟨[.any, .any, (.box ((2 : Nat)) ((0 : Nat))), (.d (.con (.int .i64 ((0 : Int))))), (.d (.con (.int .i64 g))), .any, (.d (.con (.int .i64 ((↑(valD D) : Int))))), (.d (.con (.string r))), (.d (.con (.int .i64 (dgK (ByteArray.extract r (Int.toNat (1 : Int)) (Int.toNat (↑(ByteArray.size r) : Int))))))), (.d (.con (.int .i64 (dgV (ByteArray.extract r (Int.toNat (1 : Int)) (Int.toNat (↑(ByteArray.size r) : Int))))))), (.d (.con (.int .i64 ((1 : Int))))), (.d (.con (.int .i64 ((0 : Int))))), .any, .any, .any, .any, .any, .any, .any, .any, .any, .any, .any, .any, .any, .any, .any, .any, .any, .any, .any, .any, .any, .any, .any, .any, .any, .any, .any, .any, .any, .any, .any, .any, .any, (.d (.tup [(.con (.int .i64 (dgK (ByteArray.extract r (Int.toNat (1 : Int)) (Int.toNat (↑(ByteArray.size r) : Int)))))), (.con (.int .i64 (dgV (ByteArray.extract r (Int.toNat (1 : Int)) (Int.toNat (↑(ByteArray.size r) : Int))))))])), (.d (.con (.string r))), (.d (.con (.string (ByteArray.extract r (Int.toNat (1 : Int)) (Int.toNat (↑(ByteArray.size r) : Int)))))), (.d (.tup [(.con (.int .i64 (dgK (ByteArray.extract r (Int.toNat (1 : Int)) (Int.toNat (↑(ByteArray.size r) : Int)))))), (.con (.int .i64 (dgV (ByteArray.extract r (Int.toNat (1 : Int)) (Int.toNat (↑(ByteArray.size r) : Int))))))])), (.d (.con (.int .i64 (dgK (ByteArray.extract r (Int.toNat (1 : Int)) (Int.toNat (↑(ByteArray.size r) : Int))))))), (.d (.con (.int .i64 (dgV (ByteArray.extract r (Int.toNat (1 : Int)) (Int.toNat (↑(ByteArray.size r) : Int))))))), (.d (.con (.int .i64 (dgK (ByteArray.extract r (Int.toNat (1 : Int)) (Int.toNat (↑(ByteArray.size r) : Int))))))), (.d (.con (.int .i64 (dgK (ByteArray.extract r (Int.toNat (1 : Int)) (Int.toNat (↑(ByteArray.size r) : Int))) + (1 : Int))))), (.d (.con (.string r))), (.d (.con (.int .i64 ((↑(ByteArray.size r) : Int))))), (.d (.con (.bool (dgK (ByteArray.extract r (Int.toNat (1 : Int)) (Int.toNat (↑(ByteArray.size r) : Int))) + (1 : Int) != (↑(ByteArray.size r) : Int))))), (.d (.con (.bool (dgK (ByteArray.extract r (Int.toNat (1 : Int)) (Int.toNat (↑(ByteArray.size r) : Int))) + (1 : Int) != (↑(ByteArray.size r) : Int))))), .any, .any, (.d (.con (.bool (dgK (ByteArray.extract r (Int.toNat (1 : Int)) (Int.toNat (↑(ByteArray.size r) : Int))) + (1 : Int) != (↑(ByteArray.size r) : Int) || decide (dgK (ByteArray.extract r (Int.toNat (1 : Int)) (Int.toNat (↑(ByteArray.size r) : Int))) < (1 : Int)))))), (.d (.con (.bool (dgK (ByteArray.extract r (Int.toNat (1 : Int)) (Int.toNat (↑(ByteArray.size r) : Int))) + (1 : Int) != (↑(ByteArray.size r) : Int) || decide (dgK (ByteArray.extract r (Int.toNat (1 : Int)) (Int.toNat (↑(ByteArray.size r) : Int))) < (1 : Int)))))), .any, .any, .any, .any, .any, .any, .any, .any, (.d (.con (.bool (dgK (ByteArray.extract r (Int.toNat (1 : Int)) (Int.toNat (↑(ByteArray.size r) : Int))) + (1 : Int) != (↑(ByteArray.size r) : Int) || decide (dgK (ByteArray.extract r (Int.toNat (1 : Int)) (Int.toNat (↑(ByteArray.size r) : Int))) < (1 : Int)) || byteAt r (Int.toNat (0 : Int)) != (46 : Int) && byteAt r (Int.toNat (0 : Int)) != (47 : Int))))), (.d (.con (.bool (dgK (ByteArray.extract r (Int.toNat (1 : Int)) (Int.toNat (↑(ByteArray.size r) : Int))) + (1 : Int) != (↑(ByteArray.size r) : Int) || decide (dgK (ByteArray.extract r (Int.toNat (1 : Int)) (Int.toNat (↑(ByteArray.size r) : Int))) < (1 : Int)) || byteAt r (Int.toNat (0 : Int)) != (46 : Int) && byteAt r (Int.toNat (0 : Int)) != (47 : Int))))), .any, .any, .any, .any, .any, .any, .any, (.d (.con (.bool (dgK (ByteArray.extract r (Int.toNat (1 : Int)) (Int.toNat (↑(ByteArray.size r) : Int))) + (1 : Int) != (↑(ByteArray.size r) : Int) || decide (dgK (ByteArray.extract r (Int.toNat (1 : Int)) (Int.toNat (↑(ByteArray.size r) : Int))) < (1 : Int)) || byteAt r (Int.toNat (0 : Int)) != (46 : Int) && byteAt r (Int.toNat (0 : Int)) != (47 : Int) || byteAt r (Int.toNat (0 : Int)) == (46 : Int) && decide (dgK (ByteArray.extract r (Int.toNat (1 : Int)) (Int.toNat (↑(ByteArray.size r) : Int))) > (6 : Int)))))), (.d (.con (.bool (dgK (ByteArray.extract r (Int.toNat (1 : Int)) (Int.toNat (↑(ByteArray.size r) : Int))) + (1 : Int) != (↑(ByteArray.size r) : Int) || decide (dgK (ByteArray.extract r (Int.toNat (1 : Int)) (Int.toNat (↑(ByteArray.size r) : Int))) < (1 : Int)) || byteAt r (Int.toNat (0 : Int)) != (46 : Int) && byteAt r (Int.toNat (0 : Int)) != (47 : Int) || byteAt r (Int.toNat (0 : Int)) == (46 : Int) && decide (dgK (ByteArray.extract r (Int.toNat (1 : Int)) (Int.toNat (↑(ByteArray.size r) : Int))) > (6 : Int)))))), .any, .any, (.d (.con (.bool (dgK (ByteArray.extract r (Int.toNat (1 : Int)) (Int.toNat (↑(ByteArray.size r) : Int))) + (1 : Int) != (↑(ByteArray.size r) : Int) || decide (dgK (ByteArray.extract r (Int.toNat (1 : Int)) (Int.toNat (↑(ByteArray.size r) : Int))) < (1 : Int)) || byteAt r (Int.toNat (0 : Int)) != (46 : Int) && byteAt r (Int.toNat (0 : Int)) != (47 : Int) || byteAt r (Int.toNat (0 : Int)) == (46 : Int) && decide (dgK (ByteArray.extract r (Int.toNat (1 : Int)) (Int.toNat (↑(ByteArray.size r) : Int))) > (6 : Int)) || decide (dgK (ByteArray.extract r (Int.toNat (1 : Int)) (Int.toNat (↑(ByteArray.size r) : Int))) > (7 : Int)))))), .any, (.d (.con (.string r))), (.d (.con (.int .u8 (byteAt r (Int.toNat (0 : Int)))))), (.d (.con (.bool (byteAt r (Int.toNat (0 : Int)) == (47 : Int))))), .any, .any, .any, .any, .any, .any, .any, .any, .any, .any, .any, .any, .any, .any, .any, .any, .any, .any, .any, .any, .any, .any, .any, .any, .any, .any, .any, .any], [(((2 : Nat)), [(.d (.con (.int .i64 ((0 : Int))))), (.d (.con (.int .i64 ((0 : Int)))))])]⟩ (Ret Tryd.prog Tryd.f40 (fe (rsO (restO D (c :: U)) g))))))))))) (by kernel_rfl) ?_
  generalize ByteArray.extract r (Int.toNat 1) (Int.toNat (r.size : Int)) = u at hu ⊢
  have hus : u.size ≤ 900000 := by rw [← size_list, hu]; omega
  have k63 := f63 (G := G) u hus
  have hK : dgK u = ((spl U).1.length : Nat) := by unfold dgK; rw [hu]
  have hV : dgV u = (valD ((spl U).1.take 12) : Nat) := by unfold dgV; rw [hu]
  have hKle : (spl U).1.length ≤ U.length := by
    have := congrArg List.length (spl_app U)
    rw [List.length_append] at this; omega
  have hc1 : (c = 46 ↔ (c.toNat : Int) = 46) := ⟨fun h => by rw [h]; rfl, fun h => UInt8.toNat_inj.1 (by show c.toNat = 46; omega)⟩
  have hc2 : (c = 47 ↔ (c.toNat : Int) = 47) := ⟨fun h => by rw [h]; rfl, fun h => UInt8.toNat_inj.1 (by show c.toNat = 47; omega)⟩
  have ez : Int.toNat (0 : Int) = 0 := rfl
  simp only [ez, hz, hK, hsz] at k63 ⊢
  refine ⟨⟨⟨by omega, by omega, by omega⟩, k63⟩, ⟨⟨by omega, by omega⟩, fun _ => ⟨by omega, by omega⟩, fun _ => ⟨by omega, by omega⟩, fun _ => ⟨by omega, by omega⟩⟩, fun h => ?_, fun h => ⟨⟨by omega, by omega⟩, ?_⟩⟩
  · have hno : restO D (c :: U) = none := by
      refine ro_none ?_
      simp only [Bool.or_eq_true, Bool.and_eq_true, bne_iff_ne, ne_eq, decide_eq_true_eq, beq_iff_eq] at h
      simp only [ne_eq, hc1, hc2]
      omega
    rw [hno]; rfl
  · simp only [Bool.or_eq_false_iff, Bool.and_eq_false_iff, bne_eq_false_iff_eq, decide_eq_false_iff_not, beq_eq_false_iff_ne, ne_eq] at h
    have q1 : (spl U).1.length = U.length := by omega
    have q2 : 1 ≤ U.length := by omega
    have q3 : U.length ≤ 7 := by omega
    have hU := spl_fst_all q1
    have hV2 : dgV u = (valD U : Nat) := by rw [hV, hU, List.take_of_length_le (by omega)]
    have hUd : ∀ x ∈ U, isD x := fun x hx => (isDb_iff x).1 (spl_digits U x (by rw [hU]; exact hx))
    have hVb : valD U < 10000000 := by
      have h1 := valD_ltN _ _ rfl hUd
      have h3 : 10 ^ U.length ≤ 10 ^ 7 := Nat.pow_le_pow_right (by decide) q3
      have e7 : (10 : Nat) ^ 7 = 10000000 := by decide
      omega
    simp only [hV2]
    refine ⟨fun h2 => ?_, fun h2 => ?_⟩
    · simp only [beq_iff_eq] at h2
      obtain rfl := hc2.2 h2
      rw [ro_slash q1 q2 q3]
      refine ⟨fun h3 => ?_, fun h3 => ?_⟩
      · simp only [beq_iff_eq] at h3
        have : valD U = 0 := by omega
        unfold rsO
        simp only [this, if_true]; rfl
      · simp only [beq_eq_false_iff_ne, ne_eq] at h3
        have : valD U ≠ 0 := by omega
        obtain ⟨b1, b2⟩ := mul_g (x := ((valD D : Nat) : Int)) hg (by omega) (by omega)
        refine ⟨⟨b1, f43 _ _ (by omega) b2 ⟨by omega, by omega⟩⟩, ?_⟩
        unfold rsO
        simp only [if_neg this]; rfl
    · simp only [beq_eq_false_iff_ne, ne_eq] at h2
      have hc : c = 46 := hc1.2 (by omega)
      subst hc
      have q6 : U.length ≤ 6 := by omega
      rw [ro_dot q1 q2 q6]
      have hpj : ∀ i, i ≤ U.length → 10 ^ i ≤ 1000000 := fun i hi => by
        have h3 : 10 ^ i ≤ 10 ^ 6 := Nat.pow_le_pow_right (by decide) (by omega)
        have e7 : (10 : Nat) ^ 6 = 1000000 := by decide
        omega
      refine AWP.loop (c := cAt (bodyOf Tryd.f40) [1, 1, 1, 1, 1, 1, 1, 1, 1, 1, 1, 0, 1, 0, 0]) (by kernel_rfl) (S40l (valD D : Nat) g (U.length : Nat) (valD U : Nat)) (fun i => i ≤ U.length) (fun i => U.length - i) 0 ?_ (Nat.zero_le _) ?_
      · rw [q1]
        refine of_eq (b :=
          (((((.box ((2 : Nat)) ((0 : Nat))) : AV) = (.box ((2 : Nat)) ((0 : Nat)))) ∧
          ((((.d (.con (.int .i64 ((0 : Int))))) : AV) = (.d (.con (.int .i64 ((0 : Int)))))) ∧
          ((((.d (.con (.int .i64 g))) : AV) = (.d (.con (.int .i64 g)))) ∧
          ((((.d (.con (.int .i64 ((↑(valD D) : Int))))) : AV) = (.d (.con (.int .i64 ((↑(valD D) : Int)))))) ∧
          ((((.d (.con (.int .i64 ((↑(List.length U) : Int))))) : AV) = (.d (.con (.int .i64 ((↑(List.length U) : Int)))))) ∧
          ((((.d (.con (.int .i64 ((↑(valD U) : Int))))) : AV) = (.d (.con (.int .i64 ((↑(valD U) : Int)))))) ∧
          ((((.d (.con (.int .i64 ((1 : Int))))) : AV) = (.d (.con (.int .i64 ((1 : Int)))))) ∧
          ((((.d (.con (.int .i64 ((0 : Int))))) : AV) = (.d (.con (.int .i64 ((0 : Int)))))) ∧
          True)))))))) ∧
          ((((some [(.d (.con (.int .i64 ((0 : Int))))), (.d (.con (.int .i64 ((0 : Int)))))]) : (Option (List AV))) = (some [(.d (.con (.int .i64 ((0 : Int))))), (.d (.con (.int .i64 ((0 : Int)))))])) ∧
          True))) (by kernel_rfl) ?_
        exact ⟨⟨rfl, rfl, rfl, rfl, rfl, rfl, rfl, rfl, trivial⟩, rfl, trivial⟩
      · intro i hi
        have hpi := hpj i hi
        refine walk (orc := orc40) (keep := []) (cuts := []) (n := 1000) follows ?_
        refine of_eqH (b :=
          ((((decide ((↑i : Int) < (↑(List.length U) : Int))) = true) →
          ((I64 ((10 : Int) * (↑((10 : Nat) ^ i) : Int))) ∧
          ((I64 ((↑i : Int) + (1 : Int))) ∧
          Again (S40l (↑(valD D) : Int) g (↑(List.length U) : Int) (↑(valD U) : Int)) (fun i => i ≤ List.length U) (fun i => List.length U - i) i ⟨[.any, .any, (.box ((2 : Nat)) ((0 : Nat))), (.d (.con (.int .i64 ((0 : Int))))), (.d (.con (.int .i64 g))), .any, (.d (.con (.int .i64 ((↑(valD D) : Int))))), .any, (.d (.con (.int .i64 ((↑(List.length U) : Int))))), (.d (.con (.int .i64 ((↑(valD U) : Int))))), (.d (.con (.int .i64 ((10 : Int) * (↑((10 : Nat) ^ i) : Int))))), (.d (.con (.int .i64 ((↑i : Int) + (1 : Int))))), .any, .any, .any, .any, .any, .any, .any, .any, .any, .any, .any, .any, .any, .any, .any, .any, .any, .any, .any, .any, .any, .any, .any, .any, .any, .any, .any, .any, .any, .any, .any, .any, .any, .any, .any, .any, .any, .any, .any, .any, .any, .any, .any, .any, .any, .any, .any, .any, .any, .any, .any, .any, .any, .any, .any, .any, .any, .any, .any, .any, .any, .any, .any, .any, .any, .any, .any, .any, .any, .any, .any, .any, .any, .any, .any, .any, .any, .any, .any, .any, .any, .any, .any, .any, .any, (.d (.con (.int .i64 ((↑i : Int))))), (.d (.con (.int .i64 ((↑(List.length U) : Int))))), (.d (.con (.bool (decide ((↑i : Int) < (↑(List.length U) : Int)))))), (.d (.con (.int .i64 ((↑i : Int))))), (.d (.con (.int .i64 ((↑i : Int) + (1 : Int))))), (.d (.con (.int .i64 ((↑((10 : Nat) ^ i) : Int))))), (.d (.con (.int .i64 ((10 : Int) * (↑((10 : Nat) ^ i) : Int))))), .any, .any, .any, .any, .any, .any, .any, .any, .any, .any, .any], [(((2 : Nat)), [(.d (.con (.int .i64 ((0 : Int))))), (.d (.con (.int .i64 ((0 : Int)))))])]⟩))) ∧
          (((decide ((↑i : Int) < (↑(List.length U) : Int))) = false) →
          AWP Tryd.prog G [.code (cAt (bodyOf Tryd.f40) [1, 1, 1, 1, 1, 1, 1, 1, 1, 1, 1, 1])] ⟨[.any, .any, (.box ((2 : Nat)) ((0 : Nat))), (.d (.con (.int .i64 ((0 : Int))))), (.d (.con (.int .i64 g))), .any, (.d (.con (.int .i64 ((↑(valD D) : Int))))), .any, (.d (.con (.int .i64 ((↑(List.length U) : Int))))), (.d (.con (.int .i64 ((↑(valD U) : Int))))), (.d (.con (.int .i64 ((↑((10 : Nat) ^ i) : Int))))), (.d (.con (.int .i64 ((↑i : Int))))), .any, .any, .any, .any, .any, .any, .any, .any, .any, .any, .any, .any, .any, .any, .any, .any, .any, .any, .any, .any, .any, .any, .any, .any, .any, .any, .any, .any, .any, .any, .any, .any, .any, .any, .any, .any, .any, .any, .any, .any, .any, .any, .any, .any, .any, .any, .any, .any, .any, .any, .any, .any, .any, .any, .any, .any, .any, .any, .any, .any, .any, .any, .any, .any, .any, .any, .any, .any, .any, .any, .any, .any, .any, .any, .any, .any, .any, .any, .any, .any, .any, .any, .any, .any, .any, (.d (.con (.int .i64 ((↑i : Int))))), (.d (.con (.int .i64 ((↑(List.length U) : Int))))), (.d (.con (.bool (decide ((↑i : Int) < (↑(List.length U) : Int)))))), .any, .any, .any, .any, .any, .any, .any, .any, .any, .any, .any, .any, .any, .any, .any], [(((2 : Nat)), [(.d (.con (.int .i64 ((0 : Int))))), (.d (.con (.int .i64 ((0 : Int)))))])]⟩ (Ret Tryd.prog Tryd.f40 (fe (rsO (some (valD D * (10 : Nat) ^ List.length U + valD U, (10 : Nat) ^ List.length U)) g)))))) (by kernel_rfl) ?_
        refine ⟨fun h5 => ?_, fun h5 => ?_⟩
        · simp only [decide_eq_true_eq] at h5
          refine ⟨i64_ten hpi, ⟨by omega, by omega⟩, Again.mk (i + 1) ?_ (by omega) (by omega)⟩
          refine of_eq (b :=
            (((((.box ((2 : Nat)) ((0 : Nat))) : AV) = (.box ((2 : Nat)) ((0 : Nat)))) ∧
            ((((.d (.con (.int .i64 ((0 : Int))))) : AV) = (.d (.con (.int .i64 ((0 : Int)))))) ∧
            ((((.d (.con (.int .i64 g))) : AV) = (.d (.con (.int .i64 g)))) ∧
            ((((.d (.con (.int .i64 ((↑(valD D) : Int))))) : AV) = (.d (.con (.int .i64 ((↑(valD D) : Int)))))) ∧
            ((((.d (.con (.int .i64 ((↑(List.length U) : Int))))) : AV) = (.d (.con (.int .i64 ((↑(List.length U) : Int)))))) ∧
            ((((.d (.con (.int .i64 ((↑(valD U) : Int))))) : AV) = (.d (.con (.int .i64 ((↑(valD U) : Int)))))) ∧
            ((((.d (.con (.int .i64 ((10 : Int) * (↑((10 : Nat) ^ i) : Int))))) : AV) = (.d (.con (.int .i64 ((↑((10 : Nat) ^ (i + (1 : Nat))) : Int)))))) ∧
            ((((.d (.con (.int .i64 ((↑i : Int) + (1 : Int))))) : AV) = (.d (.con (.int .i64 ((↑(i + (1 : Nat)) : Int)))))) ∧
            True)))))))) ∧
            ((((some [(.d (.con (.int .i64 ((0 : Int))))), (.d (.con (.int .i64 ((0 : Int)))))]) : (Option (List AV))) = (some [(.d (.con (.int .i64 ((0 : Int))))), (.d (.con (.int .i64 ((0 : Int)))))])) ∧
            True))) (by kernel_rfl) ?_
          refine ⟨⟨rfl, rfl, rfl, rfl, rfl, rfl, ?_, ?_, trivial⟩, rfl, trivial⟩
          · rw [Nat.pow_succ]; push_cast; rw [Int.mul_comm]
          · push_cast; rfl
        · simp only [decide_eq_false_iff_not] at h5
          have hi2 : i = U.length := by omega
          subst hi2
          have hm1 : valD D * 10 ^ U.length ≤ 10000000000 * 1000000 := Nat.mul_le_mul (by omega) hpi
          have hcast : ((valD D : Nat) : Int) * ((10 ^ U.length : Nat) : Int) = ((valD D * 10 ^ U.length : Nat) : Int) := by rw [Int.natCast_mul]
          have hp0 : 0 < 10 ^ U.length := Nat.pow_pos (by decide)
          obtain ⟨b1, b2⟩ := mul_g (x := ((valD D * 10 ^ U.length + valD U : Nat) : Int)) hg (Int.natCast_nonneg _) (Int.ofNat_lt.2 (by omega : valD D * 10 ^ U.length + valD U < 1000000000000000000))
          refine walk (orc := orc40) (keep := []) (cuts := []) (n := 1000) follows ?_
          refine of_eqH (b :=
            (((I64 ((↑(valD D) : Int) * (↑((10 : Nat) ^ List.length U) : Int))) ∧
            ((I64 ((↑(valD D) : Int) * (↑((10 : Nat) ^ List.length U) : Int) + (↑(valD U) : Int))) ∧
            ((I64 (g * ((↑(valD D) : Int) * (↑((10 : Nat) ^ List.length U) : Int) + (↑(valD U) : Int)))) ∧
            FnOK Tryd.prog G ((43 : Nat)) [(.con (.int .i64 (g * ((↑(valD D) : Int) * (↑((10 : Nat) ^ List.length U) : Int) + (↑(valD U) : Int))))), (.con (.int .i64 ((↑((10 : Nat) ^ List.length U) : Int))))] (.tup [(.agg [(.con (.int .i64 (Prod.fst (red (g * ((↑(valD D) : Int) * (↑((10 : Nat) ^ List.length U) : Int) + (↑(valD U) : Int))) (↑((10 : Nat) ^ List.length U) : Int))))), (.con (.int .i64 (Prod.fst (Prod.snd (red (g * ((↑(valD D) : Int) * (↑((10 : Nat) ^ List.length U) : Int) + (↑(valD U) : Int))) (↑((10 : Nat) ^ List.length U) : Int))))))]), (.con (.int .i64 (Prod.snd (Prod.snd (red (g * ((↑(valD D) : Int) * (↑((10 : Nat) ^ List.length U) : Int) + (↑(valD U) : Int))) (↑((10 : Nat) ^ List.length U) : Int))))))])))) ∧
            (((.tup [(.agg [(.con (.int .i64 (Prod.fst (red (g * ((↑(valD D) : Int) * (↑((10 : Nat) ^ List.length U) : Int) + (↑(valD U) : Int))) (↑((10 : Nat) ^ List.length U) : Int))))), (.con (.int .i64 (Prod.fst (Prod.snd (red (g * ((↑(valD D) : Int) * (↑((10 : Nat) ^ List.length U) : Int) + (↑(valD U) : Int))) (↑((10 : Nat) ^ List.length U) : Int))))))]), (.con (.int .i64 (Prod.snd (Prod.snd (red (g * ((↑(valD D) : Int) * (↑((10 : Nat) ^ List.length U) : Int) + (↑(valD U) : Int))) (↑((10 : Nat) ^ List.length U) : Int))))))]) : DV) = (fe (rsO (some (valD D * (10 : Nat) ^ List.length U + valD U, (10 : Nat) ^ List.length U)) g))))) (by kernel_rfl) ?_
          simp only [hcast, ← Int.natCast_add]
          have hne : ((10 ^ U.length : Nat) : Int) ≠ 0 := by
            intro h
            exact absurd (Int.ofNat.inj h) (by omega)
          refine ⟨⟨(i64_nat (by omega)).1, (i64_nat (by omega)).1, b1, f43 _ _ hne b2 (i64_nat (by omega)).2⟩, ?_⟩
          unfold rsO
          simp only [if_neg (show ¬ 10 ^ U.length = 0 by omega)]
          rfl
theorem f40_tail (t : ByteArray) (ht : t.size ≤ 900000) (g : Int) (hg : g = 1 ∨ g = -1) : AWP Tryd.prog G [.code (cAt (bodyOf Tryd.f40) [1, 1, 1])] (S40 t g) (Ret Tryd.prog Tryd.f40 (fe (prsT t g))) := by
  have k63 := f63 (G := G) t ht
  have eK : dgK t = ((spl t.data.toList).1.length : Nat) := rfl
  have eV : dgV t = (valD ((spl t.data.toList).1.take 12) : Nat) := rfl
  have hKle : (spl t.data.toList).1.length ≤ t.size := by
    have := congrArg List.length (spl_app t.data.toList)
    rw [List.length_append, size_list] at this; omega
  rw [prsT_rs]
  refine walk (orc := orc40) (keep := []) (cuts := [10]) (n := 1000) follows ?_
  refine of_eqH (b :=
    (FnOK Tryd.prog G ((63 : Nat)) [(.con (.string t))] (.tup [(.con (.int .i64 (dgK t))), (.con (.int .i64 (dgV t)))]) ∧
    ((((decide (dgK t < (1 : Int)) || decide (dgK t > (10 : Int))) = true) →
    (((.tup [(.agg [(.con (.int .i64 ((0 : Int)))), (.con (.int .i64 ((0 : Int))))]), (.con (.int .i64 ((3 : Int))))]) : DV) = (fe (rsO (partsO (Array.toList (ByteArray.data t))) g)))) ∧
    (((decide (dgK t < (1 : Int)) || decide (dgK t > (10 : Int))) = false) →
    ((((0 : Int) ≤ dgK t) ∧
    ((dgK t ≤ (↑(ByteArray.size t) : Int)) ∧
    ((↑(ByteArray.size t) : Int) ≤ (↑(ByteArray.size t) : Int)))) ∧
    ((((ByteArray.toList (ByteArray.extract t (Int.toNat (dgK t)) (Int.toNat (↑(ByteArray.size t) : Int))) == ByteArray.toList { data := #[] }) = true) →
    (((I64 (g * dgV t)) ∧
    FnOK Tryd.prog G ((43 : Nat)) [(.con (.int .i64 (g * dgV t))), (.con (.int .i64 ((1 : Int))))] (.tup [(.agg [(.con (.int .i64 (Prod.fst (red (g * dgV t) (1 : Int))))), (.con (.int .i64 (Prod.fst (Prod.snd (red (g * dgV t) (1 : Int))))))]), (.con (.int .i64 (Prod.snd (Prod.snd (red (g * dgV t) (1 : Int))))))])) ∧
    (((.tup [(.agg [(.con (.int .i64 (Prod.fst (red (g * dgV t) (1 : Int))))), (.con (.int .i64 (Prod.fst (Prod.snd (red (g * dgV t) (1 : Int))))))]), (.con (.int .i64 (Prod.snd (Prod.snd (red (g * dgV t) (1 : Int))))))]) : DV) = (fe (rsO (partsO (Array.toList (ByteArray.data t))) g))))) ∧
    (((ByteArray.toList (ByteArray.extract t (Int.toNat (dgK t)) (Int.toNat (↑(ByteArray.size t) : Int))) == ByteArray.toList { data := #[] }) = false) →
    AWP Tryd.prog G [.code (cAt (bodyOf Tryd.f40) [1, 1, 1, 1, 1, 1, 1])] ⟨[(.d (.con (.string t))), .any, (.box ((2 : Nat)) ((0 : Nat))), (.d (.con (.int .i64 ((0 : Int))))), (.d (.con (.int .i64 g))), (.d (.con (.int .i64 (dgK t)))), (.d (.con (.int .i64 (dgV t)))), (.d (.con (.string (ByteArray.extract t (Int.toNat (dgK t)) (Int.toNat (↑(ByteArray.size t) : Int)))))), .any, .any, .any, .any, .any, .any, .any, .any, .any, .any, .any, .any, .any, .any, (.d (.tup [(.con (.int .i64 (dgK t))), (.con (.int .i64 (dgV t)))])), (.d (.con (.string t))), (.d (.tup [(.con (.int .i64 (dgK t))), (.con (.int .i64 (dgV t)))])), (.d (.con (.int .i64 (dgK t)))), (.d (.con (.int .i64 (dgV t)))), (.d (.con (.int .i64 (dgK t)))), (.d (.con (.bool (decide (dgK t < (1 : Int)))))), (.d (.con (.bool (decide (dgK t < (1 : Int)))))), .any, .any, (.d (.con (.bool (decide (dgK t < (1 : Int)) || decide (dgK t > (10 : Int)))))), .any, (.d (.con (.string t))), (.d (.con (.int .i64 (dgK t)))), (.d (.con (.string (ByteArray.extract t (Int.toNat (dgK t)) (Int.toNat (↑(ByteArray.size t) : Int)))))), (.d (.con (.string (ByteArray.extract t (Int.toNat (dgK t)) (Int.toNat (↑(ByteArray.size t) : Int)))))), (.d (.con (.bool (ByteArray.toList (ByteArray.extract t (Int.toNat (dgK t)) (Int.toNat (↑(ByteArray.size t) : Int))) == ByteArray.toList { data := #[] })))), .any, .any, .any, .any, .any, .any, .any, .any, .any, .any, .any, .any, .any, .any, .any, .any, .any, .any, .any, .any, .any, .any, .any, .any, .any, .any, .any, .any, .any, .any, .any, .any, .any, .any, .any, .any, .any, .any, .any, .any, .any, .any, .any, .any, .any, .any, .any, .any, .any, .any, .any, .any, .any, .any, .any, .any, .any, .any, .any, .any, .any, .any, .any, .any, .any, .any, .any, .any, .any, .any, .any, .any, .any, .any, .any, .any], [(((2 : Nat)), [(.d (.con (.int .i64 ((0 : Int))))), (.d (.con (.int .i64 ((0 : Int)))))])]⟩ (Ret Tryd.prog Tryd.f40 (fe (rsO (partsO (Array.toList (ByteArray.data t))) g)))))))))) (by kernel_rfl) ?_
  simp only [eK] at k63 ⊢
  refine ⟨k63, fun h => ?_, fun h => ?_⟩
  · simp only [Bool.or_eq_true, decide_eq_true_eq] at h
    rw [po_bad (by omega)]; rfl
  · simp only [Bool.or_eq_false_iff, decide_eq_false_iff_not] at h
    have h1 : 1 ≤ (spl t.data.toList).1.length := by omega
    have h2 : (spl t.data.toList).1.length ≤ 10 := by omega
    have eV2 : dgV t = (valD (spl t.data.toList).1 : Nat) := by rw [eV, List.take_of_length_le (by omega)]
    have hDb : valD (spl t.data.toList).1 < 10000000000 := by
      have h1 := valD_ltN _ _ rfl fun c hc => (isDb_iff c).1 (spl_digits t.data.toList c hc)
      have h3 : 10 ^ (spl t.data.toList).1.length ≤ 10 ^ 10 := Nat.pow_le_pow_right (by decide) h2
      have e10 : (10 : Nat) ^ 10 = 10000000000 := by decide
      omega
    have hx : ∀ r : ByteArray, r = ByteArray.extract t (Int.toNat (((spl t.data.toList).1.length : Nat) : Int)) (Int.toNat (t.size : Int)) → r.data.toList = (spl t.data.toList).2 := by
      rintro r rfl
      rw [extract_list, Int.toNat_natCast, Int.toNat_natCast, ← spl_snd, List.take_of_length_le]
      have := congrArg List.length (spl_app t.data.toList)
      rw [List.length_append, size_list] at this; omega
    generalize ByteArray.extract t (Int.toNat (((spl t.data.toList).1.length : Nat) : Int)) (Int.toNat (t.size : Int)) = r at hx ⊢
    have hx := hx r rfl
    have hpo : partsO t.data.toList = restO (spl t.data.toList).1 (spl t.data.toList).2 := by unfold partsO; rw [if_pos ⟨h1, h2⟩]
    rw [hpo]
    refine ⟨⟨by omega, by omega, by omega⟩, fun h3 => ?_, fun h3 => ?_⟩
    · have h3 : (spl t.data.toList).2 = [] := by
        rw [beq_iff_eq, ByteArray.toList_eq, ByteArray.toList_eq, hx] at h3
        exact h3
      rw [h3, eV2]
      obtain ⟨b1, b2⟩ := mul_g (x := ((valD (spl t.data.toList).1 : Nat) : Int)) hg (by omega) (by omega)
      exact ⟨⟨b1, f43 _ _ (by decide) b2 ⟨by decide, by decide⟩⟩, rfl⟩
    · obtain ⟨c, U, hcU⟩ : ∃ c U, (spl t.data.toList).2 = c :: U := by
        cases hc : (spl t.data.toList).2 with
        | nil =>
          rw [hc] at hx
          rw [ByteArray.toList_eq, ByteArray.toList_eq, hx] at h3
          cases h3
        | cons c U => exact ⟨c, U, rfl⟩
      have hrs : r.size ≤ 900000 := by
        rw [← size_list, hx]
        have := congrArg List.length (spl_app t.data.toList)
        rw [List.length_append, size_list] at this; omega
      rw [hcU]
      rw [eV2]
      refine AWP.weaken ?_ (f40_rest r hrs (spl t.data.toList).1 U c (by rw [hx, hcU]) hDb g hg)
      refine of_eq (b :=
        (((((.box ((2 : Nat)) ((0 : Nat))) : AV) = (.box ((2 : Nat)) ((0 : Nat)))) ∧
        ((((.d (.con (.int .i64 ((0 : Int))))) : AV) = (.d (.con (.int .i64 ((0 : Int)))))) ∧
        ((((.d (.con (.int .i64 g))) : AV) = (.d (.con (.int .i64 g)))) ∧
        ((((.d (.con (.int .i64 ((↑(valD (Prod.fst (spl (Array.toList (ByteArray.data t))))) : Int))))) : AV) = (.d (.con (.int .i64 ((↑(valD (Prod.fst (spl (Array.toList (ByteArray.data t))))) : Int)))))) ∧
        ((((.d (.con (.string r))) : AV) = (.d (.con (.string r)))) ∧
        True))))) ∧
        ((((some [(.d (.con (.int .i64 ((0 : Int))))), (.d (.con (.int .i64 ((0 : Int)))))]) : (Option (List AV))) = (some [(.d (.con (.int .i64 ((0 : Int))))), (.d (.con (.int .i64 ((0 : Int)))))])) ∧
        True))) (by kernel_rfl) ?_
      exact ⟨⟨rfl, rfl, rfl, rfl, rfl, trivial⟩, rfl, trivial⟩
theorem f40 (s : ByteArray) (hs : s.size ≤ 900000) : FnOK Tryd.prog G 40 [ds s] (fe (prs s)) := by
  refine FnOK.of_body (show Tryd.prog.funcs[40]? = some Tryd.f40 from Tryd.func40) rfl Tryd.call40 ?_
  refine walk (orc := orc40) (keep := []) (cuts := [4]) (n := 1000) follows ?_
  refine of_eqH (b :=
    ((((decide ((↑(ByteArray.size s) : Int) > (0 : Int))) = true) →
    (((0 : Int) ≤ (0 : Int)) ∧
    ((0 : Int) < (↑(ByteArray.size s) : Int)))) ∧
    ((((decide ((↑(ByteArray.size s) : Int) > (0 : Int)) && byteAt s (Int.toNat (0 : Int)) == (45 : Int)) = true) →
    ((((0 : Int) ≤ (1 : Int)) ∧
    (((1 : Int) ≤ (↑(ByteArray.size s) : Int)) ∧
    ((↑(ByteArray.size s) : Int) ≤ (↑(ByteArray.size s) : Int)))) ∧
    AWP Tryd.prog G [.code (cAt (bodyOf Tryd.f40) [1, 1, 1])] ⟨[(.d (.con (.string (ByteArray.extract s (Int.toNat (1 : Int)) (Int.toNat (↑(ByteArray.size s) : Int)))))), .any, (.box ((2 : Nat)) ((0 : Nat))), (.d (.con (.int .i64 ((0 : Int))))), (.d (.con (.int .i64 ((-1 : Int))))), .any, .any, .any, .any, .any, .any, .any, (.d (.con (.string s))), (.d (.con (.int .i64 ((↑(ByteArray.size s) : Int))))), (.d (.con (.bool (decide ((↑(ByteArray.size s) : Int) > (0 : Int)))))), (.d (.con (.bool (decide ((↑(ByteArray.size s) : Int) > (0 : Int)))))), .any, .any, .any, (.d (.con (.bool (decide ((↑(ByteArray.size s) : Int) > (0 : Int)) && byteAt s (Int.toNat (0 : Int)) == (45 : Int))))), (.d (.con (.string s))), (.d (.con (.string (ByteArray.extract s (Int.toNat (1 : Int)) (Int.toNat (↑(ByteArray.size s) : Int)))))), .any, .any, .any, .any, .any, .any, .any, .any, .any, .any, .any, .any, .any, .any, .any, .any, .any, .any, .any, .any, .any, .any, .any, .any, .any, .any, .any, .any, .any, .any, .any, .any, .any, .any, .any, .any, .any, .any, .any, .any, .any, .any, .any, .any, .any, .any, .any, .any, .any, .any, .any, .any, .any, .any, .any, .any, .any, .any, .any, .any, .any, .any, .any, .any, .any, .any, .any, .any, .any, .any, .any, .any, .any, .any, .any, .any, .any, .any, .any, .any, .any, .any, .any, .any, .any, .any, .any, .any, .any, .any, .any, .any, .any], [(((2 : Nat)), [(.d (.con (.int .i64 ((0 : Int))))), (.d (.con (.int .i64 ((0 : Int)))))])]⟩ (Ret Tryd.prog Tryd.f40 (fe (prs s))))) ∧
    (((decide ((↑(ByteArray.size s) : Int) > (0 : Int)) && byteAt s (Int.toNat (0 : Int)) == (45 : Int)) = false) →
    AWP Tryd.prog G [.code (cAt (bodyOf Tryd.f40) [1, 1, 1])] ⟨[(.d (.con (.string s))), .any, (.box ((2 : Nat)) ((0 : Nat))), (.d (.con (.int .i64 ((0 : Int))))), (.d (.con (.int .i64 ((1 : Int))))), .any, .any, .any, .any, .any, .any, .any, (.d (.con (.string s))), (.d (.con (.int .i64 ((↑(ByteArray.size s) : Int))))), (.d (.con (.bool (decide ((↑(ByteArray.size s) : Int) > (0 : Int)))))), (.d (.con (.bool (decide ((↑(ByteArray.size s) : Int) > (0 : Int)))))), (.gate ((15 : Nat)) true (decide ((↑(ByteArray.size s) : Int) > (0 : Int))) (.d (.con (.string s)))), (.gate ((15 : Nat)) true (decide ((↑(ByteArray.size s) : Int) > (0 : Int))) (.d (.con (.int .u8 (byteAt s (Int.toNat (0 : Int))))))), (.gate ((15 : Nat)) true (decide ((↑(ByteArray.size s) : Int) > (0 : Int))) (.d (.con (.bool (byteAt s (Int.toNat (0 : Int)) == (45 : Int)))))), (.d (.con (.bool (decide ((↑(ByteArray.size s) : Int) > (0 : Int)) && byteAt s (Int.toNat (0 : Int)) == (45 : Int))))), .any, .any, .any, .any, .any, .any, .any, .any, .any, .any, .any, .any, .any, .any, .any, .any, .any, .any, .any, .any, .any, .any, .any, .any, .any, .any, .any, .any, .any, .any, .any, .any, .any, .any, .any, .any, .any, .any, .any, .any, .any, .any, .any, .any, .any, .any, .any, .any, .any, .any, .any, .any, .any, .any, .any, .any, .any, .any, .any, .any, .any, .any, .any, .any, .any, .any, .any, .any, .any, .any, .any, .any, .any, .any, .any, .any, .any, .any, .any, .any, .any, .any, .any, .any, .any, .any, .any, .any, .any, .any, .any, .any, .any, .any, .any], [(((2 : Nat)), [(.d (.con (.int .i64 ((0 : Int))))), (.d (.con (.int .i64 ((0 : Int)))))])]⟩ (Ret Tryd.prog Tryd.f40 (fe (prs s))))))) (by kernel_rfl) ?_
  have ez : Int.toNat (0 : Int) = 0 := rfl
  have e1 : Int.toNat (1 : Int) = 1 := rfl
  simp only [ez, e1, Int.toNat_natCast]
  cases hl : s.data.toList with
  | nil =>
    have h0 : s.size = 0 := by rw [← size_list, hl]; rfl
    have e2 : prs s = prsT s 1 := by
      have h1 : preB minus s = false := by unfold preB; rw [hl]; rfl
      have h2 : preS minus s = s := by unfold preS Lib.trimPrefix; rw [hl]; exact (congrArg bs hl).symm.trans (bs_toList s)
      unfold prs prsT
      rw [h1, h2]
      simp only [Bool.false_eq_true, if_false, Int.one_mul]
      rcases partsO s.data.toList with _ | ⟨a, b⟩ <;> rfl
    refine ⟨fun h => ?_, fun h => ?_, fun h => ?_⟩
    · simp only [decide_eq_true_eq] at h; omega
    · simp only [Bool.and_eq_true, decide_eq_true_eq] at h; omega
    · rw [e2]
      refine AWP.weaken ?_ (f40_tail s hs 1 (Or.inl rfl))
      refine of_eq (b :=
        (((((.d (.con (.string s))) : AV) = (.d (.con (.string s)))) ∧
        ((((.box ((2 : Nat)) ((0 : Nat))) : AV) = (.box ((2 : Nat)) ((0 : Nat)))) ∧
        ((((.d (.con (.int .i64 ((0 : Int))))) : AV) = (.d (.con (.int .i64 ((0 : Int)))))) ∧
        ((((.d (.con (.int .i64 ((1 : Int))))) : AV) = (.d (.con (.int .i64 ((1 : Int)))))) ∧
        True)))) ∧
        ((((some [(.d (.con (.int .i64 ((0 : Int))))), (.d (.con (.int .i64 ((0 : Int)))))]) : (Option (List AV))) = (some [(.d (.con (.int .i64 ((0 : Int))))), (.d (.con (.int .i64 ((0 : Int)))))])) ∧
        True))) (by kernel_rfl) ?_
      exact ⟨⟨rfl, rfl, rfl, rfl, trivial⟩, rfl, trivial⟩
  | cons c T =>
    have h0 : s.size = T.length + 1 := by rw [← size_list, hl]; rfl
    have hz : byteAt s 0 = (c.toNat : Int) := by
      have := byteAt_get (s := s) (k := 0) (by rw [hl]; simp)
      rw [this]
      simp only [hl, List.getElem_cons_zero]
    have hc1 : (c = 45 ↔ (c.toNat : Int) = 45) := ⟨fun h => by rw [h]; rfl, fun h => UInt8.toNat_inj.1 (by show c.toNat = 45; omega)⟩
    simp only [hz]
    refine ⟨fun h => ?_, fun h => ?_, fun h => ?_⟩
    · exact ⟨by omega, by omega⟩
    · simp only [Bool.and_eq_true, decide_eq_true_eq, beq_iff_eq] at h
      obtain rfl := hc1.2 h.2
      have hx : ByteArray.extract s 1 s.size = preS minus s := by
        unfold preS Lib.trimPrefix
        rw [hl, if_pos (by simp [minus, Lib.hasPrefix, List.isPrefixOf]), extract_bs, hl]
        show bs (T.take _) = bs T
        rw [List.take_of_length_le (by omega)]
      have e2 : prs s = prsT (preS minus s) (-1) := by
        have h1 : preB minus s = true := by unfold preB; rw [hl]; simp [minus, Lib.hasPrefix, List.isPrefixOf]
        unfold prs prsT
        rw [h1]
        simp only [if_true, Int.neg_one_mul]
        rcases partsO (preS minus s).data.toList with _ | ⟨a, b⟩ <;> rfl
      rw [e2, hx]
      have hps : (preS minus s).size ≤ 900000 := by rw [← hx, ByteArray.size_extract]; omega
      refine ⟨⟨by omega, by omega, by omega⟩, AWP.weaken ?_ (f40_tail (preS minus s) hps (-1) (Or.inr rfl))⟩
      refine of_eq (b :=
        (((((.d (.con (.string (preS minus s)))) : AV) = (.d (.con (.string (preS minus s))))) ∧
        ((((.box ((2 : Nat)) ((0 : Nat))) : AV) = (.box ((2 : Nat)) ((0 : Nat)))) ∧
        ((((.d (.con (.int .i64 ((0 : Int))))) : AV) = (.d (.con (.int .i64 ((0 : Int)))))) ∧
        ((((.d (.con (.int .i64 ((-1 : Int))))) : AV) = (.d (.con (.int .i64 ((-1 : Int)))))) ∧
        True)))) ∧
        ((((some [(.d (.con (.int .i64 ((0 : Int))))), (.d (.con (.int .i64 ((0 : Int)))))]) : (Option (List AV))) = (some [(.d (.con (.int .i64 ((0 : Int))))), (.d (.con (.int .i64 ((0 : Int)))))])) ∧
        True))) (by kernel_rfl) ?_
      exact ⟨⟨rfl, rfl, rfl, rfl, trivial⟩, rfl, trivial⟩
    · simp only [Bool.and_eq_false_iff, decide_eq_false_iff_not, beq_eq_false_iff_ne, ne_eq] at h
      have hc : c ≠ 45 := fun hc => by
        have := hc1.1 hc
        omega
      have hh : Lib.hasPrefix s.data.toList minus.data.toList = false := by
        rw [hl]
        simp [minus, Lib.hasPrefix, List.isPrefixOf]
        exact fun h => hc h.symm
      have e2 : prs s = prsT s 1 := by
        have h1 : preB minus s = false := hh
        have h2 : preS minus s = s := by unfold preS Lib.trimPrefix; rw [hh]; exact bs_toList s
        unfold prs prsT
        rw [h1, h2]
        simp only [Bool.false_eq_true, if_false, Int.one_mul]
        rcases partsO s.data.toList with _ | ⟨a, b⟩ <;> rfl
      rw [e2]
      refine AWP.weaken ?_ (f40_tail s hs 1 (Or.inl rfl))
      refine of_eq (b :=
        (((((.d (.con (.string s))) : AV) = (.d (.con (.string s)))) ∧
        ((((.box ((2 : Nat)) ((0 : Nat))) : AV) = (.box ((2 : Nat)) ((0 : Nat)))) ∧
        ((((.d (.con (.int .i64 ((0 : Int))))) : AV) = (.d (.con (.int .i64 ((0 : Int)))))) ∧
        ((((.d (.con (.int .i64 ((1 : Int))))) : AV) = (.d (.con (.int .i64 ((1 : Int)))))) ∧
        True)))) ∧
        ((((some [(.d (.con (.int .i64 ((0 : Int))))), (.d (.con (.int .i64 ((0 : Int)))))]) : (Option (List AV))) = (some [(.d (.con (.int .i64 ((0 : Int))))), (.d (.con (.int .i64 ((0 : Int)))))])) ∧
        True))) (by kernel_rfl) ?_
      exact ⟨⟨rfl, rfl, rfl, rfl, trivial⟩, rfl, trivial⟩
end Go.Proofs

/- Written fractions are read again, plain. -/
set_option autoImplicit false
namespace Go.Proofs
open Go Go.Ab
theorem red_ok {n d : Int} (h : ok n d = true) {q : Nat} (hq : 0 < q) : red (n * (q : Int)) (d * (q : Int)) = (n, d, 0) := by
  obtain ⟨d1, d2, n1, n2, hg⟩ := ok_spec h
  have hd : 0 < d * (q : Int) := Int.mul_pos (by omega) (by omega)
  have hg2 : Int.gcd (n * (q : Int)) (d * (q : Int)) = q := by
    rw [Int.gcd_mul_right, hg, Nat.one_mul]; rfl
  have hq0 : (q : Int) ≠ 0 := by omega
  unfold red red1
  rw [if_neg (by omega), hg2, Int.mul_tdiv_cancel n hq0, Int.mul_tdiv_cancel d hq0, if_pos h]
theorem prs_sg {n : Int} {S : List UInt8} {a b : Nat} (hS : ∀ c T, S = c :: T → c ≠ 45) (hp : partsO S = some (a, b)) (hb : b ≠ 0) :
    prs (str (sg n ++ S)) = red (if n < 0 then -(a : Int) else a) b := by
  have key : ∀ s : ByteArray, ∀ neg : Bool, preB minus s = neg → (preS minus s).data.toList = S → prs s = red (if neg = true then -(a : Int) else a) b := by
    intro s neg h1 h2
    unfold prs
    rw [h1, h2, hp]
    simp only [if_neg hb]
  have e45 : minus.data.toList = [45] := rfl
  by_cases hn : n < 0
  · rw [if_pos hn]
    have := key (str (sg n ++ S)) true (by
      unfold preB sg; rw [if_pos hn, e45]
      show Lib.hasPrefix ([45] ++ S) [45] = true
      simp [Lib.hasPrefix, List.isPrefixOf]) (by
      unfold preS sg; rw [if_pos hn, e45, toList_bs]
      show Lib.trimPrefix ([45] ++ S) [45] = S
      simp [Lib.trimPrefix, Lib.hasPrefix, List.isPrefixOf])
    rw [this, if_pos rfl]
  · rw [if_neg hn]
    have hh : Lib.hasPrefix S [45] = false := by
      cases S with
      | nil => rfl
      | cons c T =>
        have := hS c T rfl
        simp [Lib.hasPrefix, List.isPrefixOf]
        exact fun h => this h.symm
    have := key (str (sg n ++ S)) false (by
      unfold preB sg; rw [if_neg hn, e45]
      show Lib.hasPrefix ([] ++ S) [45] = false
      rw [List.nil_append, hh]) (by
      unfold preS sg; rw [if_neg hn, e45, toList_bs]
      show Lib.trimPrefix ([] ++ S) [45] = S
      rw [List.nil_append]; unfold Lib.trimPrefix; rw [hh]; rfl)
    rw [this, if_neg (by simp)]
theorem dec_head {m : Nat} {R : List UInt8} : ∀ c T, Lib.decDigits m ++ R = c :: T → c ≠ 45 := by
  intro c T h
  have h1 := dec_pos m
  cases hd : Lib.decDigits m with
  | nil => rw [hd] at h1; simp at h1
  | cons x l =>
    rw [hd] at h
    injection h with h2 h3
    have := dec_all m x (by rw [hd]; simp)
    rintro rfl
    rw [h2] at this
    exact absurd this (by decide)
theorem sgn_abs (n : Int) : (if n < 0 then -((n.natAbs : Nat) : Int) else (n.natAbs : Nat)) = n := by split <;> omega
theorem read_fmt {n d : Int} (h : ok n d = true) : prs (str (fmt n d)) = (n, d, 0) := by
  obtain ⟨d1, d2, n1, n2, hg⟩ := ok_spec h
  unfold fmt
  rw [if_pos h]
  have hr := red_ok h (q := 1) (by decide)
  rw [show ((1 : Nat) : Int) = 1 from rfl, Int.mul_one, Int.mul_one] at hr
  by_cases h1 : d = 1
  · rw [if_pos h1, itoa_sg]
    have hp := parts_int (n := n.natAbs) (by omega)
    have := prs_sg (n := n) (S := Lib.decDigits n.natAbs) (by have := dec_head (m := n.natAbs) (R := []); rwa [List.append_nil] at this) hp (by decide)
    rw [this, sgn_abs]
    rw [h1] at hr ⊢
    exact hr
  · rw [if_neg h1, itoa_sg n]
    obtain ⟨e, rfl⟩ := Int.eq_ofNat_of_zero_le (show 0 ≤ d by omega)
    have hp := parts_frac (n := n.natAbs) (d := e) (by omega) (by omega)
    rw [Lib.itoa_nonneg, List.append_assoc, prs_sg dec_head hp (by omega), sgn_abs]
    exact hr
theorem dec_law {n d : Int} (h : ok n d = true) : ((decF n d).2 = true ↔ (1000000 : Int).tmod d = 0) ∧ ((decF n d).2 = false → (decF n d).1 = [] ∧ d ≠ 1) := by
  rw [decF_eq]
  unfold decB
  by_cases h2 : (1000000 : Int).tmod d = 0
  · rw [if_pos ⟨h, h2⟩]
    exact ⟨⟨fun _ => h2, fun _ => rfl⟩, fun h3 => by cases h3⟩
  · rw [if_neg (fun h3 => h2 h3.2)]
    refine ⟨⟨fun h3 => (by cases h3), fun h3 => absurd h3 h2⟩, fun _ => ⟨rfl, ?_⟩⟩
    rintro rfl
    exact h2 rfl
theorem read_dec {n d : Int} (h : ok n d = true) (h2 : (decF n d).2 = true) : prs (str (decF n d).1) = (n, d, 0) ∧ (decF n d).1.length ≤ 30 := by
  obtain ⟨d1, d2, n1, n2, hg⟩ := ok_spec h
  obtain ⟨e, rfl⟩ := Int.eq_ofNat_of_zero_le (show 0 ≤ d by omega)
  have he : 0 < e := by omega
  have hdv : e ∣ 10 ^ 6 := by
    have := (dec_law h).1.1 h2
    rw [show (1000000 : Int) = ((10 ^ 6 : Nat) : Int) by rfl, ← Int.ofNat_tmod] at this
    exact Nat.dvd_of_mod_eq_zero (by omega)
  obtain ⟨k, hk6, hk, hmin⟩ := least (p := fun k => e ∣ 10 ^ k) 6 hdv
  have hA := decA_hit n e k hk hmin k 7 0 (by omega) (by omega)
  rw [show (((10 ^ 0 : Nat) : Int)) = 1 by rfl] at hA
  unfold decF
  rw [if_pos h, hA]
  by_cases h0 : k = 0
  · subst h0
    have he1 : e = 1 := by simpa using hk
    subst he1
    have := read_fmt h
    unfold fmt at this
    rw [if_pos h, if_pos (show ((1 : Nat) : Int) = 1 from rfl)] at this
    refine ⟨this, ?_⟩
    show (Lib.itoa n).length ≤ 30
    rw [itoa_sg, List.length_append]
    have := sg_len n
    have := decDigits_len 9 n.natAbs (by omega)
    omega
  · rw [if_neg h0]
    obtain ⟨q, hq⟩ := hk
    have hq0 : 0 < q := by
      rcases Nat.eq_zero_or_pos q with rfl | h
      · have : 0 < 10 ^ k := Nat.pow_pos (by omega)
        omega
      · exact h
    have hqe : 10 ^ k / e = q := by rw [hq, Nat.mul_div_cancel_left _ he]
    rw [hqe]
    have ha : (n * (q : Int)).natAbs = n.natAbs * q := by rw [Int.natAbs_mul]; rfl
    have hp0 : 0 < 10 ^ k := Nat.pow_pos (by omega)
    have hk10 : 10 ^ k ≤ 10 ^ 6 := Nat.pow_le_pow_right (by decide) hk6
    have hqs : n.natAbs * q / 10 ^ k < 10000000000 := by
      have : n.natAbs * q / 10 ^ k = n.natAbs / e := by rw [hq, Nat.mul_div_mul_right _ _ hq0]
      rw [this]
      have := Nat.div_le_self n.natAbs e
      omega
    have hp := parts_place (n := n.natAbs * q / 10 ^ k) (j := k) (r := n.natAbs * q % 10 ^ k) hqs (by omega) hk6 (Nat.mod_lt _ hp0)
    have hpt : pt (n * (q : Int)) ((10 ^ k : Nat) : Int) = sg (n * (q : Int)) ++ (Lib.decDigits (n.natAbs * q / 10 ^ k) ++ 46 :: (Lib.decDigits (10 ^ k + n.natAbs * q % 10 ^ k)).tail) := by
      unfold pt
      rw [ha, ← Int.ofNat_tdiv, ← Int.ofNat_tmod, Lib.itoa_nonneg, show (((10 ^ k : Nat) : Int) + ((n.natAbs * q % 10 ^ k : Nat) : Int)) = ((10 ^ k + n.natAbs * q % 10 ^ k : Nat) : Int) by omega, Lib.itoa_nonneg, List.drop_one]
    have hrl : n.natAbs * q % 10 ^ k < 10 ^ k := Nat.mod_lt _ hp0
    refine ⟨?_, ?_⟩
    rotate_left
    · show (pt (n * (q : Int)) ((10 ^ k : Nat) : Int)).length ≤ 30
      rw [hpt, List.length_append, List.length_append, List.length_cons, List.length_tail]
      have := sg_len (n * (q : Int))
      have := decDigits_len 9 (n.natAbs * q / 10 ^ k) (by omega)
      have := decDigits_len 9 (10 ^ k + n.natAbs * q % 10 ^ k) (by have e6 : (10 : Nat) ^ 6 = 1000000 := by decide
                                                                   omega)
      omega
    show prs (str (pt (n * (q : Int)) ((10 ^ k : Nat) : Int))) = _
    rw [hpt, prs_sg dec_head hp (by omega)]
    have hdm : n.natAbs * q / 10 ^ k * 10 ^ k + n.natAbs * q % 10 ^ k = n.natAbs * q := by rw [Nat.mul_comm]; exact Nat.div_add_mod ..
    rw [hdm, ← ha, sgn_abs, hq]
    have := red_ok h hq0
    rw [← Int.natCast_mul] at this
    exact this
theorem fmt_len (n d : Int) : (fmt n d).length ≤ 50 := by
  unfold fmt
  cases h : ok n d with
  | false => simp
  | true =>
    obtain ⟨d1, d2, n1, n2, hg⟩ := ok_spec h
    rw [if_pos rfl]
    have h1 := itoa_len n ⟨by omega, by omega⟩
    have h2 := itoa_len d ⟨by omega, by omega⟩
    split
    · omega
    · rw [List.length_append, List.length_cons]; omega
end Go.Proofs

set_option autoImplicit false
namespace Go.Proofs
open Go Go.Ab Go.RowKit
set_option maxHeartbeats 1000000
set_option maxRecDepth 100000
variable {G : IH}
def prsN (s : ByteArray) : Int := (prs s).1
def prsD (s : ByteArray) : Int := (prs s).2.1
def prsE (s : ByteArray) : Int := (prs s).2.2
theorem prs_fe (s : ByteArray) : fe (prs s) = .tup [fr (prsN s) (prsD s), di (prsE s)] := rfl
def orc8 : Oracle := fun f args => match f, args with
  | 10, [] => some (db true)
  | 39, [.con (.string s)] => some (.tup [fr (prsN s) (prsD s), di (prsE s)])
  | 40, [.con (.string s)] => some (.tup [fr (prsN s) (prsD s), di (prsE s)])
  | 15, [fr a b] => some (db (ok a b))
  | 17, [fr n d] => some (ds (str (fmt n d)))
  | 13, [fr n d] => some (sb (decF n d))
  | _, _ => none
theorem f39' (s : ByteArray) (hs : s.size ≤ 900000) : FnOK Tryd.prog G 39 [ds s] (.tup [fr (prsN s) (prsD s), di (prsE s)]) := f39 s hs
theorem f40' (s : ByteArray) (hs : s.size ≤ 900000) : FnOK Tryd.prog G 40 [ds s] (.tup [fr (prsN s) (prsD s), di (prsE s)]) := f40 s hs
theorem f8 (hT : Tab G) (s : ByteArray) : FnOK Tryd.prog G 8 [ds s] (db true) := by
  refine FnOK.walk (orc := orc8) (keep := []) follows Tryd.func8 rfl Tryd.call8 ?_
  refine of_eqH (b :=
    (FnOK Tryd.prog G ((10 : Nat)) [] (.con (.bool true)) ∧
    (((false = true) →
    (((.con (.bool false)) : DV) = (db true))) ∧
    ((false = false) →
    ((((decide ((↑(ByteArray.size s) : Int) > (60 : Int))) = true) →
    (((.con (.bool true)) : DV) = (db true))) ∧
    (((decide ((↑(ByteArray.size s) : Int) > (60 : Int))) = false) →
    (FnOK Tryd.prog G ((39 : Nat)) [(.con (.string s))] (.tup [(.agg [(.con (.int .i64 (prsN s))), (.con (.int .i64 (prsD s)))]), (.con (.int .i64 (prsE s)))]) ∧
    (FnOK Tryd.prog G ((40 : Nat)) [(.con (.string s))] (.tup [(.agg [(.con (.int .i64 (prsN s))), (.con (.int .i64 (prsD s)))]), (.con (.int .i64 (prsE s)))]) ∧
    (((.con (.bool (Bool.rec false (prsD s == prsD s) (prsN s == prsN s) && prsE s == prsE s))) : DV) = (db true)))))))))) (by kernel_rfl) ?_
  refine ⟨f10 hT, fun h => (by cases h), fun _ => ⟨fun _ => rfl, fun h => ?_⟩⟩
  simp only [decide_eq_false_iff_not] at h
  have hs : s.size ≤ 900000 := by omega
  refine ⟨f39' s hs, f40' s hs, ?_⟩
  simp only [beq_self_eq_true, Bool.and_true]
theorem emp_toList : (ByteArray.toList { data := #[] }) = [] := by simp
theorem f9 (hT : Tab G) (n d : Int) : FnOK Tryd.prog G 9 [fr n d] (db true) := by
  have hfl := fmt_len n d
  refine FnOK.walk (orc := orc8) (keep := []) follows Tryd.func9 rfl Tryd.call9 ?_
  refine of_eqH (b :=
    (FnOK Tryd.prog G ((10 : Nat)) [] (.con (.bool true)) ∧
    (((false = true) →
    (((.con (.bool false)) : DV) = (db true))) ∧
    ((false = false) →
    (FnOK Tryd.prog G ((17 : Nat)) [(.agg [(.con (.int .i64 n)), (.con (.int .i64 d))])] (.con (.string (str (fmt n d)))) ∧
    (FnOK Tryd.prog G ((15 : Nat)) [(.agg [(.con (.int .i64 n)), (.con (.int .i64 d))])] (.con (.bool (ok n d))) ∧
    ((((!ok n d) = true) →
    (((.con (.bool (ByteArray.toList (str (fmt n d)) == ByteArray.toList { data := #[] }))) : DV) = (db true))) ∧
    (((!ok n d) = false) →
    (FnOK Tryd.prog G ((39 : Nat)) [(.con (.string (str (fmt n d))))] (.tup [(.agg [(.con (.int .i64 (prsN (str (fmt n d))))), (.con (.int .i64 (prsD (str (fmt n d)))))]), (.con (.int .i64 (prsE (str (fmt n d)))))]) ∧
    ((((prsE (str (fmt n d)) != (0 : Int) || !Bool.rec false (prsD (str (fmt n d)) == d) (prsN (str (fmt n d)) == n)) = true) →
    (((.con (.bool false)) : DV) = (db true))) ∧
    (((prsE (str (fmt n d)) != (0 : Int) || !Bool.rec false (prsD (str (fmt n d)) == d) (prsN (str (fmt n d)) == n)) = false) →
    (FnOK Tryd.prog G ((13 : Nat)) [(.agg [(.con (.int .i64 n)), (.con (.int .i64 d))])] (.tup [(.con (.string (str (Prod.fst (decF n d))))), (.con (.bool (Prod.snd (decF n d))))]) ∧
    ((((!Prod.snd (decF n d)) = true) →
    ((((ByteArray.toList (str (Prod.fst (decF n d))) == ByteArray.toList { data := #[] } && decide (d > (1 : Int))) = true) →
    (d ≠ (0 : Int))) ∧
    (((.con (.bool (ByteArray.toList (str (Prod.fst (decF n d))) == ByteArray.toList { data := #[] } && decide (d > (1 : Int)) && Int.tmod (1000000 : Int) d != (0 : Int)))) : DV) = (db true)))) ∧
    (((!Prod.snd (decF n d)) = false) →
    (FnOK Tryd.prog G ((39 : Nat)) [(.con (.string (str (Prod.fst (decF n d)))))] (.tup [(.agg [(.con (.int .i64 (prsN (str (Prod.fst (decF n d)))))), (.con (.int .i64 (prsD (str (Prod.fst (decF n d))))))]), (.con (.int .i64 (prsE (str (Prod.fst (decF n d))))))]) ∧
    ((((prsE (str (Prod.fst (decF n d))) == (0 : Int) && Bool.rec false (prsD (str (Prod.fst (decF n d))) == d) (prsN (str (Prod.fst (decF n d))) == n)) = true) →
    (d ≠ (0 : Int))) ∧
    (((.con (.bool (prsE (str (Prod.fst (decF n d))) == (0 : Int) && Bool.rec false (prsD (str (Prod.fst (decF n d))) == d) (prsN (str (Prod.fst (decF n d))) == n) && Int.tmod (1000000 : Int) d == (0 : Int)))) : DV) = (db true)))))))))))))))))) (by kernel_rfl) ?_
  refine ⟨f10 hT, fun h => (by cases h), fun _ => ⟨f17 hT n d, f15 n d, fun h => ?_, fun h => ?_⟩⟩
  · have h : ok n d = false := by simpa using h
    have e : fmt n d = [] := by unfold fmt; rw [h]; rfl
    rw [e, str_toList]; rfl
  · have h : ok n d = true := by simpa using h
    have hp := read_fmt h
    obtain ⟨d1, d2, n1, n2, hg⟩ := ok_spec h
    have e1 : prsN (str (fmt n d)) = n := by unfold prsN; rw [hp]
    have e2 : prsD (str (fmt n d)) = d := by unfold prsD; rw [hp]
    have e3 : prsE (str (fmt n d)) = 0 := by unfold prsE; rw [hp]
    have k39 := f39' (G := G) (str (fmt n d)) (by rw [str_size]; omega)
    obtain ⟨l1, l2⟩ := dec_law h
    refine ⟨k39, fun h2 => ?_, fun h2 => ⟨f13 hT n d, fun h3 => ?_, fun h3 => ?_⟩⟩
    · rw [e1, e2, e3] at h2
      simp at h2
    · have h3 : (decF n d).2 = false := by simpa using h3
      obtain ⟨m1, m2⟩ := l2 h3
      have m3 : (1000000 : Int).tmod d ≠ 0 := fun h => by rw [l1.2 h] at h3; cases h3
      refine ⟨fun _ => by omega, ?_⟩
      rw [m1, str_toList]
      have m4 : decide (d > 1) = true := by rw [decide_eq_true_eq]; omega
      have m5 : ((1000000 : Int).tmod d != 0) = true := by rw [bne_iff_ne]; exact m3
      rw [m4, m5]; rfl
    · have h3 : (decF n d).2 = true := by simpa using h3
      obtain ⟨hq, hl⟩ := read_dec h h3
      have e1 : prsN (str (decF n d).1) = n := by unfold prsN; rw [hq]
      have e2 : prsD (str (decF n d).1) = d := by unfold prsD; rw [hq]
      have e3 : prsE (str (decF n d).1) = 0 := by unfold prsE; rw [hq]
      have k39 := f39' (G := G) (str (decF n d).1) (by rw [str_size]; omega)
      refine ⟨k39, fun _ => by omega, ?_⟩
      have m5 : ((1000000 : Int).tmod d == 0) = true := by rw [beq_iff_eq]; exact l1.1 h3
      rw [e1, e2, e3, m5]
      simp only [beq_self_eq_true]; rfl
end Go.Proofs
