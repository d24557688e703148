import Derived.Test.YtlpnfbfdekbbmaaDoorGD
import Derived.Test.YtlpnfbfdekbbmaaDoorAcC
import Derived.Test.YtlpnfbfdekbbmaaDoorAcD
set_option autoImplicit false
namespace Go.Proofs
open Go Go.Ab
/-! Records one behind the other. -/
def recsL (g : Nat) : List ByteArray → List UInt8
  | [] => []
  | p :: l => encL g p ++ recsL g l
theorem recsL_len (g : Nat) (l : List ByteArray) : (recsL g l).length = recLen l := by
  induction l with
  | nil => rfl
  | cons p l ih => simp only [recsL, List.length_append, ih, encL_len, recLen]
theorem recsL_app (g : Nat) (l m : List ByteArray) : recsL g (l ++ m) = recsL g l ++ recsL g m := by
  induction l with
  | nil => rfl
  | cons p l ih => simp only [List.cons_append, recsL, ih, List.append_assoc]
theorem recLen_ge (l : List ByteArray) : 50 * l.length ≤ recLen l := by
  induction l with
  | nil => simp [recLen]
  | cons p l ih => simp only [List.length_cons, recLen]; omega
theorem decSpec_head {g : Nat} {p : ByteArray} (hp : p.size ≤ 30000) (X : List UInt8) : decSpec g (encL g p ++ X) = some p := decSpec_some hp (List.prefix_append ..)
theorem walkF_recs {g : Nat} {X : List UInt8} (hX : decSpec g X = none) : ∀ (l : List ByteArray) (f : Nat), (∀ p ∈ l, p.size ≤ 30000) → l.length ≤ f → walkF g f (recsL g l ++ X) = l
  | [], f, _, _ => by rw [recsL, List.nil_append]; exact walkF_stop hX
  | p :: l, f, hl, hf => by
    simp only [List.length_cons] at hf
    have e : f = (f - 1) + 1 := by omega
    rw [recsL, List.append_assoc, e, walkF_step (decSpec_head (hl p (by simp)) _)]
    have e2 : (encL g p ++ (recsL g l ++ X)).drop (50 + 2 * p.size) = recsL g l ++ X := by
      rw [← encL_len g p, List.drop_left]
    rw [e2, walkF_recs hX l (f - 1) (fun q hq => hl q (by simp [hq])) (by omega)]
theorem walkL_recs {g : Nat} {X : List UInt8} (hg : okGen (g : Int) = true) (hX : decSpec g X = none) (l : List ByteArray) (hl : ∀ p ∈ l, p.size ≤ 30000) : walkL (g : Int) (bs (recsL g l ++ X)) = l := by
  unfold walkL
  rw [if_pos hg, Int.toNat_natCast]
  refine walkF_recs hX l _ hl ?_
  rw [bs_size, List.length_append, recsL_len]
  have := recLen_ge l
  omega
/-- A front of a record is none. -/
theorem decSpec_front {g : Nat} {p : ByteArray} {n : Nat} (hp : p.size ≤ 30000) (hn : n < 50 + 2 * p.size) : decSpec g ((encL g p).take n) = none := by
  refine decSpec_none fun q hq h => ?_
  have h1 := (h.trans (List.take_prefix n _))
  obtain ⟨rfl, _⟩ := encL_unique h1 (List.prefix_refl (encL g p)) hq hp
  have := h.length_le
  rw [List.length_take, encL_len] at this
  omega
theorem decSpec_other {g h : Nat} {p : ByteArray} {X : List UInt8} (hp : p.size ≤ 30000) (hg : g ≤ 1099511627776) (hh : h ≤ 1099511627776) (hne : g ≠ h) : decSpec h (encL g p ++ X) = none := by
  refine decSpec_none fun q hq k => ?_
  have := (encL_unique k (List.prefix_append (encL g p) X) hq hp).2
  exact hne (gen_eq this hh hg).symm
theorem recs_take {g : Nat} {l : List ByteArray} {k n : Nat} (hk : recLen (l.take k) ≤ n) (hk2 : k < l.length) (hn : n < recLen (l.take (k + 1))) : (recsL g l).take n = recsL g (l.take k) ++ (encL g (sAt l k)).take (n - recLen (l.take k)) := by
  have e : recsL g l = recsL g (l.take k) ++ (encL g (sAt l k) ++ recsL g (l.drop (k + 1))) := by
    have h1 : l = l.take (k + 1) ++ l.drop (k + 1) := (List.take_append_drop ..).symm
    conv => lhs; rw [h1]
    rw [recsL_app, List.take_succ_eq_append_getElem hk2, recsL_app, sAt_get hk2]
    simp only [recsL, List.append_nil, List.append_assoc]
  have e2 : recLen (l.take (k + 1)) = recLen (l.take k) + (50 + 2 * (sAt l k).size) := by
    rw [List.take_succ_eq_append_getElem hk2, recLen_app, sAt_get hk2]; simp [recLen]
  rw [e, List.take_append, recsL_len, List.take_of_length_le (by rw [recsL_len]; exact hk), List.take_append_of_le_length (by rw [encL_len]; omega)]
end Go.Proofs

set_option autoImplicit false
namespace Go.Proofs
open Go Go.Ab Go.RowKit
set_option maxHeartbeats 1000000
set_option maxRecDepth 100000
variable {G : IH}
/-- A contract with a result that says less. -/
theorem FnOK.res {P : Program} {f : FuncId} {xs : List DV} {r r' : DV} (h : FnOK P G f xs r) (hr : ∀ k v, r.rel k v → r'.rel k v) : FnOK P G f xs r' :=
  ⟨h.1, fun w k us hG hw hu => (h.2 w k us hG hw hu).mono fun _ _ ⟨v, h', e, hv, rest⟩ => ⟨v, h', e, hr h' v hv, rest⟩⟩
abbrev intK : RK := ⟨false, 3, false⟩
/-- A row of ints. -/
def rowI (l : List Int) (i : Nat) : DV := (l.map fun s => di s).getD i (.con undef)
theorem rowI_app (l : List Int) (p : Int) : (fun i => bif Nat.blt i l.length then rowI l i else elemF false 1 [di p] (i - l.length)) = rowI (l ++ [p]) := by
  funext i
  cases h : Nat.blt i l.length with
  | true =>
    rw [Nat.blt_eq] at h
    simp only [cond_true, rowI, List.map_append, List.getD_eq_getElem?_getD, List.getElem?_append_left (show i < (l.map fun s => di s).length by simpa using h)]
  | false =>
    have h : ¬ i < l.length := by rw [← Nat.blt_eq, h]; decide
    simp only [cond_false, rowI, List.map_append, List.getD_eq_getElem?_getD, List.getElem?_append_right (show (l.map fun s => di s).length ≤ i by simpa using h), List.length_map]
    rfl
/-- Where each record begins, and the end. -/
def offs (l : List ByteArray) (n : Nat) : List Int := (List.range (n + 1)).map fun i => (recLen (l.take i) : Int)
theorem offs_len (l : List ByteArray) (n : Nat) : (offs l n).length = n + 1 := by simp [offs]
theorem offs_succ (l : List ByteArray) (n : Nat) : offs l (n + 1) = offs l n ++ [(recLen (l.take (n + 1)) : Int)] := by
  simp [offs, List.range_succ (n := n + 1)]
theorem enc_ok {g : Nat} {p : ByteArray} (hg : okGen (g : Int) = true) (hp : p.size ≤ 30000) : encS (g : Int) p = bs (encL g p) ∧ encE (g : Int) p = 0 := by
  refine ⟨if_pos ⟨hg, hp⟩, ?_⟩
  unfold encE
  rw [if_pos hg, if_neg (by omega)]
theorem recLen_le {l : List ByteArray} (hl : ∀ p ∈ l, p.size ≤ 30000) (i : Nat) : recLen (l.take i) ≤ i * 60050 := by
  have key : ∀ (m : List ByteArray), (∀ p ∈ m, p.size ≤ 30000) → recLen m ≤ m.length * 60050 := by
    intro m
    induction m with
    | nil => intro _; simp [recLen]
    | cons p m ih =>
      intro h
      have := h p (by simp)
      have := ih fun q hq => h q (by simp [hq])
      simp only [recLen, List.length_cons]; omega
  refine Nat.le_trans (key _ fun p hp => hl p (List.mem_of_mem_take hp)) (Nat.mul_le_mul_right _ (List.length_take_le ..))
noncomputable def orc15 : Orc := ⟨fun f args => match f, args with
  | 17, [.con (.int .i64 g), .con (.string p)] => some (.tup [ds (encS g p), di (encE g p)])
  | _, _ => none, false, fun d => Nat.beq d 13, fun _ => false, fun _ _ _ => none⟩
noncomputable def S15 (g : Nat) (l : List ByteArray) (i : Nat) : AS := ⟨regs Tryd.f15.ntmps [(0, vi g), (7, vs (bs (recsL g (l.take i)))), (8, .vec 500 1 0 (i + 1)), (14, .d (strs l.length (sAt l))), (15, vi l.length), (16, vi i)], [(500, [.arr intK 1 (rowI (offs l i))])]⟩
theorem f15r (g : Nat) (l : List ByteArray) (hg : okGen (g : Int) = true) (hl : l.length ≤ 1000 ∧ ∀ p ∈ l, p.size ≤ 30000) : FnOK Tryd.prog G 15 [di g, strs l.length (sAt l)] (.tup [ds (bs (recsL g l)), .slc 1 (l.length + 1) (rowI (offs l l.length)), db true]) := by
  refine FnOK.walk (orc := orc15) (keep := []) follows Tryd.func15 rfl Tryd.call15 ?_
  refine of_eqH (b :=
    AWP Tryd.prog G [.code (cAt (bodyOf Tryd.f15) [1, 1, 0, 1, 0]), (.blk ((0 : Nat))), .code (cAt (bodyOf Tryd.f15) [1, 1, 1])] ⟨[(.d (.con (.int .i64 ((↑g : Int))))), (.d (.slc ((1 : Nat)) (List.length l) (fun i => DV.con (Value.string (sAt l i))))), .any, .any, (.d (.con (.string ({ data := #[] })))), (.d (.con (.slice none ((0 : Nat)) ((0 : Nat))))), (.d (.con (.bool false))), (.d (.con (.string ({ data := #[] })))), (.vec ((13 : Nat)) ((1 : Nat)) ((0 : Nat)) ((1 : Nat))), .any, .any, .any, .any, (.vec ((13 : Nat)) ((1 : Nat)) ((0 : Nat)) ((1 : Nat))), (.d (.slc ((1 : Nat)) (List.length l) (fun i => DV.con (Value.string (sAt l i))))), (.d (.con (.int .i64 ((↑(List.length l) : Int))))), (.d (.con (.int .i64 ((0 : Int))))), .any, .any, .any, .any, .any, .any, .any, .any, .any, .any, .any, .any, .any, .any, .any, .any, .any, .any, .any, .any, .any, .any, .any, .any, .any, .any], [(((13 : Nat)), [(.arr ⟨false, ((3 : Nat)), false⟩ ((1 : Nat)) (elemF false ((1 : Nat)) [(.con (.int .i64 ((0 : Int))))]))])]⟩ (Ret Tryd.prog Tryd.f15 (DV.tup [ds (bs (recsL g l)), DV.slc (1 : Nat) (List.length l + (1 : Nat)) (rowI (offs l (List.length l))), db true]))) (by kernel_rfl) ?_
  refine AWP.pre (.moves [(13, 500)] _ rfl) ?_
  refine AWP.loop (c := cAt (bodyOf Tryd.f15) [1, 1, 0, 1, 0, 0]) (by kernel_rfl) (S15 g l) (fun i => i ≤ l.length) (fun i => l.length - i) 0 ?_ (Nat.zero_le _) ?_
  · refine of_eq (b :=
    (((((.d (.con (.int .i64 ((↑g : Int))))) : AV) = (.d (.con (.int .i64 ((↑g : Int)))))) ∧
    ((((.d (.con (.string ({ data := #[] })))) : AV) = (.d (.con (.string (bs (recsL g (List.take (0 : Nat) l))))))) ∧
    ((((.vec ((500 : Nat)) ((1 : Nat)) ((0 : Nat)) ((1 : Nat))) : AV) = (.vec ((500 : Nat)) ((1 : Nat)) ((0 : Nat)) ((1 : Nat)))) ∧
    ((((.d (.slc ((1 : Nat)) (List.length l) (fun i => DV.con (Value.string (sAt l i))))) : AV) = (.d (.slc ((1 : Nat)) (List.length l) (fun i => DV.con (Value.string (sAt l i)))))) ∧
    ((((.d (.con (.int .i64 ((↑(List.length l) : Int))))) : AV) = (.d (.con (.int .i64 ((↑(List.length l) : Int)))))) ∧
    ((((.d (.con (.int .i64 ((0 : Int))))) : AV) = (.d (.con (.int .i64 ((0 : Int)))))) ∧
    True)))))) ∧
    ((((some [(.arr ⟨false, ((3 : Nat)), false⟩ ((1 : Nat)) (elemF false ((1 : Nat)) [(.con (.int .i64 ((0 : Int))))]))]) : (Option (List AV))) = (some [(.arr ⟨false, ((3 : Nat)), false⟩ ((1 : Nat)) (rowI (offs l (0 : Nat))))])) ∧
    True))) (by kernel_rfl) ?_
    exact ⟨⟨rfl, rfl, rfl, rfl, rfl, rfl, trivial⟩, rfl, trivial⟩
  · intro i hi
    refine walk (orc := orc15) (keep := []) (cuts := []) (n := 1000) follows ?_
    refine of_eqH (b :=
      ((((decide ((↑i : Int) < (↑(List.length l) : Int))) = true) →
      ((((0 : Int) ≤ (↑i : Int)) ∧
      ((↑i : Int) < (↑(List.length l) : Int))) ∧
      (FnOK Tryd.prog G ((17 : Nat)) [(.con (.int .i64 ((↑g : Int)))), (.con (.string (sAt l (Int.toNat (↑i : Int)))))] (.tup [(.con (.string (encS (↑g : Int) (sAt l (Int.toNat (↑i : Int)))))), (.con (.int .i64 (encE (↑g : Int) (sAt l (Int.toNat (↑i : Int))))))]) ∧
      ((((encE (↑g : Int) (sAt l (Int.toNat (↑i : Int))) != (0 : Int) || ByteArray.toList (encS (↑g : Int) (sAt l (Int.toNat (↑i : Int)))) == ByteArray.toList { data := #[] }) = true) →
      (((.tup [(.con (.string ({ data := #[] }))), (.con (.slice none ((0 : Nat)) ((0 : Nat)))), (.con (.bool false))]) : DV) = (.tup [(ds (bs (recsL g l))), (.slc ((1 : Nat)) (List.length l + (1 : Nat)) (rowI (offs l (List.length l)))), (db true)]))) ∧
      (((encE (↑g : Int) (sAt l (Int.toNat (↑i : Int))) != (0 : Int) || ByteArray.toList (encS (↑g : Int) (sAt l (Int.toNat (↑i : Int)))) == ByteArray.toList { data := #[] }) = false) →
      ((ByteArray.size (bs (recsL g (List.take i l))) + ByteArray.size (encS (↑g : Int) (sAt l (Int.toNat (↑i : Int)))) ≤ (9223372036854775807 : Nat)) ∧
      (((((i + (1 : Nat) + (1 : Nat)) * (8 : Nat) ≤ (1099511627776 : Nat)) ∧
      (i + (1 : Nat) + (1 : Nat) ≤ (1099511627776 : Nat))) ∧
      (∀ (i_1 : Nat), i_1 < (1 : Nat) → elemOK false (1 : Nat) (elemF false (1 : Nat) [DV.con (Value.int IntKind.i64 (↑(ByteArray.size (bs (recsL g (List.take i l)) ++ encS (↑g : Int) (sAt l (Int.toNat (↑i : Int))))) : Int))] i_1) = true)) ∧
      ((I64 ((↑i : Int) + (1 : Int))) ∧
      Again (S15 g l) (fun i => i ≤ List.length l) (fun i => List.length l - i) i ⟨[(.d (.con (.int .i64 ((↑g : Int))))), .any, .any, .any, .any, .any, .any, (.d (.con (.string (bs (recsL g (List.take i l)) ++ encS (↑g : Int) (sAt l (Int.toNat (↑i : Int))))))), (.vec ((39 : Nat)) ((1 : Nat)) ((0 : Nat)) (i + (1 : Nat) + (1 : Nat))), .any, (.d (.con (.string (sAt l (Int.toNat (↑i : Int)))))), (.d (.con (.string (encS (↑g : Int) (sAt l (Int.toNat (↑i : Int))))))), (.d (.con (.int .i64 (encE (↑g : Int) (sAt l (Int.toNat (↑i : Int))))))), .any, (.d (.slc ((1 : Nat)) (List.length l) (fun i => DV.con (Value.string (sAt l i))))), (.d (.con (.int .i64 ((↑(List.length l) : Int))))), (.d (.con (.int .i64 ((↑i : Int) + (1 : Int))))), (.d (.con (.bool (decide ((↑i : Int) < (↑(List.length l) : Int)))))), (.d (.ptr [(.con (.string (sAt l (Int.toNat (↑i : Int)))))])), (.d (.con (.string (sAt l (Int.toNat (↑i : Int)))))), (.d (.tup [(.con (.string (encS (↑g : Int) (sAt l (Int.toNat (↑i : Int)))))), (.con (.int .i64 (encE (↑g : Int) (sAt l (Int.toNat (↑i : Int))))))])), (.d (.con (.int .i64 ((↑g : Int))))), (.d (.con (.string (sAt l (Int.toNat (↑i : Int)))))), (.d (.tup [(.con (.string (encS (↑g : Int) (sAt l (Int.toNat (↑i : Int)))))), (.con (.int .i64 (encE (↑g : Int) (sAt l (Int.toNat (↑i : Int))))))])), (.d (.con (.string (encS (↑g : Int) (sAt l (Int.toNat (↑i : Int))))))), (.d (.con (.int .i64 (encE (↑g : Int) (sAt l (Int.toNat (↑i : Int))))))), (.d (.con (.int .i64 (encE (↑g : Int) (sAt l (Int.toNat (↑i : Int))))))), (.d (.con (.bool (encE (↑g : Int) (sAt l (Int.toNat (↑i : Int))) != (0 : Int))))), (.d (.con (.bool (encE (↑g : Int) (sAt l (Int.toNat (↑i : Int))) != (0 : Int))))), .any, .any, (.d (.con (.bool (encE (↑g : Int) (sAt l (Int.toNat (↑i : Int))) != (0 : Int) || ByteArray.toList (encS (↑g : Int) (sAt l (Int.toNat (↑i : Int)))) == ByteArray.toList { data := #[] })))), (.d (.con (.string (bs (recsL g (List.take i l)))))), (.d (.con (.string (encS (↑g : Int) (sAt l (Int.toNat (↑i : Int))))))), (.d (.con (.string (bs (recsL g (List.take i l)) ++ encS (↑g : Int) (sAt l (Int.toNat (↑i : Int))))))), (.vec ((500 : Nat)) ((1 : Nat)) ((0 : Nat)) (i + (1 : Nat))), (.d (.con (.string (bs (recsL g (List.take i l)) ++ encS (↑g : Int) (sAt l (Int.toNat (↑i : Int))))))), (.d (.con (.int .i64 ((↑(ByteArray.size (bs (recsL g (List.take i l)) ++ encS (↑g : Int) (sAt l (Int.toNat (↑i : Int))))) : Int))))), (.d (.slc ((1 : Nat)) ((1 : Nat)) (elemF false ((1 : Nat)) [(.con (.int .i64 ((↑(ByteArray.size (bs (recsL g (List.take i l)) ++ encS (↑g : Int) (sAt l (Int.toNat (↑i : Int))))) : Int))))]))), (.vec ((39 : Nat)) ((1 : Nat)) ((0 : Nat)) (i + (1 : Nat) + (1 : Nat))), (.d (.con (.int .i64 ((↑i : Int) + (1 : Int))))), .any, .any], [(((39 : Nat)), [(.arr ⟨false, ((3 : Nat)), false⟩ ((1 : Nat)) (fun i_1 => bif Nat.blt i_1 (i + (1 : Nat)) then rowI (offs l i) i_1 else elemF false (1 : Nat) [DV.con (Value.int IntKind.i64 (↑(ByteArray.size (bs (recsL g (List.take i l)) ++ encS (↑g : Int) (sAt l (Int.toNat (↑i : Int))))) : Int))] (i_1 - (i + (1 : Nat)))))]), (((500 : Nat)), [.dead])]⟩)))))))) ∧
      (((decide ((↑i : Int) < (↑(List.length l) : Int))) = false) →
      AWP Tryd.prog G [.code (cAt (bodyOf Tryd.f15) [1, 1, 1])] ⟨[(.d (.con (.int .i64 ((↑g : Int))))), .any, .any, .any, .any, .any, .any, (.d (.con (.string (bs (recsL g (List.take i l)))))), (.vec ((500 : Nat)) ((1 : Nat)) ((0 : Nat)) (i + (1 : Nat))), .any, .any, .any, .any, .any, (.d (.slc ((1 : Nat)) (List.length l) (fun i => DV.con (Value.string (sAt l i))))), (.d (.con (.int .i64 ((↑(List.length l) : Int))))), (.d (.con (.int .i64 ((↑i : Int))))), (.d (.con (.bool (decide ((↑i : Int) < (↑(List.length l) : Int)))))), .any, .any, .any, .any, .any, .any, .any, .any, .any, .any, .any, .any, .any, .any, .any, .any, .any, .any, .any, .any, .any, .any, .any, .any, .any], [(((500 : Nat)), [(.arr ⟨false, ((3 : Nat)), false⟩ ((1 : Nat)) (rowI (offs l i)))])]⟩ (Ret Tryd.prog Tryd.f15 (DV.tup [ds (bs (recsL g l)), DV.slc (1 : Nat) (List.length l + (1 : Nat)) (rowI (offs l (List.length l))), db true]))))) (by kernel_rfl) ?_
    simp only [Int.toNat_natCast]
    refine ⟨fun h => ?_, fun h => ?_⟩
    · have hi' : i < l.length := by simpa using h
      have hp : (sAt l i).size ≤ 30000 := by rw [sAt_get hi']; exact hl.2 _ (List.getElem_mem hi')
      obtain ⟨hS, hE⟩ := enc_ok hg hp
      have k17 := f17' (G := G) (g : Int) (sAt l i)
      rw [hS, hE] at k17 ⊢
      have hne : (ByteArray.toList (bs (encL g (sAt l i))) == ByteArray.toList { data := #[] }) = false := by
        rw [Bool.eq_false_iff]
        intro h2
        rw [beq_iff_eq, toList_inj] at h2
        have := congrArg ByteArray.size h2
        rw [bs_size, encL_len] at this
        have e0 : ({ data := #[] } : ByteArray).size = 0 := rfl
        omega
      rw [hne, bs_append, bs_size, bs_size, bs_size, List.length_append, recsL_len, encL_len]
      have hrl : recLen (l.take i) ≤ i * 60050 := recLen_le hl.2 i
      have hll := hl.1
      refine ⟨⟨by omega, by omega⟩, k17, fun h => by simp at h, fun _ => ⟨by omega, ⟨⟨by omega, by omega⟩, one_ok _ rfl⟩, ⟨by omega, by omega⟩, Again.mkR [(39, 500)] rfl (i + 1) ?_ (by omega) (by omega)⟩⟩
      refine of_eq (b :=
        (((((.d (.con (.int .i64 ((↑g : Int))))) : AV) = (.d (.con (.int .i64 ((↑g : Int)))))) ∧
        ((((.d (.con (.string (bs (recsL g (List.take i l) ++ encL g (sAt l i)))))) : AV) = (.d (.con (.string (bs (recsL g (List.take (i + (1 : Nat)) l))))))) ∧
        ((((.vec ((500 : Nat)) ((1 : Nat)) ((0 : Nat)) (i + (1 : Nat) + (1 : Nat))) : AV) = (.vec ((500 : Nat)) ((1 : Nat)) ((0 : Nat)) (i + (1 : Nat) + (1 : Nat)))) ∧
        ((((.d (.slc ((1 : Nat)) (List.length l) (fun i => DV.con (Value.string (sAt l i))))) : AV) = (.d (.slc ((1 : Nat)) (List.length l) (fun i => DV.con (Value.string (sAt l i)))))) ∧
        ((((.d (.con (.int .i64 ((↑(List.length l) : Int))))) : AV) = (.d (.con (.int .i64 ((↑(List.length l) : Int)))))) ∧
        ((((.d (.con (.int .i64 ((↑i : Int) + (1 : Int))))) : AV) = (.d (.con (.int .i64 ((↑(i + (1 : Nat)) : Int)))))) ∧
        True)))))) ∧
        ((((some [(.arr ⟨false, ((3 : Nat)), false⟩ ((1 : Nat)) (fun i_1 => bif Nat.blt i_1 (i + (1 : Nat)) then rowI (offs l i) i_1 else elemF false (1 : Nat) [DV.con (Value.int IntKind.i64 (↑(recLen (List.take i l) + ((50 : Nat) + (2 : Nat) * ByteArray.size (sAt l i))) : Int))] (i_1 - (i + (1 : Nat)))))]) : (Option (List AV))) = (some [(.arr ⟨false, ((3 : Nat)), false⟩ ((1 : Nat)) (rowI (offs l (i + (1 : Nat)))))])) ∧
        True))) (by kernel_rfl) ?_
      have e1 : recsL g (l.take (i + 1)) = recsL g (l.take i) ++ encL g (sAt l i) := by
        rw [List.take_succ_eq_append_getElem hi', recsL_app, sAt_get hi']; simp [recsL]
      have e2 : recLen (l.take (i + 1)) = recLen (l.take i) + (50 + 2 * (sAt l i).size) := by
        rw [← recsL_len g, e1, List.length_append, recsL_len, encL_len]
      refine ⟨⟨rfl, ?_, rfl, rfl, rfl, rfl, trivial⟩, ?_, trivial⟩
      · rw [e1]
      · rw [offs_succ, e2, ← rowI_app, offs_len]
    · have : i = l.length := by simp at h; omega
      subst this
      rw [List.take_length]
      refine walk (orc := orc15) (keep := []) (cuts := []) (n := 1000) follows ?_
      refine of_eqH (b :=
        (((.tup [(.con (.string (bs (recsL g l)))), (.slc ((1 : Nat)) (List.length l + (1 : Nat)) (fun i => rowI (offs l (List.length l)) ((0 : Nat) + i))), (.con (.bool true))]) : DV) = (.tup [(ds (bs (recsL g l))), (.slc ((1 : Nat)) (List.length l + (1 : Nat)) (rowI (offs l (List.length l)))), (db true)]))) (by kernel_rfl) ?_
      simp only [Nat.zero_add]
/-- The offsets, as a function. -/
def offF (l : List ByteArray) (i : Nat) : DV := di (recLen (l.take i) : Nat)
theorem f15 (g : Nat) (l : List ByteArray) (hg : okGen (g : Int) = true) (hl : l.length ≤ 1000 ∧ ∀ p ∈ l, p.size ≤ 30000) : FnOK Tryd.prog G 15 [di g, strs l.length (sAt l)] (.tup [ds (bs (recsL g l)), .slc 1 (l.length + 1) (offF l), db true]) := by
  refine FnOK.res (f15r g l hg hl) fun k v hv => ?_
  obtain ⟨us, e, x0, u0, e0, h0, x1, u1, e1, h1, rest⟩ := hv
  refine ⟨us, e, x0, u0, e0, h0, x1, u1, e1, DV.rel_slc_congr (fun i hi => ?_) h1, rest⟩
  unfold rowI offs offF
  simp [List.getD_eq_getElem?_getD, List.getElem?_map, List.getElem?_range hi]
end Go.Proofs

set_option autoImplicit false
namespace Go.Proofs
open Go Go.Ab Go.RowKit
set_option maxHeartbeats 1000000
set_option maxRecDepth 100000
variable {G : IH}
/-- All of some strings are short. -/
def fewB (n : Nat) (f : Nat → DV) (c b : Int) : Bool := decide ((n : Int) ≤ c) && (List.range n).all fun i => match f i with | .con (.string s) => decide ((s.size : Int) ≤ b) | _ => false
/-- The strings of a row. -/
def lst (n : Nat) (f : Nat → DV) : List ByteArray := (List.range n).map fun i => match f i with | .con (.string s) => s | _ => ByteArray.empty
noncomputable def orcLw : Oracle := fun f args => match f, args with
  | 10, [] => some (db true)
  | 11, [.con (.string d), .con (.int .i64 g)] => some (.tup [strL (walkL g d), di (recLen (walkL g d))])
  | 13, [.slc _ n f, .slc _ m f'] => some (db (sEq n f m f'))
  | 14, [.slc _ n f, .con (.int .i64 c), .con (.int .i64 b)] => some (db (fewB n f c b))
  | 15, [.con (.int .i64 g), .slc _ n f] => some (.tup [ds (bs (recsL g.toNat (lst n f))), .slc 1 (n + 1) (offF (lst n f)), db true])
  | 17, [.con (.int .i64 g), .con (.string p)] => some (.tup [ds (encS g p), di (encE g p)])
  | 16, [.con (.string d), .con (.int .i64 a), .con (.int .i64 g)] => some (.tup [ds (deS d a g), di (deN d a g), di (deE d a g)])
  | 20, [.con (.string d)] => some (.tup [di (gnV d), db (gnB d)])
  | _, _ => none
theorem lst_sAt (l : List ByteArray) : lst l.length (fun i => ds (sAt l i)) = l := by
  unfold lst
  apply List.ext_getElem
  · simp
  · intro i h1 h2
    simp [sAt, h2]
theorem fewB_eq (l : List ByteArray) (c b : Int) : fewB l.length (fun i => ds (sAt l i)) c b = decide ((l.length : Int) ≤ c ∧ ∀ i, i < l.length → ((sAt l i).size : Int) ≤ b) := by
  unfold fewB
  rw [Bool.eq_iff_iff, Bool.and_eq_true, decide_eq_true_eq, decide_eq_true_eq, List.all_eq_true]
  refine and_congr_right fun _ => ⟨fun h i hi => ?_, fun h i hi => ?_⟩
  · have := h i (List.mem_range.2 hi)
    simpa using this
  · have := h i (List.mem_range.1 hi)
    simpa using this
theorem fewB_mem {l : List ByteArray} {c b : Int} (h : fewB l.length (fun i => ds (sAt l i)) c b = true) : (l.length : Int) ≤ c ∧ ∀ p ∈ l, (p.size : Int) ≤ b := by
  rw [fewB_eq, decide_eq_true_eq] at h
  refine ⟨h.1, fun p hp => ?_⟩
  obtain ⟨i, hi, rfl⟩ := List.getElem_of_mem hp
  have := h.2 i hi
  rwa [sAt_get hi] at this
theorem f14' (l : List ByteArray) (c k : Int) (hn : l.length ≤ 9223372036854775807) : FnOK Tryd.prog G 14 [strs l.length (sAt l), di c, di k] (db (fewB l.length (fun i => ds (sAt l i)) c k)) := by
  rw [fewB_eq]
  exact f14 _ _ c k hn
theorem recLen_small {l : List ByteArray} {c : Nat} (h1 : l.length ≤ c) (h2 : ∀ p ∈ l, p.size ≤ 60) : recLen l ≤ c * 170 := by
  have key : ∀ (m : List ByteArray), (∀ p ∈ m, p.size ≤ 60) → recLen m ≤ m.length * 170 := by
    intro m
    induction m with
    | nil => intro _; simp [recLen]
    | cons p m ih =>
      intro h
      have := h p (by simp)
      have := ih fun q hq => h q (by simp [hq])
      simp only [recLen, List.length_cons]; omega
  exact Nat.le_trans (key l h2) (Nat.mul_le_mul_right _ h1)
theorem okGen_iff (g : Int) : okGen g = true ↔ 1 ≤ g ∧ g ≤ 1099511627776 := by
  simp [okGen]
theorem f5 (hT : Tab G) (g h : Int) (l : List ByteArray) (hn : l.length ≤ 9223372036854775807) : FnOK Tryd.prog G 5 [di g, di h, strs l.length (sAt l)] (db true) := by
  refine FnOK.walk (orc := orcLw) (keep := []) follows Tryd.func5 rfl Tryd.call5 ?_
  refine of_eqH (b :=
    (FnOK Tryd.prog G ((10 : Nat)) [] (.con (.bool true)) ∧
    (((false = true) →
    (((.con (.bool false)) : DV) = (db true))) ∧
    ((false = false) →
    (FnOK Tryd.prog G ((14 : Nat)) [(.slc ((1 : Nat)) (List.length l) (fun i => DV.con (Value.string (sAt l i)))), (.con (.int .i64 ((6 : Int)))), (.con (.int .i64 ((60 : Int))))] (.con (.bool (fewB (List.length l) (fun i => DV.con (Value.string (sAt l i))) (6 : Int) (60 : Int)))) ∧
    ((((!fewB (List.length l) (fun i => DV.con (Value.string (sAt l i))) (6 : Int) (60 : Int) || decide (g < (1 : Int)) || decide (g > (1099511627776 : Int)) || h == g) = true) →
    (((.con (.bool true)) : DV) = (db true))) ∧
    (((!fewB (List.length l) (fun i => DV.con (Value.string (sAt l i))) (6 : Int) (60 : Int) || decide (g < (1 : Int)) || decide (g > (1099511627776 : Int)) || h == g) = false) →
    (FnOK Tryd.prog G ((15 : Nat)) [(.con (.int .i64 g)), (.slc ((1 : Nat)) (List.length l) (fun i => DV.con (Value.string (sAt l i))))] (.tup [(.con (.string (bs (recsL (Int.toNat g) (lst (List.length l) fun i => DV.con (Value.string (sAt l i))))))), (.slc ((1 : Nat)) (List.length l + (1 : Nat)) (offF (lst (List.length l) fun i => DV.con (Value.string (sAt l i))))), (.con (.bool true))]) ∧
    (FnOK Tryd.prog G ((11 : Nat)) [(.con (.string (bs (recsL (Int.toNat g) (lst (List.length l) fun i => DV.con (Value.string (sAt l i))))))), (.con (.int .i64 h))] (.tup [(.slc ((1 : Nat)) (List.length (walkL h (bs (recsL (Int.toNat g) (lst (List.length l) fun i => DV.con (Value.string (sAt l i))))))) (rowS (walkL h (bs (recsL (Int.toNat g) (lst (List.length l) fun i => DV.con (Value.string (sAt l i)))))))), (.con (.int .i64 ((↑(recLen (walkL h (bs (recsL (Int.toNat g) (lst (List.length l) fun i => DV.con (Value.string (sAt l i))))))) : Int))))]) ∧
    (FnOK Tryd.prog G ((16 : Nat)) [(.con (.string (bs (recsL (Int.toNat g) (lst (List.length l) fun i => DV.con (Value.string (sAt l i))))))), (.con (.int .i64 ((0 : Int)))), (.con (.int .i64 h))] (.tup [(.con (.string (deS (bs (recsL (Int.toNat g) (lst (List.length l) fun i => DV.con (Value.string (sAt l i))))) (0 : Int) h))), (.con (.int .i64 (deN (bs (recsL (Int.toNat g) (lst (List.length l) fun i => DV.con (Value.string (sAt l i))))) (0 : Int) h))), (.con (.int .i64 (deE (bs (recsL (Int.toNat g) (lst (List.length l) fun i => DV.con (Value.string (sAt l i))))) (0 : Int) h)))]) ∧
    (((.con (.bool (true && (↑(List.length (walkL h (bs (recsL (Int.toNat g) (lst (List.length l) fun i => DV.con (Value.string (sAt l i))))))) : Int) == (0 : Int) && (↑(recLen (walkL h (bs (recsL (Int.toNat g) (lst (List.length l) fun i => DV.con (Value.string (sAt l i))))))) : Int) == (0 : Int) && deE (bs (recsL (Int.toNat g) (lst (List.length l) fun i => DV.con (Value.string (sAt l i))))) (0 : Int) h != (0 : Int)))) : DV) = (db true)))))))))))) (by kernel_rfl) ?_
  simp only [lst_sAt]
  refine ⟨f10 hT, fun h => by simp at h, fun _ => ⟨f14' l 6 60 hn, fun _ => trivial, fun h4 => ?_⟩⟩
  have h4 : fewB l.length (fun i => ds (sAt l i)) 6 60 = true ∧ 1 ≤ g ∧ g ≤ 1099511627776 ∧ h ≠ g := by
    simp at h4
    exact ⟨h4.1.1.1, by omega, by omega, h4.2⟩
  obtain ⟨hf, hg1, hg2, hne⟩ := h4
  obtain ⟨hl1, hl2⟩ := fewB_mem hf
  obtain ⟨g, rfl⟩ := Int.eq_ofNat_of_zero_le (show 0 ≤ g by omega)
  have hg : okGen (g : Int) = true := (okGen_iff _).2 ⟨hg1, hg2⟩
  have hl3 : ∀ p ∈ l, p.size ≤ 60 := fun p hp => by have := hl2 p hp; omega
  have hl4 : ∀ p ∈ l, p.size ≤ 30000 := fun p hp => by have := hl3 p hp; omega
  have hsz : (bs (recsL g l)).size ≤ 1020 := by
    rw [bs_size, recsL_len]
    have := recLen_small (c := 6) (by omega) hl3
    omega
  simp only [Int.toNat_natCast]
  have hnone : ∀ m : Nat, m ≤ 1099511627776 → m ≠ g → decSpec m (recsL g l) = none := by
    intro m hm hne
    cases l with
    | nil => exact decSpec_nil _
    | cons p l => exact decSpec_other (hl4 p (by simp)) (by omega) hm (Ne.symm hne)
  have hO : deO (bs (recsL g l)) 0 h = none := by
    unfold deO
    split
    · rename_i hc
      have := (okGen_iff h).1 hc.1
      obtain ⟨m, rfl⟩ := Int.eq_ofNat_of_zero_le (show 0 ≤ h by omega)
      exact hnone m (by omega) (by omega)
    · rfl
  have hW : walkL h (bs (recsL g l)) = [] := by
    unfold walkL
    split
    · rename_i hc
      have := (okGen_iff h).1 hc
      obtain ⟨m, rfl⟩ := Int.eq_ofNat_of_zero_le (show 0 ≤ h by omega)
      exact walkF_stop (hnone m (by omega) (by omega))
    · rfl
  have h11 := f11 (G := G) (bs (recsL g l)) h (by omega)
  have h16 := f16' (G := G) (bs (recsL g l)) 0 h (by omega)
  have hE := deE_none hO
  refine ⟨f15 g l hg ⟨by omega, hl4⟩, h11, h16, ?_⟩
  rw [hW, hE]
  rfl
theorem walkL_all {g : Nat} (hg : okGen (g : Int) = true) (l : List ByteArray) (hl : ∀ p ∈ l, p.size ≤ 30000) : walkL (g : Int) (bs (recsL g l)) = l := by
  have := walkL_recs (X := []) hg (decSpec_nil g) l hl
  rwa [List.append_nil] at this
theorem genO_recs {g : Nat} (hg : okGen (g : Int) = true) (l : List ByteArray) (hl : ∀ p ∈ l, p.size ≤ 30000) : genO (bs (recsL g l)) = if l = [] then none else some g := by
  cases l with
  | nil => rw [if_pos rfl]; exact genO_short (by rw [bs_size, recsL]; decide)
  | cons p l =>
    rw [if_neg (by simp)]
    have hp := hl p (by simp)
    have hpre : encL g p <+: (bs (recsL g (p :: l))).data.toList := List.prefix_append ..
    obtain ⟨_, _, h3, _⟩ := read_enc hpre
    have hg2 := (okGen_iff _).1 hg
    have hn := numAt_hex h3 (show g < 16 ^ 16 by omega)
    rw [show 17 + 16 = 33 from rfl] at hn
    unfold genO
    rw [hn]
    simp only
    rw [if_pos ⟨hg, by rw [decSpec_some hp hpre]; rfl⟩]
/-- What is read of a front of some records. -/
theorem walkL_front {g : Nat} (hg : okGen (g : Int) = true) (l : List ByteArray) (hl : ∀ p ∈ l, p.size ≤ 30000) {k n : Nat} (hk : k ≤ l.length) (h1 : recLen (l.take k) ≤ n) (h2 : k < l.length → n < recLen (l.take (k + 1))) (h3 : n ≤ recLen l) :
    walkL (g : Int) (bs ((recsL g l).take n)) = l.take k := by
  by_cases hkl : k < l.length
  · rw [recs_take h1 hkl (h2 hkl)]
    have hp : (sAt l k).size ≤ 30000 := by rw [sAt_get hkl]; exact hl _ (List.getElem_mem hkl)
    have e2 : recLen (l.take (k + 1)) = recLen (l.take k) + (50 + 2 * (sAt l k).size) := by
      rw [List.take_succ_eq_append_getElem hkl, recLen_app, sAt_get hkl]; simp [recLen]
    have h2 := h2 hkl
    exact walkL_recs hg (decSpec_front hp (by omega)) _ fun p hp => hl p (List.mem_of_mem_take hp)
  · have : k = l.length := by omega
    subst this
    rw [List.take_length] at h1 ⊢
    rw [List.take_of_length_le (by rw [recsL_len]; exact h1)]
    exact walkL_all hg l hl
theorem sEq_S (l m : List ByteArray) (f : Nat → DV) (hf : ∀ i, i < m.length → f i = ds (sAt m i)) : sEq l.length (rowS l) m.length f = true ↔ l = m := by
  rw [sEq_iff, ← sEq_L l m, sEq_iff]
  refine and_congr_right fun h1 => ⟨fun h i hi => ?_, fun h i hi => ?_⟩
  · rw [h i hi, hf i (by omega), rowS_at (by omega)]
  · rw [h i hi, hf i (by omega), rowS_at (by omega)]
theorem f13S (l m : List ByteArray) (f : Nat → DV) (hf : ∀ i, i < m.length → f i = ds (sAt m i)) (hn : l.length < 1000000) : FnOK Tryd.prog G 13 [strL l, .slc 1 m.length f] (db (sEq l.length (rowS l) m.length f)) :=
  f13g _ _ _ _ (sAt l) (sAt m) (fun _ hi => rowS_at hi) hf hn
noncomputable def S7 (g : Nat) (l : List ByteArray) (e : Nat) (k : Nat) : AS := ⟨regs Tryd.f7.ntmps [(0, vi g), (1, .d (strs l.length (sAt l))), (11, vs (bs (recsL g l))), (12, .d (.slc 1 (l.length + 1) (offF l))), (18, vi e), (19, vi k)], []⟩
theorem f7 (hT : Tab G) (g : Int) (l : List ByteArray) (c : Int) (hn : l.length ≤ 9223372036854775807) (hc : 0 ≤ c ∧ c < 65536) : FnOK Tryd.prog G 7 [di g, strs l.length (sAt l), .con (.int .u16 c)] (db true) := by
  refine FnOK.walk (orc := orcLw) (keep := []) follows Tryd.func7 rfl Tryd.call7 ?_
  refine of_eqH (b :=
    (FnOK Tryd.prog G ((10 : Nat)) [] (.con (.bool true)) ∧
    (((false = true) →
    (((.con (.bool false)) : DV) = (db true))) ∧
    ((false = false) →
    (FnOK Tryd.prog G ((14 : Nat)) [(.slc ((1 : Nat)) (List.length l) (fun i => DV.con (Value.string (sAt l i)))), (.con (.int .i64 ((6 : Int)))), (.con (.int .i64 ((60 : Int))))] (.con (.bool (fewB (List.length l) (fun i => DV.con (Value.string (sAt l i))) (6 : Int) (60 : Int)))) ∧
    ((((!fewB (List.length l) (fun i => DV.con (Value.string (sAt l i))) (6 : Int) (60 : Int)) = true) →
    (((.con (.bool true)) : DV) = (db true))) ∧
    (((!fewB (List.length l) (fun i => DV.con (Value.string (sAt l i))) (6 : Int) (60 : Int)) = false) →
    ((((decide (g < (1 : Int)) || decide (g > (1099511627776 : Int))) = true) →
    (FnOK Tryd.prog G ((17 : Nat)) [(.con (.int .i64 g)), (.con (.string ({ data := #[] })))] (.tup [(.con (.string (encS g { data := #[] }))), (.con (.int .i64 (encE g { data := #[] })))]) ∧
    (FnOK Tryd.prog G ((11 : Nat)) [(.con (.string ({ data := #[(82 : UInt8)] }))), (.con (.int .i64 g))] (.tup [(.slc ((1 : Nat)) (List.length (walkL g { data := #[(82 : UInt8)] })) (rowS (walkL g { data := #[(82 : UInt8)] }))), (.con (.int .i64 ((↑(recLen (walkL g { data := #[(82 : UInt8)] })) : Int))))]) ∧
    (((.con (.bool (encE g { data := #[] } == (2 : Int) && (↑(List.length (walkL g { data := #[(82 : UInt8)] })) : Int) == (0 : Int) && (↑(recLen (walkL g { data := #[(82 : UInt8)] })) : Int) == (0 : Int)))) : DV) = (db true))))) ∧
    (((decide (g < (1 : Int)) || decide (g > (1099511627776 : Int))) = false) →
    (FnOK Tryd.prog G ((15 : Nat)) [(.con (.int .i64 g)), (.slc ((1 : Nat)) (List.length l) (fun i => DV.con (Value.string (sAt l i))))] (.tup [(.con (.string (bs (recsL (Int.toNat g) (lst (List.length l) fun i => DV.con (Value.string (sAt l i))))))), (.slc ((1 : Nat)) (List.length l + (1 : Nat)) (offF (lst (List.length l) fun i => DV.con (Value.string (sAt l i))))), (.con (.bool true))]) ∧
    (((false = true) →
    (((.con (.bool false)) : DV) = (db true))) ∧
    ((false = false) →
    (FnOK Tryd.prog G ((11 : Nat)) [(.con (.string (bs (recsL (Int.toNat g) (lst (List.length l) fun i => DV.con (Value.string (sAt l i))))))), (.con (.int .i64 g))] (.tup [(.slc ((1 : Nat)) (List.length (walkL g (bs (recsL (Int.toNat g) (lst (List.length l) fun i => DV.con (Value.string (sAt l i))))))) (rowS (walkL g (bs (recsL (Int.toNat g) (lst (List.length l) fun i => DV.con (Value.string (sAt l i)))))))), (.con (.int .i64 ((↑(recLen (walkL g (bs (recsL (Int.toNat g) (lst (List.length l) fun i => DV.con (Value.string (sAt l i))))))) : Int))))]) ∧
    (FnOK Tryd.prog G ((13 : Nat)) [(.slc ((1 : Nat)) (List.length (walkL g (bs (recsL (Int.toNat g) (lst (List.length l) fun i => DV.con (Value.string (sAt l i))))))) (rowS (walkL g (bs (recsL (Int.toNat g) (lst (List.length l) fun i => DV.con (Value.string (sAt l i)))))))), (.slc ((1 : Nat)) (List.length l) (fun i => DV.con (Value.string (sAt l i))))] (.con (.bool (sEq (List.length (walkL g (bs (recsL (Int.toNat g) (lst (List.length l) fun i => DV.con (Value.string (sAt l i))))))) (rowS (walkL g (bs (recsL (Int.toNat g) (lst (List.length l) fun i => DV.con (Value.string (sAt l i))))))) (List.length l) fun i => DV.con (Value.string (sAt l i))))) ∧
    (((((!sEq (List.length (walkL g (bs (recsL (Int.toNat g) (lst (List.length l) fun i => DV.con (Value.string (sAt l i))))))) (rowS (walkL g (bs (recsL (Int.toNat g) (lst (List.length l) fun i => DV.con (Value.string (sAt l i))))))) (List.length l) fun i => DV.con (Value.string (sAt l i))) || (↑(recLen (walkL g (bs (recsL (Int.toNat g) (lst (List.length l) fun i => DV.con (Value.string (sAt l i))))))) : Int) != (↑(ByteArray.size (bs (recsL (Int.toNat g) (lst (List.length l) fun i => DV.con (Value.string (sAt l i)))))) : Int)) = true) →
    (((.con (.bool false)) : DV) = (db true))) ∧
    ((((!sEq (List.length (walkL g (bs (recsL (Int.toNat g) (lst (List.length l) fun i => DV.con (Value.string (sAt l i))))))) (rowS (walkL g (bs (recsL (Int.toNat g) (lst (List.length l) fun i => DV.con (Value.string (sAt l i))))))) (List.length l) fun i => DV.con (Value.string (sAt l i))) || (↑(recLen (walkL g (bs (recsL (Int.toNat g) (lst (List.length l) fun i => DV.con (Value.string (sAt l i))))))) : Int) != (↑(ByteArray.size (bs (recsL (Int.toNat g) (lst (List.length l) fun i => DV.con (Value.string (sAt l i)))))) : Int)) = false) →
    (FnOK Tryd.prog G ((20 : Nat)) [(.con (.string (bs (recsL (Int.toNat g) (lst (List.length l) fun i => DV.con (Value.string (sAt l i)))))))] (.tup [(.con (.int .i64 (gnV (bs (recsL (Int.toNat g) (lst (List.length l) fun i => DV.con (Value.string (sAt l i)))))))), (.con (.bool (gnB (bs (recsL (Int.toNat g) (lst (List.length l) fun i => DV.con (Value.string (sAt l i))))))))]) ∧
    ((((!gnB (bs (recsL (Int.toNat g) (lst (List.length l) fun i => DV.con (Value.string (sAt l i))))) == decide ((↑(List.length l) : Int) > (0 : Int)) || gnB (bs (recsL (Int.toNat g) (lst (List.length l) fun i => DV.con (Value.string (sAt l i))))) && gnV (bs (recsL (Int.toNat g) (lst (List.length l) fun i => DV.con (Value.string (sAt l i))))) != g) = true) →
    (((.con (.bool false)) : DV) = (db true))) ∧
    (((!gnB (bs (recsL (Int.toNat g) (lst (List.length l) fun i => DV.con (Value.string (sAt l i))))) == decide ((↑(List.length l) : Int) > (0 : Int)) || gnB (bs (recsL (Int.toNat g) (lst (List.length l) fun i => DV.con (Value.string (sAt l i))))) && gnV (bs (recsL (Int.toNat g) (lst (List.length l) fun i => DV.con (Value.string (sAt l i))))) != g) = false) →
    (((I64 ((↑(ByteArray.size (bs (recsL (Int.toNat g) (lst (List.length l) fun i => DV.con (Value.string (sAt l i)))))) : Int) + (1 : Int))) ∧
    ((↑(ByteArray.size (bs (recsL (Int.toNat g) (lst (List.length l) fun i => DV.con (Value.string (sAt l i)))))) : Int) + (1 : Int) ≠ (0 : Int))) ∧
    AWP Tryd.prog G [.code (cAt (bodyOf Tryd.f7) [1, 1, 1, 1, 1, 1, 1, 1, 1, 1, 1, 0, 0]), (.blk ((0 : Nat))), .code (cAt (bodyOf Tryd.f7) [1, 1, 1, 1, 1, 1, 1, 1, 1, 1, 1, 1])] ⟨[(.d (.con (.int .i64 g))), (.d (.slc ((1 : Nat)) (List.length l) (fun i => DV.con (Value.string (sAt l i))))), (.d (.con (.int .u16 c))), .any, .any, .any, (.d (.con (.bool false))), .any, .any, .any, .any, (.d (.con (.string (bs (recsL (Int.toNat g) (lst (List.length l) fun i => DV.con (Value.string (sAt l i)))))))), (.d (.slc ((1 : Nat)) (List.length l + (1 : Nat)) (offF (lst (List.length l) fun i => DV.con (Value.string (sAt l i)))))), (.d (.con (.bool true))), (.d (.slc ((1 : Nat)) (List.length (walkL g (bs (recsL (Int.toNat g) (lst (List.length l) fun i => DV.con (Value.string (sAt l i))))))) (rowS (walkL g (bs (recsL (Int.toNat g) (lst (List.length l) fun i => DV.con (Value.string (sAt l i))))))))), (.d (.con (.int .i64 ((↑(recLen (walkL g (bs (recsL (Int.toNat g) (lst (List.length l) fun i => DV.con (Value.string (sAt l i))))))) : Int))))), (.d (.con (.int .i64 (gnV (bs (recsL (Int.toNat g) (lst (List.length l) fun i => DV.con (Value.string (sAt l i))))))))), (.d (.con (.bool (gnB (bs (recsL (Int.toNat g) (lst (List.length l) fun i => DV.con (Value.string (sAt l i))))))))), (.d (.con (.int .i64 (Int.tmod (IntKind.wrap IntKind.i64 c) ((↑(ByteArray.size (bs (recsL (Int.toNat g) (lst (List.length l) fun i => DV.con (Value.string (sAt l i)))))) : Int) + (1 : Int)))))), (.d (.con (.int .i64 ((0 : Int))))), (.d (.con (.bool true))), (.d (.con (.bool false))), (.d (.slc ((1 : Nat)) (List.length l) (fun i => DV.con (Value.string (sAt l i))))), (.d (.con (.bool (fewB (List.length l) (fun i => DV.con (Value.string (sAt l i))) (6 : Int) (60 : Int))))), (.d (.con (.bool (!fewB (List.length l) (fun i => DV.con (Value.string (sAt l i))) (6 : Int) (60 : Int))))), (.d (.con (.int .i64 g))), (.d (.con (.bool (decide (g < (1 : Int)))))), (.d (.con (.bool (decide (g < (1 : Int)))))), .any, .any, (.d (.con (.bool (decide (g < (1 : Int)) || decide (g > (1099511627776 : Int)))))), .any, .any, .any, .any, .any, .any, .any, .any, .any, .any, .any, .any, .any, .any, .any, .any, .any, .any, .any, .any, .any, (.d (.tup [(.con (.string (bs (recsL (Int.toNat g) (lst (List.length l) fun i => DV.con (Value.string (sAt l i))))))), (.slc ((1 : Nat)) (List.length l + (1 : Nat)) (offF (lst (List.length l) fun i => DV.con (Value.string (sAt l i))))), (.con (.bool true))])), (.d (.con (.int .i64 g))), (.d (.slc ((1 : Nat)) (List.length l) (fun i => DV.con (Value.string (sAt l i))))), (.d (.tup [(.con (.string (bs (recsL (Int.toNat g) (lst (List.length l) fun i => DV.con (Value.string (sAt l i))))))), (.slc ((1 : Nat)) (List.length l + (1 : Nat)) (offF (lst (List.length l) fun i => DV.con (Value.string (sAt l i))))), (.con (.bool true))])), (.d (.con (.string (bs (recsL (Int.toNat g) (lst (List.length l) fun i => DV.con (Value.string (sAt l i)))))))), (.d (.slc ((1 : Nat)) (List.length l + (1 : Nat)) (offF (lst (List.length l) fun i => DV.con (Value.string (sAt l i)))))), (.d (.con (.bool true))), (.d (.con (.bool true))), (.d (.con (.bool false))), (.d (.tup [(.slc ((1 : Nat)) (List.length (walkL g (bs (recsL (Int.toNat g) (lst (List.length l) fun i => DV.con (Value.string (sAt l i))))))) (rowS (walkL g (bs (recsL (Int.toNat g) (lst (List.length l) fun i => DV.con (Value.string (sAt l i)))))))), (.con (.int .i64 ((↑(recLen (walkL g (bs (recsL (Int.toNat g) (lst (List.length l) fun i => DV.con (Value.string (sAt l i))))))) : Int))))])), (.d (.con (.string (bs (recsL (Int.toNat g) (lst (List.length l) fun i => DV.con (Value.string (sAt l i)))))))), (.d (.con (.int .i64 g))), (.d (.tup [(.slc ((1 : Nat)) (List.length (walkL g (bs (recsL (Int.toNat g) (lst (List.length l) fun i => DV.con (Value.string (sAt l i))))))) (rowS (walkL g (bs (recsL (Int.toNat g) (lst (List.length l) fun i => DV.con (Value.string (sAt l i)))))))), (.con (.int .i64 ((↑(recLen (walkL g (bs (recsL (Int.toNat g) (lst (List.length l) fun i => DV.con (Value.string (sAt l i))))))) : Int))))])), (.d (.slc ((1 : Nat)) (List.length (walkL g (bs (recsL (Int.toNat g) (lst (List.length l) fun i => DV.con (Value.string (sAt l i))))))) (rowS (walkL g (bs (recsL (Int.toNat g) (lst (List.length l) fun i => DV.con (Value.string (sAt l i))))))))), (.d (.con (.int .i64 ((↑(recLen (walkL g (bs (recsL (Int.toNat g) (lst (List.length l) fun i => DV.con (Value.string (sAt l i))))))) : Int))))), (.d (.slc ((1 : Nat)) (List.length (walkL g (bs (recsL (Int.toNat g) (lst (List.length l) fun i => DV.con (Value.string (sAt l i))))))) (rowS (walkL g (bs (recsL (Int.toNat g) (lst (List.length l) fun i => DV.con (Value.string (sAt l i))))))))), (.d (.slc ((1 : Nat)) (List.length l) (fun i => DV.con (Value.string (sAt l i))))), (.d (.con (.bool (sEq (List.length (walkL g (bs (recsL (Int.toNat g) (lst (List.length l) fun i => DV.con (Value.string (sAt l i))))))) (rowS (walkL g (bs (recsL (Int.toNat g) (lst (List.length l) fun i => DV.con (Value.string (sAt l i))))))) (List.length l) fun i => DV.con (Value.string (sAt l i)))))), (.d (.con (.bool (!sEq (List.length (walkL g (bs (recsL (Int.toNat g) (lst (List.length l) fun i => DV.con (Value.string (sAt l i))))))) (rowS (walkL g (bs (recsL (Int.toNat g) (lst (List.length l) fun i => DV.con (Value.string (sAt l i))))))) (List.length l) fun i => DV.con (Value.string (sAt l i)))))), (.d (.con (.bool (!sEq (List.length (walkL g (bs (recsL (Int.toNat g) (lst (List.length l) fun i => DV.con (Value.string (sAt l i))))))) (rowS (walkL g (bs (recsL (Int.toNat g) (lst (List.length l) fun i => DV.con (Value.string (sAt l i))))))) (List.length l) fun i => DV.con (Value.string (sAt l i)))))), .any, .any, .any, .any, (.d (.con (.bool ((!sEq (List.length (walkL g (bs (recsL (Int.toNat g) (lst (List.length l) fun i => DV.con (Value.string (sAt l i))))))) (rowS (walkL g (bs (recsL (Int.toNat g) (lst (List.length l) fun i => DV.con (Value.string (sAt l i))))))) (List.length l) fun i => DV.con (Value.string (sAt l i))) || (↑(recLen (walkL g (bs (recsL (Int.toNat g) (lst (List.length l) fun i => DV.con (Value.string (sAt l i))))))) : Int) != (↑(ByteArray.size (bs (recsL (Int.toNat g) (lst (List.length l) fun i => DV.con (Value.string (sAt l i)))))) : Int))))), (.d (.tup [(.con (.int .i64 (gnV (bs (recsL (Int.toNat g) (lst (List.length l) fun i => DV.con (Value.string (sAt l i)))))))), (.con (.bool (gnB (bs (recsL (Int.toNat g) (lst (List.length l) fun i => DV.con (Value.string (sAt l i))))))))])), (.d (.con (.string (bs (recsL (Int.toNat g) (lst (List.length l) fun i => DV.con (Value.string (sAt l i)))))))), (.d (.tup [(.con (.int .i64 (gnV (bs (recsL (Int.toNat g) (lst (List.length l) fun i => DV.con (Value.string (sAt l i)))))))), (.con (.bool (gnB (bs (recsL (Int.toNat g) (lst (List.length l) fun i => DV.con (Value.string (sAt l i))))))))])), (.d (.con (.int .i64 (gnV (bs (recsL (Int.toNat g) (lst (List.length l) fun i => DV.con (Value.string (sAt l i))))))))), (.d (.con (.bool (gnB (bs (recsL (Int.toNat g) (lst (List.length l) fun i => DV.con (Value.string (sAt l i))))))))), (.d (.con (.bool (gnB (bs (recsL (Int.toNat g) (lst (List.length l) fun i => DV.con (Value.string (sAt l i))))))))), (.d (.slc ((1 : Nat)) (List.length l) (fun i => DV.con (Value.string (sAt l i))))), (.d (.con (.int .i64 ((↑(List.length l) : Int))))), (.d (.con (.bool (decide ((↑(List.length l) : Int) > (0 : Int)))))), (.d (.con (.bool (!gnB (bs (recsL (Int.toNat g) (lst (List.length l) fun i => DV.con (Value.string (sAt l i))))) == decide ((↑(List.length l) : Int) > (0 : Int)))))), (.d (.con (.bool (!gnB (bs (recsL (Int.toNat g) (lst (List.length l) fun i => DV.con (Value.string (sAt l i))))) == decide ((↑(List.length l) : Int) > (0 : Int)))))), .any, .any, .any, .any, .any, .any, (.d (.con (.bool (!gnB (bs (recsL (Int.toNat g) (lst (List.length l) fun i => DV.con (Value.string (sAt l i))))) == decide ((↑(List.length l) : Int) > (0 : Int)) || gnB (bs (recsL (Int.toNat g) (lst (List.length l) fun i => DV.con (Value.string (sAt l i))))) && gnV (bs (recsL (Int.toNat g) (lst (List.length l) fun i => DV.con (Value.string (sAt l i))))) != g)))), (.d (.con (.int .u16 c))), (.d (.con (.int .i64 (IntKind.wrap IntKind.i64 c)))), (.d (.con (.string (bs (recsL (Int.toNat g) (lst (List.length l) fun i => DV.con (Value.string (sAt l i)))))))), (.d (.con (.int .i64 ((↑(ByteArray.size (bs (recsL (Int.toNat g) (lst (List.length l) fun i => DV.con (Value.string (sAt l i)))))) : Int))))), (.d (.con (.int .i64 ((↑(ByteArray.size (bs (recsL (Int.toNat g) (lst (List.length l) fun i => DV.con (Value.string (sAt l i)))))) : Int) + (1 : Int))))), (.d (.con (.int .i64 (Int.tmod (IntKind.wrap IntKind.i64 c) ((↑(ByteArray.size (bs (recsL (Int.toNat g) (lst (List.length l) fun i => DV.con (Value.string (sAt l i)))))) : Int) + (1 : Int)))))), .any, .any, .any, .any, .any, .any, .any, .any, .any, .any, .any, .any, .any, .any, .any, .any, .any, .any, .any, .any, .any, .any, .any, .any, .any, .any, .any, .any, .any, .any, .any, .any, .any, .any, .any, .any, .any], []⟩ (Ret Tryd.prog Tryd.f7 (db true)))))))))))))))))))))) (by kernel_rfl) ?_
  simp only [lst_sAt]
  refine ⟨f10 hT, fun h => by simp at h, fun _ => ⟨f14' l 6 60 hn, fun _ => trivial, fun h4 => ⟨fun h5 => ?_, fun h5 => ?_⟩⟩⟩
  · have hg : okGen g = false := by
      rw [Bool.eq_false_iff]
      intro hc
      have := (okGen_iff g).1 hc
      simp at h5
      omega
    have hW : walkL g { data := #[82] } = [] := by
      unfold walkL; rw [hg]; rfl
    have hE : encE g { data := #[] } = 2 := by
      unfold encE; rw [hg]; rfl
    have h17 := f17' (G := G) g { data := #[] }
    have h11 := f11 (G := G) { data := #[82] } g (by decide)
    refine ⟨h17, h11, ?_⟩
    rw [hW, hE]; rfl
  · have hf : fewB l.length (fun i => ds (sAt l i)) 6 60 = true := by simpa using h4
    have h5 : 1 ≤ g ∧ g ≤ 1099511627776 := by simp at h5; omega
    obtain ⟨hl1, hl2⟩ := fewB_mem hf
    obtain ⟨g, rfl⟩ := Int.eq_ofNat_of_zero_le (show 0 ≤ g by omega)
    have hg : okGen (g : Int) = true := (okGen_iff _).2 h5
    have hl3 : ∀ p ∈ l, p.size ≤ 60 := fun p hp => by have := hl2 p hp; omega
    have hl4 : ∀ p ∈ l, p.size ≤ 30000 := fun p hp => by have := hl3 p hp; omega
    have hrs : recLen l ≤ 1020 := by
      have := recLen_small (c := 6) (by omega) hl3
      omega
    have hsz : (bs (recsL g l)).size = recLen l := by rw [bs_size, recsL_len]
    have hW := walkL_all hg l hl4
    have h11 := f11 (G := G) (bs (recsL g l)) (g : Int) (by omega)
    have h13 := f13S (G := G) l l (fun i => ds (sAt l i)) (fun _ _ => rfl) (by omega)
    have hseq := (sEq_S l l (fun i => ds (sAt l i)) (fun _ _ => rfl)).2 rfl
    rw [hW] at h11
    rw [hseq] at h13
    have hgo := genO_recs hg l hl4
    have h20 := f20' (G := G) (bs (recsL g l)) (by omega)
    have ecw : IntKind.wrap .i64 c = c := IntWalk.i64_in _ ⟨by omega, by omega⟩
    simp only [Int.toNat_natCast]
    rw [hW, hseq, hsz, ecw]
    refine ⟨f15 g l hg ⟨by omega, hl4⟩, fun h => by simp at h, fun _ => ⟨h11, h13, fun h => ?_, fun _ => ⟨h20, fun h => ?_, fun _ => ?_⟩⟩⟩
    · simp at h
    · by_cases hl0 : l = []
      · have hb : gnB (bs (recsL g l)) = false := by unfold gnB; rw [hgo, if_pos hl0]; rfl
        rw [hb] at h
        subst hl0
        simp at h
      · have hb : gnB (bs (recsL g l)) = true := by unfold gnB; rw [hgo, if_neg hl0]; rfl
        have hv : gnV (bs (recsL g l)) = (g : Int) := by unfold gnV; rw [hgo, if_neg hl0]; rfl
        have : 0 < l.length := List.length_pos_iff.2 hl0
        have hd : decide ((l.length : Int) > 0) = true := by simp; omega
        rw [hb, hv, hd] at h
        simp at h
    · refine ⟨⟨⟨by omega, by omega⟩, by omega⟩, ?_⟩
      obtain ⟨e, he⟩ := Int.eq_ofNat_of_zero_le (show 0 ≤ Int.tmod c ((recLen l : Int) + 1) by
        exact Int.tmod_nonneg _ hc.1)
      have hele : e ≤ recLen l := by
        have := Int.tmod_lt_of_pos c (show (0 : Int) < (recLen l : Int) + 1 by omega)
        omega
      rw [he]
      refine AWP.loop (c := cAt (bodyOf Tryd.f7) [1, 1, 1, 1, 1, 1, 1, 1, 1, 1, 1, 0, 0, 0]) (by kernel_rfl) (S7 g l e) (fun k => k ≤ l.length ∧ recLen (l.take k) ≤ e) (fun k => l.length - k) 0 ?_ ⟨Nat.zero_le _, Nat.zero_le _⟩ ?_
      · refine of_eq (b :=
        (((((.d (.con (.int .i64 ((↑g : Int))))) : AV) = (.d (.con (.int .i64 ((↑g : Int)))))) ∧
        ((((.d (.slc ((1 : Nat)) (List.length l) (fun i => DV.con (Value.string (sAt l i))))) : AV) = (.d (.slc ((1 : Nat)) (List.length l) (fun i => DV.con (Value.string (sAt l i)))))) ∧
        ((((.d (.con (.string (bs (recsL g l))))) : AV) = (.d (.con (.string (bs (recsL g l)))))) ∧
        ((((.d (.slc ((1 : Nat)) (List.length l + (1 : Nat)) (offF l))) : AV) = (.d (.slc ((1 : Nat)) (List.length l + (1 : Nat)) (offF l)))) ∧
        ((((.d (.con (.int .i64 ((↑e : Int))))) : AV) = (.d (.con (.int .i64 ((↑e : Int)))))) ∧
        ((((.d (.con (.int .i64 ((0 : Int))))) : AV) = (.d (.con (.int .i64 ((0 : Int)))))) ∧
        True)))))) ∧
        True)) (by kernel_rfl) ?_
        exact ⟨⟨rfl, rfl, rfl, rfl, rfl, rfl, trivial⟩, trivial⟩
      · rintro k ⟨hk, hke⟩
        refine walk (orc := orcLw) (keep := []) (cuts := []) (n := 1000) follows ?_
        refine of_eqH (b :=
          (((I64 ((↑k : Int) + (1 : Int))) ∧
          ((((decide ((↑k : Int) + (1 : Int) < (↑(List.length l + (1 : Nat)) : Int))) = true) →
          (I64 ((↑k : Int) + (1 : Int)))) ∧
          (((decide ((↑k : Int) + (1 : Int) < (↑(List.length l + (1 : Nat)) : Int))) = true) →
          (((0 : Int) ≤ (↑k : Int) + (1 : Int)) ∧
          ((↑k : Int) + (1 : Int) < (↑(List.length l + (1 : Nat)) : Int)))))) ∧
          ((((decide ((↑k : Int) + (1 : Int) < (↑(List.length l + (1 : Nat)) : Int)) && decide ((↑(recLen (List.take (Int.toNat ((↑k : Int) + (1 : Int))) l)) : Int) ≤ (↑e : Int))) = true) →
          ((I64 ((↑k : Int) + (1 : Int))) ∧
          Again (S7 g l e) (fun k => k ≤ List.length l ∧ recLen (List.take k l) ≤ e) (fun k => List.length l - k) k ⟨[(.d (.con (.int .i64 ((↑g : Int))))), (.d (.slc ((1 : Nat)) (List.length l) (fun i => DV.con (Value.string (sAt l i))))), .any, .any, .any, .any, .any, .any, .any, .any, .any, (.d (.con (.string (bs (recsL g l))))), (.d (.slc ((1 : Nat)) (List.length l + (1 : Nat)) (offF l))), .any, .any, .any, .any, .any, (.d (.con (.int .i64 ((↑e : Int))))), (.d (.con (.int .i64 ((↑k : Int) + (1 : Int))))), .any, .any, .any, .any, .any, .any, .any, .any, .any, .any, .any, .any, .any, .any, .any, .any, .any, .any, .any, .any, .any, .any, .any, .any, .any, .any, .any, .any, .any, .any, .any, .any, .any, .any, .any, .any, .any, .any, .any, .any, .any, .any, .any, .any, .any, .any, .any, .any, .any, .any, .any, .any, .any, .any, .any, .any, .any, .any, .any, .any, .any, .any, .any, .any, .any, .any, .any, .any, .any, .any, .any, .any, .any, .any, .any, .any, .any, .any, .any, .any, .any, (.d (.con (.int .i64 ((↑k : Int))))), (.d (.con (.int .i64 ((↑k : Int) + (1 : Int))))), (.d (.slc ((1 : Nat)) (List.length l + (1 : Nat)) (offF l))), (.d (.con (.int .i64 ((↑(List.length l + (1 : Nat)) : Int))))), (.d (.con (.bool (decide ((↑k : Int) + (1 : Int) < (↑(List.length l + (1 : Nat)) : Int)))))), (.d (.con (.bool (decide ((↑k : Int) + (1 : Int) < (↑(List.length l + (1 : Nat)) : Int)))))), .any, .any, .any, .any, .any, .any, .any, (.d (.con (.bool (decide ((↑k : Int) + (1 : Int) < (↑(List.length l + (1 : Nat)) : Int)) && decide ((↑(recLen (List.take (Int.toNat ((↑k : Int) + (1 : Int))) l)) : Int) ≤ (↑e : Int)))))), (.d (.con (.int .i64 ((↑k : Int))))), (.d (.con (.int .i64 ((↑k : Int) + (1 : Int))))), .any, .any, .any, .any, .any, .any, .any, .any, .any, .any, .any, .any, .any, .any, .any, .any, .any, .any, .any, .any, .any], []⟩)) ∧
          (((decide ((↑k : Int) + (1 : Int) < (↑(List.length l + (1 : Nat)) : Int)) && decide ((↑(recLen (List.take (Int.toNat ((↑k : Int) + (1 : Int))) l)) : Int) ≤ (↑e : Int))) = false) →
          AWP Tryd.prog G [.code (cAt (bodyOf Tryd.f7) [1, 1, 1, 1, 1, 1, 1, 1, 1, 1, 1, 1])] ⟨[(.d (.con (.int .i64 ((↑g : Int))))), (.d (.slc ((1 : Nat)) (List.length l) (fun i => DV.con (Value.string (sAt l i))))), .any, .any, .any, .any, .any, .any, .any, .any, .any, (.d (.con (.string (bs (recsL g l))))), (.d (.slc ((1 : Nat)) (List.length l + (1 : Nat)) (offF l))), .any, .any, .any, .any, .any, (.d (.con (.int .i64 ((↑e : Int))))), (.d (.con (.int .i64 ((↑k : Int))))), .any, .any, .any, .any, .any, .any, .any, .any, .any, .any, .any, .any, .any, .any, .any, .any, .any, .any, .any, .any, .any, .any, .any, .any, .any, .any, .any, .any, .any, .any, .any, .any, .any, .any, .any, .any, .any, .any, .any, .any, .any, .any, .any, .any, .any, .any, .any, .any, .any, .any, .any, .any, .any, .any, .any, .any, .any, .any, .any, .any, .any, .any, .any, .any, .any, .any, .any, .any, .any, .any, .any, .any, .any, .any, .any, .any, .any, .any, .any, .any, .any, (.d (.con (.int .i64 ((↑k : Int))))), (.d (.con (.int .i64 ((↑k : Int) + (1 : Int))))), (.d (.slc ((1 : Nat)) (List.length l + (1 : Nat)) (offF l))), (.d (.con (.int .i64 ((↑(List.length l + (1 : Nat)) : Int))))), (.d (.con (.bool (decide ((↑k : Int) + (1 : Int) < (↑(List.length l + (1 : Nat)) : Int)))))), (.d (.con (.bool (decide ((↑k : Int) + (1 : Int) < (↑(List.length l + (1 : Nat)) : Int)))))), (.gate ((106 : Nat)) true (decide ((↑k : Int) + (1 : Int) < (↑(List.length l + (1 : Nat)) : Int))) (.d (.slc ((1 : Nat)) (List.length l + (1 : Nat)) (offF l)))), (.gate ((106 : Nat)) true (decide ((↑k : Int) + (1 : Int) < (↑(List.length l + (1 : Nat)) : Int))) (.d (.con (.int .i64 ((↑k : Int)))))), (.gate ((106 : Nat)) true (decide ((↑k : Int) + (1 : Int) < (↑(List.length l + (1 : Nat)) : Int))) (.d (.con (.int .i64 ((↑k : Int) + (1 : Int)))))), (.gate ((106 : Nat)) true (decide ((↑k : Int) + (1 : Int) < (↑(List.length l + (1 : Nat)) : Int))) (.d (.ptr [(.con (.int .i64 ((↑(recLen (List.take (Int.toNat ((↑k : Int) + (1 : Int))) l)) : Int))))]))), (.gate ((106 : Nat)) true (decide ((↑k : Int) + (1 : Int) < (↑(List.length l + (1 : Nat)) : Int))) (.d (.con (.int .i64 ((↑(recLen (List.take (Int.toNat ((↑k : Int) + (1 : Int))) l)) : Int)))))), (.gate ((106 : Nat)) true (decide ((↑k : Int) + (1 : Int) < (↑(List.length l + (1 : Nat)) : Int))) (.d (.con (.int .i64 ((↑e : Int)))))), (.gate ((106 : Nat)) true (decide ((↑k : Int) + (1 : Int) < (↑(List.length l + (1 : Nat)) : Int))) (.d (.con (.bool (decide ((↑(recLen (List.take (Int.toNat ((↑k : Int) + (1 : Int))) l)) : Int) ≤ (↑e : Int))))))), (.d (.con (.bool (decide ((↑k : Int) + (1 : Int) < (↑(List.length l + (1 : Nat)) : Int)) && decide ((↑(recLen (List.take (Int.toNat ((↑k : Int) + (1 : Int))) l)) : Int) ≤ (↑e : Int)))))), .any, .any, .any, .any, .any, .any, .any, .any, .any, .any, .any, .any, .any, .any, .any, .any, .any, .any, .any, .any, .any, .any, .any], []⟩ (Ret Tryd.prog Tryd.f7 (db true)))))) (by kernel_rfl) ?_
        have ek : Int.toNat ((k : Int) + 1) = k + 1 := by omega
        rw [ek]
        refine ⟨⟨⟨by omega, by omega⟩, fun _ => ⟨by omega, by omega⟩, fun h => ?_⟩, fun h => ?_, fun h => ?_⟩
        · simp at h; omega
        · have h : k < l.length ∧ recLen (l.take (k + 1)) ≤ e := by simp at h; omega
          refine ⟨⟨by omega, by omega⟩, Again.mk (k + 1) ?_ ⟨by omega, h.2⟩ (by omega)⟩
          refine of_eq (b :=
            (((((.d (.con (.int .i64 ((↑g : Int))))) : AV) = (.d (.con (.int .i64 ((↑g : Int)))))) ∧
            ((((.d (.slc ((1 : Nat)) (List.length l) (fun i => DV.con (Value.string (sAt l i))))) : AV) = (.d (.slc ((1 : Nat)) (List.length l) (fun i => DV.con (Value.string (sAt l i)))))) ∧
            ((((.d (.con (.string (bs (recsL g l))))) : AV) = (.d (.con (.string (bs (recsL g l)))))) ∧
            ((((.d (.slc ((1 : Nat)) (List.length l + (1 : Nat)) (offF l))) : AV) = (.d (.slc ((1 : Nat)) (List.length l + (1 : Nat)) (offF l)))) ∧
            ((((.d (.con (.int .i64 ((↑e : Int))))) : AV) = (.d (.con (.int .i64 ((↑e : Int)))))) ∧
            ((((.d (.con (.int .i64 ((↑k : Int) + (1 : Int))))) : AV) = (.d (.con (.int .i64 ((↑(k + (1 : Nat)) : Int)))))) ∧
            True)))))) ∧
            True)) (by kernel_rfl) ?_
          exact ⟨⟨rfl, rfl, rfl, rfl, rfl, rfl, trivial⟩, trivial⟩
        · have h : k < l.length → e < recLen (l.take (k + 1)) := by
            intro h2
            simp at h; omega
          refine walk (orc := orcLw) (keep := []) (cuts := []) (n := 1000) follows ?_
          refine of_eqH (b :=
            (((((0 : Int) ≤ (0 : Int)) ∧
            (((0 : Int) ≤ (↑e : Int)) ∧
            ((↑e : Int) ≤ (↑(ByteArray.size (bs (recsL g l))) : Int)))) ∧
            FnOK Tryd.prog G ((11 : Nat)) [(.con (.string (ByteArray.extract (bs (recsL g l)) (Int.toNat (0 : Int)) (Int.toNat (↑e : Int))))), (.con (.int .i64 ((↑g : Int))))] (.tup [(.slc ((1 : Nat)) (List.length (walkL (↑g : Int) (ByteArray.extract (bs (recsL g l)) (Int.toNat (0 : Int)) (Int.toNat (↑e : Int))))) (rowS (walkL (↑g : Int) (ByteArray.extract (bs (recsL g l)) (Int.toNat (0 : Int)) (Int.toNat (↑e : Int)))))), (.con (.int .i64 ((↑(recLen (walkL (↑g : Int) (ByteArray.extract (bs (recsL g l)) (Int.toNat (0 : Int)) (Int.toNat (↑e : Int))))) : Int))))])) ∧
            (((((0 : Int) ≤ (0 : Int)) ∧
            (((0 : Int) ≤ (↑k : Int)) ∧
            ((↑k : Int) ≤ (↑(List.length l) : Int)))) ∧
            (FnOK Tryd.prog G ((13 : Nat)) [(.slc ((1 : Nat)) (List.length (walkL (↑g : Int) (ByteArray.extract (bs (recsL g l)) (Int.toNat (0 : Int)) (Int.toNat (↑e : Int))))) (rowS (walkL (↑g : Int) (ByteArray.extract (bs (recsL g l)) (Int.toNat (0 : Int)) (Int.toNat (↑e : Int)))))), (.slc ((1 : Nat)) (Int.toNat ((↑k : Int) - (0 : Int))) (fun i => DV.con (Value.string (sAt l (Int.toNat (0 : Int) + i)))))] (.con (.bool (sEq (List.length (walkL (↑g : Int) (ByteArray.extract (bs (recsL g l)) (Int.toNat (0 : Int)) (Int.toNat (↑e : Int))))) (rowS (walkL (↑g : Int) (ByteArray.extract (bs (recsL g l)) (Int.toNat (0 : Int)) (Int.toNat (↑e : Int))))) (Int.toNat ((↑k : Int) - (0 : Int))) fun i => DV.con (Value.string (sAt l (Int.toNat (0 : Int) + i)))))) ∧
            (((sEq (List.length (walkL (↑g : Int) (ByteArray.extract (bs (recsL g l)) (Int.toNat (0 : Int)) (Int.toNat (↑e : Int))))) (rowS (walkL (↑g : Int) (ByteArray.extract (bs (recsL g l)) (Int.toNat (0 : Int)) (Int.toNat (↑e : Int))))) (Int.toNat ((↑k : Int) - (0 : Int))) fun i => DV.con (Value.string (sAt l (Int.toNat (0 : Int) + i)))) = true) →
            (((0 : Int) ≤ (↑k : Int)) ∧
            ((↑k : Int) < (↑(List.length l + (1 : Nat)) : Int)))))) ∧
            (((.con (.bool ((sEq (List.length (walkL (↑g : Int) (ByteArray.extract (bs (recsL g l)) (Int.toNat (0 : Int)) (Int.toNat (↑e : Int))))) (rowS (walkL (↑g : Int) (ByteArray.extract (bs (recsL g l)) (Int.toNat (0 : Int)) (Int.toNat (↑e : Int))))) (Int.toNat ((↑k : Int) - (0 : Int))) fun i => DV.con (Value.string (sAt l (Int.toNat (0 : Int) + i)))) && (↑(recLen (walkL (↑g : Int) (ByteArray.extract (bs (recsL g l)) (Int.toNat (0 : Int)) (Int.toNat (↑e : Int))))) : Int) == (↑(recLen (List.take (Int.toNat (↑k : Int)) l)) : Int)))) : DV) = (db true))))) (by kernel_rfl) ?_
          have e0 : Int.toNat (0 : Int) = 0 := rfl
          have ek0 : Int.toNat ((k : Int) - 0) = k := by omega
          have eX : (bs (recsL g l)).extract 0 e = bs ((recsL g l).take e) := by rw [extract_bs, List.drop_zero, Nat.sub_zero]; rfl
          have hF := walkL_front hg l hl4 hk hke h hele
          have hlk : (l.take k).length = k := by rw [List.length_take]; omega
          have hfs : ∀ i, i < (l.take k).length → ds (sAt l (0 + i)) = ds (sAt (l.take k) i) := fun i hi => by
            rw [Nat.zero_add]
            simp only [sAt, List.getD_eq_getElem?_getD, List.getElem?_take]
            rw [if_pos (by omega)]
          have h11 := f11 (G := G) (bs ((recsL g l).take e)) (g : Int) (by rw [bs_size, List.length_take, recsL_len]; omega)
          have h13 := f13S (G := G) (l.take k) (l.take k) (fun i => ds (sAt l (0 + i))) hfs (by omega)
          have hseq := (sEq_S (l.take k) (l.take k) (fun i => ds (sAt l (0 + i))) hfs).2 rfl
          rw [hseq] at h13
          rw [hF] at h11
          unfold strL at h11 h13
          simp only [hlk] at h11 h13 hseq
          simp only [Int.toNat_natCast, ek0, e0, eX, hF, hlk, hseq, hsz]
          exact ⟨⟨⟨by omega, by omega, by omega⟩, h11⟩, ⟨⟨by omega, by omega, by omega⟩, h13, fun _ => ⟨by omega, by omega⟩⟩, by simp⟩
end Go.Proofs
