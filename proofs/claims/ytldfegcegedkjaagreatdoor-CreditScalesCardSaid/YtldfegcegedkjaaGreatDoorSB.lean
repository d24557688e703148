import Derived.Test.YtldfegcegedkjaaGreatDoorAcC
import Derived.Test.YtldfegcegedkjaaGreatDoorSA
import Derived.Test.YtldfegcegedkjaaGreatDoorFB
import Derived.Test.YtldfegcegedkjaaGreatDoorZB
set_option autoImplicit false
namespace Go.Proofs
open Go Go.Ab Go.RowKit
set_option maxHeartbeats 2000000
set_option maxRecDepth 100000
variable {G : IH}
def orcRq (M : PL) : Oracle := fun f a => match f, a with
  | 48, [.con (.string s)] => some (db (nameB s))
  | 52, [_] => some (.tup [fr (sm1 M) (sm2 M), di (sm3 M)])
  | 41, [fr a b] => some (.tup [di (hunF a b), db (ok a b)])
  | _, _ => none
theorem f52r (M : PL) (hM : M.length ≤ 1000000) (f : Nat → DV) (hf : ∀ i, i < M.length → f i = frR M i) : FnOK Tryz.prog G 52 [.slc 2 M.length f] (.tup [fr (sm1 M) (sm2 M), di (sm3 M)]) :=
  (f52 M hM).args fun _ => DV.rels_cons (fun _ h => DV.rel_slc_congr (fun i hi => by
    rw [hf i hi]
    unfold frR
    rw [List.getElem?_eq_getElem hi]
    show _ = fr (M.getD i (0, 0)).1 (M.getD i (0, 0)).2
    rw [List.getD, List.getElem?_eq_getElem hi]; rfl) h) (fun _ h => h)
theorem f41' (n d : Int) : FnOK Tryz.prog G 41 [fr n d] (.tup [di (hunF n d), db (ok n d)]) := f41 n d
theorem lessB_neg {p q : Int} (h : ok p q = true) : lessB p q 0 1 = decide (p < 0) := by
  have h1 := less_iff h ok01
  have h2 := qv_lt (a := p) (b := q) (c := 0) (d := 1) (ok_pos h) (by decide)
  rw [Bool.eq_iff_iff, decide_eq_true_eq, h1, h2]
  constructor <;> intro h3 <;> omega
noncomputable def S25 (PS : List Pt) (p q h : Int) (x : Nat × (Nat → DV)) : AS := ⟨regs Tryz.f25.ntmps [(1, .box 1 0), (3, .vec 900 2 0 x.1), (4, vi x.1)], [(1, [.d (.slc 3 PS.length (ptF PS)), vi p, vi q, vi h]), (900, [.arr frK 2 x.2])]⟩
theorem row_next {f g : Nat → DV} {k : Nat} {agg : Bool} {sz : Nat} {l : List DV} (hf : ∀ i, i < k → f i = g i) (hk : elemF agg sz l 0 = g k) : ∀ i, i < k + 1 → (bif Nat.blt i k then f i else elemF agg sz l (i - k)) = g i := by
  intro i hi
  cases hb : Nat.blt i k with
  | true => rw [Nat.blt_eq] at hb; exact hf i hb
  | false =>
    have hb : ¬ i < k := by rw [← Nat.blt_eq, hb]; decide
    obtain rfl : i = k := by omega
    rw [Nat.sub_self]; exact hk
theorem f25 (PS : List Pt) (p q h : Int) (hS : ShortP PS) (hl : PS.length ≤ 1000000) : FnOK Tryz.prog G 25 [crV PS p q h] (db (vB PS p q h)) := by
  refine FnOK.walk (orc := orcRq (effs PS)) (keep := []) follows Tryz.func25 rfl Tryz.call25 ?_
  refine of_eqH (b :=
    ((((decide ((↑(List.length PS) : Int) > (1024 : Int))) = true) →
    (((db false) : DV) = (db (vB PS p q h)))) ∧
    (((decide ((↑(List.length PS) : Int) > (1024 : Int))) = false) →
    AWP Tryz.prog G [.code (cAt (bodyOf Tryz.f25) [1, 1, 1, 0, 1, 0]), (.blk 0), .code (cAt (bodyOf Tryz.f25) [1, 1, 1, 1])] ⟨regs 76 [(0, (.d (.agg [(.slc 3 (List.length PS) (ptF PS)), (di p), (di q), (di h)]))), (1, (.box 1 0)), (2, (vb false)), (3, (.vec 13 2 0 0)), (4, (vi 0)), (9, (.box 1 0)), (10, (.d (.slc 3 (List.length PS) (ptF PS)))), (11, (vi ((↑(List.length PS) : Int)))), (12, (vb (decide ((↑(List.length PS) : Int) > (1024 : Int))))), (13, (.vec 13 2 0 0))], [(13, [(.arr ⟨true, 27, false, none⟩ 2 (fun x => DV.con undef))]), (1, [(.d (.slc 3 (List.length PS) (ptF PS))), (vi p), (vi q), (vi h)])]⟩ (Ret Tryz.prog Tryz.f25 (db (vB PS p q h)))))) (by kernel_rfl) ?_
  refine ⟨fun h1 => ?_, fun h1 => ?_⟩
  · rw [vB_long (by simp only [decide_eq_true_eq] at h1; omega)]
  have el : (effs PS).length = PS.length := by unfold effs; rw [List.length_map]
  refine AWP.pre (.moves [(13, 900)] _ rfl) ?_
  refine AWP.loop (c := cAt (bodyOf Tryz.f25) [1, 1, 1, 0, 1, 0, 0]) (by kernel_rfl) (S25 PS p q h) (fun x => x.1 ≤ PS.length ∧ (∀ i, i < x.1 → nameB (PS.getD i (.empty, 0, 0)).1 = true) ∧ ∀ i, i < x.1 → x.2 i = frR (effs PS) i) (fun x => PS.length - x.1) (0, fun _ => DV.con undef) ?_ ⟨Nat.zero_le _, fun i hi => absurd hi (Nat.not_lt_zero _), fun i hi => absurd hi (Nat.not_lt_zero _)⟩ ?_
  · refine of_eq (b :=
    (((((.box 1 0) : AV) = (.box 1 0)) ∧
    ((((.vec 900 2 0 0) : AV) = (.vec 900 2 0 0)) ∧
    ((((vi 0) : AV) = (vi 0)) ∧
    True))) ∧
    ((((some [(.d (.slc 3 (List.length PS) (ptF PS))), (vi p), (vi q), (vi h)]) : (Option (List AV))) = (some [(.d (.slc 3 (List.length PS) (ptF PS))), (vi p), (vi q), (vi h)])) ∧
    ((((some [(.arr ⟨true, 27, false, none⟩ 2 (fun x => DV.con undef))]) : (Option (List AV))) = (some [(.arr ⟨true, 27, false, none⟩ 2 (fun x => DV.con undef))])) ∧
    True)))) (by kernel_rfl) ?_
    exact ⟨⟨rfl, rfl, rfl, trivial⟩, rfl, rfl, trivial⟩
  · rintro ⟨k, f⟩ ⟨hk, hkd, hkf⟩
    simp only at hk hkd hkf
    refine walk (orc := orcRq (effs PS)) (keep := []) (cuts := []) (n := 1000) follows ?_
    refine of_eqH (b :=
      ((((decide ((↑k : Int) < (↑(List.length PS) : Int))) = true) →
      (((((0 : Int) ≤ (↑k : Int)) ∧
      ((↑k : Int) < (↑(List.length PS) : Int))) ∧
      FnOK Tryz.prog G 48 [(ds (Prod.fst (List.getD PS (Int.toNat (↑k : Int)) (ByteArray.empty, (0 : Int), (0 : Int)))))] (db (nameB (Prod.fst (List.getD PS (Int.toNat (↑k : Int)) (ByteArray.empty, (0 : Int), (0 : Int))))))) ∧
      ((((!nameB (Prod.fst (List.getD PS (Int.toNat (↑k : Int)) (ByteArray.empty, (0 : Int), (0 : Int))))) = true) →
      (((db false) : DV) = (db (vB PS p q h)))) ∧
      (((!nameB (Prod.fst (List.getD PS (Int.toNat (↑k : Int)) (ByteArray.empty, (0 : Int), (0 : Int))))) = false) →
      (((((0 : Int) ≤ (↑k : Int)) ∧
      ((↑k : Int) < (↑(List.length PS) : Int))) ∧
      ((((k + (1 : Nat)) * (16 : Nat) ≤ (1099511627776 : Nat)) ∧
      (k + (1 : Nat) ≤ (1099511627776 : Nat))) ∧
      (∀ (i : Nat), i < (1 : Nat) → elemOK true (2 : Nat) (elemF true (2 : Nat) [DV.con (Value.int IntKind.i64 (Prod.fst (Prod.snd (List.getD PS (Int.toNat (↑k : Int)) (ByteArray.empty, (0 : Int), (0 : Int)))))), DV.con (Value.int IntKind.i64 (Prod.snd (Prod.snd (List.getD PS (Int.toNat (↑k : Int)) (ByteArray.empty, (0 : Int), (0 : Int))))))] i) = true))) ∧
      ((I64 ((↑k : Int) + (1 : Int))) ∧
      Again (S25 PS p q h) (fun x => Prod.fst x ≤ List.length PS ∧ (∀ (i : Nat), i < Prod.fst x → nameB (Prod.fst (List.getD PS i (ByteArray.empty, (0 : Int), (0 : Int)))) = true) ∧ ∀ (i : Nat), i < Prod.fst x → Prod.snd x i = frR (effs PS) i) (fun x => List.length PS - Prod.fst x) ((k, f)) ⟨regs 76 [(1, (.box 1 0)), (3, (.vec 37 2 0 (k + (1 : Nat)))), (4, (vi ((↑k : Int) + (1 : Int)))), (14, (vi ((↑k : Int)))), (15, (.box 1 0)), (16, (.d (.slc 3 (List.length PS) (ptF PS)))), (17, (vi ((↑(List.length PS) : Int)))), (18, (vb (decide ((↑k : Int) < (↑(List.length PS) : Int))))), (19, (vi ((↑k : Int)))), (20, (vi ((↑k : Int) + (1 : Int)))), (21, (.box 1 0)), (22, (.d (.slc 3 (List.length PS) (ptF PS)))), (23, (vi ((↑k : Int)))), (24, (.d (.ptr [(ds (Prod.fst (List.getD PS (Int.toNat (↑k : Int)) (ByteArray.empty, (0 : Int), (0 : Int))))), (di (Prod.fst (Prod.snd (List.getD PS (Int.toNat (↑k : Int)) (ByteArray.empty, (0 : Int), (0 : Int)))))), (di (Prod.snd (Prod.snd (List.getD PS (Int.toNat (↑k : Int)) (ByteArray.empty, (0 : Int), (0 : Int))))))]))), (25, (.d (.ptr [(ds (Prod.fst (List.getD PS (Int.toNat (↑k : Int)) (ByteArray.empty, (0 : Int), (0 : Int))))), (di (Prod.fst (Prod.snd (List.getD PS (Int.toNat (↑k : Int)) (ByteArray.empty, (0 : Int), (0 : Int)))))), (di (Prod.snd (Prod.snd (List.getD PS (Int.toNat (↑k : Int)) (ByteArray.empty, (0 : Int), (0 : Int))))))]))), (26, (vs (Prod.fst (List.getD PS (Int.toNat (↑k : Int)) (ByteArray.empty, (0 : Int), (0 : Int)))))), (27, (vb (nameB (Prod.fst (List.getD PS (Int.toNat (↑k : Int)) (ByteArray.empty, (0 : Int), (0 : Int))))))), (28, (vb (!nameB (Prod.fst (List.getD PS (Int.toNat (↑k : Int)) (ByteArray.empty, (0 : Int), (0 : Int))))))), (29, (.vec 900 2 0 k)), (30, (.box 1 0)), (31, (.d (.slc 3 (List.length PS) (ptF PS)))), (32, (vi ((↑k : Int)))), (33, (.d (.ptr [(ds (Prod.fst (List.getD PS (Int.toNat (↑k : Int)) (ByteArray.empty, (0 : Int), (0 : Int))))), (di (Prod.fst (Prod.snd (List.getD PS (Int.toNat (↑k : Int)) (ByteArray.empty, (0 : Int), (0 : Int)))))), (di (Prod.snd (Prod.snd (List.getD PS (Int.toNat (↑k : Int)) (ByteArray.empty, (0 : Int), (0 : Int))))))]))), (34, (.d (.ptr [(di (Prod.fst (Prod.snd (List.getD PS (Int.toNat (↑k : Int)) (ByteArray.empty, (0 : Int), (0 : Int)))))), (di (Prod.snd (Prod.snd (List.getD PS (Int.toNat (↑k : Int)) (ByteArray.empty, (0 : Int), (0 : Int))))))]))), (35, (.d (.agg [(di (Prod.fst (Prod.snd (List.getD PS (Int.toNat (↑k : Int)) (ByteArray.empty, (0 : Int), (0 : Int)))))), (di (Prod.snd (Prod.snd (List.getD PS (Int.toNat (↑k : Int)) (ByteArray.empty, (0 : Int), (0 : Int))))))]))), (36, (.d (.slc 2 1 (elemF true 2 [(di (Prod.fst (Prod.snd (List.getD PS (Int.toNat (↑k : Int)) (ByteArray.empty, (0 : Int), (0 : Int)))))), (di (Prod.snd (Prod.snd (List.getD PS (Int.toNat (↑k : Int)) (ByteArray.empty, (0 : Int), (0 : Int))))))])))), (37, (.vec 37 2 0 (k + (1 : Nat))))], [(37, [(.arr ⟨true, 27, false, none⟩ 2 (fun i => bif Nat.blt i k then f i else elemF true (2 : Nat) [DV.con (Value.int IntKind.i64 (Prod.fst (Prod.snd (List.getD PS (Int.toNat (↑k : Int)) (ByteArray.empty, (0 : Int), (0 : Int)))))), DV.con (Value.int IntKind.i64 (Prod.snd (Prod.snd (List.getD PS (Int.toNat (↑k : Int)) (ByteArray.empty, (0 : Int), (0 : Int))))))] (i - k)))]), (1, [(.d (.slc 3 (List.length PS) (ptF PS))), (vi p), (vi q), (vi h)]), (900, [.dead])]⟩)))))) ∧
      (((decide ((↑k : Int) < (↑(List.length PS) : Int))) = false) →
      AWP Tryz.prog G [.code (cAt (bodyOf Tryz.f25) [1, 1, 1, 1])] ⟨regs 76 [(1, (.box 1 0)), (3, (.vec 900 2 0 k)), (4, (vi ((↑k : Int)))), (14, (vi ((↑k : Int)))), (15, (.box 1 0)), (16, (.d (.slc 3 (List.length PS) (ptF PS)))), (17, (vi ((↑(List.length PS) : Int)))), (18, (vb (decide ((↑k : Int) < (↑(List.length PS) : Int)))))], [(1, [(.d (.slc 3 (List.length PS) (ptF PS))), (vi p), (vi q), (vi h)]), (900, [(.arr ⟨true, 27, false, none⟩ 2 f)])]⟩ (Ret Tryz.prog Tryz.f25 (db (vB PS p q h)))))) (by kernel_rfl) ?_
    simp only [Int.toNat_natCast]
    refine ⟨fun h1 => ?_, fun h1 => ?_⟩
    · have hk2 : k < PS.length := by have := of_decide_eq_true h1; omega
      refine ⟨⟨⟨by omega, by omega⟩, f48 _ (hS.get k)⟩, fun h2 => ?_, fun h2 => ⟨⟨⟨by omega, by omega⟩, ⟨by omega, by omega⟩, fun i hi => (by obtain rfl : i = 0 := (by omega); rfl)⟩, ⟨by omega, by omega⟩, Again.mkR [(37, 900)] rfl (k + 1, _) ?_ ⟨hk2, fun i hi => ?_, row_next (agg := true) (sz := 2) (l := [di (PS.getD k (.empty, 0, 0)).2.1, di (PS.getD k (.empty, 0, 0)).2.2]) hkf ?_⟩ (by simp only; omega)⟩⟩
      · have e : (PS.all fun x => nameB x.1) = false := by
          rw [Bool.eq_false_iff]
          intro hall
          have := List.all_eq_true.1 hall PS[k] (List.getElem_mem hk2)
          rw [List.getD, List.getElem?_eq_getElem hk2] at h2
          simp only [Option.getD_some, this] at h2
          cases h2
        unfold vB
        rw [e]; rfl
      · refine of_eq (b :=
        (((((.box 1 0) : AV) = (.box 1 0)) ∧
        ((((.vec 900 2 0 (k + (1 : Nat))) : AV) = (.vec 900 2 0 (k + (1 : Nat)))) ∧
        ((((vi ((↑k : Int) + (1 : Int))) : AV) = (vi ((↑(k + (1 : Nat)) : Int)))) ∧
        True))) ∧
        ((((some [(.d (.slc 3 (List.length PS) (ptF PS))), (vi p), (vi q), (vi h)]) : (Option (List AV))) = (some [(.d (.slc 3 (List.length PS) (ptF PS))), (vi p), (vi q), (vi h)])) ∧
        ((((some [(.arr ⟨true, 27, false, none⟩ 2 (fun i => bif Nat.blt i k then f i else elemF true (2 : Nat) [DV.con (Value.int IntKind.i64 (Prod.fst (Prod.snd (List.getD PS k (ByteArray.empty, (0 : Int), (0 : Int)))))), DV.con (Value.int IntKind.i64 (Prod.snd (Prod.snd (List.getD PS k (ByteArray.empty, (0 : Int), (0 : Int))))))] (i - k)))]) : (Option (List AV))) = (some [(.arr ⟨true, 27, false, none⟩ 2 (fun i =>   match Nat.blt i k with   | true => f i   | false => elemF true (2 : Nat) [DV.con (Value.int IntKind.i64 (Prod.fst (Prod.snd (List.getD PS k (ByteArray.empty, (0 : Int), (0 : Int)))))), DV.con (Value.int IntKind.i64 (Prod.snd (Prod.snd (List.getD PS k (ByteArray.empty, (0 : Int), (0 : Int))))))] (i - k)))])) ∧
        True)))) (by kernel_rfl) ?_
        exact ⟨⟨rfl, rfl, rfl, trivial⟩, rfl, rfl, trivial⟩
      · rcases Nat.lt_or_ge i k with h3 | h3
        · exact hkd i h3
        · obtain rfl : i = k := by simp only at hi; omega
          simpa using h2
      · unfold frR
        have e2 : (effs PS)[k]? = some (PS.getD k (.empty, 0, 0)).2 := by
          unfold effs
          rw [List.getElem?_map, List.getD, List.getElem?_eq_getElem hk2]; rfl
        rw [e2]; rfl
    · simp only [decide_eq_false_iff_not] at h1
      have hk2 : k = PS.length := by omega
      have hall : (PS.all fun x => nameB x.1) = true := by
        rw [List.all_eq_true]
        intro x hx
        obtain ⟨i, hi, rfl⟩ := List.getElem_of_mem hx
        have := hkd i (by omega)
        rw [List.getD, List.getElem?_eq_getElem hi] at this
        exact this
      subst hk2
      have hle : (effs PS).length ≤ 1000000 := by omega
      rw [← el] at *
      refine walk (orc := orcRq (effs PS)) (keep := []) (cuts := []) (n := 1000) follows ?_
      refine of_eqH (b :=
        (FnOK Tryz.prog G 52 [(.slc 2 (List.length (effs PS)) (fun i => f ((0 : Nat) + i)))] (.tup [(.agg [(di (sm1 (effs PS))), (di (sm2 (effs PS)))]), (di (sm3 (effs PS)))]) ∧
        (FnOK Tryz.prog G 41 [(.agg [(di p), (di q)])] (.tup [(di (hunF p q)), (db (ok p q))]) ∧
        (((db (sm3 (effs PS) == (0 : Int) && Bool.rec false (sm2 (effs PS) == q) (sm1 (effs PS) == p) && ok p q && decide (p ≥ (0 : Int)) && hunF p q == h && decide (hunF p q ≤ (100000000 : Int)))) : DV) = (db (vB PS p q h)))))) (by kernel_rfl) ?_
      refine ⟨f52r (effs PS) hle _ (fun i hi => by rw [Nat.zero_add]; exact hkf i hi), f41' p q, ?_⟩
      unfold vB
      rw [hall]
      have hb : (Bool.rec false (sm2 (effs PS) == q) (sm1 (effs PS) == p) : Bool) = (sm1 (effs PS) == p && sm2 (effs PS) == q) := by
        cases (sm1 (effs PS) == p) <;> rfl
      rw [hb, Bool.true_and]
      cases ho : ok p q with
      | false => simp
      | true =>
        have e3 : decide (p ≥ 0) = !lessB p q 0 1 := by
          rw [lessB_neg ho, Bool.eq_iff_iff]; simp
        rw [e3]
end Go.Proofs
set_option autoImplicit false
namespace Go.Proofs
open Go Go.Ab Go.RowKit
set_option maxHeartbeats 2000000
set_option maxRecDepth 100000
variable {G : IH}
theorem dec_head : ∀ u : Nat, ∃ c l, Lib.decDigits u = c :: l ∧ c ≠ 45
  | u => by
    by_cases h : u < 10
    · refine ⟨UInt8.ofNat (48 + u), [], dec_small h, ?_⟩
      have : ∀ u < 10, UInt8.ofNat (48 + u) ≠ 45 := by decide
      exact this u h
    · obtain ⟨c, l, e, hc⟩ := dec_head (u / 10)
      exact ⟨c, l ++ [UInt8.ofNat (48 + u % 10)], by rw [dec_big h, e]; rfl, hc⟩
termination_by u => u
decreasing_by omega
theorem fmt_neg {n d : Int} (h : ok n d = true) (hn : n < 0) : ∃ l, fmt n d = 45 :: l := by
  have : Lib.itoa n = 45 :: Lib.decDigits n.natAbs := by rw [itoa_sg]; unfold sg; rw [if_pos hn]; rfl
  unfold fmt
  rw [if_pos h, this]
  split
  · exact ⟨_, rfl⟩
  · exact ⟨_, rfl⟩
theorem fmt_pos {n d : Int} (h : ok n d = true) (hn : ¬ n < 0) : ∃ c l, fmt n d = c :: l ∧ c ≠ 45 := by
  obtain ⟨c, l, e, hc⟩ := dec_head n.natAbs
  have : Lib.itoa n = c :: l := by rw [itoa_sg]; unfold sg; rw [if_neg hn, e]; rfl
  unfold fmt
  rw [if_pos h, this]
  split
  · exact ⟨_, _, rfl, hc⟩
  · exact ⟨c, _, rfl, hc⟩
def refS (n d : Int) : ByteArray := if n < 0 then (⟨#[32]⟩ : ByteArray) ++ fmtS n d else (⟨#[32, 43]⟩ : ByteArray) ++ fmtS n d
theorem line_ref {x : Pt} (h : ok x.2.1 x.2.2 = true) : x.1 ++ refS x.2.1 x.2.2 = lineS x := by
  have ext : ∀ a b : ByteArray, a.data.toList = b.data.toList → a = b := fun a b e => by
    obtain ⟨⟨a⟩⟩ := a
    obtain ⟨⟨b⟩⟩ := b
    have e : a = b := e
    rw [e]
  unfold lineS sgnS cutS cutB refS
  by_cases hn : x.2.1 < 0
  · obtain ⟨l, e⟩ := fmt_neg h hn
    have ef : (fmtS x.2.1 x.2.2).data.toList = 45 :: l := by unfold fmtS; rw [e]
    rw [if_pos hn]
    apply ext
    have e1 : Lib.hasPrefix (fmtS x.2.1 x.2.2).data.toList mns.data.toList = true := by rw [ef]; rfl
    rw [if_pos e1]
    simp only [ByteArray.data_append, Array.toList_append, bs, Lib.trimPrefix, e1, if_true, List.append_assoc]
    rw [ef]; rfl
  · obtain ⟨c, l, e, hc⟩ := fmt_pos h hn
    have ef : (fmtS x.2.1 x.2.2).data.toList = c :: l := by unfold fmtS; rw [e]
    rw [if_neg hn]
    apply ext
    have e1 : Lib.hasPrefix (fmtS x.2.1 x.2.2).data.toList mns.data.toList = false := by
      rw [ef]
      show (45 == c && _) = false
      have : (45 == c) = false := by simpa using fun hh : 45 = c => hc hh.symm
      rw [this]; rfl
    simp only [ByteArray.data_append, Array.toList_append, bs, Lib.trimPrefix, e1, Bool.false_eq_true, if_false, List.append_assoc]
    rfl
theorem vB_eff {PS : List Pt} {p q h : Int} (hv : vB PS p q h = true) {x : Pt} (hx : x ∈ PS) : ok x.2.1 x.2.2 = true := by
  unfold vB at hv
  simp only [Bool.and_eq_true, beq_iff_eq] at hv
  have h3 : sm3 (effs PS) = 0 := hv.2.1.1.1.1.1
  have hall : allOk (effs PS) = true := by
    unfold sm3 sumS at h3
    split at h3
    · rename_i hh; exact hh.2
    · cases h3
  unfold allOk at hall
  rw [List.all_eq_true] at hall
  exact hall x.2 (List.mem_map.2 ⟨x, hx, rfl⟩)
def fewP (PS : List Pt) : Bool := (PS.all fun x => decide (x.1.size ≤ 40)) && decide (PS.length ≤ 20)
noncomputable def S21 (PS : List Pt) (p q h : Int) (k : Nat) : AS := ⟨regs Tryz.f21.ntmps [(1, .box 1 0), (3, vi k)], [(1, [.d (.slc 3 PS.length (ptF PS)), vi p, vi q, vi h])]⟩
theorem f21 (PS : List Pt) (p q h : Int) (hl : PS.length ≤ maxLen) : FnOK Tryz.prog G 21 [crV PS p q h] (db (fewP PS)) := by
  unfold maxLen at hl
  refine FnOK.walk (orc := orcRq []) (keep := []) follows Tryz.func21 rfl Tryz.call21 ?_
  refine of_eqH (b :=
    AWP Tryz.prog G [.code (cAt (bodyOf Tryz.f21) [1, 0, 1, 0]), (.blk 0), .code (cAt (bodyOf Tryz.f21) [1, 1])] ⟨regs 23 [(0, (.d (.agg [(.slc 3 (List.length PS) (ptF PS)), (di p), (di q), (di h)]))), (1, (.box 1 0)), (2, (vb false)), (3, (vi 0))], [(1, [(.d (.slc 3 (List.length PS) (ptF PS))), (vi p), (vi q), (vi h)])]⟩ (Ret Tryz.prog Tryz.f21 (db (fewP PS)))) (by kernel_rfl) ?_
  refine AWP.loop (c := cAt (bodyOf Tryz.f21) [1, 0, 1, 0, 0]) (by kernel_rfl) (S21 PS p q h) (fun k => k ≤ PS.length ∧ ∀ i, i < k → (PS.getD i (.empty, 0, 0)).1.size ≤ 40) (fun k => PS.length - k) 0 ?_ ⟨Nat.zero_le _, fun i hi => absurd hi (Nat.not_lt_zero _)⟩ ?_
  · refine of_eq (b :=
    (((((.box 1 0) : AV) = (.box 1 0)) ∧
    ((((vi 0) : AV) = (vi 0)) ∧
    True)) ∧
    ((((some [(.d (.slc 3 (List.length PS) (ptF PS))), (vi p), (vi q), (vi h)]) : (Option (List AV))) = (some [(.d (.slc 3 (List.length PS) (ptF PS))), (vi p), (vi q), (vi h)])) ∧
    True))) (by kernel_rfl) ?_
    exact ⟨⟨rfl, rfl, trivial⟩, rfl, trivial⟩
  · rintro k ⟨hk, hkd⟩
    refine walk (orc := orcRq []) (keep := []) (cuts := []) (n := 1000) follows ?_
    refine of_eqH (b :=
      ((((decide ((↑k : Int) < (↑(List.length PS) : Int))) = true) →
      ((((0 : Int) ≤ (↑k : Int)) ∧
      ((↑k : Int) < (↑(List.length PS) : Int))) ∧
      ((((decide ((↑(ByteArray.size (Prod.fst (List.getD PS (Int.toNat (↑k : Int)) (ByteArray.empty, (0 : Int), (0 : Int))))) : Int) > (40 : Int))) = true) →
      (((db false) : DV) = (db (fewP PS)))) ∧
      (((decide ((↑(ByteArray.size (Prod.fst (List.getD PS (Int.toNat (↑k : Int)) (ByteArray.empty, (0 : Int), (0 : Int))))) : Int) > (40 : Int))) = false) →
      ((I64 ((↑k : Int) + (1 : Int))) ∧
      Again (S21 PS p q h) (fun k => k ≤ List.length PS ∧ ∀ (i : Nat), i < k → ByteArray.size (Prod.fst (List.getD PS i (ByteArray.empty, (0 : Int), (0 : Int)))) ≤ (40 : Nat)) (fun k => List.length PS - k) k ⟨regs 23 [(1, (.box 1 0)), (3, (vi ((↑k : Int) + (1 : Int)))), (4, (vi ((↑k : Int)))), (5, (.box 1 0)), (6, (.d (.slc 3 (List.length PS) (ptF PS)))), (7, (vi ((↑(List.length PS) : Int)))), (8, (vb (decide ((↑k : Int) < (↑(List.length PS) : Int))))), (9, (vi ((↑k : Int)))), (10, (vi ((↑k : Int) + (1 : Int)))), (11, (.box 1 0)), (12, (.d (.slc 3 (List.length PS) (ptF PS)))), (13, (vi ((↑k : Int)))), (14, (.d (.ptr [(ds (Prod.fst (List.getD PS (Int.toNat (↑k : Int)) (ByteArray.empty, (0 : Int), (0 : Int))))), (di (Prod.fst (Prod.snd (List.getD PS (Int.toNat (↑k : Int)) (ByteArray.empty, (0 : Int), (0 : Int)))))), (di (Prod.snd (Prod.snd (List.getD PS (Int.toNat (↑k : Int)) (ByteArray.empty, (0 : Int), (0 : Int))))))]))), (15, (.d (.ptr [(ds (Prod.fst (List.getD PS (Int.toNat (↑k : Int)) (ByteArray.empty, (0 : Int), (0 : Int))))), (di (Prod.fst (Prod.snd (List.getD PS (Int.toNat (↑k : Int)) (ByteArray.empty, (0 : Int), (0 : Int)))))), (di (Prod.snd (Prod.snd (List.getD PS (Int.toNat (↑k : Int)) (ByteArray.empty, (0 : Int), (0 : Int))))))]))), (16, (vs (Prod.fst (List.getD PS (Int.toNat (↑k : Int)) (ByteArray.empty, (0 : Int), (0 : Int)))))), (17, (vi ((↑(ByteArray.size (Prod.fst (List.getD PS (Int.toNat (↑k : Int)) (ByteArray.empty, (0 : Int), (0 : Int))))) : Int)))), (18, (vb (decide ((↑(ByteArray.size (Prod.fst (List.getD PS (Int.toNat (↑k : Int)) (ByteArray.empty, (0 : Int), (0 : Int))))) : Int) > (40 : Int)))))], [(1, [(.d (.slc 3 (List.length PS) (ptF PS))), (vi p), (vi q), (vi h)])]⟩))))) ∧
      (((decide ((↑k : Int) < (↑(List.length PS) : Int))) = false) →
      AWP Tryz.prog G [.code (cAt (bodyOf Tryz.f21) [1, 1])] ⟨regs 23 [(1, (.box 1 0)), (3, (vi ((↑k : Int)))), (4, (vi ((↑k : Int)))), (5, (.box 1 0)), (6, (.d (.slc 3 (List.length PS) (ptF PS)))), (7, (vi ((↑(List.length PS) : Int)))), (8, (vb (decide ((↑k : Int) < (↑(List.length PS) : Int)))))], [(1, [(.d (.slc 3 (List.length PS) (ptF PS))), (vi p), (vi q), (vi h)])]⟩ (Ret Tryz.prog Tryz.f21 (db (fewP PS)))))) (by kernel_rfl) ?_
    simp only [Int.toNat_natCast]
    refine ⟨fun h1 => ?_, fun h1 => ?_⟩
    · have hk2 : k < PS.length := by have := of_decide_eq_true h1; omega
      refine ⟨⟨by omega, by omega⟩, fun h2 => ?_, fun h2 => ⟨⟨by omega, by omega⟩, Again.mk (k + 1) ?_ ⟨hk2, fun i hi => ?_⟩ (by omega)⟩⟩
      · simp only [decide_eq_true_eq] at h2
        have e : (PS.all fun x => decide (x.1.size ≤ 40)) = false := by
          rw [Bool.eq_false_iff]
          intro hall
          have := List.all_eq_true.1 hall PS[k] (List.getElem_mem hk2)
          rw [List.getD, List.getElem?_eq_getElem hk2] at h2
          simp only [decide_eq_true_eq] at this
          simp only [Option.getD_some] at h2
          omega
        unfold fewP
        rw [e]; rfl
      · refine of_eq (b :=
        (((((.box 1 0) : AV) = (.box 1 0)) ∧
        ((((vi ((↑k : Int) + (1 : Int))) : AV) = (vi ((↑(k + (1 : Nat)) : Int)))) ∧
        True)) ∧
        ((((some [(.d (.slc 3 (List.length PS) (ptF PS))), (vi p), (vi q), (vi h)]) : (Option (List AV))) = (some [(.d (.slc 3 (List.length PS) (ptF PS))), (vi p), (vi q), (vi h)])) ∧
        True))) (by kernel_rfl) ?_
        exact ⟨⟨rfl, rfl, trivial⟩, rfl, trivial⟩
      · rcases Nat.lt_or_ge i k with h3 | h3
        · exact hkd i h3
        · obtain rfl : i = k := by omega
          simp only [decide_eq_false_iff_not] at h2
          omega
    · simp only [decide_eq_false_iff_not] at h1
      have hk2 : k = PS.length := by omega
      have hall : (PS.all fun x => decide (x.1.size ≤ 40)) = true := by
        rw [List.all_eq_true]
        intro x hx
        obtain ⟨i, hi, rfl⟩ := List.getElem_of_mem hx
        have := hkd i (by omega)
        rw [List.getD, List.getElem?_eq_getElem hi] at this
        exact decide_eq_true this
      refine walk (orc := orcRq []) (keep := []) (cuts := []) (n := 1000) follows ?_
      refine of_eqH (b :=
        (((db (decide ((↑(List.length PS) : Int) ≤ (20 : Int)))) : DV) = (db (fewP PS)))) (by kernel_rfl) ?_
      unfold fewP
      rw [hall]
      have : decide (PS.length ≤ 20) = decide ((PS.length : Int) ≤ 20) := by rw [decide_eq_decide]; omega
      rw [this]; rfl
def orcEx (PS : List Pt) (p q h : Int) : Oracle := fun f a => match f, a with
  | 25, [_] => some (db (vB PS p q h))
  | 56, [fr n d] => some (ds (fmtS n d))
  | 57, [di n] => some (ds (ptsS n))
  | _, _ => none
def rowRec (f0 : Nat → DV) (agg : Bool) (sz : Nat) (g : Nat → List DV) : Nat → Nat → DV
  | 0 => f0
  | k + 1 => fun i => bif Nat.blt i k then rowRec f0 agg sz g k i else elemF agg sz (g k) (i - k)
theorem rowRec_get {f0 : Nat → DV} {agg : Bool} {sz : Nat} {g : Nat → List DV} : ∀ {k i : Nat}, i < k → rowRec f0 agg sz g k i = elemF agg sz (g i) 0
  | k + 1, i, h => by
    show (bif Nat.blt i k then rowRec f0 agg sz g k i else elemF agg sz (g k) (i - k)) = _
    cases hb : Nat.blt i k with
    | true => rw [Nat.blt_eq] at hb; exact rowRec_get hb
    | false =>
      have hb : ¬ i < k := by rw [← Nat.blt_eq, hb]; decide
      obtain rfl : i = k := by omega
      rw [Nat.sub_self]; rfl
def lineR (x : Pt) : ByteArray := x.1 ++ refS x.2.1 x.2.2
def expR (PS : List Pt) : Nat → Nat → DV := rowRec (fun _ => DV.con undef) false 1 (fun k => [ds (lineR (PS.getD k (.empty, 0, 0)))])
noncomputable def S27 (PS : List Pt) (p q h : Int) (k : Nat) : AS := ⟨regs Tryz.f27.ntmps [(1, .box 1 0), (3, .vec 900 1 0 k), (4, vi k)], [(1, [.d (.slc 3 PS.length (ptF PS)), vi p, vi q, vi h]), (900, [.arr stK 1 (expR PS k)])]⟩
theorem f27 (hT : Tab G) (PS : List Pt) (p q h : Int) (hS : ShortP PS) (hl : PS.length ≤ 1000000) : FnOK Tryz.prog G 27 [crV PS p q h] (.slc 1 (expl PS p q h).length (stF (expl PS p q h))) := by
  cases hv : vB PS p q h with
  | false =>
    refine FnOK.res (r := .slc 1 0 (fun _ => DV.con undef)) (FnOK.walk (orc := orcEx PS p q h) (keep := []) follows Tryz.func27 rfl Tryz.call27 ?_) fun k v hv2 => ?_
    · refine of_eqH (b :=
      (FnOK Tryz.prog G 25 [(.agg [(.slc 3 (List.length PS) (ptF PS)), (di p), (di q), (di h)])] (db (vB PS p q h)) ∧
      ((((!vB PS p q h) = true) →
      (((.slc 1 0 (fun i => DV.con undef)) : DV) = (.slc 1 0 (fun x => DV.con undef)))) ∧
      (((!vB PS p q h) = false) →
      AWP Tryz.prog G [.code (cAt (bodyOf Tryz.f27) [1, 1, 1, 0, 1, 0]), (.blk 0), .code (cAt (bodyOf Tryz.f27) [1, 1, 1, 1])] ⟨regs 50 [(0, (.d (.agg [(.slc 3 (List.length PS) (ptF PS)), (di p), (di q), (di h)]))), (1, (.box 1 0)), (2, (.d (.con (.slice none 0 0)))), (3, (.vec 7 1 0 0)), (4, (vi 0)), (7, (.vec 7 1 0 0)), (8, (.d (.agg [(.slc 3 (List.length PS) (ptF PS)), (di p), (di q), (di h)]))), (9, (vb (vB PS p q h))), (10, (vb (!vB PS p q h)))], [(7, [(.arr ⟨false, 9, false, none⟩ 1 (fun x => DV.con undef))]), (1, [(.d (.slc 3 (List.length PS) (ptF PS))), (vi p), (vi q), (vi h)])]⟩ (Ret Tryz.prog Tryz.f27 (DV.slc (1 : Nat) (0 : Nat) fun x => DV.con undef)))))) (by kernel_rfl) ?_
      refine ⟨f25 PS p q h hS hl, fun _ => rfl, fun h2 => ?_⟩
      rw [hv] at h2; cases h2
    · unfold expl
      rw [hv]
      exact DV.rel_slc_congr (fun i hi => absurd hi (Nat.not_lt_zero _)) hv2
  | true =>
    have he : expl PS p q h = PS.map lineS ++ [totS h] := by unfold expl; rw [hv]; rfl
    refine FnOK.res (r := .slc 1 (PS.length + 1) (fun i => bif Nat.blt (0 + i) PS.length then expR PS PS.length (0 + i) else elemF false 1 [ds (totS h)] (0 + i - PS.length))) (FnOK.walk (orc := orcEx PS p q h) (keep := []) follows Tryz.func27 rfl Tryz.call27 ?_) fun k v hv2 => ?_
    · refine of_eqH (b :=
      (FnOK Tryz.prog G 25 [(.agg [(.slc 3 (List.length PS) (ptF PS)), (di p), (di q), (di h)])] (db (vB PS p q h)) ∧
      ((((!vB PS p q h) = true) →
      (((.slc 1 0 (fun i => DV.con undef)) : DV) = (.slc 1 (List.length PS + (1 : Nat)) (fun i => bif Nat.blt ((0 : Nat) + i) (List.length PS) then expR PS (List.length PS) ((0 : Nat) + i) else elemF false (1 : Nat) [ds (totS h)] ((0 : Nat) + i - List.length PS))))) ∧
      (((!vB PS p q h) = false) →
      AWP Tryz.prog G [.code (cAt (bodyOf Tryz.f27) [1, 1, 1, 0, 1, 0]), (.blk 0), .code (cAt (bodyOf Tryz.f27) [1, 1, 1, 1])] ⟨regs 50 [(0, (.d (.agg [(.slc 3 (List.length PS) (ptF PS)), (di p), (di q), (di h)]))), (1, (.box 1 0)), (2, (.d (.con (.slice none 0 0)))), (3, (.vec 7 1 0 0)), (4, (vi 0)), (7, (.vec 7 1 0 0)), (8, (.d (.agg [(.slc 3 (List.length PS) (ptF PS)), (di p), (di q), (di h)]))), (9, (vb (vB PS p q h))), (10, (vb (!vB PS p q h)))], [(7, [(.arr ⟨false, 9, false, none⟩ 1 (fun x => DV.con undef))]), (1, [(.d (.slc 3 (List.length PS) (ptF PS))), (vi p), (vi q), (vi h)])]⟩ (Ret Tryz.prog Tryz.f27 (DV.slc (1 : Nat) (List.length PS + (1 : Nat)) fun i => bif Nat.blt ((0 : Nat) + i) (List.length PS) then expR PS (List.length PS) ((0 : Nat) + i) else elemF false (1 : Nat) [ds (totS h)] ((0 : Nat) + i - List.length PS))))))) (by kernel_rfl) ?_
      refine ⟨f25 PS p q h hS hl, fun h1 => ?_, fun _ => ?_⟩
      · rw [hv] at h1; cases h1
      refine AWP.pre (.moves [(7, 900)] _ rfl) ?_
      refine AWP.loop (c := cAt (bodyOf Tryz.f27) [1, 1, 1, 0, 1, 0, 0]) (by kernel_rfl) (S27 PS p q h) (fun k => k ≤ PS.length) (fun k => PS.length - k) 0 ?_ (Nat.zero_le _) ?_
      · refine of_eq (b :=
        (((((.box 1 0) : AV) = (.box 1 0)) ∧
        ((((.vec 900 1 0 0) : AV) = (.vec 900 1 0 0)) ∧
        ((((vi 0) : AV) = (vi 0)) ∧
        True))) ∧
        ((((some [(.d (.slc 3 (List.length PS) (ptF PS))), (vi p), (vi q), (vi h)]) : (Option (List AV))) = (some [(.d (.slc 3 (List.length PS) (ptF PS))), (vi p), (vi q), (vi h)])) ∧
        ((((some [(.arr ⟨false, 9, false, none⟩ 1 (fun x => DV.con undef))]) : (Option (List AV))) = (some [(.arr ⟨false, 9, false, none⟩ 1 (expR PS (0 : Nat)))])) ∧
        True)))) (by kernel_rfl) ?_
        exact ⟨⟨rfl, rfl, rfl, trivial⟩, rfl, rfl, trivial⟩
      · rintro k hk
        refine walk (orc := orcEx PS p q h) (keep := []) (cuts := []) (n := 1000) follows ?_
        refine of_eqH (b :=
          ((((decide ((↑k : Int) < (↑(List.length PS) : Int))) = true) →
          ((((0 : Int) ≤ (↑k : Int)) ∧
          ((↑k : Int) < (↑(List.length PS) : Int))) ∧
          ((FnOK Tryz.prog G 56 [(.agg [(di (Prod.fst (Prod.snd (List.getD PS (Int.toNat (↑k : Int)) (ByteArray.empty, (0 : Int), (0 : Int)))))), (di (Prod.snd (Prod.snd (List.getD PS (Int.toNat (↑k : Int)) (ByteArray.empty, (0 : Int), (0 : Int))))))])] (ds (fmtS (Prod.fst (Prod.snd (List.getD PS (Int.toNat (↑k : Int)) (ByteArray.empty, (0 : Int), (0 : Int))))) (Prod.snd (Prod.snd (List.getD PS (Int.toNat (↑k : Int)) (ByteArray.empty, (0 : Int), (0 : Int))))))) ∧
          (ByteArray.size { data := #[(32 : UInt8), (43 : UInt8)] } + ByteArray.size (fmtS (Prod.fst (Prod.snd (List.getD PS (Int.toNat (↑k : Int)) (ByteArray.empty, (0 : Int), (0 : Int))))) (Prod.snd (Prod.snd (List.getD PS (Int.toNat (↑k : Int)) (ByteArray.empty, (0 : Int), (0 : Int)))))) ≤ (9223372036854775807 : Nat))) ∧
          ((((decide (Prod.fst (Prod.snd (List.getD PS (Int.toNat (↑k : Int)) (ByteArray.empty, (0 : Int), (0 : Int)))) < (0 : Int))) = true) →
          ((FnOK Tryz.prog G 56 [(.agg [(di (Prod.fst (Prod.snd (List.getD PS (Int.toNat (↑k : Int)) (ByteArray.empty, (0 : Int), (0 : Int)))))), (di (Prod.snd (Prod.snd (List.getD PS (Int.toNat (↑k : Int)) (ByteArray.empty, (0 : Int), (0 : Int))))))])] (ds (fmtS (Prod.fst (Prod.snd (List.getD PS (Int.toNat (↑k : Int)) (ByteArray.empty, (0 : Int), (0 : Int))))) (Prod.snd (Prod.snd (List.getD PS (Int.toNat (↑k : Int)) (ByteArray.empty, (0 : Int), (0 : Int))))))) ∧
          (ByteArray.size { data := #[(32 : UInt8)] } + ByteArray.size (fmtS (Prod.fst (Prod.snd (List.getD PS (Int.toNat (↑k : Int)) (ByteArray.empty, (0 : Int), (0 : Int))))) (Prod.snd (Prod.snd (List.getD PS (Int.toNat (↑k : Int)) (ByteArray.empty, (0 : Int), (0 : Int)))))) ≤ (9223372036854775807 : Nat))) ∧
          (((ByteArray.size (Prod.fst (List.getD PS (Int.toNat (↑k : Int)) (ByteArray.empty, (0 : Int), (0 : Int)))) + ByteArray.size ({ data := #[(32 : UInt8)] } ++ fmtS (Prod.fst (Prod.snd (List.getD PS (Int.toNat (↑k : Int)) (ByteArray.empty, (0 : Int), (0 : Int))))) (Prod.snd (Prod.snd (List.getD PS (Int.toNat (↑k : Int)) (ByteArray.empty, (0 : Int), (0 : Int)))))) ≤ (9223372036854775807 : Nat)) ∧
          ((((k + (1 : Nat)) * (16 : Nat) ≤ (1099511627776 : Nat)) ∧
          (k + (1 : Nat) ≤ (1099511627776 : Nat))) ∧
          (∀ (i : Nat), i < (1 : Nat) → elemOK false (1 : Nat) (elemF false (1 : Nat) [DV.con (Value.string (Prod.fst (List.getD PS (Int.toNat (↑k : Int)) (ByteArray.empty, (0 : Int), (0 : Int))) ++ ({ data := #[(32 : UInt8)] } ++ fmtS (Prod.fst (Prod.snd (List.getD PS (Int.toNat (↑k : Int)) (ByteArray.empty, (0 : Int), (0 : Int))))) (Prod.snd (Prod.snd (List.getD PS (Int.toNat (↑k : Int)) (ByteArray.empty, (0 : Int), (0 : Int))))))))] i) = true))) ∧
          ((I64 ((↑k : Int) + (1 : Int))) ∧
          Again (S27 PS p q h) (fun k => k ≤ List.length PS) (fun k => List.length PS - k) k ⟨regs 50 [(1, (.box 1 0)), (3, (.vec 42 1 0 (k + (1 : Nat)))), (4, (vi ((↑k : Int) + (1 : Int)))), (5, (.box 5 0)), (6, (vs ({ data := #[(32 : UInt8)] } ++ fmtS (Prod.fst (Prod.snd (List.getD PS (Int.toNat (↑k : Int)) (ByteArray.empty, (0 : Int), (0 : Int))))) (Prod.snd (Prod.snd (List.getD PS (Int.toNat (↑k : Int)) (ByteArray.empty, (0 : Int), (0 : Int)))))))), (12, (vi ((↑k : Int)))), (13, (.box 1 0)), (14, (.d (.slc 3 (List.length PS) (ptF PS)))), (15, (vi ((↑(List.length PS) : Int)))), (16, (vb (decide ((↑k : Int) < (↑(List.length PS) : Int))))), (17, (vi ((↑k : Int)))), (18, (vi ((↑k : Int) + (1 : Int)))), (19, (.box 1 0)), (20, (.d (.slc 3 (List.length PS) (ptF PS)))), (21, (vi ((↑k : Int)))), (22, (.d (.ptr [(ds (Prod.fst (List.getD PS (Int.toNat (↑k : Int)) (ByteArray.empty, (0 : Int), (0 : Int))))), (di (Prod.fst (Prod.snd (List.getD PS (Int.toNat (↑k : Int)) (ByteArray.empty, (0 : Int), (0 : Int)))))), (di (Prod.snd (Prod.snd (List.getD PS (Int.toNat (↑k : Int)) (ByteArray.empty, (0 : Int), (0 : Int))))))]))), (23, (.d (.agg [(ds (Prod.fst (List.getD PS (Int.toNat (↑k : Int)) (ByteArray.empty, (0 : Int), (0 : Int))))), (di (Prod.fst (Prod.snd (List.getD PS (Int.toNat (↑k : Int)) (ByteArray.empty, (0 : Int), (0 : Int)))))), (di (Prod.snd (Prod.snd (List.getD PS (Int.toNat (↑k : Int)) (ByteArray.empty, (0 : Int), (0 : Int))))))]))), (24, (.box 5 1)), (25, (.d (.agg [(di (Prod.fst (Prod.snd (List.getD PS (Int.toNat (↑k : Int)) (ByteArray.empty, (0 : Int), (0 : Int)))))), (di (Prod.snd (Prod.snd (List.getD PS (Int.toNat (↑k : Int)) (ByteArray.empty, (0 : Int), (0 : Int))))))]))), (26, (vs (fmtS (Prod.fst (Prod.snd (List.getD PS (Int.toNat (↑k : Int)) (ByteArray.empty, (0 : Int), (0 : Int))))) (Prod.snd (Prod.snd (List.getD PS (Int.toNat (↑k : Int)) (ByteArray.empty, (0 : Int), (0 : Int)))))))), (27, (vs ({ data := #[(32 : UInt8), (43 : UInt8)] } ++ fmtS (Prod.fst (Prod.snd (List.getD PS (Int.toNat (↑k : Int)) (ByteArray.empty, (0 : Int), (0 : Int))))) (Prod.snd (Prod.snd (List.getD PS (Int.toNat (↑k : Int)) (ByteArray.empty, (0 : Int), (0 : Int)))))))), (28, (.box 5 1)), (29, (.box 5 1)), (30, (vi (Prod.fst (Prod.snd (List.getD PS (Int.toNat (↑k : Int)) (ByteArray.empty, (0 : Int), (0 : Int))))))), (31, (vb (decide (Prod.fst (Prod.snd (List.getD PS (Int.toNat (↑k : Int)) (ByteArray.empty, (0 : Int), (0 : Int)))) < (0 : Int))))), (32, (.box 5 1)), (33, (.d (.agg [(di (Prod.fst (Prod.snd (List.getD PS (Int.toNat (↑k : Int)) (ByteArray.empty, (0 : Int), (0 : Int)))))), (di (Prod.snd (Prod.snd (List.getD PS (Int.toNat (↑k : Int)) (ByteArray.empty, (0 : Int), (0 : Int))))))]))), (34, (vs (fmtS (Prod.fst (Prod.snd (List.getD PS (Int.toNat (↑k : Int)) (ByteArray.empty, (0 : Int), (0 : Int))))) (Prod.snd (Prod.snd (List.getD PS (Int.toNat (↑k : Int)) (ByteArray.empty, (0 : Int), (0 : Int)))))))), (35, (vs ({ data := #[(32 : UInt8)] } ++ fmtS (Prod.fst (Prod.snd (List.getD PS (Int.toNat (↑k : Int)) (ByteArray.empty, (0 : Int), (0 : Int))))) (Prod.snd (Prod.snd (List.getD PS (Int.toNat (↑k : Int)) (ByteArray.empty, (0 : Int), (0 : Int)))))))), (36, (.vec 900 1 0 k)), (37, (.box 5 0)), (38, (vs (Prod.fst (List.getD PS (Int.toNat (↑k : Int)) (ByteArray.empty, (0 : Int), (0 : Int)))))), (39, (vs ({ data := #[(32 : UInt8)] } ++ fmtS (Prod.fst (Prod.snd (List.getD PS (Int.toNat (↑k : Int)) (ByteArray.empty, (0 : Int), (0 : Int))))) (Prod.snd (Prod.snd (List.getD PS (Int.toNat (↑k : Int)) (ByteArray.empty, (0 : Int), (0 : Int)))))))), (40, (vs (Prod.fst (List.getD PS (Int.toNat (↑k : Int)) (ByteArray.empty, (0 : Int), (0 : Int))) ++ ({ data := #[(32 : UInt8)] } ++ fmtS (Prod.fst (Prod.snd (List.getD PS (Int.toNat (↑k : Int)) (ByteArray.empty, (0 : Int), (0 : Int))))) (Prod.snd (Prod.snd (List.getD PS (Int.toNat (↑k : Int)) (ByteArray.empty, (0 : Int), (0 : Int))))))))), (41, (.d (.slc 1 1 (elemF false 1 [(ds (Prod.fst (List.getD PS (Int.toNat (↑k : Int)) (ByteArray.empty, (0 : Int), (0 : Int))) ++ ({ data := #[(32 : UInt8)] } ++ fmtS (Prod.fst (Prod.snd (List.getD PS (Int.toNat (↑k : Int)) (ByteArray.empty, (0 : Int), (0 : Int))))) (Prod.snd (Prod.snd (List.getD PS (Int.toNat (↑k : Int)) (ByteArray.empty, (0 : Int), (0 : Int))))))))])))), (42, (.vec 42 1 0 (k + (1 : Nat))))], [(42, [(.arr ⟨false, 9, false, none⟩ 1 (fun i => bif Nat.blt i k then expR PS k i else elemF false (1 : Nat) [DV.con (Value.string (Prod.fst (List.getD PS (Int.toNat (↑k : Int)) (ByteArray.empty, (0 : Int), (0 : Int))) ++ ({ data := #[(32 : UInt8)] } ++ fmtS (Prod.fst (Prod.snd (List.getD PS (Int.toNat (↑k : Int)) (ByteArray.empty, (0 : Int), (0 : Int))))) (Prod.snd (Prod.snd (List.getD PS (Int.toNat (↑k : Int)) (ByteArray.empty, (0 : Int), (0 : Int))))))))] (i - k)))]), (5, [(vs (Prod.fst (List.getD PS (Int.toNat (↑k : Int)) (ByteArray.empty, (0 : Int), (0 : Int))))), (vi (Prod.fst (Prod.snd (List.getD PS (Int.toNat (↑k : Int)) (ByteArray.empty, (0 : Int), (0 : Int)))))), (vi (Prod.snd (Prod.snd (List.getD PS (Int.toNat (↑k : Int)) (ByteArray.empty, (0 : Int), (0 : Int))))))]), (1, [(.d (.slc 3 (List.length PS) (ptF PS))), (vi p), (vi q), (vi h)]), (900, [.dead])]⟩)))) ∧
          (((decide (Prod.fst (Prod.snd (List.getD PS (Int.toNat (↑k : Int)) (ByteArray.empty, (0 : Int), (0 : Int)))) < (0 : Int))) = false) →
          (((ByteArray.size (Prod.fst (List.getD PS (Int.toNat (↑k : Int)) (ByteArray.empty, (0 : Int), (0 : Int)))) + ByteArray.size ({ data := #[(32 : UInt8), (43 : UInt8)] } ++ fmtS (Prod.fst (Prod.snd (List.getD PS (Int.toNat (↑k : Int)) (ByteArray.empty, (0 : Int), (0 : Int))))) (Prod.snd (Prod.snd (List.getD PS (Int.toNat (↑k : Int)) (ByteArray.empty, (0 : Int), (0 : Int)))))) ≤ (9223372036854775807 : Nat)) ∧
          ((((k + (1 : Nat)) * (16 : Nat) ≤ (1099511627776 : Nat)) ∧
          (k + (1 : Nat) ≤ (1099511627776 : Nat))) ∧
          (∀ (i : Nat), i < (1 : Nat) → elemOK false (1 : Nat) (elemF false (1 : Nat) [DV.con (Value.string (Prod.fst (List.getD PS (Int.toNat (↑k : Int)) (ByteArray.empty, (0 : Int), (0 : Int))) ++ ({ data := #[(32 : UInt8), (43 : UInt8)] } ++ fmtS (Prod.fst (Prod.snd (List.getD PS (Int.toNat (↑k : Int)) (ByteArray.empty, (0 : Int), (0 : Int))))) (Prod.snd (Prod.snd (List.getD PS (Int.toNat (↑k : Int)) (ByteArray.empty, (0 : Int), (0 : Int))))))))] i) = true))) ∧
          ((I64 ((↑k : Int) + (1 : Int))) ∧
          Again (S27 PS p q h) (fun k => k ≤ List.length PS) (fun k => List.length PS - k) k ⟨regs 50 [(1, (.box 1 0)), (3, (.vec 42 1 0 (k + (1 : Nat)))), (4, (vi ((↑k : Int) + (1 : Int)))), (5, (.box 5 0)), (6, (vs ({ data := #[(32 : UInt8), (43 : UInt8)] } ++ fmtS (Prod.fst (Prod.snd (List.getD PS (Int.toNat (↑k : Int)) (ByteArray.empty, (0 : Int), (0 : Int))))) (Prod.snd (Prod.snd (List.getD PS (Int.toNat (↑k : Int)) (ByteArray.empty, (0 : Int), (0 : Int)))))))), (12, (vi ((↑k : Int)))), (13, (.box 1 0)), (14, (.d (.slc 3 (List.length PS) (ptF PS)))), (15, (vi ((↑(List.length PS) : Int)))), (16, (vb (decide ((↑k : Int) < (↑(List.length PS) : Int))))), (17, (vi ((↑k : Int)))), (18, (vi ((↑k : Int) + (1 : Int)))), (19, (.box 1 0)), (20, (.d (.slc 3 (List.length PS) (ptF PS)))), (21, (vi ((↑k : Int)))), (22, (.d (.ptr [(ds (Prod.fst (List.getD PS (Int.toNat (↑k : Int)) (ByteArray.empty, (0 : Int), (0 : Int))))), (di (Prod.fst (Prod.snd (List.getD PS (Int.toNat (↑k : Int)) (ByteArray.empty, (0 : Int), (0 : Int)))))), (di (Prod.snd (Prod.snd (List.getD PS (Int.toNat (↑k : Int)) (ByteArray.empty, (0 : Int), (0 : Int))))))]))), (23, (.d (.agg [(ds (Prod.fst (List.getD PS (Int.toNat (↑k : Int)) (ByteArray.empty, (0 : Int), (0 : Int))))), (di (Prod.fst (Prod.snd (List.getD PS (Int.toNat (↑k : Int)) (ByteArray.empty, (0 : Int), (0 : Int)))))), (di (Prod.snd (Prod.snd (List.getD PS (Int.toNat (↑k : Int)) (ByteArray.empty, (0 : Int), (0 : Int))))))]))), (24, (.box 5 1)), (25, (.d (.agg [(di (Prod.fst (Prod.snd (List.getD PS (Int.toNat (↑k : Int)) (ByteArray.empty, (0 : Int), (0 : Int)))))), (di (Prod.snd (Prod.snd (List.getD PS (Int.toNat (↑k : Int)) (ByteArray.empty, (0 : Int), (0 : Int))))))]))), (26, (vs (fmtS (Prod.fst (Prod.snd (List.getD PS (Int.toNat (↑k : Int)) (ByteArray.empty, (0 : Int), (0 : Int))))) (Prod.snd (Prod.snd (List.getD PS (Int.toNat (↑k : Int)) (ByteArray.empty, (0 : Int), (0 : Int)))))))), (27, (vs ({ data := #[(32 : UInt8), (43 : UInt8)] } ++ fmtS (Prod.fst (Prod.snd (List.getD PS (Int.toNat (↑k : Int)) (ByteArray.empty, (0 : Int), (0 : Int))))) (Prod.snd (Prod.snd (List.getD PS (Int.toNat (↑k : Int)) (ByteArray.empty, (0 : Int), (0 : Int)))))))), (28, (.box 5 1)), (29, (.box 5 1)), (30, (vi (Prod.fst (Prod.snd (List.getD PS (Int.toNat (↑k : Int)) (ByteArray.empty, (0 : Int), (0 : Int))))))), (31, (vb (decide (Prod.fst (Prod.snd (List.getD PS (Int.toNat (↑k : Int)) (ByteArray.empty, (0 : Int), (0 : Int)))) < (0 : Int))))), (36, (.vec 900 1 0 k)), (37, (.box 5 0)), (38, (vs (Prod.fst (List.getD PS (Int.toNat (↑k : Int)) (ByteArray.empty, (0 : Int), (0 : Int)))))), (39, (vs ({ data := #[(32 : UInt8), (43 : UInt8)] } ++ fmtS (Prod.fst (Prod.snd (List.getD PS (Int.toNat (↑k : Int)) (ByteArray.empty, (0 : Int), (0 : Int))))) (Prod.snd (Prod.snd (List.getD PS (Int.toNat (↑k : Int)) (ByteArray.empty, (0 : Int), (0 : Int)))))))), (40, (vs (Prod.fst (List.getD PS (Int.toNat (↑k : Int)) (ByteArray.empty, (0 : Int), (0 : Int))) ++ ({ data := #[(32 : UInt8), (43 : UInt8)] } ++ fmtS (Prod.fst (Prod.snd (List.getD PS (Int.toNat (↑k : Int)) (ByteArray.empty, (0 : Int), (0 : Int))))) (Prod.snd (Prod.snd (List.getD PS (Int.toNat (↑k : Int)) (ByteArray.empty, (0 : Int), (0 : Int))))))))), (41, (.d (.slc 1 1 (elemF false 1 [(ds (Prod.fst (List.getD PS (Int.toNat (↑k : Int)) (ByteArray.empty, (0 : Int), (0 : Int))) ++ ({ data := #[(32 : UInt8), (43 : UInt8)] } ++ fmtS (Prod.fst (Prod.snd (List.getD PS (Int.toNat (↑k : Int)) (ByteArray.empty, (0 : Int), (0 : Int))))) (Prod.snd (Prod.snd (List.getD PS (Int.toNat (↑k : Int)) (ByteArray.empty, (0 : Int), (0 : Int))))))))])))), (42, (.vec 42 1 0 (k + (1 : Nat))))], [(42, [(.arr ⟨false, 9, false, none⟩ 1 (fun i => bif Nat.blt i k then expR PS k i else elemF false (1 : Nat) [DV.con (Value.string (Prod.fst (List.getD PS (Int.toNat (↑k : Int)) (ByteArray.empty, (0 : Int), (0 : Int))) ++ ({ data := #[(32 : UInt8), (43 : UInt8)] } ++ fmtS (Prod.fst (Prod.snd (List.getD PS (Int.toNat (↑k : Int)) (ByteArray.empty, (0 : Int), (0 : Int))))) (Prod.snd (Prod.snd (List.getD PS (Int.toNat (↑k : Int)) (ByteArray.empty, (0 : Int), (0 : Int))))))))] (i - k)))]), (5, [(vs (Prod.fst (List.getD PS (Int.toNat (↑k : Int)) (ByteArray.empty, (0 : Int), (0 : Int))))), (vi (Prod.fst (Prod.snd (List.getD PS (Int.toNat (↑k : Int)) (ByteArray.empty, (0 : Int), (0 : Int)))))), (vi (Prod.snd (Prod.snd (List.getD PS (Int.toNat (↑k : Int)) (ByteArray.empty, (0 : Int), (0 : Int))))))]), (1, [(.d (.slc 3 (List.length PS) (ptF PS))), (vi p), (vi q), (vi h)]), (900, [.dead])]⟩))))))) ∧
          (((decide ((↑k : Int) < (↑(List.length PS) : Int))) = false) →
          AWP Tryz.prog G [.code (cAt (bodyOf Tryz.f27) [1, 1, 1, 1])] ⟨regs 50 [(1, (.box 1 0)), (3, (.vec 900 1 0 k)), (4, (vi ((↑k : Int)))), (12, (vi ((↑k : Int)))), (13, (.box 1 0)), (14, (.d (.slc 3 (List.length PS) (ptF PS)))), (15, (vi ((↑(List.length PS) : Int)))), (16, (vb (decide ((↑k : Int) < (↑(List.length PS) : Int)))))], [(1, [(.d (.slc 3 (List.length PS) (ptF PS))), (vi p), (vi q), (vi h)]), (900, [(.arr ⟨false, 9, false, none⟩ 1 (expR PS k))])]⟩ (Ret Tryz.prog Tryz.f27 (DV.slc (1 : Nat) (List.length PS + (1 : Nat)) fun i => bif Nat.blt ((0 : Nat) + i) (List.length PS) then expR PS (List.length PS) ((0 : Nat) + i) else elemF false (1 : Nat) [ds (totS h)] ((0 : Nat) + i - List.length PS)))))) (by kernel_rfl) ?_
        simp only [Int.toNat_natCast]
        refine ⟨fun h1 => ?_, fun h1 => ?_⟩
        · have hk2 : k < PS.length := by have := of_decide_eq_true h1; omega
          have hxs := hS.get k
          have hf := fmtS_size (PS.getD k (.empty, 0, 0)).2.1 (PS.getD k (.empty, 0, 0)).2.2
          refine ⟨⟨by omega, by omega⟩, ⟨f56 _ _, ?_⟩, fun h2 => ⟨⟨f56 _ _, ?_⟩, ⟨?_, ⟨by omega, by omega⟩, fun i hi => (by obtain rfl : i = 0 := (by omega); rfl)⟩, ⟨by omega, by omega⟩, Again.mkR [(42, 900)] rfl (k + 1) ?_ hk2 (by omega)⟩, fun h2 => ⟨⟨?_, ⟨by omega, by omega⟩, fun i hi => (by obtain rfl : i = 0 := (by omega); rfl)⟩, ⟨by omega, by omega⟩, Again.mkR [(42, 900)] rfl (k + 1) ?_ hk2 (by omega)⟩⟩
          · show 2 + _ ≤ _; omega
          · show 1 + _ ≤ _; omega
          · rw [ByteArray.size_append]; show _ + (1 + _) ≤ _; omega
          · refine of_eq (b :=
            (((((.box 1 0) : AV) = (.box 1 0)) ∧
            ((((.vec 900 1 0 (k + (1 : Nat))) : AV) = (.vec 900 1 0 (k + (1 : Nat)))) ∧
            ((((vi ((↑k : Int) + (1 : Int))) : AV) = (vi ((↑(k + (1 : Nat)) : Int)))) ∧
            True))) ∧
            ((((some [(.d (.slc 3 (List.length PS) (ptF PS))), (vi p), (vi q), (vi h)]) : (Option (List AV))) = (some [(.d (.slc 3 (List.length PS) (ptF PS))), (vi p), (vi q), (vi h)])) ∧
            ((((some [(.arr ⟨false, 9, false, none⟩ 1 (fun i => bif Nat.blt i k then expR PS k i else elemF false (1 : Nat) [DV.con (Value.string (Prod.fst (List.getD PS k (ByteArray.empty, (0 : Int), (0 : Int))) ++ ({ data := #[(32 : UInt8)] } ++ fmtS (Prod.fst (Prod.snd (List.getD PS k (ByteArray.empty, (0 : Int), (0 : Int))))) (Prod.snd (Prod.snd (List.getD PS k (ByteArray.empty, (0 : Int), (0 : Int))))))))] (i - k)))]) : (Option (List AV))) = (some [(.arr ⟨false, 9, false, none⟩ 1 (expR PS (k + (1 : Nat))))])) ∧
            True)))) (by kernel_rfl) ?_
            refine ⟨⟨rfl, rfl, rfl, trivial⟩, rfl, ?_, trivial⟩
            have e : lineR (PS.getD k (.empty, 0, 0)) = (PS.getD k (.empty, 0, 0)).1 ++ ((⟨#[32]⟩ : ByteArray) ++ fmtS (PS.getD k (.empty, 0, 0)).2.1 (PS.getD k (.empty, 0, 0)).2.2) := by
              unfold lineR refS; rw [if_pos (of_decide_eq_true h2)]
            rw [← e]; rfl
          · rw [ByteArray.size_append]; show _ + (2 + _) ≤ _; omega
          · refine of_eq (b :=
            (((((.box 1 0) : AV) = (.box 1 0)) ∧
            ((((.vec 900 1 0 (k + (1 : Nat))) : AV) = (.vec 900 1 0 (k + (1 : Nat)))) ∧
            ((((vi ((↑k : Int) + (1 : Int))) : AV) = (vi ((↑(k + (1 : Nat)) : Int)))) ∧
            True))) ∧
            ((((some [(.d (.slc 3 (List.length PS) (ptF PS))), (vi p), (vi q), (vi h)]) : (Option (List AV))) = (some [(.d (.slc 3 (List.length PS) (ptF PS))), (vi p), (vi q), (vi h)])) ∧
            ((((some [(.arr ⟨false, 9, false, none⟩ 1 (fun i => bif Nat.blt i k then expR PS k i else elemF false (1 : Nat) [DV.con (Value.string (Prod.fst (List.getD PS k (ByteArray.empty, (0 : Int), (0 : Int))) ++ ({ data := #[(32 : UInt8), (43 : UInt8)] } ++ fmtS (Prod.fst (Prod.snd (List.getD PS k (ByteArray.empty, (0 : Int), (0 : Int))))) (Prod.snd (Prod.snd (List.getD PS k (ByteArray.empty, (0 : Int), (0 : Int))))))))] (i - k)))]) : (Option (List AV))) = (some [(.arr ⟨false, 9, false, none⟩ 1 (expR PS (k + (1 : Nat))))])) ∧
            True)))) (by kernel_rfl) ?_
            refine ⟨⟨rfl, rfl, rfl, trivial⟩, rfl, ?_, trivial⟩
            have e : lineR (PS.getD k (.empty, 0, 0)) = (PS.getD k (.empty, 0, 0)).1 ++ ((⟨#[32, 43]⟩ : ByteArray) ++ fmtS (PS.getD k (.empty, 0, 0)).2.1 (PS.getD k (.empty, 0, 0)).2.2) := by
              unfold lineR refS; rw [if_neg (by simpa using h2)]
            rw [← e]; rfl
        · simp only [decide_eq_false_iff_not] at h1
          have hk2 : k = PS.length := by omega
          subst hk2
          refine walk (orc := orcEx PS p q h) (keep := []) (cuts := []) (n := 1000) follows ?_
          refine of_eqH (b :=
            ((FnOK Tryz.prog G 57 [(di h)] (ds (ptsS h)) ∧
            ((ByteArray.size { data := #[(116 : UInt8), (111 : UInt8), (116 : UInt8), (97 : UInt8), (108 : UInt8), (32 : UInt8)] } + ByteArray.size (ptsS h) ≤ (9223372036854775807 : Nat)) ∧
            ((((List.length PS + (1 : Nat)) * (16 : Nat) ≤ (1099511627776 : Nat)) ∧
            (List.length PS + (1 : Nat) ≤ (1099511627776 : Nat))) ∧
            (∀ (i : Nat), i < (1 : Nat) → elemOK false (1 : Nat) (elemF false (1 : Nat) [DV.con (Value.string ({ data := #[(116 : UInt8), (111 : UInt8), (116 : UInt8), (97 : UInt8), (108 : UInt8), (32 : UInt8)] } ++ ptsS h))] i) = true)))) ∧
            (((.slc 1 (List.length PS + (1 : Nat)) (fun i => bif Nat.blt ((0 : Nat) + i) (List.length PS) then expR PS (List.length PS) ((0 : Nat) + i) else elemF false (1 : Nat) [DV.con (Value.string ({ data := #[(116 : UInt8), (111 : UInt8), (116 : UInt8), (97 : UInt8), (108 : UInt8), (32 : UInt8)] } ++ ptsS h))] ((0 : Nat) + i - List.length PS))) : DV) = (.slc 1 (List.length PS + (1 : Nat)) (fun i => bif Nat.blt ((0 : Nat) + i) (List.length PS) then expR PS (List.length PS) ((0 : Nat) + i) else elemF false (1 : Nat) [ds (totS h)] ((0 : Nat) + i - List.length PS)))))) (by kernel_rfl) ?_
          have hp := ptsS_size h
          refine ⟨⟨f57 h, ?_, ⟨by omega, by omega⟩, fun i hi => (by obtain rfl : i = 0 := (by omega); rfl)⟩, rfl⟩
          show 6 + _ ≤ _; omega
    · rw [he, List.length_append, List.length_map, List.length_singleton]
      refine DV.rel_slc_congr (fun i hi => ?_) hv2
      simp only [Nat.zero_add]
      rcases Nat.lt_or_ge i PS.length with h3 | h3
      · have hb : Nat.blt i PS.length = true := by rw [Nat.blt_eq]; exact h3
        rw [hb, cond_true]
        unfold expR
        rw [rowRec_get h3]
        unfold stF
        have e1 : (PS.map lineS ++ [totS h])[i]? = some (lineS PS[i]) := by
          rw [List.getElem?_append_left (by rw [List.length_map]; exact h3), List.getElem?_map, List.getElem?_eq_getElem h3]; rfl
        rw [List.getD, List.getElem?_eq_getElem h3, List.getD, e1]
        show ds (lineR PS[i]) = ds (lineS PS[i])
        unfold lineR
        rw [line_ref (vB_eff hv (List.getElem_mem h3))]
      · have hi2 : i = PS.length := by omega
        subst hi2
        have hb : Nat.blt PS.length PS.length = false := by rw [Bool.eq_false_iff, ne_eq, Nat.blt_eq]; omega
        rw [hb, cond_false, Nat.sub_self]
        unfold stF
        rw [List.getD, List.getElem?_append_right (by rw [List.length_map]; exact Nat.le_refl _), List.length_map, Nat.sub_self]; rfl
end Go.Proofs
set_option autoImplicit false
namespace Go.Proofs
open Go Go.Ab Go.RowKit
set_option maxHeartbeats 2000000
set_option maxRecDepth 100000
variable {G : IH}
theorem argS_ref (PS : List Pt) (p q h : Int) (nm : ByteArray) (n d : Int) : (!vB PS p q h || (PS.length : Int) == 1024 || !nameB nm || !ok n d || decide (n < 0) || decide (n > d)) = argS PS p q h nm n d := by
  unfold argS
  cases hv : vB PS p q h with
  | false => rfl
  | true =>
    have hl := (vB_of hv).len
    have e1 : ((PS.length : Int) == 1024) = decide ((PS.length : Int) ≥ 1024) := by
      rw [Bool.eq_iff_iff, beq_iff_eq, decide_eq_true_eq]; omega
    rw [e1]
    cases ho : ok n d with
    | false => simp
    | true =>
      have e2 : lessB n d 0 1 = decide (n < 0) := lessB_neg ho
      have e3 : lessB 1 1 n d = decide (n > d) := by
        have h1 := less_iff (show ok 1 1 = true by decide) ho
        have h2 := qv_lt (a := 1) (b := 1) (c := n) (d := d) (by decide) (ok_pos ho)
        rw [Bool.eq_iff_iff, decide_eq_true_eq, h1, h2]
        constructor <;> intro h3 <;> omega
      rw [e2, e3]
def orcSr (PS : List Pt) (p q h : Int) : Oracle := fun f a => match f, a with
  | 25, [_] => some (db (vB PS p q h))
  | 48, [.con (.string s)] => some (db (nameB s))
  | 36, [fr a b] => some (db (ok a b))
  | 49, [fr a b, fr c d] => some (.tup [fr (mul1 a b c d) (mul2 a b c d), di (mul3 a b c d)])
  | 40, [fr a b, fr c d] => some (.tup [fr (sub1 a b c d) (sub2 a b c d), di (sub3 a b c d)])
  | 41, [fr n d] => some (.tup [di (hunF n d), db (ok n d)])
  | _, _ => none
def scF (PS : List Pt) (p q : Int) (nm : ByteArray) (n d : Int) : Nat → DV := fun i => bif Nat.blt (0 + i) (0 + PS.length) then (bif Nat.blt (0 + i) 0 then DV.con undef else ptF PS (0 + i - 0)) else elemF true 3 [ds nm, di (sub1 (mul1 p q n d) (mul2 p q n d) p q), di (sub2 (mul1 p q n d) (mul2 p q n d) p q)] (0 + i - (0 + PS.length))
theorem f23g (PS : List Pt) (p q h : Int) (hS : ShortP PS) (hl : PS.length ≤ 100000) (nm : ByteArray) (hnm : nm.size ≤ 1000000) (n d : Int) (r : DV) (hr1 : argS PS p q h nm n d = true → r = .tup [nilC, di 1]) (hr2 : argS PS p q h nm n d = false → ¬ goodS PS p q n d → r = .tup [nilC, di 2])
    (hr3 : argS PS p q h nm n d = false → goodS PS p q n d → r = .tup [.agg [.slc 3 (0 + PS.length + 1) (scF PS p q nm n d), di (mul1 p q n d), di (mul2 p q n d), di (hunF (mul1 p q n d) (mul2 p q n d))], di 0]) :
    FnOK Tryz.prog G 23 [crV PS p q h, ds nm, fr n d] r := by
  refine FnOK.walk (orc := orcSr PS p q h) (keep := []) follows Tryz.func23 rfl Tryz.call23 ?_
  refine of_eqH (b :=
    ((FnOK Tryz.prog G 25 [(.agg [(.slc 3 (List.length PS) (ptF PS)), (di p), (di q), (di h)])] (db (vB PS p q h)) ∧
    ((((!(!vB PS p q h || (↑(List.length PS) : Int) == (1024 : Int))) = true) →
    FnOK Tryz.prog G 48 [(ds nm)] (db (nameB nm))) ∧
    (((!(!vB PS p q h || (↑(List.length PS) : Int) == (1024 : Int) || !nameB nm)) = true) →
    FnOK Tryz.prog G 36 [(.agg [(di n), (di d)])] (db (ok n d))))) ∧
    ((((!vB PS p q h || (↑(List.length PS) : Int) == (1024 : Int) || !nameB nm || !ok n d || decide (n < (0 : Int)) || decide (n > d)) = true) →
    (((.tup [(.agg [(.con (.slice none 0 0)), (di 0), (di 0), (di 0)]), (di 1)]) : DV) = r)) ∧
    (((!vB PS p q h || (↑(List.length PS) : Int) == (1024 : Int) || !nameB nm || !ok n d || decide (n < (0 : Int)) || decide (n > d)) = false) →
    (FnOK Tryz.prog G 49 [(.agg [(di p), (di q)]), (.agg [(di n), (di d)])] (.tup [(.agg [(di (mul1 p q n d)), (di (mul2 p q n d))]), (di (mul3 p q n d))]) ∧
    (FnOK Tryz.prog G 40 [(.agg [(di (mul1 p q n d)), (di (mul2 p q n d))]), (.agg [(di p), (di q)])] (.tup [(.agg [(di (sub1 (mul1 p q n d) (mul2 p q n d) p q)), (di (sub2 (mul1 p q n d) (mul2 p q n d) p q))]), (di (sub3 (mul1 p q n d) (mul2 p q n d) p q))]) ∧
    ((((mul3 p q n d != (0 : Int) || sub3 (mul1 p q n d) (mul2 p q n d) p q != (0 : Int)) = true) →
    (((.tup [(.agg [(.con (.slice none 0 0)), (di 0), (di 0), (di 0)]), (di 2)]) : DV) = r)) ∧
    (((mul3 p q n d != (0 : Int) || sub3 (mul1 p q n d) (mul2 p q n d) p q != (0 : Int)) = false) →
    ((((((0 : Nat) + List.length PS) * (32 : Nat) ≤ (1099511627776 : Nat)) ∧
    ((0 : Nat) + List.length PS ≤ (1099511627776 : Nat))) ∧
    ((∀ (i : Nat), i < List.length PS → elemOK true (3 : Nat) (ptF PS i) = true) ∧
    (((((0 : Nat) + List.length PS + (1 : Nat)) * (32 : Nat) ≤ (1099511627776 : Nat)) ∧
    ((0 : Nat) + List.length PS + (1 : Nat) ≤ (1099511627776 : Nat))) ∧
    (∀ (i : Nat), i < (1 : Nat) → elemOK true (3 : Nat) (elemF true (3 : Nat) [DV.con (Value.string nm), DV.con (Value.int IntKind.i64 (sub1 (mul1 p q n d) (mul2 p q n d) p q)), DV.con (Value.int IntKind.i64 (sub2 (mul1 p q n d) (mul2 p q n d) p q))] i) = true)))) ∧
    (FnOK Tryz.prog G 41 [(.agg [(di (mul1 p q n d)), (di (mul2 p q n d))])] (.tup [(di (hunF (mul1 p q n d) (mul2 p q n d))), (db (ok (mul1 p q n d) (mul2 p q n d)))]) ∧
    (((.tup [(.agg [(.slc 3 ((0 : Nat) + List.length PS + (1 : Nat)) (fun i => bif Nat.blt ((0 : Nat) + i) ((0 : Nat) + List.length PS) then bif Nat.blt ((0 : Nat) + i) (0 : Nat) then DV.con undef else ptF PS ((0 : Nat) + i - (0 : Nat)) else elemF true (3 : Nat) [DV.con (Value.string nm), DV.con (Value.int IntKind.i64 (sub1 (mul1 p q n d) (mul2 p q n d) p q)), DV.con (Value.int IntKind.i64 (sub2 (mul1 p q n d) (mul2 p q n d) p q))] ((0 : Nat) + i - ((0 : Nat) + List.length PS)))), (di (mul1 p q n d)), (di (mul2 p q n d)), (di (hunF (mul1 p q n d) (mul2 p q n d)))]), (di 0)]) : DV) = r))))))))))) (by kernel_rfl) ?_
  refine ⟨⟨f25 PS p q h hS (by omega), fun _ => f48 _ hnm, fun _ => f36 _ _⟩, fun h1 => ?_, fun h1 => ⟨f49 _ _ _ _, f40 _ _ _ _, fun h2 => ?_, fun h2 => ⟨⟨⟨by omega, by omega⟩, fun i hi => ?_, ⟨by omega, by omega⟩, fun i hi => ?_⟩, f41 _ _, ?_⟩⟩⟩
  · rw [argS_ref] at h1
    exact (hr1 h1).symm
  · rw [argS_ref] at h1
    refine (hr2 h1 fun hg => ?_).symm
    simp only [Bool.or_eq_true, bne_iff_ne, ne_eq] at h2
    rcases h2 with h2 | h2
    · exact h2 hg.1
    · exact h2 hg.2
  · rfl
  · obtain rfl : i = 0 := by omega
    rfl
  · rw [argS_ref] at h1
    simp only [Bool.or_eq_false_iff, bne_eq_false_iff_eq] at h2
    exact (hr3 h1 ⟨h2.1, h2.2⟩).symm
theorem f23 (PS : List Pt) (p q h : Int) (hS : ShortP PS) (hl : PS.length ≤ 100000) (nm : ByteArray) (hnm : nm.size ≤ 1000000) (n d : Int) :
    FnOK Tryz.prog G 23 [crV PS p q h, ds nm, fr n d] (scV PS p q h nm n d) := by
  cases ha : argS PS p q h nm n d with
  | true =>
    rw [sc_arg ha]
    exact FnOK.res (f23g PS p q h hS hl nm hnm n d _ (fun _ => rfl) (fun h => by rw [ha] at h; cases h) (fun h => by rw [ha] at h; cases h)) (nil_crV 1)
  | false =>
    have hb := sc_fine ha
    by_cases hg : goodS PS p q n d
    · rw [decide_eq_true hg] at hb
      rw [sc_good ha hb, sN_good hg]
      refine FnOK.res (f23g PS p q h hS hl nm hnm n d _ (fun h => by rw [ha] at h; cases h) (fun _ h => absurd hg h) (fun _ _ => rfl)) fun k v hv => ?_
      obtain ⟨vs, rfl, v1, vs1, rfl, ⟨us, rfl, w1, us1, rfl, h1, h2⟩, h3⟩ := hv
      refine ⟨_, rfl, _, _, rfl, ⟨_, rfl, _, _, rfl, ?_, h2⟩, h3⟩
      rw [List.length_append, List.length_singleton]
      rw [Nat.zero_add] at h1
      refine DV.rel_slc_congr (fun i hi => ?_) h1
      unfold scF
      simp only [Nat.zero_add, Nat.sub_zero]
      rw [← ptR_F (L := PS ++ [(nm, sub1 (mul1 p q n d) (mul2 p q n d) p q, sub2 (mul1 p q n d) (mul2 p q n d) p q)]) (by rw [List.length_append, List.length_singleton]; exact hi), ptR_snoc]
      rcases Nat.lt_or_ge i PS.length with h5 | h5
      · have hb : Nat.blt i PS.length = true := by rw [Nat.blt_eq]; exact h5
        rw [hb]
        simp only [cond_true]
        rw [ptR_F h5]; rfl
      · have hb : Nat.blt i PS.length = false := by rw [Bool.eq_false_iff, ne_eq, Nat.blt_eq]; omega
        rw [hb]; rfl
    · rw [decide_eq_false hg] at hb
      rw [sc_bad ha hb]
      exact FnOK.res (f23g PS p q h hS hl nm hnm n d _ (fun h => by rw [ha] at h; cases h) (fun _ _ => rfl) (fun _ h => absurd h hg)) (nil_crV 2)
def orcL8 (PS : List Pt) (p q h : Int) (nm : ByteArray) (n d : Int) : Oracle := fun f a => match f, a with
  | 10, [] => some (db true)
  | 21, [_] => some (db (fewP PS))
  | 22, [_, _, _] => some (scV PS p q h nm n d)
  | 23, [_, _, _] => some (scV PS p q h nm n d)
  | 15, [_, _] => some (db true)
  | 16, [_, _] => some (db true)
  | 24, [_] => some (db (vB PS p q h))
  | 25, [_] => some (db (vB PS p q h))
  | 26, [_] => some (.slc 1 (expl PS p q h).length (stF (expl PS p q h)))
  | 27, [_] => some (.slc 1 (expl PS p q h).length (stF (expl PS p q h)))
  | _, _ => none
theorem f8 (hZ : Glob G 0 zeroL) (hT : Tab G) (PS : List Pt) (p q h : Int) (hl : PS.length ≤ maxLen) (nm : ByteArray) (n d : Int) :
    FnOK Tryz.prog G 8 [crV PS p q h, ds nm, fr n d] (db true) := by
  refine FnOK.walk (orc := orcL8 PS p q h nm n d) (keep := []) follows Tryz.func8 rfl Tryz.call8 ?_
  refine of_eqH (b :=
    (FnOK Tryz.prog G 10 [] (db true) ∧
    (((false = true) →
    (((db false) : DV) = (db true))) ∧
    ((false = false) →
    (FnOK Tryz.prog G 21 [(.agg [(.slc 3 (List.length PS) (ptF PS)), (di p), (di q), (di h)])] (db (fewP PS)) ∧
    ((((!fewP PS || decide ((↑(ByteArray.size nm) : Int) > (40 : Int))) = true) →
    (((db true) : DV) = (db true))) ∧
    (((!fewP PS || decide ((↑(ByteArray.size nm) : Int) > (40 : Int))) = false) →
    (FnOK Tryz.prog G 22 [(.agg [(.slc 3 (List.length PS) (ptF PS)), (di p), (di q), (di h)]), (ds nm), (.agg [(di n), (di d)])] (.tup [(.agg [(.slc 3 (List.length (scPs PS p q h nm n d)) (ptF (scPs PS p q h nm n d))), (di (scP PS p q h nm n d)), (di (scQ PS p q h nm n d)), (di (scH PS p q h nm n d))]), (di (scE PS p q h nm n d))]) ∧
    (FnOK Tryz.prog G 23 [(.agg [(.slc 3 (List.length PS) (ptF PS)), (di p), (di q), (di h)]), (ds nm), (.agg [(di n), (di d)])] (.tup [(.agg [(.slc 3 (List.length (scPs PS p q h nm n d)) (ptF (scPs PS p q h nm n d))), (di (scP PS p q h nm n d)), (di (scQ PS p q h nm n d)), (di (scH PS p q h nm n d))]), (di (scE PS p q h nm n d))]) ∧
    ((FnOK Tryz.prog G 15 [(.agg [(.slc 3 (List.length (scPs PS p q h nm n d)) (ptF (scPs PS p q h nm n d))), (di (scP PS p q h nm n d)), (di (scQ PS p q h nm n d)), (di (scH PS p q h nm n d))]), (.agg [(.slc 3 (List.length (scPs PS p q h nm n d)) (ptF (scPs PS p q h nm n d))), (di (scP PS p q h nm n d)), (di (scQ PS p q h nm n d)), (di (scH PS p q h nm n d))])] (db true) ∧
    ((((true && scE PS p q h nm n d == scE PS p q h nm n d) = true) →
    FnOK Tryz.prog G 24 [(.agg [(.slc 3 (List.length PS) (ptF PS)), (di p), (di q), (di h)])] (db (vB PS p q h))) ∧
    ((((true && scE PS p q h nm n d == scE PS p q h nm n d) = true) →
    FnOK Tryz.prog G 25 [(.agg [(.slc 3 (List.length PS) (ptF PS)), (di p), (di q), (di h)])] (db (vB PS p q h))) ∧
    ((((true && scE PS p q h nm n d == scE PS p q h nm n d && vB PS p q h == vB PS p q h) = true) →
    FnOK Tryz.prog G 26 [(.agg [(.slc 3 (List.length PS) (ptF PS)), (di p), (di q), (di h)])] (.slc 1 (List.length (expl PS p q h)) (stF (expl PS p q h)))) ∧
    ((((true && scE PS p q h nm n d == scE PS p q h nm n d && vB PS p q h == vB PS p q h) = true) →
    FnOK Tryz.prog G 27 [(.agg [(.slc 3 (List.length PS) (ptF PS)), (di p), (di q), (di h)])] (.slc 1 (List.length (expl PS p q h)) (stF (expl PS p q h)))) ∧
    (((true && scE PS p q h nm n d == scE PS p q h nm n d && vB PS p q h == vB PS p q h) = true) →
    FnOK Tryz.prog G 16 [(.slc 1 (List.length (expl PS p q h)) (stF (expl PS p q h))), (.slc 1 (List.length (expl PS p q h)) (stF (expl PS p q h)))] (db true))))))) ∧
    (((db (true && scE PS p q h nm n d == scE PS p q h nm n d && vB PS p q h == vB PS p q h && true)) : DV) = (db true)))))))))))) (by kernel_rfl) ?_
  refine ⟨f10 hZ hT, fun h => (by cases h), fun _ => ⟨f21 PS p q h hl, fun _ => rfl, fun hf => ?_⟩⟩
  simp only [Bool.or_eq_false_iff, Bool.not_eq_false', decide_eq_false_iff_not] at hf
  obtain ⟨hf1, hf2⟩ := hf
  unfold fewP at hf1
  simp only [Bool.and_eq_true, decide_eq_true_eq] at hf1
  have hS : ShortP PS := fun x hx => by
    have := List.all_eq_true.1 hf1.1 x hx
    simp only [decide_eq_true_eq] at this
    omega
  have hsc : (scPs PS p q h nm n d).length ≤ 1000000 := by
    have h1 : (sN PS p q nm n d).ps.length ≤ PS.length + 1 := by
      unfold sN become sT
      split
      · simp
      · simp
    unfold scPs
    split
    · simp
    · split
      · simp
      · omega
  have hex : (expl PS p q h).length ≤ 1000000 := by
    unfold expl
    split
    · simp; omega
    · simp
  refine ⟨f22c hZ PS p q h hS (by omega) nm (by omega) n d, f23 PS p q h hS (by omega) nm (by omega) n d, ⟨f15 _ _ _ _ hsc, fun _ => f24 hZ PS p q h hS (by omega), fun _ => f25 PS p q h hS (by omega), fun _ => f26 hZ hT PS p q h hS (by omega), fun _ => f27 hT PS p q h hS (by omega), fun _ => f16 _ hex⟩, ?_⟩
  refine congrArg db ?_
  simp
end Go.Proofs