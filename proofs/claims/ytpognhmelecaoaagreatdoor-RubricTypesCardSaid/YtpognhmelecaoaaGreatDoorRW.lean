import Derived.Test.YtpognhmelecaoaaGreatDoorRV
import Derived.Test.YtpognhmelecaoaaGreatDoorAcD
import Derived.Test.YtpognhmelecaoaaGreatDoorEM
set_option autoImplicit false
namespace Go.Proofs
open Go Go.Ab Go.RowKit
/-! The two ways in which rules are valid are one. -/
theorem ln_cat {R : List Rl} : ∀ (k i : Nat), i < k → (lnB (R.getD i rl0)).size ≤ (catB R k).size
  | k + 1, i, h => by
    simp only [catB, ByteArray.size_append]
    rcases Nat.lt_or_ge i k with h1 | h1
    · have := ln_cat (R := R) k i h1; omega
    · obtain rfl : i = k := by omega
      omega
theorem ln_am (r : Rl) : (fmtE r.am).size ≤ (lnB r).size := by
  unfold lnB
  simp only [ByteArray.size_append]; omega
theorem ln_wh {r : Rl} (h : r.wh.k ≠ 0) : (fmtE r.wh).size ≤ (lnB r).size := by
  unfold lnB
  rw [if_neg h]
  simp only [ByteArray.size_append]; omega
theorem ru_rf {r : Rl} (h : ruB r = true) (hz : (lnB r).size ≤ 16384) : rfB r = true := by
  have h0 := h
  have h1 := ln_am r
  unfold ruB at h
  unfold rfB fitE
  simp only [Bool.and_eq_true, Bool.or_eq_true, decide_eq_true_eq] at h ⊢
  obtain ⟨⟨⟨⟨⟨⟨q0, q4⟩, q1⟩, q2⟩, q5, q6⟩, q7⟩, q8⟩ := h
  refine ⟨⟨⟨⟨⟨q0, by omega⟩, q1⟩, q2⟩, ⟨q7, q5⟩, by omega⟩, ?_⟩
  rcases q8 with q8 | q8
  · exact .inl q8
  · refine .inr ⟨⟨q8, q6⟩, ?_⟩
    have := ln_wh (r := r) (fun hk => snd_rk q8 (by rw [hk]; rfl))
    omega
theorem vaR_S {R : List Rl} (hR : ∀ i, i < R.length → RlS (R.getD i rl0)) : vaR R = vaS R := by
  by_cases h0 : R.length = 0
  · obtain rfl := List.eq_nil_of_length_eq_zero h0
    rfl
  have hm : ∀ r ∈ R, ∃ i, i < R.length ∧ R.getD i rl0 = r := fun r hr => by
    obtain ⟨i, hi, rfl⟩ := List.getElem_of_mem hr
    exact ⟨i, hi, by rw [List.getD, List.getElem?_eq_getElem hi]; rfl⟩
  unfold vaR
  rw [decide_eq_false h0, Bool.false_or]
  unfold fmtR vaS
  by_cases h1 : R.length > 32
  · rw [if_pos h1, decide_eq_false (by omega : ¬ R.length ≤ 32)]; rfl
  rw [if_neg h1, decide_eq_true (by omega : R.length ≤ 32), Bool.true_and]
  cases h2 : R.any fun r => !ruB r with
  | true =>
    rw [if_pos rfl]
    obtain ⟨r, hr, hb⟩ := List.any_eq_true.1 h2
    have : R.all rfB = false := by
      rw [List.all_eq_false]
      refine ⟨r, hr, fun h => ?_⟩
      rw [rf_ru h] at hb; cases hb
    rw [this]; rfl
  | false =>
    rw [if_neg (by decide)]
    have hu : ∀ i, i < R.length → ruB (R.getD i rl0) = true := fun i hi => by
      have := List.any_eq_false.1 h2 _ (getD_mem' (x0 := rl0) hi)
      simpa using this
    have hp := (cat_small hR R.length (Nat.le_refl _) hu).2 (by omega)
    by_cases h3 : (catB R R.length).size > 16384
    · rw [if_pos h3, decide_eq_false (by omega : ¬ (catB R R.length).size ≤ 16384), Bool.and_false]; rfl
    · rw [if_neg h3, decide_eq_true (by omega : (catB R R.length).size ≤ 16384), Bool.and_true, decide_eq_false (by omega)]
      symm
      rw [Bool.not_false, List.all_eq_true]
      intro r hr
      obtain ⟨i, hi, rfl⟩ := hm r hr
      exact ru_rf (hu i hi) (Nat.le_trans (ln_cat _ _ hi) (by omega))
end Go.Proofs
set_option autoImplicit false
namespace Go.Proofs
open Go Go.Ab Go.RowKit
set_option maxHeartbeats 4000000
set_option maxRecDepth 100000
variable {G : IH}
/-! The reference's Check. -/
theorem bad_code {R : List KR} {p : Int × Int} (h : badR R = some p) : p.2 ≠ 0 := by
  induction R with
  | nil => cases h
  | cons r R ih =>
    unfold badR at h
    by_cases hr : r.2.2 ≠ 0
    · rw [if_pos hr] at h; cases h; exact hr
    · rw [if_neg hr] at h; exact ih h
theorem ty_pos {l : List Fc} {ws : List ByteArray} {x : Ex} (h : (tyE l ws x).2.2 = 0) : (tyE l ws x).2.1 = x.pos := by
  rw [tyE_eq] at h ⊢
  unfold tyC at h ⊢
  cases hb : badR (tyL l ws x.kids) with
  | none => simp only [hb] at h ⊢
  | some p =>
    exfalso
    simp only [hb] at h
    exact bad_code hb h
theorem exN (want : Int) (L : List Fc) (x : Ex) : ((nrK (tyW L x)).2.2 = 0 ∧ (nrK (tyW L x)).1 ≠ want → exM want (tyW L x) = (x.pos, 5)) ∧
    (¬ ((nrK (tyW L x)).2.2 = 0 ∧ (nrK (tyW L x)).1 ≠ want) → ((nrK (tyW L x)).2.2 ≠ 0 → exM want (tyW L x) = ((nrK (tyW L x)).2.1, (nrK (tyW L x)).2.2)) ∧ ((nrK (tyW L x)).2.2 = 0 → xpC want (tyW L x) = 0)) := by
  by_cases hc : (tyW L x).2.2 = 0
  · have e : nrK (tyW L x) = ((tyW L x).1, 0, 0) := by unfold nrK; rw [if_neg (by omega)]
    rw [e]
    refine ⟨fun h => ?_, fun h => ⟨fun h1 => absurd rfl h1, fun _ => ?_⟩⟩
    · show ((tyW L x).2.1, xpC want (tyW L x)) = _
      rw [ty_pos hc]
      unfold xpC
      rw [if_pos ⟨hc, h.2⟩]
    · unfold xpC
      rw [if_neg (fun hh => h ⟨rfl, hh.2⟩), hc]
  · have e : nrK (tyW L x) = (0, (tyW L x).2) := by unfold nrK; rw [if_pos hc]
    rw [e]
    refine ⟨fun h => absurd h.1 hc, fun h => ⟨fun h1 => ?_, fun h1 => absurd h1 hc⟩⟩
    show ((tyW L x).2.1, xpC want (tyW L x)) = _
    unfold xpC
    rw [if_neg (fun hh => hc hh.1)]
noncomputable def orc35 (L : List Fc) (R : List Rl) : Oracle := fun f a => match f, a with
  | 22, [_] => some (db (vfB L))
  | 71, [_] => some (db (vaR R))
  | 65, [e, _] => some (.tup [di (nrK (tyW L (rdE e))).1, di (nrK (tyW L (rdE e))).2.1, di (nrK (tyW L (rdE e))).2.2])
  | _, _ => none
noncomputable def S35 (L : List Fc) (R : List Rl) (k : Nat) : AS := ⟨regs Tryz.f35.ntmps [(0, .d (rlsD R)), (1, .d (fcsD L)), (6, vi k)], []⟩
noncomputable def S35b (L : List Fc) (R : List Rl) (k j : Nat) : AS := ⟨regs Tryz.f35.ntmps [(0, .d (rlsD R)), (1, .d (fcsD L)), (6, vi k), (7, .box 7 0), (8, vi j)], [(7, (rlL (R.getD k rl0)).map .d)]⟩
def agJ (R : List Rl) (k j : Nat) : Bool := (decide ((j : Int) < k) && decide ((R.getD j rl0).nm = (R.getD k rl0).nm)) || decide ((R.getD j rl0).gr = (R.getD k rl0).nm)
theorem aj_hit {R : List Rl} {k j : Nat} (hk : k < R.length) (hj : j < R.length) (h : agJ R k j = true) : (agB R k (R.getD k rl0).nm || gpB R (R.getD k rl0).nm) = true := by
  unfold agJ at h
  simp only [Bool.or_eq_true, Bool.and_eq_true, decide_eq_true_eq] at h ⊢
  rcases h with ⟨h1, h2⟩ | h2
  · refine .inl ?_
    unfold agB
    rw [List.any_eq_true]
    have h3 : j < (R.take k).length := by rw [List.length_take]; omega
    refine ⟨(R.take k)[j], List.getElem_mem h3, ?_⟩
    rw [List.getElem_take, decide_eq_true_eq, ← h2, List.getD, List.getElem?_eq_getElem hj, Option.getD_some]
  · refine .inr ?_
    unfold gpB
    rw [List.any_eq_true]
    exact ⟨_, getD_mem' hj, by rw [decide_eq_true_eq]; exact h2⟩
theorem aj_none {R : List Rl} {k : Nat} (h : ∀ i, i < R.length → agJ R k i = false) : (agB R k (R.getD k rl0).nm || gpB R (R.getD k rl0).nm) = false := by
  rw [Bool.or_eq_false_iff]
  have e : ∀ i (h : i < R.length), R.getD i rl0 = R[i] := fun i h => by rw [List.getD, List.getElem?_eq_getElem h]; rfl
  constructor
  · unfold agB
    rw [List.any_eq_false]
    intro r hr
    obtain ⟨i, hi, rfl⟩ := List.getElem_of_mem hr
    rw [List.length_take] at hi
    have := h i (by omega)
    unfold agJ at this
    rw [Bool.or_eq_false_iff, decide_eq_true (by omega : (i : Int) < k), Bool.true_and] at this
    rw [List.getElem_take, ← e i (by omega), this.1]; decide
  · unfold gpB
    rw [List.any_eq_false]
    intro r hr
    obtain ⟨i, hi, rfl⟩ := List.getElem_of_mem hr
    have := h i hi
    unfold agJ at this
    rw [Bool.or_eq_false_iff] at this
    rw [← e i hi, this.2]; decide
theorem vf_l {a b : Bool} (h : (!a || !b) = false) : a = true := by
  revert h; cases a <;> cases b <;> decide
theorem wds_ok {L : List Fc} (h : ∀ i, i < L.length → FcS (L.getD i fc0)) : ∀ f ∈ L, f.words.length ≤ 1000 := fun f hf => by
  obtain ⟨i, hi, rfl⟩ := List.getElem_of_mem hf
  have := (h i hi).ln
  rwa [List.getD, List.getElem?_eq_getElem hi] at this
theorem f35 (hT : Tab G) (L : List Fc) (R : List Rl) (h : ∀ i, i < L.length → FcS (L.getD i fc0)) (hl : L.length ≤ 1000) (hR : ∀ i, i < R.length → RlS (R.getD i rl0)) (hn : R.length ≤ 1000) : FnOK Tryz.prog G 35 [rlsD R, fcsD L] (.tup [di (chR L R).1, di (chR L R).2]) := by
  refine FnOK.walkK (orc := orc35 L R) (keep := []) follows Tryz.func35 rfl Tryz.call35 ?_
  refine of_tr (fun ZT ZW ZQ ZK => ((ZK 22 [(.slc 7 L.length (fcF L))] (db (vfB L)) ∧ (((!!vfB L) = true) → ZK 71 [(.slc 16 R.length (rlF R))] (db (vaR R)))) ∧ (((!vfB L || !vaR R) = true) → (((.tup [(di 0), (di 1)]) : DV) = (.tup [(di (chR L R).fst), (di (chR L R).snd)]))) ∧ (((!vfB L || !vaR R) = false) → ZW [cd Tryz.f35 [1, 1, 0, 1, 0], (.blk 0), cd Tryz.f35 [1, 1, 1]] (stS ZT [1]) ZQ))) (by kernel_rfl) ?_
  refine ⟨⟨f22 hT L h hl, fun _ => (by rw [vaR_S hR]; exact f71 hT R hR hn)⟩, fun h1 => ?_, fun h1 => ?_⟩
  · unfold chR
    rw [if_pos h1]
  refine AWP.loop (c := cAt (bodyOf Tryz.f35) [1, 1, 0, 1, 0, 0]) (by kernel_rfl) (S35 L R) (fun k => k ≤ R.length ∧ ∀ i, i < k → chS L R i = none) (fun k => R.length - k) 0 ?_ ⟨Nat.zero_le _, fun i hi => by omega⟩ ?_
  · exact AS.leA (by kernel_rfl)
  · rintro k ⟨hk, hkd⟩
    refine walkK (orc := orc35 L R) (keep := []) (cuts := []) (n := 1000) follows ?_
    refine of_rd (fun ZT ZW ZQ _ _ ZR => ((((decide ((↑k : Int) < ↑R.length)) = true) → (((0 ≤ (↑k : Int)) ∧ ((↑k : Int) < ↑R.length)) ∧ ZW [cd Tryz.f35 [1, 1, 0, 1, 0, 0, 1, 0, 0, 1, 0, 1, 0], (.blk 2), cd Tryz.f35 [1, 1, 0, 1, 0, 0, 1, 0, 0, 1, 1], (.blk 1), cd Tryz.f35 [1, 1, 0, 1, 0, 0, 1, 1]] (stS ZT [0]) ZR)) ∧ (((decide ((↑k : Int) < ↑R.length)) = false) → ZW [cd Tryz.f35 [1, 1, 1]] (stS ZT [1]) ZQ))) (by kernel_rfl) ?_
    refine ⟨fun h2 => ?_, fun h2 => ?_⟩
    · have hk2 : k < R.length := by have := of_decide_eq_true h2; omega
      have hs := hR k hk2
      refine ⟨⟨by omega, by omega⟩, ?_⟩
      have e1 : rdE (ndX (R.getD k rl0).ma (R.getD k rl0).am) = (R.getD k rl0).am := rdE_eq hs.ha
      have e2 : rdE (ndX (R.getD k rl0).mw (R.getD k rl0).wh) = (R.getD k rl0).wh := rdE_eq hs.hw
      have hit : ∀ p, chS L R k = some p → chR L R = p := fun p hp => by
        unfold chR
        rw [if_neg (by rw [h1]; decide)]
        exact chF_hit R.length 0 k hk2 (fun j _ hj => hkd j (by omega)) (by rw [Nat.zero_add]; exact hp)
      have hru := vaR_ru (va_of h1) _ hk2
      obtain ⟨s1, s2⟩ := ru_snd hru
      refine AWP.loop (c := cAt (bodyOf Tryz.f35) [1, 1, 0, 1, 0, 0, 1, 0, 0, 1, 0, 1, 0, 0]) (by kernel_rfl) (S35b L R k) (fun j => j ≤ R.length ∧ ∀ i, i < j → agJ R k i = false) (fun j => R.length - j) 0 ?_ ⟨Nat.zero_le _, fun i hi => by omega⟩ ?_
      · refine AS.leZ [] [0] (b := ((T0 ∧ T0 ∧ T0 ∧ T0 ∧ T0 ∧ True) ∧ ((some [(vi (R.getD (↑k : Int).toNat rl0).kind), (vs (R.getD (↑k : Int).toNat rl0).nm), (vs (R.getD (↑k : Int).toNat rl0).gr), (vi (R.getD (↑k : Int).toNat rl0).am.k), (vs (R.getD (↑k : Int).toNat rl0).am.s), (vi (R.getD (↑k : Int).toNat rl0).am.n), (vi (R.getD (↑k : Int).toNat rl0).am.d), (vi (R.getD (↑k : Int).toNat rl0).am.pos), (.d (.slc 6 (R.getD (↑k : Int).toNat rl0).am.kids.length (lay (exG (R.getD (↑k : Int).toNat rl0).ma) (R.getD (↑k : Int).toNat rl0).am.kids))), (vi (R.getD (↑k : Int).toNat rl0).wh.k), (vs (R.getD (↑k : Int).toNat rl0).wh.s), (vi (R.getD (↑k : Int).toNat rl0).wh.n), (vi (R.getD (↑k : Int).toNat rl0).wh.d), (vi (R.getD (↑k : Int).toNat rl0).wh.pos), (.d (.slc 6 (R.getD (↑k : Int).toNat rl0).wh.kids.length (lay (exG (R.getD (↑k : Int).toNat rl0).mw) (R.getD (↑k : Int).toNat rl0).wh.kids))), (vi (R.getD (↑k : Int).toNat rl0).pos)]) : (Option (List AV))) = (some [(vi (R.getD k rl0).kind), (vs (R.getD k rl0).nm), (vs (R.getD k rl0).gr), (vi (R.getD k rl0).am.k), (vs (R.getD k rl0).am.s), (vi (R.getD k rl0).am.n), (vi (R.getD k rl0).am.d), (vi (R.getD k rl0).am.pos), (.d (.slc 6 (R.getD k rl0).am.kids.length (lay (exG (R.getD k rl0).ma) (R.getD k rl0).am.kids))), (vi (R.getD k rl0).wh.k), (vs (R.getD k rl0).wh.s), (vi (R.getD k rl0).wh.n), (vi (R.getD k rl0).wh.d), (vi (R.getD k rl0).wh.pos), (.d (.slc 6 (R.getD k rl0).wh.kids.length (lay (exG (R.getD k rl0).mw) (R.getD k rl0).wh.kids))), (vi (R.getD k rl0).pos)]) ∧ True)) (by kernel_rfl) (by kernel_rfl) ?_
        exact ⟨⟨rfl, rfl, rfl, rfl, rfl, trivial⟩, rfl, trivial⟩
      · rintro j ⟨hj, hjd⟩
        refine walkK (orc := orc35 L R) (keep := []) (cuts := []) (n := 1000) follows ?_
        refine of_rd (fun ZT ZW ZQ _ ZA _ => (fun Za => ((((decide ((↑j : Int) < ↑R.length)) = true) → (((((decide ((↑j : Int) < ↑k)) = true) → ((0 ≤ (↑j : Int)) ∧ ((↑j : Int) < ↑R.length))) ∧ (((!(decide ((↑j : Int) < ↑k) && (R.getD (↑j : Int).toNat rl0).nm.toList == (R.getD k rl0).nm.toList)) = true) → ((0 ≤ (↑j : Int)) ∧ ((↑j : Int) < ↑R.length)))) ∧ ((Za = true) → (((.tup [(di (R.getD k rl0).pos), (di 6)]) : DV) = (.tup [(di (chR L R).fst), (di (chR L R).snd)]))) ∧ ((Za = false) → ((I64 (↑j + 1)) ∧ (ZA (stS ZT [0, 1])))))) ∧ (((decide ((↑j : Int) < ↑R.length)) = false) → ZW [cd Tryz.f35 [1, 1, 0, 1, 0, 0, 1, 0, 0, 1, 1], (.blk 1), cd Tryz.f35 [1, 1, 0, 1, 0, 0, 1, 1]] (stS ZT [1]) ZQ))) (decide ((↑j : Int) < ↑k) && (R.getD (↑j : Int).toNat rl0).nm.toList == (R.getD k rl0).nm.toList || (R.getD (↑j : Int).toNat rl0).gr.toList == (R.getD k rl0).nm.toList)) (by kernel_rfl) ?_
        refine ⟨fun h3 => ?_, fun h3 => ?_⟩
        · have hj2 : j < R.length := by have := of_decide_eq_true h3; omega
          simp only [Int.toNat_natCast, toList_beq]
          refine ⟨⟨fun _ => ⟨by omega, by omega⟩, fun _ => ⟨by omega, by omega⟩⟩, fun h4 => ?_, fun h4 => ⟨⟨by omega, by omega⟩, Again.mk (j + 1) ?_ ⟨hj2, fun i hi => ?_⟩ (by omega)⟩⟩
          · rw [hit ((R.getD k rl0).pos, 6) (by
              unfold chS
              rw [if_pos (aj_hit hk2 hj2 h4)])]
          · exact AS.leA (by kernel_rfl)
          · rcases Nat.lt_or_ge i j with h5 | h5
            · exact hjd i h5
            · obtain rfl : i = j := by omega
              exact h4
        · have h3 := of_decide_eq_false h3
          refine walkK (orc := orc35 L R) (keep := []) (cuts := []) (n := 1000) follows ?_
          refine of_rd (fun ZT _ _ ZK ZA _ => (fun Za Zb Zc Zd => (((Zd = true) → (((.tup [(di (R.getD k rl0).pos), (di 5)]) : DV) = Zc)) ∧ ((Zd = false) → (ZK 65 [(ndX (R.getD k rl0).ma (R.getD k rl0).am), (.slc 7 L.length (fcF L))] (.tup [(di Zb.fst), (di Zb.snd.fst), (di Zb.snd.snd)]) ∧ (((Zb.snd.snd == 0 && Zb.fst != 0) = true) → (((true = true) → (((.tup [(di (R.getD k rl0).am.pos), (di 5)]) : DV) = Zc)) ∧ ((true = false) → (((((R.getD k rl0).wh.k == 0) = true) → ((I64 (↑k + 1)) ∧ (ZA (stS ZT [1, 0, 1, 0])))) ∧ ((((R.getD k rl0).wh.k == 0) = false) → (ZK 65 [(ndX (R.getD k rl0).mw (R.getD k rl0).wh), (.slc 7 L.length (fcF L))] (.tup [(di Za.fst), (di Za.snd.fst), (di Za.snd.snd)]) ∧ (((Za.snd.snd == 0 && Za.fst != 1) = true) → (((true = true) → (((.tup [(di (R.getD k rl0).wh.pos), (di 5)]) : DV) = Zc)) ∧ ((true = false) → ((I64 (↑k + 1)) ∧ (ZA (stS ZT [1, 0, 1, 1, 0, 1])))))) ∧ (((Za.snd.snd == 0 && Za.fst != 1) = false) → ((((Za.snd.snd != 0) = true) → (((.tup [(di Za.snd.fst), (di Za.snd.snd)]) : DV) = Zc)) ∧ (((Za.snd.snd != 0) = false) → ((I64 (↑k + 1)) ∧ (ZA (stS ZT [1, 0, 1, 1, 1, 1])))))))))))) ∧ (((Zb.snd.snd == 0 && Zb.fst != 0) = false) → ((((Zb.snd.snd != 0) = true) → (((.tup [(di Zb.snd.fst), (di Zb.snd.snd)]) : DV) = Zc)) ∧ (((Zb.snd.snd != 0) = false) → (((((R.getD k rl0).wh.k == 0) = true) → ((I64 (↑k + 1)) ∧ (ZA (stS ZT [1, 1, 1, 0])))) ∧ ((((R.getD k rl0).wh.k == 0) = false) → (ZK 65 [(ndX (R.getD k rl0).mw (R.getD k rl0).wh), (.slc 7 L.length (fcF L))] (.tup [(di Za.fst), (di Za.snd.fst), (di Za.snd.snd)]) ∧ (((Za.snd.snd == 0 && Za.fst != 1) = true) → (((true = true) → (((.tup [(di (R.getD k rl0).wh.pos), (di 5)]) : DV) = Zc)) ∧ ((true = false) → ((I64 (↑k + 1)) ∧ (ZA (stS ZT [1, 1, 1, 1, 0, 1])))))) ∧ (((Za.snd.snd == 0 && Za.fst != 1) = false) → ((((Za.snd.snd != 0) = true) → (((.tup [(di Za.snd.fst), (di Za.snd.snd)]) : DV) = Zc)) ∧ (((Za.snd.snd != 0) = false) → ((I64 (↑k + 1)) ∧ (ZA (stS ZT [1, 1, 1, 1, 1, 1])))))))))))))))) (nrK (tyW L (rdE (ndX (R.getD k rl0).mw (R.getD k rl0).wh)))) (nrK (tyW L (rdE (ndX (R.getD k rl0).ma (R.getD k rl0).am)))) ((.tup [(di (chR L R).fst), (di (chR L R).snd)]) : DV) (!(R.getD k rl0).gr.toList == (ByteArray.mk #[]).toList && (R.getD k rl0).kind != 0)) (by kernel_rfl) ?_
          simp only [e1, e2, emp_beq]
          have hno := aj_none (R := R) (k := k) fun i hi => hjd i (by omega)
          have hS : ∀ q : Option (Int × Int), (if (R.getD k rl0).gr.size ≠ 0 ∧ (R.getD k rl0).kind ≠ 0 then some ((R.getD k rl0).pos, 5)
              else if (exM 0 (tyW L (R.getD k rl0).am)).2 ≠ 0 then some (exM 0 (tyW L (R.getD k rl0).am))
              else if (R.getD k rl0).wh.k = 0 then none
              else if (exM 1 (tyW L (R.getD k rl0).wh)).2 ≠ 0 then some (exM 1 (tyW L (R.getD k rl0).wh))
              else none) = q → chS L R k = q := fun q hq => by
            unfold chS
            rw [if_neg (by rw [hno]; decide)]
            exact hq
          obtain ⟨a1, a2⟩ := exN 0 L (R.getD k rl0).am
          obtain ⟨b1, b2⟩ := exN 1 L (R.getD k rl0).wh
          have F65 := fun (x : Ex) (m : Nat) (q1 : ht x ≤ m) (q2 : Sm x) (q3 : sndE x = true) => f65 (G := G) L (vf_of (vf_l h1)) hl (wds_ok h) m x q1 q2 q3
          have nxt : chS L R k = none → ∀ st : AS, st.le (S35 L R (k + 1)) → I64 (k + 1) ∧ Again (S35 L R) (fun k => k ≤ R.length ∧ ∀ i, i < k → chS L R i = none) (fun k => R.length - k) k st := fun hnn st hst => ⟨⟨by omega, by omega⟩, Again.mk (k + 1) hst ⟨hk2, fun i hi => (by
            rcases Nat.lt_or_ge i k with h8 | h8
            · exact hkd i h8
            · obtain rfl : i = k := by omega
              exact hnn)⟩ (by omega)⟩
          refine ⟨fun h4 => ?_, fun h4 => ⟨F65 _ _ hs.ha hs.am s1, fun h5 => ⟨fun _ => ?_, fun hx => (by cases hx)⟩, fun h5 => ⟨fun h6 => ?_, fun h6 => ⟨fun h7 => ?_, fun h7 => ⟨F65 _ _ hs.hw hs.wh (s2 (by simpa using h7)), fun h8 => ⟨fun _ => ?_, fun hx => (by cases hx)⟩, fun h8 => ⟨fun h9 => ?_, fun h9 => ?_⟩⟩⟩⟩⟩⟩
          · simp only [Bool.and_eq_true, Bool.not_eq_true', decide_eq_false_iff_not, bne_iff_ne] at h4
            rw [hit ((R.getD k rl0).pos, 5) (hS _ (by rw [if_pos h4]))]
          all_goals have g4 : ¬ ((R.getD k rl0).gr.size ≠ 0 ∧ (R.getD k rl0).kind ≠ 0) := fun hh => (by rw [Bool.eq_false_iff] at h4; exact h4 (by simpa using hh))
          · simp only [Bool.and_eq_true, beq_iff_eq, bne_iff_ne] at h5
            have q := a1 h5
            have q2 : xpC 0 (tyW L (R.getD k rl0).am) = 5 := congrArg Prod.snd q
            rw [hit ((R.getD k rl0).am.pos, 5) (hS _ (by rw [if_neg g4, if_pos (by show xpC 0 _ ≠ 0; rw [q2]; decide), q]))]
          all_goals have g5 : ¬ ((nrK (tyW L (R.getD k rl0).am)).2.2 = 0 ∧ (nrK (tyW L (R.getD k rl0).am)).1 ≠ 0) := fun hh => (by rw [Bool.eq_false_iff] at h5; exact h5 (by simpa using hh))
          · have h6 : (nrK (tyW L (R.getD k rl0).am)).2.2 ≠ 0 := by simpa using h6
            have q := (a2 g5).1 h6
            have q2 : xpC 0 (tyW L (R.getD k rl0).am) = (nrK (tyW L (R.getD k rl0).am)).2.2 := congrArg Prod.snd q
            rw [hit ((nrK (tyW L (R.getD k rl0).am)).2.1, (nrK (tyW L (R.getD k rl0).am)).2.2) (hS _ (by rw [if_neg g4, if_pos (by show xpC 0 _ ≠ 0; rw [q2]; exact h6), q]))]
          all_goals have q6 : ¬ (exM 0 (tyW L (R.getD k rl0).am)).2 ≠ 0 := fun hh => hh ((a2 g5).2 (by simpa using h6))
          · refine nxt (hS _ (by rw [if_neg g4, if_neg q6, if_pos (by simpa using h7)])) _ ?_
            exact AS.leA (by kernel_rfl)
          all_goals have g7 : ¬ (R.getD k rl0).wh.k = 0 := by simpa using h7
          · simp only [Bool.and_eq_true, beq_iff_eq, bne_iff_ne] at h8
            have q := b1 h8
            have q2 : xpC 1 (tyW L (R.getD k rl0).wh) = 5 := congrArg Prod.snd q
            rw [hit ((R.getD k rl0).wh.pos, 5) (hS _ (by rw [if_neg g4, if_neg q6, if_neg g7, if_pos (by show xpC 1 _ ≠ 0; rw [q2]; decide), q]))]
          all_goals have g8 : ¬ ((nrK (tyW L (R.getD k rl0).wh)).2.2 = 0 ∧ (nrK (tyW L (R.getD k rl0).wh)).1 ≠ 1) := fun hh => (by rw [Bool.eq_false_iff] at h8; exact h8 (by simpa using hh))
          · have h9 : (nrK (tyW L (R.getD k rl0).wh)).2.2 ≠ 0 := by simpa using h9
            have q := (b2 g8).1 h9
            have q2 : xpC 1 (tyW L (R.getD k rl0).wh) = (nrK (tyW L (R.getD k rl0).wh)).2.2 := congrArg Prod.snd q
            rw [hit ((nrK (tyW L (R.getD k rl0).wh)).2.1, (nrK (tyW L (R.getD k rl0).wh)).2.2) (hS _ (by rw [if_neg g4, if_neg q6, if_neg g7, if_pos (by show xpC 1 _ ≠ 0; rw [q2]; exact h9), q]))]
          · refine nxt (hS _ (by rw [if_neg g4, if_neg q6, if_neg g7, if_neg (fun hh => hh ((b2 g8).2 (by simpa using h9)))])) _ ?_
            exact AS.leA (by kernel_rfl)
    · have h2 := of_decide_eq_false h2
      refine walkK (orc := orc35 L R) (keep := []) (cuts := []) (n := 1000) follows ?_
      refine of_tr (fun _ _ _ _ => (((.tup [(di 0), (di 0)]) : DV) = (.tup [(di (chR L R).fst), (di (chR L R).snd)]))) (by kernel_rfl) ?_
      unfold chR
      rw [if_neg (by rw [h1]; decide), chF_none R.length 0 fun j _ hj => hkd j (by omega)]
end Go.Proofs
set_option autoImplicit false
namespace Go.Proofs
open Go Go.Ab Go.RowKit
set_option maxHeartbeats 4000000
set_option maxRecDepth 100000
variable {G : IH}
/-! RubricTypes. -/
structure RlW (r : Rl) : Prop where
  nm : r.nm.size ≤ maxLen
  gr : r.gr.size ≤ maxLen
  ha : ht r.am ≤ r.ma
  am : wfE r.am
  hw : ht r.wh ≤ r.mw
  wh : wfE r.wh
def fewR (r : Rl) : Bool := decide (r.nm.size ≤ 40) && decide (r.gr.size ≤ 40) && fewE 30 r.am && fewE 30 r.wh
theorem rls_few {r : Rl} (h : RlW r) (hf : fewR r = true) : RlS r := by
  unfold fewR at hf
  simp only [Bool.and_eq_true, decide_eq_true_eq] at hf
  exact ⟨by omega, by omega, h.ha, few_sm (by omega) h.am hf.1.2, h.hw, few_sm (by omega) h.wh hf.2⟩
noncomputable def orc8 (x : Ex) (R : List Rl) (L : List Fc) : Oracle := fun f a => match f, a with
  | 10, [] => some (db true)
  | 11, [_, _] => some (db (fewX x L))
  | 32, [e, .con (.int _ n)] => some (db (fewE n (rdE e)))
  | 13, [_, _] => some (.tup [di (typR L x).1, di (typR L x).2.1, di (typR L x).2.2])
  | 33, [_, _] => some (.tup [di (typR L x).1, di (typR L x).2.1, di (typR L x).2.2])
  | 34, [_, _] => some (.tup [di (chR L R).1, di (chR L R).2])
  | 35, [_, _] => some (.tup [di (chR L R).1, di (chR L R).2])
  | _, _ => none
noncomputable def S8 (m : Nat) (x : Ex) (R : List Rl) (L : List Fc) (k : Nat) : AS := ⟨regs Tryz.f8.ntmps [(1, .d (rlsD R)), (2, .d (fcsD L)), (3, .box 3 0), (30, .d (rlsD R)), (31, vi R.length), (32, vi k)], [(3, exC m x)]⟩
theorem f8 (hT : Tab G) (m : Nat) (x : Ex) (R : List Rl) (L : List Fc) (hx : ht x ≤ m) (hw : wfE x) (hl : L.length ≤ 9223372036854775807) (hw2 : ∀ i, i < L.length → FcW (L.getD i fc0)) (hr : R.length ≤ 9223372036854775807) (hw3 : ∀ i, i < R.length → RlW (R.getD i rl0)) : FnOK Tryz.prog G 8 [exD m x, rlsD R, fcsD L] (db true) := by
  refine FnOK.walkK (orc := orc8 x R L) (keep := []) follows Tryz.func8 rfl Tryz.call8 ?_
  refine of_tr (fun ZT ZW ZQ ZK => (ZK 10 [] (db true) ∧ ((false = true) → (((db false) : DV) = (db true))) ∧ ((false = false) → (ZK 11 [(ndX m x), (.slc 7 L.length (fcF L))] (db (fewX x L)) ∧ (((!fewX x L || decide ((↑R.length : Int) > 8)) = true) → (ZS ((db true) : DV))) ∧ (((!fewX x L || decide ((↑R.length : Int) > 8)) = false) → ZW [cd Tryz.f8 [1, 1, 1, 0, 1, 0], (.blk 0), cd Tryz.f8 [1, 1, 1, 1]] (stS ZT [1, 1]) ZQ))))) (by kernel_rfl) ?_
  refine ⟨f10 hT, fun h => (by cases h), fun _ => ⟨f11 m x L hx hw hl hw2, fun _ => rfl, fun h1 => ?_⟩⟩
  rw [Bool.or_eq_false_iff, Bool.not_eq_false', decide_eq_false_iff_not] at h1
  have hfx := h1.1
  unfold fewX at hfx
  rw [Bool.and_eq_true] at hfx
  have hs : Sm x := few_sm (by omega) hw hfx.1
  obtain ⟨hF, hL16⟩ := fcs_of_few hfx.2
  refine AWP.loop (c := cAt (bodyOf Tryz.f8) [1, 1, 1, 0, 1, 0, 0]) (by kernel_rfl) (S8 m x R L) (fun k => k ≤ R.length ∧ ∀ i, i < k → fewR (R.getD i rl0) = true) (fun k => R.length - k) 0 ?_ ⟨Nat.zero_le _, fun i hi => by omega⟩ ?_
  · exact AS.leA (by kernel_rfl)
  · rintro k ⟨hk, hkd⟩
    refine walkK (orc := orc8 x R L) (keep := []) (cuts := []) (n := 1000) follows ?_
    refine of_rd (fun ZT ZW ZQ ZK ZA _ => (fun Za Zb Zc => ((((decide ((↑k : Int) < ↑R.length)) = true) → (((0 ≤ (↑k : Int)) ∧ ((↑k : Int) < ↑R.length)) ∧ ((((!(decide ((↑(R.getD (↑k : Int).toNat rl0).nm.size : Int) > 40) || decide ((↑(R.getD (↑k : Int).toNat rl0).gr.size : Int) > 40))) = true) → ZK 32 [Zb, (di 30)] (db (fewE 30 (rdE Zb)))) ∧ (((!(decide ((↑(R.getD (↑k : Int).toNat rl0).nm.size : Int) > 40) || decide ((↑(R.getD (↑k : Int).toNat rl0).gr.size : Int) > 40) || !fewE 30 (rdE Zb))) = true) → ZK 32 [Zc, (di 30)] (db (fewE 30 (rdE Zc))))) ∧ ((Za = true) → (ZS ((db true) : DV))) ∧ ((Za = false) → ((I64 (↑k + 1)) ∧ (ZA (stS ZT [0, 1])))))) ∧ (((decide ((↑k : Int) < ↑R.length)) = false) → ZW [cd Tryz.f8 [1, 1, 1, 1]] (stS ZT [1]) ZQ))) (decide ((↑(R.getD (↑k : Int).toNat rl0).nm.size : Int) > 40) || decide ((↑(R.getD (↑k : Int).toNat rl0).gr.size : Int) > 40) || !fewE 30 (rdE (ndX (R.getD (↑k : Int).toNat rl0).ma (R.getD (↑k : Int).toNat rl0).am)) || !fewE 30 (rdE (ndX (R.getD (↑k : Int).toNat rl0).mw (R.getD (↑k : Int).toNat rl0).wh))) (ndX (R.getD (↑k : Int).toNat rl0).ma (R.getD (↑k : Int).toNat rl0).am) (ndX (R.getD (↑k : Int).toNat rl0).mw (R.getD (↑k : Int).toNat rl0).wh)) (by kernel_rfl) ?_
    refine ⟨fun h2 => ?_, fun h2 => ?_⟩
    · have hk2 : k < R.length := by have := of_decide_eq_true h2; omega
      have hr := hw3 k hk2
      have e1 : rdE (ndX (R.getD k rl0).ma (R.getD k rl0).am) = (R.getD k rl0).am := rdE_eq hr.ha
      have e2 : rdE (ndX (R.getD k rl0).mw (R.getD k rl0).wh) = (R.getD k rl0).wh := rdE_eq hr.hw
      simp only [e1, e2, Int.toNat_natCast]
      refine ⟨⟨by omega, by omega⟩, ⟨fun _ => f32 _ _ _ hr.ha hr.am, fun _ => f32 _ _ _ hr.hw hr.wh⟩, fun _ => trivial, fun h3 => ⟨⟨by omega, by omega⟩, Again.mk (k + 1) ?_ ⟨hk2, fun i hi => ?_⟩ (by omega)⟩⟩
      · exact AS.leA (by kernel_rfl)
      · rcases Nat.lt_or_ge i k with h4 | h4
        · exact hkd i h4
        · obtain rfl : i = k := by omega
          simp only [Bool.or_eq_false_iff, decide_eq_false_iff_not, Bool.not_eq_false'] at h3
          unfold fewR
          simp only [Bool.and_eq_true, decide_eq_true_eq]
          exact ⟨⟨⟨by omega, by omega⟩, h3.1.2⟩, h3.2⟩
    · have h2 := of_decide_eq_false h2
      refine walkK (orc := orc8 x R L) (keep := []) (cuts := []) (n := 1000) follows ?_
      refine of_tr (fun _ _ _ ZK => (fun Za => (ZK 13 [(ndX m x), (.slc 7 L.length (fcF L))] Za ∧ ZK 33 [(ndX m x), (.slc 7 L.length (fcF L))] Za ∧ ZK 34 [(.slc 16 R.length (rlF R)), (.slc 7 L.length (fcF L))] (.tup [(di (chR L R).fst), (di (chR L R).snd)]) ∧ ZK 35 [(.slc 16 R.length (rlF R)), (.slc 7 L.length (fcF L))] (.tup [(di (chR L R).fst), (di (chR L R).snd)]) ∧ ((db ((typR L x).fst == (typR L x).fst && (typR L x).snd.fst == (typR L x).snd.fst && (typR L x).snd.snd == (typR L x).snd.snd && (chR L R).fst == (chR L R).fst && (chR L R).snd == (chR L R).snd)) : DV) = (db true))) ((.tup [(di (typR L x).fst), (di (typR L x).snd.fst), (di (typR L x).snd.snd)]) : DV)) (by kernel_rfl) ?_
      have hRS : ∀ i, i < R.length → RlS (R.getD i rl0) := fun i hi => rls_few (hw3 i hi) (hkd i (by omega))
      refine ⟨f13 hT m x L hx hs hF (by omega), f33 hT m x L hx hs hF (by omega), f34 hT L R hF (by omega) hRS (by omega), f35 hT L R hF (by omega) hRS (by omega), ?_⟩
      simp only [beq_self_eq_true]
      rfl
end Go.Proofs
