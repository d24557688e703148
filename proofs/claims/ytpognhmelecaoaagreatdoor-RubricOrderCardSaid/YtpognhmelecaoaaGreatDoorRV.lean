import Derived.Test.YtpognhmelecaoaaGreatDoorAcD
import Derived.Test.YtpognhmelecaoaaGreatDoorRU
import Derived.Test.YtpognhmelecaoaaGreatDoorER
set_option autoImplicit false
namespace Go.Proofs
open Go Go.Ab Go.RowKit
set_option maxHeartbeats 4000000
set_option maxRecDepth 100000
variable {G : IH}
/-! Checked rules. -/
abbrev rlL (r : Rl) : List DV := [di r.kind, ds r.nm, ds r.gr, di r.am.k, ds r.am.s, di r.am.n, di r.am.d, di r.am.pos, .slc 6 r.am.kids.length (lay (exG r.ma) r.am.kids), di r.wh.k, ds r.wh.s, di r.wh.n, di r.wh.d, di r.wh.pos, .slc 6 r.wh.kids.length (lay (exG r.mw) r.wh.kids), di r.pos]
def vaR (R : List Rl) : Bool := decide (R.length = 0) || !decide ((fmtR R).size = 0)
noncomputable def orc66 (R : List Rl) : Oracle := fun f a => match f, a with
  | 114, [_] => some (ds (fmtR R))
  | _, _ => none
theorem f66 (hT : Tab G) (R : List Rl) (hR : ∀ i, i < R.length → RlS (R.getD i rl0)) (hl : R.length ≤ 9223372036854775807) : FnOK Tryz.prog G 66 [rlsD R] (db (vaR R)) := by
  refine FnOK.walkK (orc := orc66 R) (keep := []) follows Tryz.func66 rfl Tryz.call66 ?_
  refine of_tr (fun _ _ _ ZK => ((((!(↑R.length : Int) == 0) = true) → ZK 114 [(.slc 16 R.length (rlF R))] (ds (fmtR R))) ∧ ((db ((↑R.length : Int) == 0 || !(fmtR R).toList == (ByteArray.mk #[]).toList)) : DV) = (db (vaR R)))) (by kernel_rfl) ?_
  refine ⟨fun _ => f114 hT R hR hl, ?_⟩
  rw [emp_beq, show ((R.length : Int) == 0) = decide (R.length = 0) by rw [Bool.eq_iff_iff]; simp]
  rfl
theorem f69 (x r : Rl) : FnOK Tryz.prog G 69 [rlD x, .ptr (rlL r)] (db (decide (x.nm = r.nm))) := by
  refine FnOK.walkK (orc := noO) (keep := []) follows Tryz.func69 rfl Tryz.call69 ?_
  refine of_tr (fun _ _ _ _ => (((db (x.nm.toList == r.nm.toList)) : DV) = (db (decide (x.nm = r.nm))))) (by kernel_rfl) ?_
  rw [toList_beq]
theorem f70 (x r : Rl) : FnOK Tryz.prog G 70 [rlD x, .ptr (rlL r)] (db (decide (x.gr = r.nm))) := by
  refine FnOK.walkK (orc := noO) (keep := []) follows Tryz.func70 rfl Tryz.call70 ?_
  refine of_tr (fun _ _ _ _ => (((db (x.gr.toList == r.nm.toList)) : DV) = (db (decide (x.gr = r.nm))))) (by kernel_rfl) ?_
  rw [toList_beq]
noncomputable def orcRa (p : Rl → Bool) (l : List Rl) : Oracle := fun f a => match f, a with
  | 69, [d, _] => some (db (p (rdR d)))
  | 115, [_, _] => some (di (idI p l))
  | _, _ => none
noncomputable def S115a (l : List Rl) (c : DV) (k : Nat) : AS := ⟨regs Tryz.f115.ntmps [(0, .d (rlsD l)), (1, .d (.clo (.func 69) [] [c])), (7, vi l.length), (8, vi k)], []⟩
theorem f115a (p : Rl → Bool) (l : List Rl) (c : DV) (hl : l.length ≤ 1000000) (hp : ∀ i, i < l.length → p (rdR (rlD (l.getD i rl0))) = p (l.getD i rl0)) (hc : ∀ i, i < l.length → FnOK Tryz.prog G 69 [rlD (l.getD i rl0), c] (db (p (l.getD i rl0)))) : FnOK Tryz.prog G 115 [rlsD l, (.clo (.func 69) [] [c])] (di (idI p l)) := by
  refine FnOK.walkK (orc := orcRa p l) (keep := []) follows Tryz.func115 rfl Tryz.call115 ?_
  refine of_tr (fun ZT ZW ZQ _ => ZW [cd Tryz.f115 [1, 0, 1, 0], (.blk 0), cd Tryz.f115 [1, 1]] (stS ZT []) ZQ) (by kernel_rfl) ?_
  refine AWP.loop (c := cAt (bodyOf Tryz.f115) [1, 0, 1, 0, 0]) (by kernel_rfl) (S115a l c) (fun k => k ≤ l.length ∧ ∀ i, i < k → p (l.getD i rl0) = false) (fun k => l.length - k) 0 ?_ ⟨Nat.zero_le _, fun i hi => by omega⟩ ?_
  · exact AS.leA (by kernel_rfl)
  · rintro k ⟨hk, hkd⟩
    refine walkK (orc := orcRa p l) (keep := []) (cuts := []) (n := 1000) follows ?_
    refine of_rd (fun ZT ZW ZQ ZK ZA _ => (fun Za => ((((decide ((↑k : Int) < ↑l.length)) = true) → ((((0 ≤ (↑k : Int)) ∧ ((↑k : Int) < ↑l.length)) ∧ ZK 69 [Za, c] (db (p (rdR Za)))) ∧ (((p (rdR Za)) = true) → (((di (↑k)) : DV) = (di (idI p l)))) ∧ (((p (rdR Za)) = false) → ((I64 (↑k + 1)) ∧ (ZA (stS ZT [0, 1])))))) ∧ (((decide ((↑k : Int) < ↑l.length)) = false) → ZW [cd Tryz.f115 [1, 1]] (stS ZT [1]) ZQ))) (rlD (l.getD (↑k : Int).toNat rl0))) (by kernel_rfl) ?_
    simp only [Int.toNat_natCast]
    refine ⟨fun h => ?_, fun h => ?_⟩
    · have hk2 : k < l.length := by have := of_decide_eq_true h; omega
      rw [hp k hk2]
      refine ⟨⟨⟨by omega, by omega⟩, hc k hk2⟩, fun h2 => ?_, fun h2 => ⟨⟨by omega, by omega⟩, Again.mk (k + 1) ?_ ⟨hk2, fun i hi => ?_⟩ (by omega)⟩⟩
      · rw [(idI_hit hk2 hkd h2).2]
      · exact AS.leA (by kernel_rfl)
      · rcases Nat.lt_or_ge i k with h4 | h4
        · exact hkd i h4
        · obtain rfl : i = k := by omega
          exact h2
    · simp only [decide_eq_false_iff_not] at h
      have hst := idI_none (p := p) (L := l) (x0 := rl0) fun i hi => hkd i (by omega)
      refine walkK (orc := orcRa p l) (keep := []) (cuts := []) (n := 1000) follows ?_
      refine of_tr (fun _ _ _ _ => (((di (-1)) : DV) = (di (idI p l)))) (by kernel_rfl) ?_
      rw [hst.2]
theorem f68a (p : Rl → Bool) (l : List Rl) (c : DV) (hl : l.length ≤ 1000000) (hp : ∀ i, i < l.length → p (rdR (rlD (l.getD i rl0))) = p (l.getD i rl0)) (hc : ∀ i, i < l.length → FnOK Tryz.prog G 69 [rlD (l.getD i rl0), c] (db (p (l.getD i rl0)))) : FnOK Tryz.prog G 68 [rlsD l, (.clo (.func 69) [] [c])] (db (l.any p)) := by
  refine FnOK.walkK (orc := orcRa p l) (keep := []) follows Tryz.func68 rfl Tryz.call68 ?_
  refine of_tr (fun _ _ _ ZK => (ZK 115 [(.slc 16 l.length (rlF l)), (.clo (.func 69) [] [c])] (di (idI p l)) ∧ ((db (decide (idI p l ≥ 0))) : DV) = (db (l.any p)))) (by kernel_rfl) ?_
  refine ⟨f115a p l c hl hp hc, ?_⟩
  rw [idI_ge]
noncomputable def orcRb (p : Rl → Bool) (l : List Rl) : Oracle := fun f a => match f, a with
  | 70, [d, _] => some (db (p (rdR d)))
  | 115, [_, _] => some (di (idI p l))
  | _, _ => none
noncomputable def S115b (l : List Rl) (c : DV) (k : Nat) : AS := ⟨regs Tryz.f115.ntmps [(0, .d (rlsD l)), (1, .d (.clo (.func 70) [] [c])), (7, vi l.length), (8, vi k)], []⟩
theorem f115b (p : Rl → Bool) (l : List Rl) (c : DV) (hl : l.length ≤ 1000000) (hp : ∀ i, i < l.length → p (rdR (rlD (l.getD i rl0))) = p (l.getD i rl0)) (hc : ∀ i, i < l.length → FnOK Tryz.prog G 70 [rlD (l.getD i rl0), c] (db (p (l.getD i rl0)))) : FnOK Tryz.prog G 115 [rlsD l, (.clo (.func 70) [] [c])] (di (idI p l)) := by
  refine FnOK.walkK (orc := orcRb p l) (keep := []) follows Tryz.func115 rfl Tryz.call115 ?_
  refine of_tr (fun ZT ZW ZQ _ => ZW [cd Tryz.f115 [1, 0, 1, 0], (.blk 0), cd Tryz.f115 [1, 1]] (stS ZT []) ZQ) (by kernel_rfl) ?_
  refine AWP.loop (c := cAt (bodyOf Tryz.f115) [1, 0, 1, 0, 0]) (by kernel_rfl) (S115b l c) (fun k => k ≤ l.length ∧ ∀ i, i < k → p (l.getD i rl0) = false) (fun k => l.length - k) 0 ?_ ⟨Nat.zero_le _, fun i hi => by omega⟩ ?_
  · exact AS.leA (by kernel_rfl)
  · rintro k ⟨hk, hkd⟩
    refine walkK (orc := orcRb p l) (keep := []) (cuts := []) (n := 1000) follows ?_
    refine of_rd (fun ZT ZW ZQ ZK ZA _ => (fun Za => ((((decide ((↑k : Int) < ↑l.length)) = true) → ((((0 ≤ (↑k : Int)) ∧ ((↑k : Int) < ↑l.length)) ∧ ZK 70 [Za, c] (db (p (rdR Za)))) ∧ (((p (rdR Za)) = true) → (((di (↑k)) : DV) = (di (idI p l)))) ∧ (((p (rdR Za)) = false) → ((I64 (↑k + 1)) ∧ (ZA (stS ZT [0, 1])))))) ∧ (((decide ((↑k : Int) < ↑l.length)) = false) → ZW [cd Tryz.f115 [1, 1]] (stS ZT [1]) ZQ))) (rlD (l.getD (↑k : Int).toNat rl0))) (by kernel_rfl) ?_
    simp only [Int.toNat_natCast]
    refine ⟨fun h => ?_, fun h => ?_⟩
    · have hk2 : k < l.length := by have := of_decide_eq_true h; omega
      rw [hp k hk2]
      refine ⟨⟨⟨by omega, by omega⟩, hc k hk2⟩, fun h2 => ?_, fun h2 => ⟨⟨by omega, by omega⟩, Again.mk (k + 1) ?_ ⟨hk2, fun i hi => ?_⟩ (by omega)⟩⟩
      · rw [(idI_hit hk2 hkd h2).2]
      · exact AS.leA (by kernel_rfl)
      · rcases Nat.lt_or_ge i k with h4 | h4
        · exact hkd i h4
        · obtain rfl : i = k := by omega
          exact h2
    · simp only [decide_eq_false_iff_not] at h
      have hst := idI_none (p := p) (L := l) (x0 := rl0) fun i hi => hkd i (by omega)
      refine walkK (orc := orcRb p l) (keep := []) (cuts := []) (n := 1000) follows ?_
      refine of_tr (fun _ _ _ _ => (((di (-1)) : DV) = (di (idI p l)))) (by kernel_rfl) ?_
      rw [hst.2]
theorem f68b (p : Rl → Bool) (l : List Rl) (c : DV) (hl : l.length ≤ 1000000) (hp : ∀ i, i < l.length → p (rdR (rlD (l.getD i rl0))) = p (l.getD i rl0)) (hc : ∀ i, i < l.length → FnOK Tryz.prog G 70 [rlD (l.getD i rl0), c] (db (p (l.getD i rl0)))) : FnOK Tryz.prog G 68 [rlsD l, (.clo (.func 70) [] [c])] (db (l.any p)) := by
  refine FnOK.walkK (orc := orcRb p l) (keep := []) follows Tryz.func68 rfl Tryz.call68 ?_
  refine of_tr (fun _ _ _ ZK => (ZK 115 [(.slc 16 l.length (rlF l)), (.clo (.func 70) [] [c])] (di (idI p l)) ∧ ((db (decide (idI p l ≥ 0))) : DV) = (db (l.any p)))) (by kernel_rfl) ?_
  refine ⟨f115b p l c hl hp hc, ?_⟩
  rw [idI_ge]
/-! What an expression must be. -/
def xpC (want : Int) (r : KR) : Int := if r.2.2 = 0 ∧ r.1 ≠ want then 5 else r.2.2
abbrev exM (want : Int) (r : KR) : Int × Int := (r.2.1, xpC want r)
noncomputable def orc67 (L : List Fc) : Oracle := fun f a => match f, a with
  | 42, [_, e, _] => some (.tup [di (tyW L (rdE e)).1, .agg [di (tyW L (rdE e)).2.1, di (tyW L (rdE e)).2.2]])
  | _, _ => none
theorem f67 (L : List Fc) (h : ∀ i, i < L.length → FcS (L.getD i fc0)) (m : Nat) (x : Ex) (hx : ht x ≤ m) (hs : Sm x) (hsn : sndE x = true) (want : Int) : FnOK Tryz.prog G 67 [exD m x, di want, .ptr [wrL L], .ptr [kdM (wrL L)]] (.agg [di (exM want (tyW L x)).1, di (exM want (tyW L x)).2]) := by
  have e : rdE (exV x.k x.s x.n x.d x.pos x.kids.length (lay (exG m) x.kids)) = x := rdE_eq hx
  refine FnOK.walkK (orc := orc67 L) (keep := []) follows Tryz.func67 rfl Tryz.call67 ?_
  refine of_tr (fun _ _ _ ZK => (fun Za Zb => (ZK 42 [(.ptr [(.mp none (fV (revF L L.length)) (fH (revF L L.length))), (.mp none (wV (revW L L.length)) (wL (revW L L.length)))]), (ndX m x), (.mp (some .i64) (kF (wrL L)) (hK (kh3 3)))] (.tup [(di (tyW L (rdE (ndX m x))).fst), Za]) ∧ ((Zb = true) → (((.agg [(di (tyW L (rdE (ndX m x))).snd.fst), (di 5)]) : DV) = (.agg [(di (exM want (tyW L x)).fst), (di (exM want (tyW L x)).snd)]))) ∧ ((Zb = false) → ((Za : DV) = (.agg [(di (exM want (tyW L x)).fst), (di (exM want (tyW L x)).snd)]))))) ((.agg [(di (tyW L (rdE (ndX m x))).snd.fst), (di (tyW L (rdE (ndX m x))).snd.snd)]) : DV) ((tyW L (rdE (ndX m x))).snd.snd == 0 && (tyW L (rdE (ndX m x))).fst != want)) (by kernel_rfl) ?_
  simp only [e]
  have hw : ∀ v, (fM (revF L L.length) v).words.length ≤ 100000 := fun v => by have := revF_words h v; omega
  refine ⟨f42 _ _ hw m x hx hs hsn, fun h1 => ?_, fun h1 => ?_⟩
  · simp only [Bool.and_eq_true, beq_iff_eq, bne_iff_ne] at h1
    unfold xpC
    rw [if_pos h1]
  · have h2 : ¬ ((tyW L x).2.2 = 0 ∧ (tyW L x).1 ≠ want) := fun hh => by
      rw [Bool.eq_false_iff] at h1
      exact h1 (by simpa using hh)
    unfold xpC
    rw [if_neg h2]
/-! Check. -/
def agB (R : List Rl) (n : Nat) (s : ByteArray) : Bool := (R.take n).any fun x => decide (x.nm = s)
def gpB (R : List Rl) (s : ByteArray) : Bool := R.any fun x => decide (x.gr = s)
def chS (L : List Fc) (R : List Rl) (i : Nat) : Option (Int × Int) :=
  if (agB R i (R.getD i rl0).nm || gpB R (R.getD i rl0).nm) = true then some ((R.getD i rl0).pos, 6)
  else if (R.getD i rl0).gr.size ≠ 0 ∧ (R.getD i rl0).kind ≠ 0 then some ((R.getD i rl0).pos, 5)
  else if (exM 0 (tyW L (R.getD i rl0).am)).2 ≠ 0 then some (exM 0 (tyW L (R.getD i rl0).am))
  else if (R.getD i rl0).wh.k = 0 then none
  else if (exM 1 (tyW L (R.getD i rl0).wh)).2 ≠ 0 then some (exM 1 (tyW L (R.getD i rl0).wh))
  else none
def chF (L : List Fc) (R : List Rl) : Nat → Nat → Int × Int
  | 0, _ => (0, 0)
  | n + 1, i => match chS L R i with
    | some p => p
    | none => chF L R n (i + 1)
def chR (L : List Fc) (R : List Rl) : Int × Int := if (!vfB L || !vaR R) = true then (0, 1) else chF L R R.length 0
theorem chF_hit {L : List Fc} {R : List Rl} {p : Int × Int} : ∀ (n i k : Nat), k < n → (∀ j, i ≤ j → j < i + k → chS L R j = none) → chS L R (i + k) = some p → chF L R n i = p
  | 0, _, _, h, _, _ => absurd h (Nat.not_lt_zero _)
  | n + 1, i, 0, _, _, h => by unfold chF; rw [show chS L R i = some p from h]
  | n + 1, i, k + 1, hk, hn, h => by
    unfold chF
    rw [hn i (Nat.le_refl _) (by omega)]
    exact chF_hit n (i + 1) k (by omega) (fun j h1 h2 => hn j (by omega) (by omega)) (by rw [show i + 1 + k = i + (k + 1) from by omega]; exact h)
theorem chF_none {L : List Fc} {R : List Rl} : ∀ (n i : Nat), (∀ j, i ≤ j → j < i + n → chS L R j = none) → chF L R n i = (0, 0)
  | 0, _, _ => rfl
  | n + 1, i, hn => by
    unfold chF
    rw [hn i (Nat.le_refl _) (by omega)]
    exact chF_none n (i + 1) fun j h1 h2 => hn j (by omega) (by omega)
theorem va_of {L : List Fc} {R : List Rl} (h : (!vfB L || !vaR R) = false) : vaR R = true := by
  revert h; cases vfB L <;> cases vaR R <;> decide
theorem vaR_ru {R : List Rl} (h : vaR R = true) (i : Nat) (hi : i < R.length) : ruB (R.getD i rl0) = true := by
  unfold vaR at h
  have h0 : ¬ R.length = 0 := by omega
  rw [decide_eq_false h0, Bool.false_or, Bool.not_eq_true', decide_eq_false_iff_not] at h
  cases hb : ruB (R.getD i rl0) with
  | true => rfl
  | false =>
    exfalso
    unfold fmtR at h
    by_cases hl : R.length > 32
    · rw [if_pos hl] at h; exact h rfl
    · rw [if_neg hl, if_pos (any_bad hi hb)] at h; exact h rfl
theorem ru_snd {r : Rl} (h : ruB r = true) : sndE r.am = true ∧ (r.wh.k ≠ 0 → sndE r.wh = true) := by
  unfold ruB at h
  simp only [Bool.and_eq_true] at h
  refine ⟨h.1.2, fun hk => ?_⟩
  rcases (Bool.or_eq_true ..).mp h.2 with h1 | h1
  · unfold nonB at h1
    simp only [Bool.and_eq_true, beq_iff_eq] at h1
    exact absurd h1.1.1.1 hk
  · exact h1
theorem rfl_nm (s : ByteArray) (r : Rl) : decide ((rdR (rlD r)).nm = s) = decide (r.nm = s) := rfl
theorem rfl_gr (s : ByteArray) (r : Rl) : decide ((rdR (rlD r)).gr = s) = decide (r.gr = s) := rfl
noncomputable def orc34 (L : List Fc) (R : List Rl) : Oracle := fun f a => match f, a with
  | 21, [_] => some (db (vfB L))
  | 66, [_] => some (db (vaR R))
  | 41, [_] => some (wrL L)
  | 43, [w] => some (kdM w)
  | 68, [.slc _ n _, .clo (.func 69) _ [.ptr c]] => some (db (agB R n (rdR (.agg c)).nm))
  | 68, [_, .clo (.func 70) _ [.ptr c]] => some (db (gpB R (rdR (.agg c)).nm))
  | 67, [e, .con (.int _ k), _, _] => some (.agg [di (tyW L (rdE e)).2.1, di (xpC k (tyW L (rdE e)))])
  | _, _ => none
noncomputable def S34 (L : List Fc) (R : List Rl) (k : Nat) : AS := ⟨regs Tryz.f34.ntmps [(0, .d (rlsD R)), (8, .d (.clo (.func 67) [] [.ptr [wrL L], .ptr [kdM (wrL L)]])), (28, .d (rlsD R)), (29, vi R.length), (30, vi k)], []⟩
theorem f34 (hT : Tab G) (L : List Fc) (R : List Rl) (h : ∀ i, i < L.length → FcS (L.getD i fc0)) (hl : L.length ≤ 1000) (hR : ∀ i, i < R.length → RlS (R.getD i rl0)) (hn : R.length ≤ 1000) : FnOK Tryz.prog G 34 [rlsD R, fcsD L] (.tup [di (chR L R).1, di (chR L R).2]) := by
  have hwd := fun i (hi : i < L.length) => (h i hi).ln
  refine FnOK.of_body Tryz.func34 rfl Tryz.call34 ?_
  refine walkK (orc := orc34 L R) (keep := []) (cuts := [5]) (n := 1000) follows ?_
  refine of_tr (fun ZT ZW ZQ ZK => (fun Za => ((ZK 21 [(.slc 7 L.length (fcF L))] (db (vfB L)) ∧ (((!!vfB L) = true) → ZK 66 [(.slc 16 R.length (rlF R))] (db (vaR R)))) ∧ (((!vfB L || !vaR R) = true) → (((.tup [(di 0), (di 1)]) : DV) = (.tup [(di (chR L R).fst), (di (chR L R).snd)]))) ∧ (((!vfB L || !vaR R) = false) → (ZK 41 [(.slc 7 L.length (fcF L))] Za ∧ ZK 43 [Za] (.mp (some .i64) (kF (DV.ptr [DV.mp none (fV (revF L L.length)) (fH (revF L L.length)), DV.mp none (wV (revW L L.length)) (wL (revW L L.length))])) (hK (kh3 3))) ∧ ZW [cd Tryz.f34 [1, 1, 1, 1]] (stS ZT [1]) ZQ)))) ((.ptr [(.mp none (fV (revF L L.length)) (fH (revF L L.length))), (.mp none (wV (revW L L.length)) (wL (revW L L.length)))]) : DV)) (by kernel_rfl) ?_
  refine ⟨⟨f21 hT L h hl, fun _ => f66 hT R hR (by omega)⟩, fun h1 => ?_, fun h1 => ⟨f41 L (by omega) (fun i hi => by have := hwd i hi; omega), f43 _ _, ?_⟩⟩
  · unfold chR
    rw [if_pos h1]
  refine AWP.freezeB (dl := [wrL L]) 6 (by kernel_rfl) rfl ?_
  refine AWP.freezeB (dl := [kdM (wrL L)]) 7 (by kernel_rfl) rfl ?_
  refine walkK (orc := orc34 L R) (keep := []) (cuts := []) (n := 1000) follows ?_
  refine of_tr (fun ZT ZW ZQ _ => ZW [cd Tryz.f34 [1, 1, 1, 1, 1, 0, 1, 0], (.blk 0), cd Tryz.f34 [1, 1, 1, 1, 1, 1]] (stS ZT []) ZQ) (by kernel_rfl) ?_
  refine AWP.loop (c := cAt (bodyOf Tryz.f34) [1, 1, 1, 1, 1, 0, 1, 0, 0]) (by kernel_rfl) (S34 L R) (fun k => k ≤ R.length ∧ ∀ i, i < k → chS L R i = none) (fun k => R.length - k) 0 ?_ ⟨Nat.zero_le _, fun i hi => by omega⟩ ?_
  · exact AS.leA (by kernel_rfl)
  · rintro k ⟨hk, hkd⟩
    refine walkK (orc := orc34 L R) (keep := []) (cuts := [9]) (n := 1000) follows ?_
    refine of_rd (fun ZT ZW ZQ _ _ ZR => ((((decide ((↑k : Int) < ↑R.length)) = true) → (((0 ≤ (↑k : Int)) ∧ ((↑k : Int) < ↑R.length)) ∧ ZW [cd Tryz.f34 [1, 1, 1, 1, 1, 0, 1, 0, 0, 1, 1, 0, 0, 1], (.blk 1), cd Tryz.f34 [1, 1, 1, 1, 1, 0, 1, 0, 0, 1, 1, 1]] (stS ZT [0]) ZR)) ∧ (((decide ((↑k : Int) < ↑R.length)) = false) → ZW [cd Tryz.f34 [1, 1, 1, 1, 1, 1]] (stS ZT [1]) ZQ))) (by kernel_rfl) ?_
    refine ⟨fun h2 => ?_, fun h2 => ?_⟩
    · have hk2 : k < R.length := by have := of_decide_eq_true h2; omega
      have hs := hR k hk2
      refine ⟨⟨by omega, by omega⟩, ?_⟩
      refine AWP.freezeB (dl := rlL (R.getD k rl0)) 10 (by kernel_rfl) rfl ?_
      refine walkK (orc := orc34 L R) (keep := []) (cuts := []) (n := 1000) follows ?_
      refine of_rd (fun ZT _ _ ZK ZA _ => (fun Za Zb Zc Zd Ze Zf Zg => (((((0 : Int) ≤ (0 : Int)) ∧ (0 ≤ (↑k : Int)) ∧ ((↑k : Int) ≤ ↑R.length)) ∧ ZK 68 [(.slc 16 ((↑k : Int) - 0).toNat (fun i => rlF R (Int.toNat 0 + i))), (.clo (.func 69) [] [Za])] (db (agB R ((↑k : Int) - 0).toNat (R.getD k rl0).nm))) ∧ ZK 68 [(.slc 16 R.length (rlF R)), (.clo (.func 70) [] [Za])] (db (gpB R (R.getD k rl0).nm)) ∧ ((Zg = true) → (((.tup [(di (R.getD k rl0).pos), (di 6)]) : DV) = Zd)) ∧ ((Zg = false) → (((Zf = true) → (((.tup [(di (R.getD k rl0).pos), (di 5)]) : DV) = Zd)) ∧ ((Zf = false) → (ZK 67 [(ndX (R.getD k rl0).ma (R.getD k rl0).am), (di 0), Ze, (.ptr [(.mp (some .i64) (kF (wrL L)) (hK (kh3 3)))])] (.agg [(di Zb.snd.fst), (di (xpC 0 Zb))]) ∧ (((xpC 0 Zb != 0) = true) → (((.tup [(di Zb.snd.fst), (di (xpC 0 Zb))]) : DV) = Zd)) ∧ (((xpC 0 Zb != 0) = false) → (((((R.getD k rl0).wh.k == 0) = true) → ((I64 (↑k + 1)) ∧ (ZA (stS ZT [1, 1, 1, 0])))) ∧ ((((R.getD k rl0).wh.k == 0) = false) → (ZK 67 [(ndX (R.getD k rl0).mw (R.getD k rl0).wh), (di 1), Ze, (.ptr [(.mp (some .i64) (kF (wrL L)) (hK (kh3 3)))])] (.agg [(di Zc.snd.fst), (di (xpC 1 Zc))]) ∧ (((xpC 1 Zc != 0) = true) → (((.tup [(di Zc.snd.fst), (di (xpC 1 Zc))]) : DV) = Zd)) ∧ (((xpC 1 Zc != 0) = false) → ((I64 (↑k + 1)) ∧ (ZA (stS ZT [1, 1, 1, 1, 1])))))))))))))) ((.ptr [(di (R.getD k rl0).kind), (ds (R.getD k rl0).nm), (ds (R.getD k rl0).gr), (di (R.getD k rl0).am.k), (ds (R.getD k rl0).am.s), (di (R.getD k rl0).am.n), (di (R.getD k rl0).am.d), (di (R.getD k rl0).am.pos), (.slc 6 (R.getD k rl0).am.kids.length (lay (exG (R.getD k rl0).ma) (R.getD k rl0).am.kids)), (di (R.getD k rl0).wh.k), (ds (R.getD k rl0).wh.s), (di (R.getD k rl0).wh.n), (di (R.getD k rl0).wh.d), (di (R.getD k rl0).wh.pos), (.slc 6 (R.getD k rl0).wh.kids.length (lay (exG (R.getD k rl0).mw) (R.getD k rl0).wh.kids)), (di (R.getD k rl0).pos)]) : DV) (tyW L (rdE (ndX (R.getD k rl0).ma (R.getD k rl0).am))) (tyW L (rdE (ndX (R.getD k rl0).mw (R.getD k rl0).wh))) ((.tup [(di (chR L R).fst), (di (chR L R).snd)]) : DV) ((.ptr [(.ptr [(.mp none (fV (revF L L.length)) (fH (revF L L.length))), (.mp none (wV (revW L L.length)) (wL (revW L L.length)))])]) : DV) (!(R.getD k rl0).gr.toList == (ByteArray.mk #[]).toList && (R.getD k rl0).kind != 0) (agB R ((↑k : Int) - 0).toNat (R.getD k rl0).nm || gpB R (R.getD k rl0).nm)) (by kernel_rfl) ?_
      have ek : (((k : Nat) : Int) - 0).toNat = k := by omega
      have e1 : rdE (ndX (R.getD k rl0).ma (R.getD k rl0).am) = (R.getD k rl0).am := rdE_eq hs.ha
      have e2 : rdE (ndX (R.getD k rl0).mw (R.getD k rl0).wh) = (R.getD k rl0).wh := rdE_eq hs.hw
      simp only [e1, e2, ek, emp_beq]
      have hit : ∀ p, chS L R k = some p → chR L R = p := fun p hp => by
        unfold chR
        rw [if_neg (by rw [h1]; decide)]
        exact chF_hit R.length 0 k hk2 (fun j _ hj => hkd j (by omega)) (by rw [Nat.zero_add]; exact hp)
      have hru := vaR_ru (va_of h1) _ hk2
      obtain ⟨s1, s2⟩ := ru_snd hru
      have c68 := f68a (G := G) (fun x => decide (x.nm = (R.getD k rl0).nm)) (R.take k) (.ptr (rlL (R.getD k rl0))) (by rw [List.length_take]; omega) (fun i _ => rfl_nm _ _) fun i hi => f69 _ _
      refine ⟨⟨⟨by omega, by omega, by omega⟩, c68.args fun q us => DV.rels_cons (fun v hv => ?_) (fun _ h => h) us⟩, f68b (fun x => decide (x.gr = (R.getD k rl0).nm)) R _ (by omega) (fun i _ => rfl_gr _ _) fun i hi => f70 _ _, fun h3 => ?_, fun h3 => ⟨fun h4 => ?_, fun h4 => ⟨f67 L h _ _ hs.ha hs.am s1 0, fun h5 => ?_, fun h5 => ⟨fun h6 => ?_, fun h6 => ⟨f67 L h _ _ hs.hw hs.wh (s2 (by simpa using h6)) 1, fun h7 => ?_, fun h7 => ?_⟩⟩⟩⟩⟩
      · have el : (R.take k).length = k := by rw [List.length_take]; omega
        show DV.rel q (.slc 16 (R.take k).length (rlF (R.take k))) v
        rw [el]
        refine DV.rel_slc_congr (fun i hi => ?_) hv
        show rlF R (0 + i) = rlF (R.take k) i
        rw [Nat.zero_add]
        unfold rlF
        rw [List.getD, List.getD, List.getElem?_take_of_lt hi]
      · rw [hit ((R.getD k rl0).pos, 6) (by unfold chS; rw [if_pos h3])]
      · simp only [Bool.and_eq_true, Bool.not_eq_true', decide_eq_false_iff_not, bne_iff_ne] at h4
        rw [hit ((R.getD k rl0).pos, 5) (by unfold chS; rw [if_neg (by rw [h3]; decide), if_pos h4])]
      · have h5 : xpC 0 (tyW L (R.getD k rl0).am) ≠ 0 := by simpa using h5
        have h4' : ¬ ((R.getD k rl0).gr.size ≠ 0 ∧ (R.getD k rl0).kind ≠ 0) := fun hh => by
          rw [Bool.eq_false_iff] at h4
          exact h4 (by simpa using hh)
        rw [hit (exM 0 (tyW L (R.getD k rl0).am)) (by unfold chS; rw [if_neg (by rw [h3]; decide), if_neg h4', if_pos h5])]
      · refine ⟨⟨by omega, by omega⟩, Again.mk (k + 1) ?_ ⟨hk2, fun i hi => ?_⟩ (by omega)⟩
        · exact AS.leA (by kernel_rfl)
        · rcases Nat.lt_or_ge i k with h8 | h8
          · exact hkd i h8
          · obtain rfl : i = k := by omega
            have h4' : ¬ ((R.getD i rl0).gr.size ≠ 0 ∧ (R.getD i rl0).kind ≠ 0) := fun hh => by
              rw [Bool.eq_false_iff] at h4
              exact h4 (by simpa using hh)
            have h5 : ¬ xpC 0 (tyW L (R.getD i rl0).am) ≠ 0 := by simpa using h5
            unfold chS
            rw [if_neg (by rw [h3]; decide), if_neg h4', if_neg h5, if_pos (by simpa using h6)]
      · have h7 : xpC 1 (tyW L (R.getD k rl0).wh) ≠ 0 := by simpa using h7
        have h4' : ¬ ((R.getD k rl0).gr.size ≠ 0 ∧ (R.getD k rl0).kind ≠ 0) := fun hh => by
          rw [Bool.eq_false_iff] at h4
          exact h4 (by simpa using hh)
        have h5 : ¬ xpC 0 (tyW L (R.getD k rl0).am) ≠ 0 := by simpa using h5
        rw [hit (exM 1 (tyW L (R.getD k rl0).wh)) (by unfold chS; rw [if_neg (by rw [h3]; decide), if_neg h4', if_neg h5, if_neg (by simpa using h6), if_pos h7])]
      · refine ⟨⟨by omega, by omega⟩, Again.mk (k + 1) ?_ ⟨hk2, fun i hi => ?_⟩ (by omega)⟩
        · exact AS.leA (by kernel_rfl)
        · rcases Nat.lt_or_ge i k with h8 | h8
          · exact hkd i h8
          · obtain rfl : i = k := by omega
            have h4' : ¬ ((R.getD i rl0).gr.size ≠ 0 ∧ (R.getD i rl0).kind ≠ 0) := fun hh => by
              rw [Bool.eq_false_iff] at h4
              exact h4 (by simpa using hh)
            have h5 : ¬ xpC 0 (tyW L (R.getD i rl0).am) ≠ 0 := by simpa using h5
            have h7 : ¬ xpC 1 (tyW L (R.getD i rl0).wh) ≠ 0 := by simpa using h7
            unfold chS
            rw [if_neg (by rw [h3]; decide), if_neg h4', if_neg h5, if_neg (by simpa using h6), if_neg h7]
    · have h2 := of_decide_eq_false h2
      refine walkK (orc := orc34 L R) (keep := []) (cuts := []) (n := 1000) follows ?_
      refine of_tr (fun _ _ _ _ => (((.tup [(di 0), (di 0)]) : DV) = (.tup [(di (chR L R).fst), (di (chR L R).snd)]))) (by kernel_rfl) ?_
      unfold chR
      rw [if_neg (by rw [h1]; decide), chF_none R.length 0 fun j _ hj => hkd j (by omega)]
end Go.Proofs
set_option autoImplicit false
namespace Go.Proofs
open Go Go.Ab Go.RowKit
set_option maxHeartbeats 4000000
set_option maxRecDepth 100000
variable {G : IH}
/-! The reference's rules. -/
def rfB (r : Rl) : Bool := decide (r.kind ≥ 0) && decide (r.kind ≤ 3) && nameB r.nm && (decide (r.gr.size = 0) || nameB r.gr) && fitE r.am && (nonB r.wh || fitE r.wh)
def vaS (R : List Rl) : Bool := decide (R.length ≤ 32) && R.all rfB && decide ((catB R R.length).size ≤ 16384)
theorem rf_ru {r : Rl} (h : rfB r = true) : ruB r = true := by
  unfold rfB fitE at h
  unfold ruB
  simp only [Bool.and_eq_true, Bool.or_eq_true, decide_eq_true_eq] at h ⊢
  obtain ⟨⟨⟨⟨⟨h1, h2⟩, h3⟩, h4⟩, ⟨h5, h6⟩, h7⟩, h8⟩ := h
  refine ⟨⟨⟨⟨⟨⟨h1, by omega⟩, h3⟩, h4⟩, h6, ?_⟩, h5⟩, ?_⟩
  · rcases h8 with h8 | h8
    · unfold nonB at h8
      simp only [Bool.and_eq_true, decide_eq_true_eq] at h8
      have := List.eq_nil_of_length_eq_zero h8.2
      have : ht r.wh = 0 := by
        cases hw : r.wh with
        | mk k s n d pos kids =>
          rw [hw] at this
          have this : kids = [] := this
          subst this
          rfl
      omega
    · exact h8.1.2
  · rcases h8 with h8 | h8
    · exact .inl h8
    · exact .inr h8.1.1
end Go.Proofs
