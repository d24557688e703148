import Derived.Test.YtpognhmelecaoaaGreatDoorAcD
import Derived.Test.YtpognhmelecaoaaGreatDoorRW
set_option autoImplicit false
namespace Go.Proofs
open Go Go.Ab Go.RowKit
set_option maxHeartbeats 4000000
set_option maxRecDepth 100000
variable {G : IH}
/-! Clone and Reverse of rules. -/
theorem FnM.res {f : FuncId} {args : List AV} {pre post post' : List (Nat × List AV)} {r r' : AV} (hle : AS.leX ⟨[r], post⟩ ⟨[r'], post'⟩) (h : FnM Tryz.prog G f args pre r post) : FnM Tryz.prog G f args pre r' post' :=
  ⟨h.1, fun F w h0 β us g => (h.2 F w h0 β us g).mono fun e w' ⟨v, β', h', e1, g1⟩ =>
    let ⟨β2, g2⟩ := hle G F w h0 β' h' #[v] w' g1
    ⟨v, β2, h', e1, g2⟩⟩
theorem FnM.con0 {f : FuncId} {x : DV} {rest : List AV} {pre post : List (Nat × List AV)} {r : AV} (hcall : ∀ (us : Array Value) (w : World), (callFunc f us).run Tryz.prog w = .ok (.enter f us) w) (h : ∀ k v, DV.rel k x v → FnM Tryz.prog G f (.d (.con v) :: rest) pre r post) : FnM Tryz.prog G f (.d x :: rest) pre r post :=
  ⟨hcall, fun F w h0 β us g => by
    obtain ⟨v, hv, hr⟩ := g.regs 0 (.d x) rfl
    exact (h h0 v hr).2 F w h0 β us ⟨g.glob, g.holds, g.ext, g.old, g.kept, g.fix, by simpa using g.size, fun j z hz => by
      cases j with
      | zero =>
        simp only [List.getElem?_cons_zero, Option.some.injEq] at hz
        subst hz
        exact ⟨v, hv, rfl⟩
      | succ j => exact g.regs (j + 1) z (by simpa using hz), g.box, g.inj⟩⟩
def undF : Nat → DV := fun i => bif Nat.blt i 0 then DV.con undef else DV.con undef
abbrev rlK : RK := ⟨true, 57, false, none⟩
theorem f36z : FnM Tryz.prog G 36 [.d (rlsD [])] [] (.vec 900 16 0 0) [(900, [.arr rlK 16 undF])] := by
  refine FnM.con0 Tryz.call36 fun k v hv => ?_
  obtain ⟨p, cap, rfl, hc, _⟩ := hv
  cases p with
  | none =>
    refine FnM.res (.nilRow _ 0 900 16 rlK _ (by kernel_rfl) (by kernel_rfl)) (r := .d (.con (.slice none 0 0))) (post := []) ?_
    refine FnM.walk (orc := noO) (keep := []) [] follows (by kernel_rfl) Tryz.func36 rfl Tryz.call36 ?_
    refine of_tr (fun _ _ _ _ => (((true = true) → ((ZS ((.d (.con (.slice none 0 0))) : AV)) ∧ True)) ∧ ((true = false) → ((((0 + 0) * 192 ≤ 1099511627776) ∧ (0 + 0 ≤ 1099511627776)) ∧ ((.vec 7 16 0 0) : AV) = (.d (.con (.slice none 0 0))) ∧ True)))) (by kernel_rfl) ?_
    exact ⟨fun _ => ⟨rfl, trivial⟩, fun h => by cases h⟩
  | some a =>
    refine FnM.walk (orc := noO) (keep := []) [(7, 900)] follows (by kernel_rfl) Tryz.func36 rfl Tryz.call36 ?_
    refine of_tr (fun _ _ _ _ => (((false = true) → (((.d (.con (.slice none 0 0))) : AV) = (.vec 900 16 0 0) ∧ (none : (Option (List AV))) = (some [(.arr ⟨true, 57, false, none⟩ 16 undF)]) ∧ True)) ∧ ((false = false) → ((((0 + 0) * 192 ≤ 1099511627776) ∧ (0 + 0 ≤ 1099511627776)) ∧ (ZS ((.vec 900 16 0 0) : AV)) ∧ ((some [(.arr ⟨true, 57, false, none⟩ 16 (fun i => bif i.blt 0 then DV.con undef else DV.con undef))]) : (Option (List AV))) = (some [(.arr ⟨true, 57, false, none⟩ 16 undF)]) ∧ True)))) (by kernel_rfl) ?_
    exact ⟨fun h => (by cases h), fun _ => ⟨⟨by omega, by omega⟩, rfl, rfl, trivial⟩⟩
theorem f36 (R : List Rl) (h0 : 0 < R.length) (hL : R.length ≤ 100000) : FnM Tryz.prog G 36 [.d (rlsD R)] [] (.vec 900 16 0 R.length) [(900, [.arr rlK 16 (rlF R)])] := by
  refine FnM.walk (orc := noO) (keep := []) [(7, 900)] follows (by kernel_rfl) Tryz.func36 rfl Tryz.call36 ?_
  refine of_tr (fun _ _ _ _ => ((0 < R.length) ∧ ((false = true) → (((.d (.con (.slice none 0 0))) : AV) = (.vec 900 16 0 R.length) ∧ (none : (Option (List AV))) = (some [(.arr ⟨true, 57, false, none⟩ 16 (rlF R))]) ∧ True)) ∧ ((false = false) → (((((0 + R.length) * 192 ≤ 1099511627776) ∧ (0 + R.length ≤ 1099511627776)) ∧ (∀ (i : Nat), i < R.length → elemOK true 16 (rlF R i) = true)) ∧ ((.vec 900 16 0 (0 + R.length)) : AV) = (.vec 900 16 0 R.length) ∧ ((some [(.arr ⟨true, 57, false, none⟩ 16 (fun i => bif i.blt 0 then DV.con undef else rlF R (i - 0)))]) : (Option (List AV))) = (some [(.arr ⟨true, 57, false, none⟩ 16 (rlF R))]) ∧ True)))) (by kernel_rfl) ?_
  exact ⟨h0, fun h => (by cases h), fun _ => ⟨⟨⟨by omega, by omega⟩, fun i _ => rfl⟩, by rw [Nat.zero_add], rfl, trivial⟩⟩
def rvI (n i j : Nat) : Nat := if j < n ∧ (j < i ∨ n ≤ j + i) then n - 1 - j else j
theorem rv_end {n k : Nat} (h : n ≤ 2 * k + 1) (j : Nat) : rvI n k j = rvI n n j := by
  unfold rvI
  by_cases hj : j < n
  · rw [if_pos (⟨hj, .inl hj⟩ : j < n ∧ (j < n ∨ n ≤ j + n))]
    by_cases h2 : j < k ∨ n ≤ j + k
    · rw [if_pos ⟨hj, h2⟩]
    · rw [if_neg fun h3 => h2 h3.2]; omega
  · rw [if_neg (fun h3 => hj h3.1), if_neg (fun h3 => hj h3.1)]
theorem rv_0 (n j : Nat) : rvI n 0 j = j := by
  unfold rvI
  rw [if_neg]; omega
def rowRv (g : Nat → Rl) (n i j : Nat) : DV := rlD (g (rvI n i j))
noncomputable def S37 (g : Nat → Rl) (n k : Nat) : AS := ⟨regs Tryz.f37.ntmps [(0, .vec 1000000 16 0 n), (2, vi k), (3, .d (di ((n : Int) - 1 - k)))], [(1000000, [.arr rlK 16 (rowRv g n k)])]⟩
theorem f37 (g : Nat → Rl) (n : Nat) (hn : n ≤ 1000) : FnM Tryz.prog G 37 [.vec 1000000 16 0 n] [(1000000, [.arr rlK 16 fun j => rlD (g j)])] (.d (.tup [])) [(1000000, [.arr rlK 16 fun j => rlD (g (rvI n n j))])] := by
  refine FnM.walk (orc := noO) (keep := []) [] follows (by kernel_rfl) Tryz.func37 rfl Tryz.call37 ?_
  refine of_tr (fun ZT ZW ZQ _ => ((I64 (↑n - 1)) ∧ ZW [cd Tryz.f37 [1, 0], (.blk 0)] (stS ZT []) ZQ)) (by kernel_rfl) ?_
  refine ⟨⟨by omega, by omega⟩, ?_⟩
  refine AWP.loop (c := cAt (bodyOf Tryz.f37) [1, 0, 0]) (by kernel_rfl) (S37 g n) (fun k => 2 * k ≤ n + 1) (fun k => n + 1 - 2 * k) 0 ?_ (by omega) ?_
  · refine AS.leZ [2] [0] (b := ((T0 ∧ T0 ∧ ((vi (↑n - 1)) : AV) = (vi (↑n - 1 - ↑0)) ∧ True) ∧ ((some [(.arr ⟨true, 57, false, none⟩ 16 (fun j => rlD (g j)))]) : (Option (List AV))) = (some [(.arr ⟨true, 57, false, none⟩ 16 (rowRv g n 0))]) ∧ True)) (by kernel_rfl) (by kernel_rfl) ?_
    refine ⟨⟨rfl, rfl, ?_, trivial⟩, ?_, trivial⟩
    · exact congrArg (fun z : Int => AV.d (.con (.int .i64 z))) (by omega)
    · refine congrArg (fun f => some [AV.arr rlK 16 f]) (funext fun j => ?_)
      unfold rowRv
      rw [rv_0]
  · intro k hk
    refine walkK (orc := noO) (keep := []) (cuts := []) (n := 1000) follows ?_
    refine of_rd (fun ZT ZW ZQ _ ZA _ => ((((decide ((↑k : Int) < ↑n - 1 - ↑k)) = true) → ((((0 ≤ (↑n : Int) - 1 - ↑k) ∧ ((↑n : Int) - 1 - ↑k < ↑n)) ∧ ((0 ≤ (↑k : Int)) ∧ ((↑k : Int) < ↑n)) ∧ ((0 ≤ (↑k : Int)) ∧ ((↑k : Int) < ↑n)) ∧ (0 ≤ (↑n : Int) - 1 - ↑k) ∧ ((↑n : Int) - 1 - ↑k < ↑n)) ∧ ((I64 (↑k + 1)) ∧ (I64 (↑n - 1 - ↑k - 1))) ∧ (ZA (stS ZT [0])))) ∧ (((decide ((↑k : Int) < ↑n - 1 - ↑k)) = false) → ZW [] (stS ZT [1]) ZQ))) (by kernel_rfl) ?_
    refine ⟨fun h => ?_, fun h => ?_⟩
    · have h := of_decide_eq_true h
      refine ⟨⟨⟨by omega, by omega⟩, ⟨by omega, by omega⟩, ⟨by omega, by omega⟩, by omega, by omega⟩, ⟨⟨by omega, by omega⟩, by omega, by omega⟩, Again.mk (k + 1) ?_ (by omega) (by omega)⟩
      refine AS.leZ [2] [0] (b := ((T0 ∧ T0 ∧ ((vi (↑n - 1 - ↑k - 1)) : AV) = (vi (↑n - 1 - ↑(k + 1))) ∧ True) ∧ ((some [(.arr ⟨true, 57, false, none⟩ 16 (fun j => bif j.beq (0 + ((↑n : Int) - 1 - (↑k : Int)).toNat) then rlD (g (rvI n k (0 + ((↑k : Int) : Int).toNat))) else bif j.beq (0 + ((↑k : Int) : Int).toNat) then rlD (g (rvI n k (0 + ((↑n : Int) - 1 - ↑k).toNat))) else rowRv g n k j))]) : (Option (List AV))) = (some [(.arr ⟨true, 57, false, none⟩ 16 (rowRv g n (k + 1)))]) ∧ True)) (by kernel_rfl) (by kernel_rfl) ?_
      refine ⟨⟨rfl, rfl, ?_, trivial⟩, ?_, trivial⟩
      · exact congrArg (fun z : Int => AV.d (.con (.int .i64 z))) (by omega)
      · refine congrArg (fun f => some [AV.arr rlK 16 f]) (funext fun j => ?_)
        have e1 : ((n : Int) - 1 - k).toNat = n - 1 - k := by omega
        rw [e1, Int.toNat_natCast, Nat.zero_add, Nat.zero_add]
        unfold rowRv
        have a1 : rvI n k k = k := by unfold rvI; rw [if_neg]; omega
        have a2 : rvI n k (n - 1 - k) = n - 1 - k := by unfold rvI; rw [if_neg]; omega
        rw [a1, a2]
        by_cases j1 : j = n - 1 - k
        · subst j1
          rw [Nat.beq_refl, cond_true]
          have : rvI n (k + 1) (n - 1 - k) = k := by unfold rvI; rw [if_pos (by omega)]; omega
          rw [this]
        · rw [beq_ne j1, cond_false]
          by_cases j2 : j = k
          · subst j2
            rw [Nat.beq_refl, cond_true]
            have : rvI n (j + 1) j = n - 1 - j := by unfold rvI; rw [if_pos (by omega)]
            rw [this]
          · rw [beq_ne j2, cond_false]
            have : rvI n (k + 1) j = rvI n k j := by
              unfold rvI
              by_cases h1 : j < n ∧ (j < k ∨ n ≤ j + k)
              · rw [if_pos h1, if_pos (by omega)]
              · rw [if_neg h1, if_neg (by omega)]
            rw [this]
    · have h := of_decide_eq_false h
      refine walkK (orc := noO) (keep := []) (cuts := []) (n := 1000) follows ?_
      refine of_tr (fun _ _ _ _ => ((ZS ((.d (.tup [])) : AV)) ∧ ((some [(.arr ⟨true, 57, false, none⟩ 16 (rowRv g n k))]) : (Option (List AV))) = (some [(.arr ⟨true, 57, false, none⟩ 16 (fun j => rlD (g (rvI n n j))))]) ∧ True)) (by kernel_rfl) ?_
      refine ⟨rfl, ?_, trivial⟩
      refine congrArg (fun f => some [AV.arr rlK 16 f]) (funext fun j => ?_)
      unfold rowRv
      rw [rv_end (by omega)]
end Go.Proofs
set_option autoImplicit false
namespace Go.Proofs
open Go Go.Ab Go.RowKit
/-! When rules are right. -/
def okR (L : List Fc) (r : Rl) : Prop := (r.gr.size = 0 ∨ r.kind = 0) ∧ xpC 0 (tyW L r.am) = 0 ∧ (r.wh.k = 0 ∨ xpC 1 (tyW L r.wh) = 0)
structure Good (L : List Fc) (R : List Rl) : Prop where
  vf : vfB L = true
  len : R.length ≤ 32
  rf : ∀ r ∈ R, rfB r = true
  sz : (catB R R.length).size ≤ 16384
  nm : R.Pairwise fun a b => a.nm ≠ b.nm
  gr : ∀ r ∈ R, ∀ q ∈ R, q.gr ≠ r.nm
  ok : ∀ r ∈ R, okR L r
theorem getD_at {R : List Rl} {i : Nat} (h : i < R.length) : R.getD i rl0 = R[i] := by rw [List.getD, List.getElem?_eq_getElem h]; rfl
theorem chS_none {L : List Fc} {R : List Rl} {i : Nat} : chS L R i = none ↔ agB R i (R.getD i rl0).nm = false ∧ gpB R (R.getD i rl0).nm = false ∧ okR L (R.getD i rl0) := by
  unfold chS okR
  by_cases h1 : (agB R i (R.getD i rl0).nm || gpB R (R.getD i rl0).nm) = true
  · rw [if_pos h1]
    refine ⟨fun h => (by cases h), fun h => ?_⟩
    rw [h.1, h.2.1] at h1; cases h1
  · rw [if_neg h1]
    have h1 : agB R i (R.getD i rl0).nm = false ∧ gpB R (R.getD i rl0).nm = false := by
      rw [Bool.not_eq_true, Bool.or_eq_false_iff] at h1; exact h1
    by_cases h2 : (R.getD i rl0).gr.size ≠ 0 ∧ (R.getD i rl0).kind ≠ 0
    · rw [if_pos h2]
      refine ⟨fun h => (by cases h), fun h => ?_⟩
      rcases h.2.2.1 with h | h
      · exact absurd h h2.1
      · exact absurd h h2.2
    · rw [if_neg h2]
      have h2 : (R.getD i rl0).gr.size = 0 ∨ (R.getD i rl0).kind = 0 := by
        rcases Nat.eq_zero_or_pos (R.getD i rl0).gr.size with h | h
        · exact .inl h
        · exact .inr (Classical.byContradiction fun hk => h2 ⟨by omega, hk⟩)
      by_cases h3 : (exM 0 (tyW L (R.getD i rl0).am)).2 ≠ 0
      · rw [if_pos h3]
        exact ⟨fun h => (by cases h), fun h => absurd h.2.2.2.1 h3⟩
      · rw [if_neg h3]
        have h3 : xpC 0 (tyW L (R.getD i rl0).am) = 0 := by simpa using h3
        by_cases h4 : (R.getD i rl0).wh.k = 0
        · rw [if_pos h4]
          exact ⟨fun _ => ⟨h1.1, h1.2, h2, h3, .inl h4⟩, fun _ => rfl⟩
        · rw [if_neg h4]
          by_cases h5 : (exM 1 (tyW L (R.getD i rl0).wh)).2 ≠ 0
          · rw [if_pos h5]
            refine ⟨fun h => (by cases h), fun h => ?_⟩
            rcases h.2.2.2.2 with h | h
            · exact absurd h h4
            · exact absurd h h5
          · rw [if_neg h5]
            exact ⟨fun _ => ⟨h1.1, h1.2, h2, h3, .inr (by simpa using h5)⟩, fun _ => rfl⟩
theorem chS_code {L : List Fc} {R : List Rl} {i : Nat} {p : Int × Int} (h : chS L R i = some p) : p.2 ≠ 0 := by
  unfold chS at h
  split at h
  · cases h; exact (by decide : (6 : Int) ≠ 0)
  split at h
  · cases h; exact (by decide : (5 : Int) ≠ 0)
  split at h
  · rename_i h3; cases h; exact h3
  split at h
  · cases h
  split at h
  · rename_i h3; cases h; exact h3
  · cases h
theorem chF_zero {L : List Fc} {R : List Rl} : ∀ (n i : Nat), (chF L R n i).2 = 0 → ∀ j, i ≤ j → j < i + n → chS L R j = none
  | 0, i, _, j, h1, h2 => by omega
  | n + 1, i, h, j, h1, h2 => by
    unfold chF at h
    cases hc : chS L R i with
    | some p => simp only [hc] at h; exact absurd h (chS_code hc)
    | none =>
      simp only [hc] at h
      rcases Nat.lt_or_ge i j with h3 | h3
      · exact chF_zero n (i + 1) h j h3 (by omega)
      · obtain rfl : j = i := by omega
        exact hc
theorem vaS_iff {R : List Rl} : vaS R = true ↔ R.length ≤ 32 ∧ (∀ r ∈ R, rfB r = true) ∧ (catB R R.length).size ≤ 16384 := by
  unfold vaS
  simp only [Bool.and_eq_true, decide_eq_true_eq, List.all_eq_true]
  exact ⟨fun h => ⟨h.1.1, h.1.2, h.2⟩, fun h => ⟨⟨h.1, h.2.1⟩, h.2.2⟩⟩
theorem ag_iff {R : List Rl} {i : Nat} {s : ByteArray} (hi : i ≤ R.length) : agB R i s = false ↔ ∀ j, j < i → (R.getD j rl0).nm ≠ s := by
  unfold agB
  rw [List.any_eq_false]
  constructor
  · intro h j hj
    have hl : j < (R.take i).length := by rw [List.length_take]; omega
    have := h _ (List.getElem_mem hl)
    rw [List.getElem_take] at this
    rw [getD_at (by omega)]
    simpa using this
  · intro h r hr
    obtain ⟨j, hj, rfl⟩ := List.getElem_of_mem hr
    rw [List.length_take] at hj
    have := h j (by omega)
    rw [getD_at (by omega)] at this
    rw [List.getElem_take]
    simpa using this
theorem gp_iff {R : List Rl} {s : ByteArray} : gpB R s = false ↔ ∀ q ∈ R, q.gr ≠ s := by
  unfold gpB
  rw [List.any_eq_false]
  exact ⟨fun h q hq => by simpa using h q hq, fun h q hq => by simpa using h q hq⟩
theorem ch_good {L : List Fc} {R : List Rl} (hR : ∀ i, i < R.length → RlS (R.getD i rl0)) : (chR L R).2 = 0 ↔ Good L R := by
  unfold chR
  have hm : ∀ r ∈ R, ∃ i, i < R.length ∧ R.getD i rl0 = r := fun r hr => by
    obtain ⟨i, hi, rfl⟩ := List.getElem_of_mem hr
    exact ⟨i, hi, getD_at hi⟩
  constructor
  · intro h
    by_cases h1 : (!vfB L || !vaR R) = true
    · rw [if_pos h1] at h; exact absurd h (by decide)
    · rw [if_neg h1] at h
      rw [Bool.not_eq_true] at h1
      have hv := va_of h1
      rw [vaR_S hR, vaS_iff] at hv
      have hn := chF_zero _ _ h
      have hS := fun i (hi : i < R.length) => chS_none.1 (hn i (Nat.zero_le _) (by omega))
      refine ⟨vf_l h1, hv.1, hv.2.1, hv.2.2, ?_, fun r hr q hq => ?_, fun r hr => ?_⟩
      · rw [List.pairwise_iff_getElem]
        intro i j hi hj hij
        have := (ag_iff (by omega)).1 (hS j hj).1 i hij
        rwa [getD_at hi, getD_at hj] at this
      · obtain ⟨i, hi, rfl⟩ := hm r hr
        exact gp_iff.1 (hS i hi).2.1 q hq
      · obtain ⟨i, hi, rfl⟩ := hm r hr
        exact (hS i hi).2.2
  · intro g
    have hv : vaR R = true := by rw [vaR_S hR, vaS_iff]; exact ⟨g.len, g.rf, g.sz⟩
    rw [if_neg (by rw [g.vf, hv]; decide), chF_none]
    intro j _ hj
    have hj : j < R.length := by omega
    rw [chS_none, ag_iff (by omega), gp_iff]
    have hmem : R.getD j rl0 ∈ R := getD_mem' hj
    refine ⟨fun i hi => ?_, fun q hq => g.gr _ hmem q hq, g.ok _ hmem⟩
    rw [getD_at hj, getD_at (by omega)]
    exact List.pairwise_iff_getElem.1 g.nm i j (by omega) hj hi
def szS (R : List Rl) : Nat := (R.map fun r => (lnB r).size).sum
theorem cat_szS (R : List Rl) : ∀ k, k ≤ R.length → (catB R k).size = szS (R.take k)
  | 0, _ => rfl
  | k + 1, h => by
    have ih := cat_szS R k (by omega)
    simp only [catB, ByteArray.size_append, ih]
    rw [List.take_succ_eq_append_getElem (by omega), getD_at (by omega)]
    unfold szS
    rw [List.map_append, List.sum_append]
    simp
theorem cat_all (R : List Rl) : (catB R R.length).size = szS R := by rw [cat_szS R _ (Nat.le_refl _), List.take_length]
theorem good_rev {L : List Fc} {R : List Rl} (g : Good L R) : Good L R.reverse := by
  refine ⟨g.vf, by rw [List.length_reverse]; exact g.len, fun r hr => g.rf r (List.mem_reverse.1 hr), ?_, ?_, fun r hr q hq => g.gr r (List.mem_reverse.1 hr) q (List.mem_reverse.1 hq), fun r hr => g.ok r (List.mem_reverse.1 hr)⟩
  · have := g.sz
    rw [cat_all] at this ⊢
    unfold szS at this ⊢
    rw [List.map_reverse, List.sum_reverse]; exact this
  · rw [List.pairwise_reverse]
    exact g.nm.imp fun h => h.symm
theorem good_take {L : List Fc} {R : List Rl} (g : Good L R) (k : Nat) : Good L (R.take k) := by
  have hm : ∀ r ∈ R.take k, r ∈ R := fun r hr => List.mem_of_mem_take hr
  refine ⟨g.vf, ?_, fun r hr => g.rf r (hm r hr), ?_, g.nm.sublist (List.take_sublist _ _), fun r hr q hq => g.gr r (hm r hr) q (hm q hq), fun r hr => g.ok r (hm r hr)⟩
  · have := g.len
    rw [List.length_take]; omega
  · have := g.sz
    rw [cat_all] at this ⊢
    have h2 : szS (R.take k) + szS (R.drop k) = szS R := by
      unfold szS
      rw [← List.sum_append, ← List.map_append, List.take_append_drop]
    omega
theorem good_type {L : List Fc} {R : List Rl} (g : Good L R) {r : Rl} (hr : r ∈ R) : typR L r.am = (0, 0, 0) ∧ (r.wh.k ≠ 0 → typR L r.wh = (1, 0, 0)) := by
  have hf := g.rf r hr
  have ho := g.ok r hr
  unfold rfB at hf
  simp only [Bool.and_eq_true, Bool.or_eq_true] at hf
  have key : ∀ (w : Int) (x : Ex), fitE x = true → xpC w (tyW L x) = 0 → typR L x = (w, 0, 0) := fun w x hx h => by
    rw [typR_ref, if_neg (by rw [g.vf, hx]; decide)]
    unfold xpC at h
    split at h
    · cases h
    · rename_i hc
      have h1 : (tyW L x).1 = w := Classical.byContradiction fun hh => hc ⟨h, hh⟩
      unfold nrK
      rw [if_neg (by omega), h1]
  refine ⟨key 0 _ hf.1.2 ho.2.1, fun hk => key 1 _ ?_ (ho.2.2.resolve_left hk)⟩
  rcases hf.2 with h | h
  · unfold nonB at h
    simp only [Bool.and_eq_true, beq_iff_eq] at h
    exact absurd h.1.1.1 hk
  · exact h
end Go.Proofs
set_option autoImplicit false
namespace Go.Proofs
open Go Go.Ab Go.RowKit
set_option maxHeartbeats 4000000
set_option maxRecDepth 100000
variable {G : IH}
/-! RubricOrder. -/
theorem f37z : FnM Tryz.prog G 37 [.vec 1000000 16 0 0] [(1000000, [.arr rlK 16 undF])] (.d (.tup [])) [(1000000, [.arr rlK 16 undF])] := by
  refine FnM.walk (orc := noO) (keep := []) [] follows (by kernel_rfl) Tryz.func37 rfl Tryz.call37 ?_
  refine of_tr (fun ZT ZW ZQ _ => ((I64 (↑0 - 1)) ∧ ZW [cd Tryz.f37 [1, 0], (.blk 0)] (stS ZT []) ZQ)) (by kernel_rfl) ?_
  refine ⟨⟨by omega, by omega⟩, ?_⟩
  refine AWP.loop (c := cAt (bodyOf Tryz.f37) [1, 0, 0]) (by kernel_rfl) (fun _ : Nat => ⟨regs Tryz.f37.ntmps [(0, .vec 1000000 16 0 0), (2, vi 0), (3, .d (di (-1)))], [(1000000, [.arr rlK 16 undF])]⟩) (fun _ => True) (fun k => k) 0 ?_ trivial ?_
  · exact AS.leA (by kernel_rfl)
  · intro k hk
    refine walkK (orc := noO) (keep := []) (cuts := []) (n := 1000) follows ?_
    refine of_rd (fun ZT ZW ZQ _ _ _ => (((false = true) → False) ∧ ((false = false) → ZW [] (stS ZT [1]) ZQ))) (by kernel_rfl) ?_
    refine ⟨fun h => (by cases h), fun _ => ?_⟩
    refine walkK (orc := noO) (keep := []) (cuts := []) (n := 1000) follows ?_
    refine of_tr (fun _ _ _ _ => ((ZS ((.d (.tup [])) : AV)) ∧ ((some [(.arr ⟨true, 57, false, none⟩ 16 undF)]) : (Option (List AV))) = (some [(.arr ⟨true, 57, false, none⟩ 16 undF)]) ∧ True)) (by kernel_rfl) ?_
    exact ⟨rfl, rfl, trivial⟩
def chC (L : List Fc) (R : List Rl) : Int := (chR L R).2
def chP (L : List Fc) (R : List Rl) : Int := (chR L R).1
noncomputable def orc9 (L : List Fc) (R : List Rl) : Oracle := fun f a => match f, a with
  | 10, [] => some (db true)
  | 20, [_] => some (db (fewF L))
  | 32, [e, .con (.int _ n)] => some (db (fewE n (rdE e)))
  | 34, [_, _] => some (.tup [di (chP L R), di (chC L R)])
  | 13, [e, _] => some (.tup [di (typR L (rdE e)).1, di (typR L (rdE e)).2.1, di (typR L (rdE e)).2.2])
  | _, _ => none
def orc9m (n : Nat) (r r' : Nat → DV) (f : FuncId) (a : List AV) (pre : List (Nat × List AV)) : Option (AV × List (Nat × List AV)) := match f, pre with
  | 36, [] => some (.vec 900 16 0 n, [(900, [.arr rlK 16 r])])
  | 37, [(u, _)] => some (.d (.tup []), [(u, [.arr rlK 16 r'])])
  | _, _ => none
noncomputable def S9 (R : List Rl) (L : List Fc) (n : Int) (k : Nat) : AS := ⟨regs Tryz.f9.ntmps [(0, .d (rlsD R)), (1, .d (fcsD L)), (2, .d (.con (.int .u8 n))), (35, .d (rlsD R)), (36, vi R.length), (37, vi k)], []⟩
noncomputable def S9b (R : List Rl) (L : List Fc) (n : Int) (k : Nat) : AS := ⟨regs Tryz.f9.ntmps [(0, .d (rlsD R)), (1, .d (fcsD L)), (2, .d (.con (.int .u8 n))), (87, .d (rlsD R)), (88, vi R.length), (89, vi k)], []⟩
noncomputable def S9t (R : List Rl) (L : List Fc) (n : Int) : AS := ⟨regs Tryz.f9.ntmps [(0, .d (rlsD R)), (1, .d (fcsD L)), (2, .d (.con (.int .u8 n)))], []⟩
noncomputable def S9u (R : List Rl) (L : List Fc) (n : Int) : AS := ⟨regs Tryz.f9.ntmps [(0, .d (rlsD R)), (1, .d (fcsD L)), (2, .d (.con (.int .u8 n))), (10, .d (di (chC L R))), (11, .d (rlsD R.reverse))], []⟩
theorem f9u (hT : Tab G) (R : List Rl) (L : List Fc) (n : Int) (hn : 0 ≤ n ∧ n ≤ 255) (hF : ∀ i, i < L.length → FcS (L.getD i fc0)) (hL : L.length ≤ 1000) (hR : R.length ≤ 1000) (hRS : ∀ i, i < R.length → RlS (R.getD i rl0)) : AWP Tryz.prog G [cd Tryz.f9 [1, 1, 1, 1, 1, 1, 1, 0], cd Tryz.f9 [1, 1, 1, 1, 1, 1, 1, 1]] (S9u R L n) (Ret Tryz.prog Tryz.f9 (db true)) := by
  have hrl : R.reverse.length = R.length := List.length_reverse
  have hRR : ∀ i, i < R.reverse.length → RlS (R.reverse.getD i rl0) := fun i hi => by
    rw [hrl] at hi
    have := hRS (R.length - 1 - i) (by omega)
    rw [getD_at (by omega)] at this
    rw [getD_at (by omega), List.getElem_reverse]
    exact this
  have g1 : chC L R = 0 ↔ Good L R := ch_good hRS
  have g2 : chC L R.reverse = 0 ↔ Good L R.reverse := ch_good hRR
  have g3 : Good L R.reverse ↔ Good L R := ⟨fun h => by have := good_rev h; rwa [List.reverse_reverse] at this, good_rev⟩
  refine walkK (orc := orc9 L R.reverse) (keep := []) (cuts := [19]) (n := 1000) follows ?_
  refine of_tr (fun ZT ZW ZQ ZK => (ZK 34 [(.slc 16 R.reverse.length (rlF R.reverse)), (.slc 7 L.length (fcF L))] (.tup [(di (chP L R.reverse)), (di (chC L R.reverse))]) ∧ (((!(chC L R == 0) == (chC L R.reverse == 0)) = true) → (((db false) : DV) = (db true))) ∧ (((!(chC L R == 0) == (chC L R.reverse == 0)) = false) → ((((chC L R != 0) = true) → (ZS ((db true) : DV))) ∧ (((chC L R != 0) = false) → ZW [cd Tryz.f9 [1, 1, 1, 1, 1, 1, 1, 1, 1, 0], cd Tryz.f9 [1, 1, 1, 1, 1, 1, 1, 1, 1, 1]] (stS ZT [1, 1]) ZQ))))) (by kernel_rfl) ?_
  refine ⟨f34 hT L R.reverse hF hL hRR (by omega), fun h => ?_, fun _ => ⟨fun _ => rfl, fun h => ?_⟩⟩
  · exfalso
    have : (chC L R == 0) = (chC L R.reverse == 0) := by rw [Bool.eq_iff_iff, beq_iff_eq, beq_iff_eq, g1, g2, g3]
    rw [this] at h
    simp at h
  have hg : Good L R := g1.1 (by simpa using h)
  refine walkK (orc := orc9 L R) (keep := []) (cuts := []) (n := 1000) follows ?_
  refine of_tr (fun ZT ZW ZQ _ => ZW [cd Tryz.f9 [1, 1, 1, 1, 1, 1, 1, 1, 1, 0, 1, 0], (.blk 2), cd Tryz.f9 [1, 1, 1, 1, 1, 1, 1, 1, 1, 1]] (stS ZT []) ZQ) (by kernel_rfl) ?_
  refine AWP.loop (c := cAt (bodyOf Tryz.f9) [1, 1, 1, 1, 1, 1, 1, 1, 1, 0, 1, 0, 0]) (by kernel_rfl) (S9b R L n) (fun k => k ≤ R.length) (fun k => R.length - k) 0 ?_ (Nat.zero_le _) ?_
  · exact AS.leA (by kernel_rfl)
  · intro k hk
    refine walkK (orc := orc9 L R) (keep := []) (cuts := []) (n := 1000) follows ?_
    refine of_rd (fun ZT ZW ZQ ZK ZA _ => (fun Za Zb => ((((decide ((↑k : Int) < ↑R.length)) = true) → (((0 ≤ (↑k : Int)) ∧ ((↑k : Int) < ↑R.length)) ∧ ZK 13 [(ndX (R.getD (↑k : Int).toNat rl0).ma (R.getD (↑k : Int).toNat rl0).am), (.slc 7 L.length (fcF L))] (.tup [(di Za.fst), (di Za.snd.fst), (di Za.snd.snd)]) ∧ (((Za.snd.snd != 0 || Za.fst != 0) = true) → (((db false) : DV) = (db true))) ∧ (((Za.snd.snd != 0 || Za.fst != 0) = false) → (ZK 13 [(ndX (R.getD (↑k : Int).toNat rl0).mw (R.getD (↑k : Int).toNat rl0).wh), (.slc 7 L.length (fcF L))] (.tup [(di Zb.fst), (di Zb.snd.fst), (di Zb.snd.snd)]) ∧ ((((R.getD (↑k : Int).toNat rl0).wh.k != 0 && (Zb.snd.snd != 0 || Zb.fst != 1)) = true) → (((db false) : DV) = (db true))) ∧ ((((R.getD (↑k : Int).toNat rl0).wh.k != 0 && (Zb.snd.snd != 0 || Zb.fst != 1)) = false) → ((I64 (↑k + 1)) ∧ (ZA (stS ZT [0, 1, 1])))))))) ∧ (((decide ((↑k : Int) < ↑R.length)) = false) → ZW [cd Tryz.f9 [1, 1, 1, 1, 1, 1, 1, 1, 1, 1]] (stS ZT [1]) ZQ))) (typR L (rdE (ndX (R.getD (↑k : Int).toNat rl0).ma (R.getD (↑k : Int).toNat rl0).am))) (typR L (rdE (ndX (R.getD (↑k : Int).toNat rl0).mw (R.getD (↑k : Int).toNat rl0).wh)))) (by kernel_rfl) ?_
    refine ⟨fun h2 => ?_, fun h2 => ?_⟩
    · have hk2 : k < R.length := by have := of_decide_eq_true h2; omega
      have hs := hRS k hk2
      have e1 : rdE (ndX (R.getD k rl0).ma (R.getD k rl0).am) = (R.getD k rl0).am := rdE_eq hs.ha
      have e2 : rdE (ndX (R.getD k rl0).mw (R.getD k rl0).wh) = (R.getD k rl0).wh := rdE_eq hs.hw
      obtain ⟨t1, t2⟩ := good_type hg (getD_mem' (x0 := rl0) hk2)
      have c1 := f13 (G := G) hT _ (R.getD k rl0).am L hs.ha hs.am hF hL
      have c2 := f13 (G := G) hT _ (R.getD k rl0).wh L hs.hw hs.wh hF hL
      rw [t1] at c1
      simp only [e1, e2, Int.toNat_natCast, t1]
      refine ⟨⟨by omega, by omega⟩, c1, fun h => (by cases h), fun _ => ⟨c2, fun h => ?_, fun _ => ⟨⟨by omega, by omega⟩, Again.mk (k + 1) ?_ hk2 (by omega)⟩⟩⟩
      · exfalso
        by_cases hk : (R.getD k rl0).wh.k = 0
        · rw [hk] at h; simp at h
        · rw [t2 hk] at h
          simp at h
      · exact AS.leA (by kernel_rfl)
    · have h2 := of_decide_eq_false h2
      refine walkK (orc := orc9 L (R.take (n.toNat % (R.length + 1)))) (keep := []) (cuts := []) (n := 1000) follows ?_
      refine of_tr (fun _ _ _ ZK => (fun Za => (((I64 (↑R.length + 1)) ∧ ((↑R.length : Int) + 1 ≠ 0)) ∧ ((((0 : Int) ≤ (0 : Int)) ∧ (0 ≤ (IntKind.i64.wrap n).tmod (↑R.length + 1)) ∧ ((IntKind.i64.wrap n).tmod (↑R.length + 1) ≤ ↑R.length)) ∧ ZK 34 [(.slc 16 ((IntKind.i64.wrap n).tmod (↑R.length + 1) - 0).toNat (fun i => rlF R (Int.toNat 0 + i))), (.slc 7 L.length (fcF L))] (.tup [(di (chP L Za)), (di (chC L Za))])) ∧ ((db (chC L Za == 0)) : DV) = (db true))) (List.take (n.toNat % (R.length + 1)) R)) (by kernel_rfl) ?_
      have ew : IntKind.i64.wrap n = n := wrap_I64 ⟨by omega, by omega⟩
      have em : (n.tmod ((R.length : Int) + 1)) = ((n.toNat % (R.length + 1) : Nat) : Int) := by
        obtain ⟨a, rfl⟩ := Int.eq_ofNat_of_zero_le hn.1
        show ((a : Int)).tmod ((R.length + 1 : Nat) : Int) = _
        rw [Int.toNat_natCast, Int.ofNat_tmod]
      rw [ew, em]
      have hk3 := Nat.mod_lt n.toNat (by omega : 0 < R.length + 1)
      have gt := good_take hg (n.toNat % (R.length + 1))
      have hRT : ∀ i, i < (R.take (n.toNat % (R.length + 1))).length → RlS ((R.take (n.toNat % (R.length + 1))).getD i rl0) := fun i hi => by
        rw [List.length_take] at hi
        have := hRS i (by omega)
        rw [getD_at (by omega)] at this
        rw [getD_at (by rw [List.length_take]; omega), List.getElem_take]
        exact this
      have g4 : chC L (R.take (n.toNat % (R.length + 1))) = 0 := (ch_good hRT).2 gt
      have c34 := f34 (G := G) hT L _ hF hL hRT (by rw [List.length_take]; omega)
      refine ⟨⟨⟨by omega, by omega⟩, by omega⟩, ⟨⟨by omega, by omega, by omega⟩, c34.args fun q us => DV.rels_cons (fun v hv => ?_) (fun _ h => h) us⟩, by rw [g4]; rfl⟩
      have el : (R.take (n.toNat % (R.length + 1))).length = n.toNat % (R.length + 1) := by rw [List.length_take]; omega
      show DV.rel q (.slc 16 (R.take (n.toNat % (R.length + 1))).length (rlF (R.take (n.toNat % (R.length + 1))))) v
      rw [el]
      rw [show (((n.toNat % (R.length + 1) : Nat) : Int) - 0).toNat = n.toNat % (R.length + 1) from by omega] at hv
      refine DV.rel_slc_congr (fun i hi => ?_) hv
      show rlF R (0 + i) = _
      rw [Nat.zero_add]
      unfold rlF
      rw [List.getD, List.getD, List.getElem?_take_of_lt hi]
theorem f9t (hT : Tab G) (R : List Rl) (L : List Fc) (n : Int) (hn : 0 ≤ n ∧ n ≤ 255) (hF : ∀ i, i < L.length → FcS (L.getD i fc0)) (hL : L.length ≤ 1000) (hR : R.length ≤ 1000) (hRS : ∀ i, i < R.length → RlS (R.getD i rl0)) : AWP Tryz.prog G [cd Tryz.f9 [1, 1, 1, 1]] (S9t R L n) (Ret Tryz.prog Tryz.f9 (db true)) := by
  have h34 := f34 hT L R hF hL hRS hR
  by_cases h0 : 0 < R.length
  · refine walkK (orc := { d := orc9 L R, m := orc9m R.length (rlF R) (fun j => rlD (R.getD (rvI R.length R.length j) rl0)) }) (keep := []) (cuts := [14]) (n := 1000) follows ?_
    refine of_tr (fun ZT ZW ZQ ZK => (ZK 34 [(.slc 16 R.length (rlF R)), (.slc 7 L.length (fcF L))] (.tup [(di (chP L R)), (di (chC L R))]) ∧ FnM Tryz.prog G 36 [(.d (.slc 16 R.length (rlF R)))] [] (.vec 900 16 0 R.length) [(900, [(.arr ⟨true, 57, false, none⟩ 16 (rlF R))])] ∧ FnM Tryz.prog G 37 [(.vec 1000000 16 0 R.length)] [(1000000, [(.arr ⟨true, 57, false, none⟩ 16 (rlF R))])] (.d (.tup [])) [(1000000, [(.arr ⟨true, 57, false, none⟩ 16 (fun j => rlD (R.getD (rvI R.length R.length j) rl0)))])] ∧ ZW [cd Tryz.f9 [1, 1, 1, 1, 1, 1, 1, 0], cd Tryz.f9 [1, 1, 1, 1, 1, 1, 1, 1]] (stS ZT []) ZQ)) (by kernel_rfl) ?_
    refine ⟨h34, f36 R h0 (by omega), f37 (fun j => R.getD j rl0) _ hR, ?_⟩
    refine AWP.freeze (agg := rlK) (sz := 16) (f := fun j => rlD (R.getD (rvI R.length R.length j) rl0)) 72900 (by kernel_rfl) ?_
    refine AWP.pre (.regD _ 11 (.slc 16 R.length fun i => rlD (R.getD (rvI R.length R.length (0 + i)) rl0)) (rlsD R.reverse) (by kernel_rfl) fun h v hv => ?_) (AWP.weaken ?_ (f9u hT R L n hn hF hL hR hRS))
    · show DV.rel h (.slc 16 R.reverse.length _) v
      rw [List.length_reverse]
      refine DV.rel_slc_congr (fun i hi => ?_) hv
      unfold rlF
      have : R.reverse.getD i rl0 = R.getD (rvI R.length R.length (0 + i)) rl0 := by
        rw [Nat.zero_add]
        unfold rvI
        rw [if_pos (by omega), getD_at (by rw [List.length_reverse]; exact hi), List.getElem_reverse, getD_at (by omega)]
      rw [this]
    · exact AS.leA (by kernel_rfl)
  · obtain rfl : R = [] := List.eq_nil_of_length_eq_zero (by omega)
    refine walkK (orc := { d := orc9 L [], m := orc9m 0 undF undF }) (keep := []) (cuts := [14]) (n := 1000) follows ?_
    refine of_tr (fun ZT ZW ZQ ZK => (fun Za => (ZK 34 [(.slc 16 0 (rlF [])), (.slc 7 L.length (fcF L))] (.tup [(di (chP L [])), (di (chC L []))]) ∧ FnM Tryz.prog G 36 [(.d (.slc 16 0 (rlF [])))] [] (.vec 900 16 0 0) [(900, [Za])] ∧ FnM Tryz.prog G 37 [(.vec 1000000 16 0 0)] [(1000000, [Za])] (.d (.tup [])) [(1000000, [Za])] ∧ ZW [cd Tryz.f9 [1, 1, 1, 1, 1, 1, 1, 0], cd Tryz.f9 [1, 1, 1, 1, 1, 1, 1, 1]] (stS ZT []) ZQ)) ((.arr ⟨true, 57, false, none⟩ 16 undF) : AV)) (by kernel_rfl) ?_
    refine ⟨h34, f36z, f37z, ?_⟩
    refine AWP.freeze (agg := rlK) (sz := 16) (f := undF) 72900 (by kernel_rfl) ?_
    refine AWP.pre (.regD _ 11 (.slc 16 0 fun i => undF (0 + i)) (rlsD []) (by kernel_rfl) fun h v hv => DV.rel_slc_congr (fun i hi => absurd hi (Nat.not_lt_zero _)) hv) (AWP.weaken ?_ (f9u hT [] L n hn hF hL hR hRS))
    refine AS.leZ [4] [] (b := ((T0 ∧ T0 ∧ T0 ∧ T0 ∧ ((.d (.slc 16 0 (rlF []))) : AV) = (.d (.slc 16 0 (rlF [].reverse))) ∧ True) ∧ True)) (by kernel_rfl) (by kernel_rfl) ?_
    exact ⟨⟨rfl, rfl, rfl, rfl, rfl, trivial⟩, trivial⟩
theorem f9 (hT : Tab G) (R : List Rl) (L : List Fc) (n : Int) (hn : 0 ≤ n ∧ n ≤ 255) (hl : L.length ≤ 9223372036854775807) (hw2 : ∀ i, i < L.length → FcW (L.getD i fc0)) (hr : R.length ≤ 9223372036854775807) (hw3 : ∀ i, i < R.length → RlW (R.getD i rl0)) : FnOK Tryz.prog G 9 [rlsD R, fcsD L, .con (.int .u8 n)] (db true) := by
  refine FnOK.walkK (orc := orc9 L R) (keep := []) follows Tryz.func9 rfl Tryz.call9 ?_
  refine of_tr (fun ZT ZW ZQ ZK => (ZK 10 [] (db true) ∧ ((false = true) → (((db false) : DV) = (db true))) ∧ ((false = false) → ((((!decide ((↑R.length : Int) > 8)) = true) → ZK 20 [(.slc 7 L.length (fcF L))] (db (fewF L))) ∧ (((decide ((↑R.length : Int) > 8) || !fewF L) = true) → (ZS ((db true) : DV))) ∧ (((decide ((↑R.length : Int) > 8) || !fewF L) = false) → ZW [cd Tryz.f9 [1, 1, 1, 0, 1, 0], (.blk 0), cd Tryz.f9 [1, 1, 1, 1]] (stS ZT [1, 1]) ZQ))))) (by kernel_rfl) ?_
  refine ⟨f10 hT, fun h => (by cases h), fun _ => ⟨fun _ => f20 L hl hw2, fun _ => rfl, fun h1 => ?_⟩⟩
  rw [Bool.or_eq_false_iff, decide_eq_false_iff_not, Bool.not_eq_false'] at h1
  obtain ⟨hF, hL16⟩ := fcs_of_few h1.2
  refine AWP.loop (c := cAt (bodyOf Tryz.f9) [1, 1, 1, 0, 1, 0, 0]) (by kernel_rfl) (S9 R L n) (fun k => k ≤ R.length ∧ ∀ i, i < k → fewR (R.getD i rl0) = true) (fun k => R.length - k) 0 ?_ ⟨Nat.zero_le _, fun i hi => by omega⟩ ?_
  · exact AS.leA (by kernel_rfl)
  · rintro k ⟨hk, hkd⟩
    refine walkK (orc := orc9 L R) (keep := []) (cuts := [11]) (n := 1000) follows ?_
    refine of_rd (fun ZT ZW ZQ ZK ZA _ => (fun Za Zb Zc => ((((decide ((↑k : Int) < ↑R.length)) = true) → (((0 ≤ (↑k : Int)) ∧ ((↑k : Int) < ↑R.length)) ∧ ((((!(decide ((↑(R.getD (↑k : Int).toNat rl0).nm.size : Int) > 40) || decide ((↑(R.getD (↑k : Int).toNat rl0).gr.size : Int) > 40))) = true) → ZK 32 [Zb, (di 30)] (db (fewE 30 (rdE Zb)))) ∧ (((!(decide ((↑(R.getD (↑k : Int).toNat rl0).nm.size : Int) > 40) || decide ((↑(R.getD (↑k : Int).toNat rl0).gr.size : Int) > 40) || !fewE 30 (rdE Zb))) = true) → ZK 32 [Zc, (di 30)] (db (fewE 30 (rdE Zc))))) ∧ ((Za = true) → (ZS ((db true) : DV))) ∧ ((Za = false) → ((I64 (↑k + 1)) ∧ (ZA (stS ZT [0, 1])))))) ∧ (((decide ((↑k : Int) < ↑R.length)) = false) → ZW [cd Tryz.f9 [1, 1, 1, 1]] (stS ZT [1]) ZQ))) (decide ((↑(R.getD (↑k : Int).toNat rl0).nm.size : Int) > 40) || decide ((↑(R.getD (↑k : Int).toNat rl0).gr.size : Int) > 40) || !fewE 30 (rdE (ndX (R.getD (↑k : Int).toNat rl0).ma (R.getD (↑k : Int).toNat rl0).am)) || !fewE 30 (rdE (ndX (R.getD (↑k : Int).toNat rl0).mw (R.getD (↑k : Int).toNat rl0).wh))) (ndX (R.getD (↑k : Int).toNat rl0).ma (R.getD (↑k : Int).toNat rl0).am) (ndX (R.getD (↑k : Int).toNat rl0).mw (R.getD (↑k : Int).toNat rl0).wh)) (by kernel_rfl) ?_
    refine ⟨fun h2 => ?_, fun h2 => ?_⟩
    · have hk2 : k < R.length := by have := of_decide_eq_true h2; omega
      have hr := hw3 k hk2
      have e1 : rdE (ndX (R.getD k rl0).ma (R.getD k rl0).am) = (R.getD k rl0).am := rdE_eq hr.ha
      have e2 : rdE (ndX (R.getD k rl0).mw (R.getD k rl0).wh) = (R.getD k rl0).wh := rdE_eq hr.hw
      simp only [e1, e2, Int.toNat_natCast]
      refine ⟨⟨by omega, by omega⟩, ⟨fun _ => f32 _ _ _ hr.ha hr.am, fun _ => f32 _ _ _ hr.hw hr.wh⟩, fun _ => trivial, fun h3 => ⟨⟨by omega, by omega⟩, Again.mk (k + 1) ?_ ⟨hk2, fun i hi => ?_⟩ (by omega)⟩⟩
      · exact AS.leA (by kernel_rfl)
      · rcases Nat.lt_or_ge i k with h4 | h4
        · exact hkd i h4
        · obtain rfl : i = k := by omega
          simp only [Bool.or_eq_false_iff, decide_eq_false_iff_not, Bool.not_eq_false'] at h3
          unfold fewR
          simp only [Bool.and_eq_true, decide_eq_true_eq]
          exact ⟨⟨⟨by omega, by omega⟩, h3.1.2⟩, h3.2⟩
    · have h2 := of_decide_eq_false h2
      have hRS : ∀ i, i < R.length → RlS (R.getD i rl0) := fun i hi => rls_few (hw3 i hi) (hkd i (by omega))
      refine AWP.weaken ?_ (f9t hT R L n hn hF (by omega) (by omega) hRS)
      exact AS.leA (by kernel_rfl)
end Go.Proofs
