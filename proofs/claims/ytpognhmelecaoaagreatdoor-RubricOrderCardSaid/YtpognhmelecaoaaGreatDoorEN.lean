import Derived.Test.YtpognhmelecaoaaGreatDoorEL
import Derived.Test.YtpognhmelecaoaaGreatDoorEA
import Derived.Test.YtpognhmelecaoaaGreatDoorADw
import Derived.Test.YtpognhmelecaoaaGreatDoorAcD
import Derived.Test.YtpognhmelecaoaaGreatDoorEI
/- Valid descriptions, plain. -/
set_option autoImplicit false
namespace Go.Proofs
open Go Go.Ab Go.RowKit
set_option maxHeartbeats 4000000
/-! Kinds in common. -/
end Go.Proofs
/- Expressions that are read from memory. -/
set_option autoImplicit false
namespace Go.Proofs
open Go Go.Ab Go.RowKit Go.ChangeShapes
set_option maxRecDepth 100000
theorem lift_rel : ∀ (m m' : Nat) (x : Ex), ht x ≤ m → ht x ≤ m' → ∀ (k : IH) (v : Value), DV.rel k (exD m x) v → DV.rel k (exD m' x) v := by
  intro m
  induction m with
  | zero =>
    intro m' x h1 h2 k v h
    have hk : x.kids = [] := by
      refine Classical.byContradiction fun hh => ?_
      have : 0 < x.kids.length := List.length_pos_iff.2 hh
      have := ht_kid this
      omega
    unfold exD exV at h ⊢
    rw [hk] at h ⊢
    obtain ⟨us, rfl, x1, u1, rfl, h1, x2, u2, rfl, h2, x3, u3, rfl, h3, x4, u4, rfl, h4, x5, u5, rfl, h5, x6, u6, rfl, h6, h0⟩ := h
    exact ⟨_, rfl, x1, _, rfl, h1, x2, _, rfl, h2, x3, _, rfl, h3, x4, _, rfl, h4, x5, _, rfl, h5, x6, _, rfl, DV.rel_slc_congr (fun i hi => absurd hi (by simp)) h6, h0⟩
  | succ m ih =>
    intro m' x h1 h2 k v h
    obtain ⟨us, rfl, x1, u1, rfl, g1, x2, u2, rfl, g2, x3, u3, rfl, g3, x4, u4, rfl, g4, x5, u5, rfl, g5, x6, u6, rfl, g6, h0⟩ := h
    refine ⟨_, rfl, x1, _, rfl, g1, x2, _, rfl, g2, x3, _, rfl, g3, x4, _, rfl, g4, x5, _, rfl, g5, x6, _, rfl, ?_, h0⟩
    obtain ⟨p, cap, e, hc, r⟩ := g6
    refine ⟨p, cap, e, hc, r.imp id fun ⟨b, off, hp, r⟩ => ⟨b, off, hp, fun i hi => ?_⟩⟩
    obtain ⟨v, hv, hs, hj⟩ := r i hi
    have hki := ht_kid (x := x) hi
    obtain ⟨m2, rfl⟩ : ∃ m2, m' = m2 + 1 := ⟨m' - 1, by omega⟩
    exact ⟨v, ih m2 (x.kids.getD i ex0) (by omega) (by omega) k v hv, hs, hj⟩
theorem htL_le {l : List Ex} {n : Nat} (h : ∀ i, i < l.length → ht (l.getD i ex0) + 1 ≤ n) : htL l ≤ n := by
  induction l with
  | nil => simp [htL]
  | cons x l ih =>
    simp only [htL]
    have h0 := h 0 (by simp)
    have := ih fun i hi => by simpa using h (i + 1) (by simpa using hi)
    have h0 : ht x + 1 ≤ n := h0
    omega
theorem wfL_of {l : List Ex} (h : ∀ i, i < l.length → wfE (l.getD i ex0)) : wfL l := by
  induction l with
  | nil => trivial
  | cons x l ih => exact ⟨h 0 (by simp), ih fun i hi => by simpa using h (i + 1) (by simpa using hi)⟩
theorem max_of (f : Nat → Nat) : ∀ n : Nat, ∃ M, ∀ i, i < n → f i ≤ M
  | 0 => ⟨0, fun i hi => by omega⟩
  | n + 1 => by
    obtain ⟨M, h⟩ := max_of f n
    refine ⟨max M (f n), fun i hi => ?_⟩
    rcases Nat.lt_or_ge i n with h1 | h1
    · have := h i h1; omega
    · obtain rfl : i = n := by omega
      omega
theorem cells26 : Tryz.prog.cellsOf 26 = 6 := by kernel_rfl
theorem bytes26 : Tryz.prog.bytesOf 26 = 72 := by kernel_rfl
theorem cells23 : Tryz.prog.cellsOf 23 = 2 := by kernel_rfl
theorem cells3 : Tryz.prog.cellsOf 3 = 1 := by kernel_rfl
theorem cells9 : Tryz.prog.cellsOf 9 = 1 := by kernel_rfl
theorem cells24 : Tryz.prog.cellsOf 24 = 1 := by kernel_rfl
def kidsP (d : DV) : Prop := ∃ (l : List Ex) (k : Nat), htL l ≤ k ∧ wfL l ∧ l.length ≤ 8796093022208 ∧ d = .slc 6 l.length (lay (exG k) l)
section
variable {H : Type} {enc : TypeId × Value → H} {W : World} {base : Nat} {sp : Nat → Bool} {held : Bool}
theorem open_node {n : Nat} {cs : List Value} {x : DataW H × List MemPlace} (h : DataW.trod enc Tryz.prog W base sp held n 26 cs = some x) (hf : AbW.Fine Tryz.prog 26 x.1) :
    ∃ (k n d a : Int) (s : ByteArray) (v : Value) (n' : Nat) (y : DataW H × List MemPlace), s.size ≤ maxLen ∧ cs = [.int .i64 k, .string s, .int .i64 n, .int .i64 d, .int .i64 a, v] ∧
      DataW.trod enc Tryz.prog W base sp held n' 24 [v] = some y ∧ AbW.Fine Tryz.prog 24 y.1 ∧ SizeOf.sizeOf y.1 < SizeOf.sizeOf x.1 := by
  obtain ⟨xs, n', rfl, rfl, hl, hxl, hfl⟩ := DataW.trod_struct Tryz.underlying26 h
  have hxl : xs.length = 5 := hxl
  match xs, hxl with
  | [y0, y1, y2, y3, y4], _ =>
    have e0 := hfl 0 _ rfl
    have e1 := hfl 1 _ rfl
    have e2 := hfl 2 _ rfl
    have e3 := hfl 3 _ rfl
    have e4 := hfl 4 _ rfl
    simp only [List.getElem?_cons_zero, List.getElem?_cons_succ] at e0 e1 e2 e3 e4
    rw [cells26] at hl
    erw [cells3] at e0 e3
    erw [cells9] at e1
    erw [cells23] at e2
    erw [cells24] at e4
    match cs, hl with
    | [c0, c1, c2, c3, c4, c5], _ =>
      have e0 : DataW.trod enc Tryz.prog W base sp held n' 3 [c0] = some y0 := e0
      have e1 : DataW.trod enc Tryz.prog W base sp held n' 9 [c1] = some y1 := e1
      have e2 : DataW.trod enc Tryz.prog W base sp held n' 23 [c2, c3] = some y2 := e2
      have e3 : DataW.trod enc Tryz.prog W base sp held n' 3 [c4] = some y3 := e3
      have e4 : DataW.trod enc Tryz.prog W base sp held n' 24 [c5] = some y4 := e4
      obtain ⟨k, h0, _, _⟩ := DataW.trod_int Tryz.underlying3 e0
      obtain ⟨s, h1, _, hs⟩ := DataW.trod_string Tryz.underlying9 e1
      obtain ⟨z0, z1, m2, _, _, f0, f1⟩ := trod_struct2 Tryz.underlying23 e2
      erw [cells3] at f0 f1
      have f0 : DataW.trod enc Tryz.prog W base sp held m2 3 [c2] = some z0 := f0
      have f1 : DataW.trod enc Tryz.prog W base sp held m2 3 [c3] = some z1 := f1
      obtain ⟨a, g0, _, _⟩ := DataW.trod_int Tryz.underlying3 f0
      obtain ⟨b, g1, _, _⟩ := DataW.trod_int Tryz.underlying3 f1
      obtain ⟨c, h3, _, _⟩ := DataW.trod_int Tryz.underlying3 e3
      simp only [List.cons.injEq, and_true] at h0 h1 g0 g1 h3
      subst h0; subst h1; subst g0; subst g1; subst h3
      refine ⟨k, a, b, c, s, c5, n', y4, hs, rfl, e4, ?_, ?_⟩
      · have hf' : ∀ w ∈ DataW.weights Tryz.prog 26 (.agg ([y0, y1, y2, y3, y4].map (·.1))), w ≤ reachBytes := hf
        simp only [DataW.weights, Tryz.underlying26] at hf'
        exact AbW.fine_each hf' 4 24 y4.1 rfl rfl
      · have : y4.1 ∈ [y0, y1, y2, y3, y4].map (·.1) := by simp
        have h2 := List.sizeOf_lt_of_mem this
        show SizeOf.sizeOf y4.1 < SizeOf.sizeOf (DataW.agg ([y0, y1, y2, y3, y4].map (·.1)))
        simp only [DataW.agg.sizeOf_spec]
        omega
theorem open_kids (N : Nat) : ∀ (m : Nat) (cs : List Value) (x : DataW H × List MemPlace), SizeOf.sizeOf x.1 ≤ N → DataW.trod enc Tryz.prog W base sp held m 24 cs = some x → AbW.Fine Tryz.prog 24 x.1 → ∃ d, kidsP d ∧ DV.rels (allOf W) [d] cs := by
  induction N using Nat.strongRecOn with
  | _ N ih =>
  intro m cs x hN hx hfi
  rcases Go.Deep.open_slice Tryz.underlying24 hx with ⟨rfl, rfl⟩ | ⟨a, len, cap, mm, n', D, Pl, rfl, hb, hlc, hcap, hmm, rfl, hel⟩
  · exact ⟨_, ⟨[], 0, by simp [htL], trivial, by simp, rfl⟩, ⟨_, _, rfl, ⟨none, 0, rfl, Nat.le_refl _, .inl rfl⟩, rfl⟩⟩
  have hlm : len ≤ mm := by rw [hmm]; split <;> omega
  have hfi' : ∀ w ∈ DataW.weights Tryz.prog 24 (.slice ((List.range len).map D) ((List.range (mm - len)).map fun j => D (len + j))), w ≤ reachBytes := hfi
  simp only [DataW.weights, Tryz.underlying24, List.mem_cons, List.mem_append] at hfi'
  have helf : ∀ i, i < len → AbW.Fine Tryz.prog 26 (D i) := fun i hi =>
    AbW.fine_all (fun w hw => hfi' w (.inr (.inl hw))) _ (List.mem_map.2 ⟨i, List.mem_range.2 hi, rfl⟩)
  have hlen : len ≤ 8796093022208 := by
    have := hfi' _ (.inl rfl)
    rw [bytes26] at this
    simp only [List.length_map, List.length_range, reachBytes] at this
    omega
  have hspot : 0 < len → a.spot = none := by
    intro hpos
    obtain ⟨cs', h1, _⟩ := hel 0 (by omega)
    obtain ⟨_, h5, h6⟩ := World.cells?_some h1
    have c26 := cells26
    have := h6 0 (by show 0 < Tryz.prog.cellsOf 26; omega)
    rw [Nat.zero_mul, List.getElem?_eq_getElem (by rw [h5, cells26]; omega)] at this
    simp only [World.cell?, Addr.add, if_true] at this
    split at this
    · split at this
      · cases this
      · rename_i hsp; simpa using hsp
    · cases this
  have hadd : 0 < len → ∀ k, a.add k = ⟨a.block, a.off + k, none⟩ := by
    intro hpos k
    have := hspot hpos
    unfold Addr.add
    split
    · rename_i hk; subst hk; cases a; simp_all
    · rfl
  have each : ∀ i, i < len → ∃ (x : Ex) (k : Nat), ht x ≤ k ∧ wfE x ∧ ∃ v, DV.rel (allOf W) (exD k x) v ∧ v.cells.size = 6 ∧ ∀ j, j < 6 → W.cell? ⟨a.block, a.off + i * 6 + j, none⟩ = v.cells[j]? := by
    intro i hi
    obtain ⟨cs', h1, h2⟩ := hel i (by omega)
    obtain ⟨k, n, d, at', s, v, n2, y, hs, rfl, h3, h4, h5⟩ := open_node h2 (helf i hi)
    have hsz : SizeOf.sizeOf y.1 < N := by
      have hm : D i ∈ (List.range len).map D := List.mem_map.2 ⟨i, List.mem_range.2 hi, rfl⟩
      have h6 := List.sizeOf_lt_of_mem hm
      have h7 : SizeOf.sizeOf (DataW.slice ((List.range len).map D) ((List.range (mm - len)).map fun j => D (len + j))) ≤ N := hN
      simp only [DataW.slice.sizeOf_spec] at h7
      have h5 : SizeOf.sizeOf y.1 < SizeOf.sizeOf (D i) := h5
      omega
    obtain ⟨dk, ⟨l, kk, hh, hw, hll, rfl⟩, hr⟩ := ih _ hsz n2 [v] y (Nat.le_refl _) h3 h4
    obtain ⟨u, us, e1, r1, r2⟩ := hr
    simp only [List.cons.injEq] at e1
    obtain ⟨rfl, rfl⟩ := e1
    obtain ⟨_, h8, h9⟩ := World.cells?_some h1
    rw [cells26] at h9 h1
    refine ⟨.mk k s n d at' l, kk, by rw [ht_eq]; exact hh, ⟨hs, hll, hw⟩, .agg #[.int .i64 k, .string s, .int .i64 n, .int .i64 d, .int .i64 at', v], ?_, rfl, fun j hj => ?_⟩
    · exact ⟨_, rfl, _, _, rfl, rfl, _, _, rfl, rfl, _, _, rfl, rfl, _, _, rfl, rfl, _, _, rfl, rfl, v, _, rfl, r1, rfl⟩
    · have := h9 j (by simpa using hj)
      rw [hadd (by omega)] at this
      have e : (⟨a.block, a.off + i * 6, none⟩ : Addr).add j = ⟨a.block, a.off + i * 6 + j, none⟩ := by
        unfold Addr.add
        split
        · rename_i hk; subst hk; rfl
        · rfl
      rw [e] at this
      rw [this]
      simp [Value.cells]
  classical
  let X : Nat → Ex := fun i => if h : i < len then Classical.choose (each i h) else ex0
  let K : Nat → Nat := fun i => if h : i < len then Classical.choose (Classical.choose_spec (each i h)) else 0
  have hX : ∀ i, i < len → ht (X i) ≤ K i ∧ wfE (X i) ∧ ∃ v, DV.rel (allOf W) (exD (K i) (X i)) v ∧ v.cells.size = 6 ∧ ∀ j, j < 6 → W.cell? ⟨a.block, a.off + i * 6 + j, none⟩ = v.cells[j]? := fun i hi => by
    simp only [X, K, dif_pos hi]
    exact Classical.choose_spec (Classical.choose_spec (each i hi))
  obtain ⟨M, hM⟩ := max_of K len
  have hlenl : ((List.range len).map X).length = len := by simp
  have hget : ∀ i, i < len → ((List.range len).map X).getD i ex0 = X i := fun i hi => by
    simp [List.getD, List.getElem?_map, List.getElem?_range hi]
  refine ⟨.slc 6 ((List.range len).map X).length (lay (exG (M + 1)) ((List.range len).map X)), ⟨_, M + 1, htL_le fun i hi => ?_, wfL_of fun i hi => ?_, by rw [hlenl]; exact hlen, rfl⟩, ⟨_, _, rfl, ⟨some a, cap, by rw [hlenl], by rw [hlenl]; exact hlc, ?_⟩, rfl⟩⟩
  · rw [hlenl] at hi
    rw [hget i hi]
    have := (hX i hi).1
    have := hM i hi
    omega
  · rw [hlenl] at hi
    rw [hget i hi]
    exact (hX i hi).2.1
  · rw [hlenl]
    by_cases hz : len = 0
    · exact .inl hz
    right
    refine ⟨a.block, a.off, by have := hspot (by omega); cases a; simp_all, fun i hi => ?_⟩
    obtain ⟨h1, _, v, hv, hs, hc⟩ := hX i hi
    refine ⟨v, ?_, hs, fun j hj => hc j hj⟩
    show DV.rel (allOf W) (exD M (((List.range len).map X).getD i ex0)) v
    rw [hget i hi]
    exact lift_rel _ _ _ h1 (Nat.le_trans h1 (hM i hi)) _ _ hv
def ow24 (t : TypeId) : Option (DV → Prop) := match Nat.beq t 24 with | true => some kidsP | false => none
theorem how24 : AbW.How ow24 enc Tryz.prog W base sp held := by
  intro t p m cs x hp hx hf
  unfold ow24 at hp
  split at hp
  · rename_i h
    obtain rfl := Nat.eq_of_beq_eq_true h
    obtain rfl := Option.some.inj hp
    obtain ⟨d, h1, h2⟩ := open_kids _ m cs x (Nat.le_refl _) hx hf
    obtain ⟨l, k, a, b, c, rfl⟩ := h1
    exact ⟨_, ⟨⟨l, k, a, b, c, rfl⟩, _, _, _, rfl⟩, h2⟩
  · cases hp
end
end Go.Proofs
/- Texts of expressions: neither empty nor long. -/
set_option autoImplicit false
namespace Go.Proofs
open Go Go.Ab Go.RowKit
theorem dig_pos (n : Nat) : 0 < (Lib.decDigits n).length := by
  rw [Lib.decDigits]
  split <;> simp
theorem numT_pos {n d : Int} (h : (decF n d).2 = true) : 0 < (numT n d).size := by
  unfold numT
  rw [str_size]
  rw [decF_eq] at h ⊢
  unfold decB at h ⊢
  split at h
  · rename_i hh
    rw [if_pos hh]
    simp only [List.length_append]
    have := dig_pos (n.natAbs / d.toNat)
    omega
  · cases h
theorem snd_size {x : Ex} (h : sndE x = true) : x.s.size ≤ 16 := by
  by_cases hk : x.k = 2
  · exact (name_size (snd_name h hk)).2
  rw [sndE_eq] at h
  unfold sndK kdK at h
  revert h
  repeat' split
  all_goals (intro h; simp only [Bool.and_eq_true, decide_eq_true_eq] at h)
  all_goals first | omega | (exfalso; omega)
theorem fmtK_pos {x : Ex} (h : sndE x = true) : 0 < (fmtE x).size := by
  rw [fmtE_eq]
  have h2 := @snd_name x h
  have h1 := @snd_num x h
  unfold fmtK
  repeat' split
  all_goals (try simp only [ByteArray.size_append])
  · rename_i hk
    have := h1 hk
    unfold numB at this
    simp only [Bool.and_eq_true] at this
    exact numT_pos this.1.1
  · rename_i hk
    have := name_size (h2 hk); omega
  · decide
  · decide
  · show 0 < 1 + _; omega
  · show 0 < 4 + _; omega
  · show 0 < 4 + _ + 1; omega
  · show 0 < 4 + _ + 1; omega
  · show 0 < _ + 1 + _ + 1 + _; omega
theorem fmt_pos {x : Ex} (h : fitE x = true) : 0 < (fmtE x).size := by
  unfold fitE at h
  simp only [Bool.and_eq_true] at h
  exact fmtK_pos h.1.1
theorem fmtK_small (k : Int) (s : ByteArray) (n d : Int) (fl : List (Int × ByteArray)) (hs : s.size ≤ 16) : (fmtK k s n d fl).size ≤ 115 + totL fl := by
  have h1 := sizeN n d
  have t1 := tot_get fl
  have t0 := tot_get0 fl
  have j := joinS_size fl
  have o := opS_size k
  have w1 := wth_size 6 (g0 fl 0)
  have w2 := wth_size 2 (g0 fl 0)
  have w3 := wth_size (fstL k) (g0 fl 0)
  have w4 := wth_size (lvI k + 1) (g0 fl 1)
  unfold fmtK
  repeat' split
  all_goals (try simp only [ByteArray.size_append])
  · omega
  · omega
  · show 4 ≤ _; omega
  · show 5 ≤ _; omega
  · show 1 + _ ≤ _; omega
  · show 4 + _ ≤ _; omega
  · show 4 + _ + 1 ≤ _; omega
  · show 4 + _ + 1 ≤ _; omega
  · show _ + 1 + _ + 1 + _ ≤ _; omega
theorem totL_map : ∀ {l : List Ex}, (∀ i, i < l.length → (fmtE (l.getD i ex0)).size + 4 ≤ 120 * nds (l.getD i ex0)) → totL (fmtL l) ≤ 120 * ndsL l
  | [], _ => by simp [fmtL, totL]
  | x :: l, h => by
    have h1 := h 0 (by simp)
    have h2 := totL_map fun i hi => by simpa using h (i + 1) (by simpa using hi)
    have h1 : (fmtE x).size + 4 ≤ 120 * nds x := h1
    simp only [fmtL, ndsL]
    have e : totL ((lvI x.k, fmtE x) :: fmtL l) = (fmtE x).size + 4 + totL (fmtL l) := by simp [totL]
    omega
theorem fmt_small (n : Nat) : ∀ x : Ex, ht x ≤ n → sndE x = true → (fmtE x).size + 4 ≤ 120 * nds x := by
  induction n using Nat.strongRecOn with
  | _ n ih =>
  intro x hx hs
  have h2 := totL_map (l := x.kids) fun i hi => by
    have := ht_kid hi
    exact ih (n - 1) (by omega) _ (by omega) (snd_kid hs hi)
  have h1 := fmtK_small x.k x.s x.n x.d (fmtL x.kids) (snd_size hs)
  rw [fmtE_eq, nds_eq]
  omega
end Go.Proofs
