import Derived.Test.YtpognhmelecaoaaGreatDoorFA
import Derived.Test.YtpognhmelecaoaaGreatDoorAcD
import Derived.Test.YtpognhmelecaoaaGreatDoorB0
/- Names, plain. -/
set_option autoImplicit false
namespace Go.Proofs
open Go Go.Ab
def letB (c : Int) : Bool := decide (97 ≤ c) && decide (c ≤ 122)
def digB (c : Int) : Bool := decide (48 ≤ c) && decide (c ≤ 57)
def insB (c : Int) : Bool := letB c || digB c || c == 95
def insU (c : UInt8) : Bool := insB (c.toNat : Int)
def runN (s : ByteArray) : Nat := (s.data.toList.takeWhile insU).length
theorem takeWhile_unique {p : UInt8 → Bool} : ∀ {l : List UInt8} {k : Nat}, k ≤ l.length → (∀ i (h : i < l.length), i < k → p l[i] = true) → (∀ h : k < l.length, p l[k] = false) → (l.takeWhile p).length = k
  | [], k, h, _, _ => by simp at h; subst h; rfl
  | c :: l, 0, _, _, h3 => by
    have := h3 (by simp)
    simp only [List.getElem_cons_zero] at this
    rw [List.takeWhile_cons, this]; rfl
  | c :: l, k + 1, h1, h2, h3 => by
    have hc := h2 0 (by simp) (by omega)
    simp only [List.getElem_cons_zero] at hc
    rw [List.takeWhile_cons, hc]
    simp only [if_true, List.length_cons]
    rw [takeWhile_unique (l := l) (k := k) (by simpa using h1) (fun i h hi => by
      have := h2 (i + 1) (by simpa using h) (by omega)
      simpa using this) (fun h => by
      have := h3 (by simpa using h)
      simpa using this)]
theorem byteAt_list {s : ByteArray} {k : Nat} (h : k < s.size) : byteAt s k = ((s.data.toList[k]'(by rw [Array.length_toList]; exact h)).toNat : Int) := by
  unfold byteAt
  have h' : k < s.data.size := h
  rw [Array.getElem?_eq_getElem h', Option.getD_some, Array.getElem_toList]
theorem runN_unique {s : ByteArray} {k : Nat} (h1 : k ≤ s.size) (h2 : ∀ i, i < k → insB (byteAt s i) = true) (h3 : k < s.size → insB (byteAt s k) = false) : runN s = k := by
  have hl : s.data.toList.length = s.size := Array.length_toList
  refine takeWhile_unique (by omega) (fun i h hi => ?_) (fun h => ?_)
  · have := h2 i hi
    rw [byteAt_list (by omega)] at this; exact this
  · have := h3 (by omega)
    rw [byteAt_list (by omega)] at this; exact this
def kwL : List ByteArray := [⟨#[112, 111, 105, 110, 116, 115]⟩, ⟨#[112, 101, 110, 97, 108, 116, 121]⟩, ⟨#[99, 97, 112]⟩, ⟨#[102, 108, 111, 111, 114]⟩, ⟨#[105, 110]⟩, ⟨#[105, 102]⟩, ⟨#[97, 110, 100]⟩, ⟨#[111, 114]⟩, ⟨#[110, 111, 116]⟩, ⟨#[116, 114, 117, 101]⟩, ⟨#[102, 97, 108, 115, 101]⟩, ⟨#[109, 105, 110]⟩, ⟨#[109, 97, 120]⟩]
def kwB (s : ByteArray) : Bool := kwL.any fun x => decide (x = s)
def nameB (s : ByteArray) : Bool := decide (1 ≤ s.size) && (decide (s.size ≤ 16) && (letB (byteAt s 0) && (decide (runN s = s.size) && !kwB s)))
def stF (l : List ByteArray) (i : Nat) : DV := ds (l.getD i .empty)
def indN (l : List ByteArray) (s : ByteArray) : Int := if l.any (fun x => decide (x = s)) then ((l.takeWhile fun x => !decide (x = s)).length : Nat) else -1
end Go.Proofs
set_option autoImplicit false
namespace Go.Proofs
open Go Go.Ab Go.RowKit
set_option maxHeartbeats 1000000
set_option maxRecDepth 100000
variable {G : IH}
@[match_pattern] abbrev b8 (c : Int) : DV := .con (.int .u8 c)
def kwF : Nat → DV := elemF false 1 (kwL.map fun s => ds s)
def kwD : DV := .slc 1 13 kwF
def anyB (l : List ByteArray) (s : ByteArray) : Bool := l.any fun x => decide (x = s)
def orcN : Oracle := fun f a => match f, a with
  | 153, [b8 c] => some (db (letB c))
  | 179, [b8 c] => some (db (digB c))
  | 155, [b8 c] => some (db (insB c))
  | 147, [b8 c] => some (db (letB c))
  | 175, [b8 c] => some (db (digB c))
  | 149, [b8 c] => some (db (insB c))
  | 154, [.con (.string s), _] => some (di (runN s))
  | 116, [.con (.string s)] => some (db (nameB s))
  | 119, [.con (.string s)] => some (db (nameB s))
  | 156, [] => some kwD
  | 148, [] => some kwD
  | 31, [_, .con (.string s)] => some (db (kwB s))
  | 56, [_, .con (.string s)] => some (db (kwB s))
  | _, _ => none
theorem f153 (c : Int) : FnOK Tryz.prog G 153 [b8 c] (db (letB c)) := by
  refine FnOK.walk (orc := orcN) (keep := []) follows Tryz.func153 rfl Tryz.call153 ?_
  refine of_tr (fun _ _ _ _ => (((db (decide (c ≥ 97) && decide (c ≤ 122))) : DV) = (db (letB c)))) (by kernel_rfl) ?_
  rfl
theorem f179 (c : Int) : FnOK Tryz.prog G 179 [b8 c] (db (digB c)) := by
  refine FnOK.walk (orc := orcN) (keep := []) follows Tryz.func179 rfl Tryz.call179 ?_
  refine of_tr (fun _ _ _ _ => (((db (decide (c ≥ 48) && decide (c ≤ 57))) : DV) = (db (digB c)))) (by kernel_rfl) ?_
  rfl
theorem f155 (c : Int) : FnOK Tryz.prog G 155 [b8 c] (db (insB c)) := by
  refine FnOK.walk (orc := orcN) (keep := []) follows Tryz.func155 rfl Tryz.call155 ?_
  refine of_tr (fun _ _ _ ZK => ((ZK 153 [(.con (.int .u8 c))] (db (letB c)) ∧ (((!letB c) = true) → ZK 179 [(.con (.int .u8 c))] (db (digB c)))) ∧ ((db (letB c || digB c || c == 95)) : DV) = (db (insB c)))) (by kernel_rfl) ?_
  exact ⟨⟨f153 c, fun _ => f179 c⟩, rfl⟩
noncomputable def S121 (s : ByteArray) (k : Nat) : AS := ⟨regs Tryz.f154.ntmps [(0, vs s), (1, .d (.con (.func (.func 155) #[] #[]))), (5, vi k)], []⟩
theorem f154 (s : ByteArray) (hs : s.size ≤ 1000000) : FnOK Tryz.prog G 154 [ds s, .con (.func (.func 155) #[] #[])] (di (runN s)) := by
  refine FnOK.walk (orc := orcN) (keep := []) follows Tryz.func154 rfl Tryz.call154 ?_
  refine of_tr (fun ZT ZW ZQ _ => ZW [cd Tryz.f154 [1, 1, 0, 0], (.blk 0), cd Tryz.f154 [1, 1, 1]] (stS ZT []) ZQ) (by kernel_rfl) ?_
  refine AWP.loop (c := cAt (bodyOf Tryz.f154) [1, 1, 0, 0, 0]) (by kernel_rfl) (S121 s) (fun k => k ≤ s.size ∧ ∀ i, i < k → insB (byteAt s i) = true) (fun k => s.size - k) 0 ?_ ⟨Nat.zero_le _, fun i hi => by omega⟩ ?_
  · exact AS.leA (by kernel_rfl)
  · rintro k ⟨hk, hkd⟩
    refine walk (orc := orcN) (keep := []) (cuts := []) (n := 1000) follows ?_
    refine of_rd (fun ZT ZW ZQ ZK ZA _ => (((((decide ((↑k : Int) < ↑s.size)) = true) → ((0 ≤ (↑k : Int)) ∧ ((↑k : Int) < ↑s.size))) ∧ (((decide ((↑k : Int) < ↑s.size)) = true) → ZK 155 [(.con (.int .u8 (byteAt s (↑k : Int).toNat)))] (db (insB (byteAt s (↑k : Int).toNat))))) ∧ (((decide ((↑k : Int) < ↑s.size) && insB (byteAt s (↑k : Int).toNat)) = true) → ((I64 (↑k + 1)) ∧ (ZA (stS ZT [0])))) ∧ (((decide ((↑k : Int) < ↑s.size) && insB (byteAt s (↑k : Int).toNat)) = false) → ZW [cd Tryz.f154 [1, 1, 1]] (stS ZT [1]) ZQ))) (by kernel_rfl) ?_
    simp only [Int.toNat_natCast]
    refine ⟨⟨fun h => ?_, fun _ => f155 _⟩, fun h => ?_, fun h => ?_⟩
    · simp only [decide_eq_true_eq] at h
      exact ⟨by omega, by omega⟩
    · simp only [Bool.and_eq_true, decide_eq_true_eq] at h
      refine ⟨⟨by omega, by omega⟩, Again.mk (k + 1) ?_ ⟨by omega, fun i hi => ?_⟩ (by omega)⟩
      · exact AS.leA (by kernel_rfl)
      · rcases Nat.lt_or_ge i k with h1 | h1
        · exact hkd i h1
        · obtain rfl : i = k := by omega
          exact h.2
    · have hst : runN s = k := runN_unique hk hkd fun h1 => by
        simp only [Bool.and_eq_false_imp, decide_eq_true_eq] at h
        exact h (by omega)
      refine walk (orc := orcN) (keep := []) (cuts := []) (n := 1000) follows ?_
      refine of_tr (fun _ _ _ _ => (((di (↑k)) : DV) = (di ↑(runN s)))) (by kernel_rfl) ?_
      rw [hst]
theorem f156 : FnOK Tryz.prog G 156 [] kwD := by
  refine FnOK.walk (orc := orcN) (keep := []) follows Tryz.func156 rfl Tryz.call156 ?_
  refine of_tr (fun _ _ _ _ => (((.slc 1 13 (elemF false 1 [(ds (ByteArray.mk #[112, 111, 105, 110, 116, 115])), (ds (ByteArray.mk #[112, 101, 110, 97, 108, 116, 121])), (ds (ByteArray.mk #[99, 97, 112])), (ds (ByteArray.mk #[102, 108, 111, 111, 114])), (ds (ByteArray.mk #[105, 110])), (ds (ByteArray.mk #[105, 102])), (ds (ByteArray.mk #[97, 110, 100])), (ds (ByteArray.mk #[111, 114])), (ds (ByteArray.mk #[110, 111, 116])), (ds (ByteArray.mk #[116, 114, 117, 101])), (ds (ByteArray.mk #[102, 97, 108, 115, 101])), (ds (ByteArray.mk #[109, 105, 110])), (ds (ByteArray.mk #[109, 97, 120]))])) : DV) = kwD)) (by kernel_rfl) ?_
  rfl
theorem any_step {l : List ByteArray} {s : ByteArray} {k : Nat} (hk : k < l.length) (hno : ∀ i, i < k → l.getD i .empty ≠ s) (h : l.getD k .empty = s) : anyB l s = true ∧ indN l s = k := by
  have hk2 : l[k] = s := by rw [← h, List.getD, List.getElem?_eq_getElem hk]; rfl
  have h1 : anyB l s = true := by
    unfold anyB
    rw [List.any_eq_true]
    exact ⟨l[k], List.getElem_mem hk, by rw [decide_eq_true_eq]; exact hk2⟩
  refine ⟨h1, ?_⟩
  unfold indN
  unfold anyB at h1
  rw [if_pos h1]
  have : ∀ (l : List ByteArray) (k : Nat) (hk : k < l.length), (∀ i (h : i < l.length), i < k → l[i] ≠ s) → l[k] = s → (l.takeWhile fun x => !decide (x = s)).length = k := by
    intro l
    induction l with
    | nil => intro k hk; simp at hk
    | cons x l ih =>
      intro k hk h2 h3
      cases k with
      | zero =>
        simp only [List.getElem_cons_zero] at h3
        rw [List.takeWhile_cons, h3]; simp
      | succ k =>
        have h4 := h2 0 (by simp) (by omega)
        simp only [List.getElem_cons_zero] at h4
        rw [List.takeWhile_cons]
        simp only [h4, decide_false, Bool.not_false, if_true, List.length_cons]
        rw [ih k (by simpa using hk) (fun i h5 h6 => by
          have := h2 (i + 1) (by simpa using h5) (by omega)
          simpa using this) (by simpa using h3)]
  rw [this l k hk (fun i h5 h6 => by
    have := hno i h6
    rw [List.getD, List.getElem?_eq_getElem h5] at this
    exact this) hk2]
theorem any_none {l : List ByteArray} {s : ByteArray} (hno : ∀ i, i < l.length → l.getD i .empty ≠ s) : anyB l s = false ∧ indN l s = -1 := by
  have h1 : anyB l s = false := by
    rw [Bool.eq_false_iff]
    unfold anyB
    intro h
    obtain ⟨x, hx, hd⟩ := List.any_eq_true.1 h
    obtain ⟨i, hi, rfl⟩ := List.getElem_of_mem hx
    rw [decide_eq_true_eq] at hd
    refine hno i hi ?_
    rw [List.getD, List.getElem?_eq_getElem hi]; exact hd
  refine ⟨h1, ?_⟩
  unfold indN
  unfold anyB at h1
  rw [if_neg (by rw [h1]; simp)]
noncomputable def S143 (l : List ByteArray) (s : ByteArray) (k : Nat) : AS := ⟨regs Tryz.f62.ntmps [(0, .d (.slc 1 l.length (stF l))), (1, vs s), (7, vi l.length), (8, vi k)], []⟩
theorem f62 (l : List ByteArray) (s : ByteArray) (hl : l.length ≤ 1000000) : FnOK Tryz.prog G 62 [.slc 1 l.length (stF l), ds s] (di (indN l s)) := by
  refine FnOK.walk (orc := orcN) (keep := []) follows Tryz.func62 rfl Tryz.call62 ?_
  refine of_tr (fun ZT ZW ZQ _ => ZW [cd Tryz.f62 [1, 0, 1, 0], (.blk 0), cd Tryz.f62 [1, 1]] (stS ZT []) ZQ) (by kernel_rfl) ?_
  refine AWP.loop (c := cAt (bodyOf Tryz.f62) [1, 0, 1, 0, 0]) (by kernel_rfl) (S143 l s) (fun k => k ≤ l.length ∧ ∀ i, i < k → l.getD i .empty ≠ s) (fun k => l.length - k) 0 ?_ ⟨Nat.zero_le _, fun i hi => by omega⟩ ?_
  · exact AS.leA (by kernel_rfl)
  · rintro k ⟨hk, hkd⟩
    refine walk (orc := orcN) (keep := []) (cuts := []) (n := 1000) follows ?_
    refine of_rd (fun ZT ZW ZQ _ ZA _ => ((((decide ((↑k : Int) < ↑l.length)) = true) → (((0 ≤ (↑k : Int)) ∧ ((↑k : Int) < ↑l.length)) ∧ (((s.toList == (l.getD (↑k : Int).toNat ByteArray.empty).toList) = true) → (((di (↑k)) : DV) = (di (indN l s)))) ∧ (((s.toList == (l.getD (↑k : Int).toNat ByteArray.empty).toList) = false) → ((I64 (↑k + 1)) ∧ (ZA (stS ZT [0, 1])))))) ∧ (((decide ((↑k : Int) < ↑l.length)) = false) → ZW [cd Tryz.f62 [1, 1]] (stS ZT [1]) ZQ))) (by kernel_rfl) ?_
    simp only [Int.toNat_natCast, toList_beq]
    refine ⟨fun h => ?_, fun h => ?_⟩
    · simp only [decide_eq_true_eq] at h
      refine ⟨⟨by omega, by omega⟩, fun h2 => ?_, fun h2 => ?_⟩
      · simp only [decide_eq_true_eq] at h2
        rw [(any_step (by omega) hkd h2.symm).2]
      · simp only [decide_eq_false_iff_not] at h2
        refine ⟨⟨by omega, by omega⟩, Again.mk (k + 1) ?_ ⟨by omega, fun i hi => ?_⟩ (by omega)⟩
        · exact AS.leA (by kernel_rfl)
        · rcases Nat.lt_or_ge i k with h1 | h1
          · exact hkd i h1
          · obtain rfl : i = k := by omega
            exact fun h3 => h2 h3.symm
    · simp only [decide_eq_false_iff_not] at h
      have hst := any_none (l := l) (s := s) fun i hi => hkd i (by omega)
      refine walk (orc := orcN) (keep := []) (cuts := []) (n := 1000) follows ?_
      refine of_tr (fun _ _ _ _ => (((di (-1)) : DV) = (di (indN l s)))) (by kernel_rfl) ?_
      rw [hst.2]
def orcI (l : List ByteArray) : Oracle := fun f a => match f, a with
  | 62, [_, .con (.string s)] => some (di (indN l s))
  | _, _ => none
theorem emp_beq (s : ByteArray) : (ByteArray.toList s == ByteArray.toList { data := #[] }) = decide (s.size = 0) := by
  rw [toList_beq, decide_eq_decide]
  constructor
  · rintro rfl; rfl
  · intro h
    apply ByteArray.ext
    exact Array.eq_empty_of_size_eq_zero h
theorem f31 (l : List ByteArray) (s : ByteArray) (hl : l.length ≤ 1000000) : FnOK Tryz.prog G 31 [.slc 1 l.length (stF l), ds s] (db (anyB l s)) := by
  refine FnOK.walk (orc := orcI l) (keep := []) follows Tryz.func31 rfl Tryz.call31 ?_
  refine of_tr (fun _ _ _ ZK => (ZK 62 [(.slc 1 l.length (stF l)), (ds s)] (di (indN l s)) ∧ ((db (decide (indN l s ≥ 0))) : DV) = (db (anyB l s)))) (by kernel_rfl) ?_
  refine ⟨f62 l s hl, ?_⟩
  unfold indN anyB
  cases h : l.any (fun x => decide (x = s)) with
  | true =>
    rw [if_pos rfl]
    have : decide ((((l.takeWhile fun x => !decide (x = s)).length : Nat) : Int) ≥ 0) = true := by rw [decide_eq_true_eq]; omega
    rw [this]
  | false => rfl
theorem kw_congr : ∀ i, i < 13 → kwF i = stF kwL i := by
  intro i hi
  unfold kwF
  match i, hi with
  | 0, _ => rfl
  | 1, _ => rfl
  | 2, _ => rfl
  | 3, _ => rfl
  | 4, _ => rfl
  | 5, _ => rfl
  | 6, _ => rfl
  | 7, _ => rfl
  | 8, _ => rfl
  | 9, _ => rfl
  | 10, _ => rfl
  | 11, _ => rfl
  | 12, _ => rfl
theorem f31kw (s : ByteArray) : FnOK Tryz.prog G 31 [kwD, ds s] (db (kwB s)) :=
  (f31 kwL s (by decide)).args fun _ => DV.rels_cons (fun _ h => DV.rel_slc_congr kw_congr h) (DV.rels_cons (fun _ h => h) (fun _ h => h))
theorem name_eq (s : ByteArray) : nameB s = (!decide (s.size = 0) && decide ((s.size : Int) ≤ 16) && letB (byteAt s (Int.toNat 0)) && (runN s : Int) == (s.size : Int) && !kwB s) := by
  unfold nameB
  have e1 : decide (1 ≤ s.size) = !decide (s.size = 0) := by
    by_cases h : s.size = 0
    · simp [h]
    · simp [h]; omega
  have e2 : decide (s.size ≤ 16) = decide ((s.size : Int) ≤ 16) := by rw [decide_eq_decide]; omega
  have e3 : decide (runN s = s.size) = ((runN s : Int) == (s.size : Int)) := by
    by_cases h : runN s = s.size
    · rw [h]; simp
    · rw [decide_eq_false h]
      symm
      rw [beq_eq_false_iff_ne]
      omega
  rw [e1, e2, e3]
  simp only [Bool.and_assoc]; rfl
theorem f119 (s : ByteArray) (hs : s.size ≤ 1000000) : FnOK Tryz.prog G 119 [ds s] (db (nameB s)) := by
  refine FnOK.walk (orc := orcN) (keep := []) follows Tryz.func119 rfl Tryz.call119 ?_
  refine of_tr (fun _ _ _ ZK => (fun Za Zb => ((((Zb = true) → (((0 : Int) ≤ (0 : Int)) ∧ (0 < (↑s.size : Int)))) ∧ ((Zb = true) → ZK 153 [(.con (.int .u8 (byteAt s (Int.toNat 0))))] (db (letB (byteAt s (Int.toNat 0))))) ∧ (((!s.toList == (ByteArray.mk #[]).toList && decide ((↑s.size : Int) ≤ 16) && letB (byteAt s (Int.toNat 0))) = true) → ZK 154 [(ds s), (.con (.func (.func 155) ⟨[]⟩ ⟨[]⟩))] (di (↑(runN s)))) ∧ ((Za = true) → ZK 156 [] (.slc 1 13 kwF)) ∧ ((Za = true) → ZK 31 [(.slc 1 13 kwF), (ds s)] (db (kwB s)))) ∧ ((db (!s.toList == (ByteArray.mk #[]).toList && decide ((↑s.size : Int) ≤ 16) && letB (byteAt s (Int.toNat 0)) && (↑(runN s) : Int) == ↑s.size && !kwB s)) : DV) = (db (nameB s)))) (!s.toList == (ByteArray.mk #[]).toList && decide ((↑s.size : Int) ≤ 16) && letB (byteAt s (Int.toNat 0)) && (↑(runN s) : Int) == ↑s.size) (!s.toList == (ByteArray.mk #[]).toList && decide ((↑s.size : Int) ≤ 16))) (by kernel_rfl) ?_
  simp only [emp_beq]
  refine ⟨⟨fun h => ?_, fun _ => f153 _, fun _ => f154 s hs, fun _ => f156, fun _ => f31kw s⟩, ?_⟩
  · simp only [Bool.and_eq_true, Bool.not_eq_true', decide_eq_false_iff_not] at h
    exact ⟨by omega, by omega⟩
  · rw [name_eq]
end Go.Proofs
