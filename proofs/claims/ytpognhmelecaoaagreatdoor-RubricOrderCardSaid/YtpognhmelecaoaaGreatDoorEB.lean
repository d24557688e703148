import Derived.Test.YtpognhmelecaoaaGreatDoorAcD
import Derived.Test.YtpognhmelecaoaaGreatDoorEA
import Derived.Test.YtpognhmelecaoaaGreatDoorNA
import Derived.Test.YtpognhmelecaoaaGreatDoorFB
import Derived.Test.YtpognhmelecaoaaGreatDoorB0
set_option autoImplicit false
namespace Go.Proofs
open Go Go.Ab Go.RowKit
set_option maxHeartbeats 2000000
set_option maxRecDepth 100000
variable {G : IH}
/-! slices.IndexFunc and ContainsFunc over kids, for a function that keeps what it captures. -/
def kidI (p : Ex → Bool) (l : List Ex) : Int := if l.any p then ((l.takeWhile fun x => !p x).length : Int) else -1
theorem kidI_hit {p : Ex → Bool} {L : List Ex} {k : Nat} (hk : k < L.length) (hno : ∀ i, i < k → p (L.getD i ex0) = false) (h : p (L.getD k ex0) = true) : L.any p = true ∧ kidI p L = k := by
  have e : ∀ i (h : i < L.length), L.getD i ex0 = L[i] := fun i h => by rw [List.getD, List.getElem?_eq_getElem h]; rfl
  have h1 : L.any p = true := by
    rw [List.any_eq_true]
    exact ⟨L[k], List.getElem_mem hk, by rw [← e k hk]; exact h⟩
  refine ⟨h1, ?_⟩
  unfold kidI
  rw [if_pos h1]
  have : ∀ (l : List Ex) (k : Nat) (hk : k < l.length), (∀ i (h : i < l.length), i < k → p l[i] = false) → p l[k] = true → (l.takeWhile fun x => !p x).length = k := by
    intro l
    induction l with
    | nil => intro k hk; simp at hk
    | cons x l ih =>
      intro k hk h2 h3
      cases k with
      | zero =>
        simp only [List.getElem_cons_zero] at h3
        rw [List.takeWhile_cons, h3]; simp
      | succ k =>
        have h4 := h2 0 (by simp) (by omega)
        simp only [List.getElem_cons_zero] at h4
        rw [List.takeWhile_cons]
        simp only [h4, Bool.not_false, if_true, List.length_cons]
        rw [ih k (by simpa using hk) (fun i h5 h6 => by
          have := h2 (i + 1) (by simpa using h5) (by omega)
          simpa using this) (by simpa using h3)]
  rw [this L k hk (fun i h5 h6 => by rw [← e i h5]; exact hno i h6) (by rw [← e k hk]; exact h)]
theorem kidI_none {p : Ex → Bool} {L : List Ex} (hno : ∀ i, i < L.length → p (L.getD i ex0) = false) : L.any p = false ∧ kidI p L = -1 := by
  have h1 : L.any p = false := by
    rw [Bool.eq_false_iff]
    intro h
    obtain ⟨x, hx, hd⟩ := List.any_eq_true.1 h
    obtain ⟨i, hi, rfl⟩ := List.getElem_of_mem hx
    have := hno i hi
    rw [List.getD, List.getElem?_eq_getElem hi] at this
    rw [show p L[i] = false from this] at hd
    cases hd
  refine ⟨h1, ?_⟩
  unfold kidI
  rw [if_neg (by rw [h1]; simp)]
theorem kidI_ge (p : Ex → Bool) (L : List Ex) : decide (kidI p L ≥ 0) = L.any p := by
  unfold kidI
  cases h : L.any p with
  | true => rw [if_pos rfl, decide_eq_true_eq]; omega
  | false => rfl
noncomputable def orcK0 (c : Nat) (p : Ex → Bool) (l : List Ex) : Oracle := fun f a => match Nat.beq f c, f, a with
  | true, _, [e] => some (db (p (rdE e)))
  | _, 128, [_, _] => some (di (kidI p l))
  | _, _, _ => none
noncomputable def S128 (c : Nat) (m : Nat) (x : Ex) (k : Nat) : AS := ⟨regs Tryz.f128.ntmps [(0, .d (.slc 6 x.kids.length (lay (exG m) x.kids))), (1, .d (.con (.func (.func c) #[] #[]))), (7, vi x.kids.length), (8, vi k)], []⟩
theorem f128 (p : Ex → Bool) (m : Nat) (x : Ex) (hx : ht x ≤ m) (hs : Sm x) (hc : ∀ i, i < x.kids.length → FnOK Tryz.prog G 157 [kidA m x i] (db (p (x.kids.getD i ex0)))) :
    FnOK Tryz.prog G 128 [.slc 6 x.kids.length (lay (exG m) x.kids), .con (.func (.func 157) #[] #[])] (di (kidI p x.kids)) := by
  have hl := hs.len.1
  refine FnOK.walk (orc := orcK0 157 p x.kids) (keep := []) follows Tryz.func128 rfl Tryz.call128 ?_
  refine of_tr (fun ZT ZW ZQ _ => ZW [cd Tryz.f128 [1, 0, 1, 0], (.blk 0), cd Tryz.f128 [1, 1]] (stS ZT []) ZQ) (by kernel_rfl) ?_
  refine AWP.loop (c := cAt (bodyOf Tryz.f128) [1, 0, 1, 0, 0]) (by kernel_rfl) (S128 157 m x) (fun k => k ≤ x.kids.length ∧ ∀ i, i < k → p (x.kids.getD i ex0) = false) (fun k => x.kids.length - k) 0 ?_ ⟨Nat.zero_le _, fun i hi => by omega⟩ ?_
  · exact AS.leA (by kernel_rfl)
  · rintro k ⟨hk, hkd⟩
    refine walk (orc := orcK0 157 p x.kids) (keep := []) (cuts := []) (n := 1000) follows ?_
    refine of_rd (fun ZT ZW ZQ ZK ZA _ => (fun Za => ((((decide ((↑k : Int) < ↑x.kids.length)) = true) → ((((0 ≤ (↑k : Int)) ∧ ((↑k : Int) < ↑x.kids.length)) ∧ ZK 157 [Za] (db (p (rdE Za)))) ∧ (((p (rdE Za)) = true) → (((di (↑k)) : DV) = (di (kidI p x.kids)))) ∧ (((p (rdE Za)) = false) → ((I64 (↑k + 1)) ∧ (ZA (stS ZT [0, 1])))))) ∧ (((decide ((↑k : Int) < ↑x.kids.length)) = false) → ZW [cd Tryz.f128 [1, 1]] (stS ZT [1]) ZQ))) (ndA m (x.kids.getD (↑k : Int).toNat ex0))) (by kernel_rfl) ?_
    simp only [Int.toNat_natCast]
    refine ⟨fun h => ?_, fun h => ?_⟩
    · have hk2 : k < x.kids.length := by have := of_decide_eq_true h; omega
      have e1 : p (rdE (kidA m x k)) = p (x.kids.getD k ex0) := by rw [kid_rd hx hk2]
      refine ⟨⟨⟨by omega, by omega⟩, ?_⟩, fun h2 => ?_, fun h2 => ⟨⟨by omega, by omega⟩, Again.mk (k + 1) ?_ ⟨hk2, fun i hi => ?_⟩ (by omega)⟩⟩
      · show FnOK Tryz.prog G 157 [kidA m x k] (db (p (rdE (kidA m x k))))
        rw [e1]; exact hc k hk2
      · have h2 : p (rdE (kidA m x k)) = true := h2
        rw [e1] at h2
        rw [(kidI_hit hk2 hkd h2).2]
      · exact AS.leA (by kernel_rfl)
      · rcases Nat.lt_or_ge i k with h1 | h1
        · exact hkd i h1
        · obtain rfl : i = k := by omega
          rw [← e1]; exact h2
    · simp only [decide_eq_false_iff_not] at h
      have hst := kidI_none (p := p) (L := x.kids) fun i hi => hkd i (by omega)
      refine walk (orc := orcK0 157 p x.kids) (keep := []) (cuts := []) (n := 1000) follows ?_
      refine of_tr (fun _ _ _ _ => (((di (-1)) : DV) = (di (kidI p x.kids)))) (by kernel_rfl) ?_
      rw [hst.2]
theorem f82 (p : Ex → Bool) (m : Nat) (x : Ex) (hx : ht x ≤ m) (hs : Sm x) (hc : ∀ i, i < x.kids.length → FnOK Tryz.prog G 157 [kidA m x i] (db (p (x.kids.getD i ex0)))) :
    FnOK Tryz.prog G 82 [.slc 6 x.kids.length (lay (exG m) x.kids), .con (.func (.func 157) #[] #[])] (db (x.kids.any p)) := by
  refine FnOK.walk (orc := orcK0 157 p x.kids) (keep := []) follows Tryz.func82 rfl Tryz.call82 ?_
  refine of_tr (fun _ _ _ ZK => (ZK 128 [(.slc 6 x.kids.length (lay (exG m) x.kids)), (.con (.func (.func 157) ⟨[]⟩ ⟨[]⟩))] (di (kidI p x.kids)) ∧ ((db (decide (kidI p x.kids ≥ 0))) : DV) = (db (x.kids.any p)))) (by kernel_rfl) ?_
  refine ⟨f128 p m x hx hs hc, ?_⟩
  rw [kidI_ge]
end Go.Proofs
set_option autoImplicit false
namespace Go.Proofs
open Go Go.Ab Go.RowKit
set_option maxHeartbeats 2000000
set_option maxRecDepth 100000
variable {G : IH}
theorem FnOKres {f : FuncId} {args : List DV} {r r' : DV} (h : FnOK Tryz.prog G f args r) (hr : ∀ k v, DV.rel k r v → DV.rel k r' v) : FnOK Tryz.prog G f args r' :=
  ⟨h.1, fun w k vs hG hw ha => (h.2 w k vs hG hw ha).mono fun e w' ⟨v, h', e1, h2, h3⟩ => ⟨v, h', e1, hr h' v h2, h3⟩⟩
abbrev iv (n : Int) : Value := .int .i64 n
def binM (z : Value → DV) : Value → DV := putF (iv 20) (ds ⟨#[111, 114]⟩) (putF (iv 19) (ds ⟨#[97, 110, 100]⟩) (putF (iv 17) (ds ⟨#[62, 61]⟩) (putF (iv 16) (ds ⟨#[62]⟩) (putF (iv 15) (ds ⟨#[60, 61]⟩) (putF (iv 14) (ds ⟨#[60]⟩) (putF (iv 13) (ds ⟨#[33, 61]⟩) (putF (iv 12) (ds ⟨#[61, 61]⟩) (putF (iv 9) (ds ⟨#[47]⟩) (putF (iv 8) (ds ⟨#[42]⟩) (putF (iv 7) (ds ⟨#[45]⟩) (putF (iv 6) (ds ⟨#[43]⟩) z)))))))))))
def binN : Value → Bool := putH (iv 20) (putH (iv 19) (putH (iv 17) (putH (iv 16) (putH (iv 15) (putH (iv 14) (putH (iv 13) (putH (iv 12) (putH (iv 9) (putH (iv 8) (putH (iv 7) (putH (iv 6) fun _ => false)))))))))))
def opS (k : Int) : ByteArray := bif decide (k = 20) then ⟨#[111, 114]⟩ else bif decide (k = 19) then ⟨#[97, 110, 100]⟩ else bif decide (k = 17) then ⟨#[62, 61]⟩ else bif decide (k = 16) then ⟨#[62]⟩ else bif decide (k = 15) then ⟨#[60, 61]⟩ else bif decide (k = 14) then ⟨#[60]⟩ else bif decide (k = 13) then ⟨#[33, 61]⟩ else bif decide (k = 12) then ⟨#[61, 61]⟩ else bif decide (k = 9) then ⟨#[47]⟩ else bif decide (k = 8) then ⟨#[42]⟩ else bif decide (k = 7) then ⟨#[45]⟩ else bif decide (k = 6) then ⟨#[43]⟩ else .empty
def opB (k : Int) : Bool := decide (6 ≤ k ∧ k ≤ 9 ∨ 12 ≤ k ∧ k ≤ 17 ∨ 19 ≤ k ∧ k ≤ 20)
def keyI (v : Value) : Int := match v with | .int _ n => n | _ => 0
abbrev binD : DV := .mp (some .i64) (fun v => ds (opS (keyI v))) (fun v => opB (keyI v))
theorem ds_cond (c : Bool) (a b : ByteArray) : (bif c then ds a else ds b) = ds (bif c then a else b) := by cases c <;> rfl
theorem f121 : FnOK Tryz.prog G 121 [] binD := by
  refine FnOKres (r := .mp (some .i64) (binM fun _ => ds .empty) binN) (FnOK.walk (orc := ({ d := fun _ _ => none } : Orc)) (keep := []) follows Tryz.func121 rfl Tryz.call121 ?_) fun k v hv => ?_
  · refine of_tr (fun _ _ _ _ => (((.mp (some .i64) (putF (Value.int IntKind.i64 20) (DV.con (Value.string (ByteArray.mk #[111, 114]))) (putF (Value.int IntKind.i64 19) (DV.con (Value.string (ByteArray.mk #[97, 110, 100]))) (putF (Value.int IntKind.i64 17) (DV.con (Value.string (ByteArray.mk #[62, 61]))) (putF (Value.int IntKind.i64 16) (DV.con (Value.string (ByteArray.mk #[62]))) (putF (Value.int IntKind.i64 15) (DV.con (Value.string (ByteArray.mk #[60, 61]))) (putF (Value.int IntKind.i64 14) (DV.con (Value.string (ByteArray.mk #[60]))) (putF (Value.int IntKind.i64 13) (DV.con (Value.string (ByteArray.mk #[33, 61]))) (putF (Value.int IntKind.i64 12) (DV.con (Value.string (ByteArray.mk #[61, 61]))) (putF (Value.int IntKind.i64 9) (DV.con (Value.string (ByteArray.mk #[47]))) (putF (Value.int IntKind.i64 8) (DV.con (Value.string (ByteArray.mk #[42]))) (putF (Value.int IntKind.i64 7) (DV.con (Value.string (ByteArray.mk #[45]))) (putF (Value.int IntKind.i64 6) (DV.con (Value.string (ByteArray.mk #[43]))) fun x => DV.con (Value.string (ByteArray.mk #[])))))))))))))) (putH (Value.int IntKind.i64 20) (putH (Value.int IntKind.i64 19) (putH (Value.int IntKind.i64 17) (putH (Value.int IntKind.i64 16) (putH (Value.int IntKind.i64 15) (putH (Value.int IntKind.i64 14) (putH (Value.int IntKind.i64 13) (putH (Value.int IntKind.i64 12) (putH (Value.int IntKind.i64 9) (putH (Value.int IntKind.i64 8) (putH (Value.int IntKind.i64 7) (putH (Value.int IntKind.i64 6) fun x => false))))))))))))) : DV) = (.mp (some .i64) (binM fun x => ds ByteArray.empty) binN))) (by kernel_rfl) ?_
    rfl
  · refine DV.rel_mp_congr (fun k hk _ => ?_) (fun k hk => ?_) hv
    · cases k <;> simp only [keyT, MapKept.IsKey] at hk
      subst hk
      simp only [binM, putF, keyEq, opS, keyI, decide_true, Bool.true_and, ds_cond]
      rfl
    · cases k <;> simp only [keyT, MapKept.IsKey] at hk
      subst hk
      rename_i n
      simp only [binN, putH, keyEq, opB, keyI, decide_true, Bool.true_and, Bool.or_false]
      rw [Bool.eq_iff_iff]
      simp only [Bool.or_eq_true, decide_eq_true_eq]
      constructor
      · intro h; exact decide_eq_true (by omega)
      · intro h; have h := of_decide_eq_true h; omega
end Go.Proofs
set_option autoImplicit false
namespace Go.Proofs
open Go Go.Ab Go.RowKit
set_option maxHeartbeats 2000000
set_option maxRecDepth 100000
variable {G : IH}
def dotS : ByteArray := ⟨#[46]⟩
def numB (n d : Int) : Bool := (decF n d).2 && decide (n ≥ 0) && decide (((cD dotS (str (decF n d).1)).size : Int) ≤ 9)
def numT (n d : Int) : ByteArray := str (decF n d).1
theorem tailB_len {d : Nat} : ∀ (k r : Nat), r < d → (tailB d k r).length ≤ k
  | 0, r, _ => by simp [tailB]
  | k + 1, r, h => by
    unfold tailB
    split
    · simp
    · have h1 : 10 * r / d < 10 := by rw [Nat.div_lt_iff_lt_mul (by omega)]; omega
      have h2 := tailB_len k (10 * r % d) (Nat.mod_lt _ (by omega))
      rw [Lib.decDigits, dif_pos h1, List.length_append, List.length_singleton]; omega
theorem sizeN (n d : Int) : (numT n d).size ≤ 100 := by
  unfold numT
  rw [str_size, decF_eq]
  unfold decB
  split
  · rename_i h
    have hk := ok_spec h.1
    have h1 : n.natAbs / d.toNat < 10 ^ (18 + 1) := by
      have := Nat.div_le_self n.natAbs d.toNat
      have e : (10 : Nat) ^ (18 + 1) = 10000000000000000000 := by decide
      rw [e]; omega
    have h2 := decDigits_len 18 _ h1
    have h3 := tailB_len (d := d.toNat) 7 (n.natAbs % d.toNat) (Nat.mod_lt _ (by omega))
    have h4 : (sg n).length ≤ 1 := by unfold sg; split <;> simp
    simp only [List.length_append]
    split
    · simp; omega
    · simp only [List.length_cons]; omega
  · simp
noncomputable def orcWr : Oracle := fun f a => match f, a with
  | 151, [fr n d] => some (.tup [ds (numT n d), db (decF n d).2])
  | 152, [.con (.string s), .con (.string p)] => some (.tup [ds (cD p s), ds (cR p s), db (cB p s)])
  | _, _ => none
theorem f118 (hT : Tab G) (n d : Int) : FnOK Tryz.prog G 118 [fr n d] (.tup [ds (numT n d), db (numB n d)]) := by
  have hs := sizeN n d
  refine FnOK.walk (orc := orcWr) (keep := []) follows Tryz.func118 rfl Tryz.call118 ?_
  refine of_tr (fun _ _ _ ZK => (ZK 151 [(.agg [(di n), (di d)])] (.tup [(ds (numT n d)), (db (decF n d).snd)]) ∧ ZK 152 [(ds (numT n d)), (ds (ByteArray.mk #[46]))] (.tup [(ds (cD (ByteArray.mk #[46]) (numT n d))), (ds (cR (ByteArray.mk #[46]) (numT n d))), (db (cB (ByteArray.mk #[46]) (numT n d)))]) ∧ ((.tup [(ds (numT n d)), (db ((decF n d).snd && decide (n ≥ 0) && decide ((↑(cD (ByteArray.mk #[46]) (numT n d)).size : Int) ≤ 9)))]) : DV) = (.tup [(ds (numT n d)), (db (numB n d))]))) (by kernel_rfl) ?_
  exact ⟨f151 hT n d, f152 _ 46 (by omega), rfl⟩
def bigL : List UInt8 := [49, 48, 48, 48, 48, 48, 48, 48, 48, 48]
def bigS : ByteArray := ⟨#[49, 48, 48, 48, 48, 48, 48, 48, 48, 48]⟩
theorem dec_big9 : Lib.decDigits 1000000000 = bigL := by
  have h := decDigits_val (l := bigL) (by decide) (by intro c hc; simp only [bigL, List.mem_cons, List.not_mem_nil, or_false] at hc; unfold isD; rcases hc with rfl | rfl | rfl | rfl | rfl | rfl | rfl | rfl | rfl | rfl <;> decide) (fun _ c hc => by
    simp only [bigL, List.head?_cons, Option.some.injEq] at hc
    subst hc; decide)
  have e : valD bigL = 1000000000 := by decide
  rwa [e] at h
theorem cD_size {D T : List UInt8} (hD : ∀ c ∈ D, c ≠ 46) (hT : T = [] ∨ ∃ t, T = 46 :: t) : (cD dotS (str (D ++ T))).size = D.length := by
  have e1 : (str (D ++ T)).data.toList = D ++ T := by simp [str]
  have hc : cI dotS (str (D ++ T)) = Lib.indexByte (D ++ T) 46 := by
    unfold cI
    rw [e1]; rfl
  unfold cD
  rcases hT with rfl | ⟨t, rfl⟩
  · have hn : ¬ 0 ≤ cI dotS (str (D ++ [])) := by
      intro h
      obtain ⟨o, ho⟩ := Int.eq_ofNat_of_zero_le h
      rw [hc, List.append_nil] at ho
      obtain ⟨h1, _⟩ := Lib.indexByte_some ho
      exact hD 46 (List.mem_of_getElem? h1) rfl
    rw [if_neg hn, str_size, List.append_nil]
  · have h0 : 0 ≤ cI dotS (str (D ++ 46 :: t)) := by
      refine Classical.byContradiction fun h => ?_
      have h2 := Lib.indexByte_ge (D ++ 46 :: t) 46
      rw [← hc] at h2
      have h3 : cI dotS (str (D ++ 46 :: t)) = -1 := by omega
      rw [hc] at h3
      exact Lib.indexByte_none h3 D.length (by simp)
    obtain ⟨o, ho⟩ := Int.eq_ofNat_of_zero_le h0
    have ho' := ho
    rw [hc] at ho'
    obtain ⟨h1, h2⟩ := Lib.indexByte_some ho'
    have h3 : o = D.length := by
      rcases Nat.lt_trichotomy o D.length with h | h | h
      · rw [List.getElem?_append_left h] at h1
        exact absurd rfl (hD 46 (List.mem_of_getElem? h1))
      · exact h
      · exact absurd (by simp) (h2 D.length h)
    rw [if_pos h0, ho, Int.toNat_natCast, h3, ByteArray.size_extract]
    have : (str (D ++ 46 :: t)).size = (D ++ 46 :: t).length := str_size _
    rw [this, List.length_append, List.length_cons]; omega
theorem dig_ne {u : Nat} : ∀ c ∈ Lib.decDigits u, c ≠ 46 := by
  intro c hc h
  have := (decDigits_all u).1 c hc
  subst h
  unfold isD at this
  revert this
  decide
theorem num_ref (n d : Int) : numB n d = ((decB n d).2 && decide (n ≥ 0) && !decide (str (decB n d).1 = bigS)) := by
  unfold numB
  rw [decF_eq]
  by_cases hk : ok n d = true ∧ (1000000 : Int).tmod d = 0
  · by_cases hn : n ≥ 0
    · have hok := ok_spec hk.1
      have hs : sg n = [] := by unfold sg; rw [if_neg (by omega)]
      unfold decB
      rw [if_pos hk, hs]
      simp only [List.nil_append, decide_eq_true hn, Bool.true_and, Bool.and_true]
      have hT : (if n.natAbs % d.toNat = 0 then [] else 46 :: tailB d.toNat 7 (n.natAbs % d.toNat)) = ([] : List UInt8) ∨ ∃ t, (if n.natAbs % d.toNat = 0 then [] else 46 :: tailB d.toNat 7 (n.natAbs % d.toNat)) = (46 : UInt8) :: t := by
        split
        · exact .inl rfl
        · exact .inr ⟨_, rfl⟩
      have hA := cD_size dig_ne hT (D := Lib.decDigits (n.natAbs / d.toNat))
      simp only [hA]
      have hq : n.natAbs / d.toNat ≤ n.natAbs := Nat.div_le_self _ _
      by_cases hb : n.natAbs / d.toNat < 10 ^ (8 + 1)
      · have h1 := decDigits_len 8 _ hb
        rw [decide_eq_true (by omega), decide_eq_false, Bool.not_false]
        intro hh
        have e : (Lib.decDigits (n.natAbs / d.toNat) ++ (if n.natAbs % d.toNat = 0 then [] else 46 :: tailB d.toNat 7 (n.natAbs % d.toNat))) = bigL := by
          have := congrArg (fun x : ByteArray => x.data.toList) hh
          simpa [str, bigS, bigL] using this
        rcases hT with h2 | ⟨t, h2⟩
        · rw [h2, List.append_nil] at e
          rw [e] at h1
          exact absurd h1 (by decide)
        · rw [h2] at e
          have : (46 : UInt8) ∈ bigL := by rw [← e]; simp
          exact absurd this (by decide)
      · have e9 : (10 : Nat) ^ (8 + 1) = 1000000000 := by decide
        rw [e9] at hb
        have hd1 : d.toNat = 1 := by
          refine Classical.byContradiction fun h => ?_
          have h2 : 2 ≤ d.toNat := by omega
          have : n.natAbs / d.toNat ≤ n.natAbs / 2 := Nat.div_le_div_left h2 (by decide)
          omega
        rw [hd1, Nat.div_one, Nat.mod_one, if_pos rfl, List.append_nil]
        rw [hd1, Nat.div_one] at hb
        have e2 : n.natAbs = 1000000000 := by omega
        rw [e2, dec_big9]
        decide
    · simp [hn]
  · unfold decB
    rw [if_neg hk]
    simp
end Go.Proofs
set_option autoImplicit false
namespace Go.Proofs
open Go Go.Ab Go.RowKit
set_option maxHeartbeats 2000000
set_option maxRecDepth 100000
variable {G : IH}
def kdK (n d : Int) (s : ByteArray) (len : Nat) (all : Bool) (a b : Int) : Bool := decide (s.size = 0) && (n == 0 && d == 0) && decide ((len : Int) ≥ a) && decide ((len : Int) ≤ b) && all
def sndK (k n d : Int) (s : ByteArray) (len : Nat) (all : Bool) : Bool :=
  if k = 1 then numB n d && decide (s.size = 0) && decide (len = 0)
  else if k = 2 then nameB s && (n == 0 && d == 0) && decide (len = 0)
  else if k = 3 ∨ k = 4 then kdK n d s len all 0 0
  else if k = 5 ∨ k = 18 then kdK n d s len all 1 1
  else if k = 10 ∨ k = 11 then kdK n d s len all 1 len
  else opB k && kdK n d s len all 2 2
mutual
def sndE : Ex → Bool
  | .mk k s n d _ l => sndK k n d s l.length (sndL l)
def sndL : List Ex → Bool
  | [] => true
  | x :: l => sndE x && sndL l
end
theorem sndE_eq (x : Ex) : sndE x = sndK x.k x.n x.d x.s x.kids.length (sndL x.kids) := by cases x; simp only [sndE, Ex.k, Ex.n, Ex.d, Ex.s, Ex.kids]
theorem sndL_any : ∀ l : List Ex, (l.any fun y => !sndE y) = !sndL l
  | [] => rfl
  | x :: l => by simp only [List.any_cons, sndL, sndL_any l, Bool.not_and]
abbrev kdE (x : Ex) (a b : Int) : Bool := kdK x.n x.d x.s x.kids.length (sndL x.kids) a b
noncomputable def orcRt (x : Ex) : Oracle := fun f a => match f, a with
  | 73, [e] => some (db (sndE (rdE e)))
  | 118, [fr n d] => some (.tup [ds (numT n d), db (numB n d)])
  | 119, [.con (.string s)] => some (db (nameB s))
  | 120, [_, .con (.int .i64 a), .con (.int .i64 b)] => some (db (kdE x a b))
  | 121, [] => some binD
  | 82, [_, _] => some (db (x.kids.any fun y => !sndE y))
  | _, _ => none
theorem f157_of {m : Nat} {y : Ex} (hy : ht y ≤ m) (h : FnOK Tryz.prog G 73 [exD m y] (db (sndE y))) : FnOK Tryz.prog G 157 [exD m y] (db (!sndE y)) := by
  refine FnOK.walk (orc := orcRt y) (keep := []) follows Tryz.func157 rfl Tryz.call157 ?_
  refine of_tr (fun _ _ _ ZK => (ZK 73 [(ndX m y)] (db (sndE (rdE (ndX m y)))) ∧ ((db (!sndE (rdE (ndX m y)))) : DV) = (db !sndE y))) (by kernel_rfl) ?_
  show FnOK Tryz.prog G 73 [exD m y] (db (sndE (rdE (exD m y)))) ∧ db (!sndE (rdE (exD m y))) = _
  rw [rdE_eq hy]
  exact ⟨h, rfl⟩
theorem f120_of {m : Nat} {x : Ex} (hx : ht x ≤ m) (hs : Sm x) (hc : ∀ i, i < x.kids.length → FnOK Tryz.prog G 157 [kidA m x i] (db (!sndE (x.kids.getD i ex0)))) (a b : Int) : FnOK Tryz.prog G 120 [exD m x, di a, di b] (db (kdE x a b)) := by
  refine FnOK.walk (orc := orcRt x) (keep := []) follows Tryz.func120 rfl Tryz.call120 ?_
  refine of_tr (fun _ _ _ ZK => ((((x.s.toList == (ByteArray.mk #[]).toList && Bool.rec false (x.d == 0) (x.n == 0) && decide (↑x.kids.length ≥ a) && decide (↑x.kids.length ≤ b)) = true) → ZK 82 [(.slc 6 x.kids.length (lay (exG m) x.kids)), (.con (.func (.func 157) ⟨[]⟩ ⟨[]⟩))] (db (x.kids.any fun y => !sndE y))) ∧ ((db (x.s.toList == (ByteArray.mk #[]).toList && Bool.rec false (x.d == 0) (x.n == 0) && decide (↑x.kids.length ≥ a) && decide (↑x.kids.length ≤ b) && !x.kids.any fun y => !sndE y)) : DV) = (db (kdE x a b)))) (by kernel_rfl) ?_
  refine ⟨fun _ => f82 (fun y => !sndE y) m x hx hs hc, ?_⟩
  refine congrArg db ?_
  rw [sndL_any, emp_beq]
  unfold kdE kdK
  have e : (Bool.rec false (x.d == 0) (x.n == 0) : Bool) = (x.n == 0 && x.d == 0) := by cases (x.n == 0) <;> rfl
  rw [e, Bool.not_not]
theorem imp_eq {a b : DV} (h : b = a) : DV.imp a b := fun _ _ hv => h ▸ hv
theorem opS_zero {k : Int} (h : opB k = false) : opS k = .empty := by
  have h := of_decide_eq_false h
  have q : ∀ j : Int, (6 ≤ j ∧ j ≤ 9 ∨ 12 ≤ j ∧ j ≤ 17 ∨ 19 ≤ j ∧ j ≤ 20) → decide (k = j) = false := fun j hj => decide_eq_false fun e => h (e ▸ hj)
  unfold opS
  simp only [q 20 (by omega), q 19 (by omega), q 17 (by omega), q 16 (by omega), q 15 (by omega), q 14 (by omega), q 13 (by omega), q 12 (by omega), q 9 (by omega), q 8 (by omega), q 7 (by omega), q 6 (by omega), cond_false]
theorem f73 (hT : Tab G) (m : Nat) : ∀ (x : Ex), ht x ≤ m → Sm x → FnOK Tryz.prog G 73 [exD m x] (db (sndE x)) := by
  induction m using Nat.strongRecOn with
  | _ m ih =>
  intro x hx hs
  have hc : ∀ i, i < x.kids.length → FnOK Tryz.prog G 157 [kidA m x i] (db (!sndE (x.kids.getD i ex0))) := fun i hi =>
    kidOK (Q := fun d => FnOK Tryz.prog G 157 [d] _) hx hi fun m' h1 h2 => f157_of h2 (ih m' h1 _ h2 (hs.kid hi))
  have h120 := fun a b => f120_of hx hs hc a b
  refine FnOK.walk (orc := orcRt x) (keep := []) follows Tryz.func73 rfl Tryz.call73 ?_
  refine of_tr (fun _ _ _ ZK => (fun Za Zb Zc => ((((x.k == 1) = true) → (ZK 118 [(.agg [(di x.n), (di x.d)])] (.tup [(ds (numT x.n x.d)), (db (numB x.n x.d))]) ∧ ((db (numB x.n x.d && x.s.toList == (ByteArray.mk #[]).toList && (↑x.kids.length : Int) == 0)) : DV) = (db (sndE x)))) ∧ (((x.k == 1) = false) → ((((x.k == 2) = true) → (ZK 119 [(ds x.s)] (db (nameB x.s)) ∧ ((db (nameB x.s && Bool.rec false (x.d == 0) (x.n == 0) && (↑x.kids.length : Int) == 0)) : DV) = (db (sndE x)))) ∧ (((x.k == 2) = false) → ((((x.k == 3) = true) → ((((x.k == 3) = true) → (ZK 120 [(ndX m x), (di 0), (di 0)] (db (kdE x 0 0)) ∧ ((db (kdE x 0 0)) : DV) = (db (sndE x)))) ∧ (((x.k == 3) = false) → ((((x.k == 5) = true) → ((((x.k == 5) = true) → (ZK 120 [(ndX m x), (di 1), (di 1)] (db (kdE x 1 1)) ∧ ((db (kdE x 1 1)) : DV) = (db (sndE x)))) ∧ (((x.k == 5) = false) → ((((x.k == 10) = true) → ((((x.k == 10) = true) → (ZK 120 [(ndX m x), (di 1), (di (↑x.kids.length))] (db (kdE x 1 ↑x.kids.length)) ∧ Zc = (db (sndE x)))) ∧ (((x.k == 10) = false) → ((ZK 121 [] (.mp (some .i64) (fun v => DV.con (Value.string (opS (keyI v)))) (fun v => opB (keyI v))) ∧ (((opB Za) = false) → (Zb.imp (DV.con (Value.string (opS Za)))))) ∧ (((opB Za) = true) → ZK 120 [(ndX m x), (di 2), (di 2)] (db (kdE x 2 2))) ∧ ((db (opB Za && kdE x 2 2)) : DV) = (db (sndE x)))))) ∧ (((x.k == 10) = false) → ((((x.k == 11) = true) → (ZK 120 [(ndX m x), (di 1), (di (↑x.kids.length))] (db (kdE x 1 ↑x.kids.length)) ∧ Zc = (db (sndE x)))) ∧ (((x.k == 11) = false) → ((ZK 121 [] (.mp (some .i64) (fun v => DV.con (Value.string (opS (keyI v)))) (fun v => opB (keyI v))) ∧ (((opB Za) = false) → (Zb.imp (DV.con (Value.string (opS Za)))))) ∧ (((opB Za) = true) → ZK 120 [(ndX m x), (di 2), (di 2)] (db (kdE x 2 2))) ∧ ((db (opB Za && kdE x 2 2)) : DV) = (db (sndE x)))))))))) ∧ (((x.k == 5) = false) → ((((x.k == 18) = true) → (ZK 120 [(ndX m x), (di 1), (di 1)] (db (kdE x 1 1)) ∧ ((db (kdE x 1 1)) : DV) = (db (sndE x)))) ∧ (((x.k == 18) = false) → ((((x.k == 10) = true) → ((((x.k == 10) = true) → (ZK 120 [(ndX m x), (di 1), (di (↑x.kids.length))] (db (kdE x 1 ↑x.kids.length)) ∧ Zc = (db (sndE x)))) ∧ (((x.k == 10) = false) → ((ZK 121 [] (.mp (some .i64) (fun v => DV.con (Value.string (opS (keyI v)))) (fun v => opB (keyI v))) ∧ (((opB Za) = false) → (Zb.imp (DV.con (Value.string (opS Za)))))) ∧ (((opB Za) = true) → ZK 120 [(ndX m x), (di 2), (di 2)] (db (kdE x 2 2))) ∧ ((db (opB Za && kdE x 2 2)) : DV) = (db (sndE x)))))) ∧ (((x.k == 10) = false) → ((((x.k == 11) = true) → (ZK 120 [(ndX m x), (di 1), (di (↑x.kids.length))] (db (kdE x 1 ↑x.kids.length)) ∧ Zc = (db (sndE x)))) ∧ (((x.k == 11) = false) → ((ZK 121 [] (.mp (some .i64) (fun v => DV.con (Value.string (opS (keyI v)))) (fun v => opB (keyI v))) ∧ (((opB Za) = false) → (Zb.imp (DV.con (Value.string (opS Za)))))) ∧ (((opB Za) = true) → ZK 120 [(ndX m x), (di 2), (di 2)] (db (kdE x 2 2))) ∧ ((db (opB Za && kdE x 2 2)) : DV) = (db (sndE x)))))))))))))) ∧ (((x.k == 3) = false) → ((((x.k == 4) = true) → (ZK 120 [(ndX m x), (di 0), (di 0)] (db (kdE x 0 0)) ∧ ((db (kdE x 0 0)) : DV) = (db (sndE x)))) ∧ (((x.k == 4) = false) → ((((x.k == 5) = true) → ((((x.k == 5) = true) → (ZK 120 [(ndX m x), (di 1), (di 1)] (db (kdE x 1 1)) ∧ ((db (kdE x 1 1)) : DV) = (db (sndE x)))) ∧ (((x.k == 5) = false) → ((((x.k == 10) = true) → ((((x.k == 10) = true) → (ZK 120 [(ndX m x), (di 1), (di (↑x.kids.length))] (db (kdE x 1 ↑x.kids.length)) ∧ Zc = (db (sndE x)))) ∧ (((x.k == 10) = false) → ((ZK 121 [] (.mp (some .i64) (fun v => DV.con (Value.string (opS (keyI v)))) (fun v => opB (keyI v))) ∧ (((opB Za) = false) → (Zb.imp (DV.con (Value.string (opS Za)))))) ∧ (((opB Za) = true) → ZK 120 [(ndX m x), (di 2), (di 2)] (db (kdE x 2 2))) ∧ ((db (opB Za && kdE x 2 2)) : DV) = (db (sndE x)))))) ∧ (((x.k == 10) = false) → ((((x.k == 11) = true) → (ZK 120 [(ndX m x), (di 1), (di (↑x.kids.length))] (db (kdE x 1 ↑x.kids.length)) ∧ Zc = (db (sndE x)))) ∧ (((x.k == 11) = false) → ((ZK 121 [] (.mp (some .i64) (fun v => DV.con (Value.string (opS (keyI v)))) (fun v => opB (keyI v))) ∧ (((opB Za) = false) → (Zb.imp (DV.con (Value.string (opS Za)))))) ∧ (((opB Za) = true) → ZK 120 [(ndX m x), (di 2), (di 2)] (db (kdE x 2 2))) ∧ ((db (opB Za && kdE x 2 2)) : DV) = (db (sndE x)))))))))) ∧ (((x.k == 5) = false) → ((((x.k == 18) = true) → (ZK 120 [(ndX m x), (di 1), (di 1)] (db (kdE x 1 1)) ∧ ((db (kdE x 1 1)) : DV) = (db (sndE x)))) ∧ (((x.k == 18) = false) → ((((x.k == 10) = true) → ((((x.k == 10) = true) → (ZK 120 [(ndX m x), (di 1), (di (↑x.kids.length))] (db (kdE x 1 ↑x.kids.length)) ∧ Zc = (db (sndE x)))) ∧ (((x.k == 10) = false) → ((ZK 121 [] (.mp (some .i64) (fun v => DV.con (Value.string (opS (keyI v)))) (fun v => opB (keyI v))) ∧ (((opB Za) = false) → (Zb.imp (DV.con (Value.string (opS Za)))))) ∧ (((opB Za) = true) → ZK 120 [(ndX m x), (di 2), (di 2)] (db (kdE x 2 2))) ∧ ((db (opB Za && kdE x 2 2)) : DV) = (db (sndE x)))))) ∧ (((x.k == 10) = false) → ((((x.k == 11) = true) → (ZK 120 [(ndX m x), (di 1), (di (↑x.kids.length))] (db (kdE x 1 ↑x.kids.length)) ∧ Zc = (db (sndE x)))) ∧ (((x.k == 11) = false) → ((ZK 121 [] (.mp (some .i64) (fun v => DV.con (Value.string (opS (keyI v)))) (fun v => opB (keyI v))) ∧ (((opB Za) = false) → (Zb.imp (DV.con (Value.string (opS Za)))))) ∧ (((opB Za) = true) → ZK 120 [(ndX m x), (di 2), (di 2)] (db (kdE x 2 2))) ∧ ((db (opB Za && kdE x 2 2)) : DV) = (db (sndE x)))))))))))))))))))) (keyI (Value.int IntKind.i64 x.k)) (DV.con (Value.string (ByteArray.mk #[]))) ((db (kdE x 1 ↑x.kids.length)) : DV)) (by kernel_rfl) ?_
  have hkz : (Bool.rec false (x.d == 0) (x.n == 0) : Bool) = (x.n == 0 && x.d == 0) := by cases (x.n == 0) <;> rfl
  have hlen : ((x.kids.length : Int) == 0) = decide (x.kids.length = 0) := by
    rw [Bool.eq_iff_iff, beq_iff_eq, decide_eq_true_eq]; omega
  have hs2 := hs.len.2
  have e : ∀ k, x.k = k → sndE x = sndK k x.n x.d x.s x.kids.length (sndL x.kids) := fun k hk => by rw [← hk]; exact sndE_eq x
  have e' := sndE_eq x
  have hke : (x.s.toList == ByteArray.toList { data := #[] }) = decide (x.s.size = 0) := emp_beq _
  repeat' (first | (with_reducible refine And.intro ?_ ?_) | (with_reducible intro _))
  all_goals (try simp only [beq_iff_eq, beq_eq_false_iff_ne, ne_eq] at *)
  all_goals first
    | exact f118 hT _ _
    | exact f119 _ (by omega)
    | exact h120 _ _
    | exact f121
    | contradiction
    | exact imp_eq (congrArg ds (opS_zero (by assumption)))
    | (refine congrArg db ?_; rw [e 1 (by assumption), hke, hlen]; rfl)
    | (refine congrArg db ?_; rw [e 2 (by assumption), hkz, hlen]; rfl)
    | (refine congrArg db ?_; rw [e 3 (by assumption)]; rfl)
    | (refine congrArg db ?_; rw [e 4 (by assumption)]; rfl)
    | (refine congrArg db ?_; rw [e 5 (by assumption)]; rfl)
    | (refine congrArg db ?_; rw [e 18 (by assumption)]; rfl)
    | (refine congrArg db ?_; rw [e 10 (by assumption)]; rfl)
    | (refine congrArg db ?_; rw [e 11 (by assumption)]; rfl)
    | (refine congrArg db ?_; rw [e']; unfold sndK; simp only [*, or_self, if_false]; rfl)
end Go.Proofs
