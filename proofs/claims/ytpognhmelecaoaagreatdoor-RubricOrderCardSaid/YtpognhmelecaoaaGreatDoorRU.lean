import Derived.Test.YtpognhmelecaoaaGreatDoorAcD
import Derived.Test.YtpognhmelecaoaaGreatDoorEL
import Derived.Test.YtpognhmelecaoaaGreatDoorEN
import Derived.Test.YtpognhmelecaoaaGreatDoorBA
set_option autoImplicit false
namespace Go.Proofs
open Go Go.Ab Go.RowKit
set_option maxHeartbeats 4000000
set_option maxRecDepth 100000
variable {G : IH}
/-! Rules, and their lines. -/
structure Rl where
  kind : Int
  nm : ByteArray
  gr : ByteArray
  am : Ex
  wh : Ex
  pos : Int
  ma : Nat
  mw : Nat
abbrev rlD (r : Rl) : DV := .agg [di r.kind, ds r.nm, ds r.gr, di r.am.k, ds r.am.s, di r.am.n, di r.am.d, di r.am.pos, .slc 6 r.am.kids.length (lay (exG r.ma) r.am.kids), di r.wh.k, ds r.wh.s, di r.wh.n, di r.wh.d, di r.wh.pos, .slc 6 r.wh.kids.length (lay (exG r.mw) r.wh.kids), di r.pos]
structure RlS (r : Rl) : Prop where
  nm : r.nm.size ≤ 1000
  gr : r.gr.size ≤ 1000
  ha : ht r.am ≤ r.ma
  am : Sm r.am
  hw : ht r.wh ≤ r.mw
  wh : Sm r.wh
def nonB (x : Ex) : Bool := x.k == 0 && decide (x.s.size = 0) && (x.n == 0 && x.d == 0) && decide (x.kids.length = 0)
theorem f173 (m : Nat) (x : Ex) : FnOK Tryz.prog G 173 [exD m x] (db (nonB x)) := by
  refine FnOK.walkK (orc := noO) (keep := []) follows Tryz.func173 rfl Tryz.call173 ?_
  refine of_tr (fun _ _ _ _ => (((db (x.k == 0 && x.s.toList == (ByteArray.mk #[]).toList && Bool.rec false (x.d == 0) (x.n == 0) && (↑x.kids.length : Int) == 0)) : DV) = (db (nonB x)))) (by kernel_rfl) ?_
  refine congrArg (fun b => (db b : DV)) ?_
  unfold nonB
  rw [emp_beq, show ((x.kids.length : Int) == 0) = decide (x.kids.length = 0) by rw [Bool.eq_iff_iff]; simp]
  cases h : x.n == 0 <;> cases h2 : x.d == 0 <;> rfl
theorem f172 (r : Rl) (h : RlS r) : FnOK Tryz.prog G 172 [rlD r] (db (decide ((ht r.am : Int) + 1 ≤ 32) && decide ((ht r.wh : Int) + 1 ≤ 32))) := by
  refine FnOK.walkK (orc := fun f a => match f, a with | 72, [e] => some (di ((ht (rdE e) : Int) + 1)) | _, _ => none) (keep := []) follows Tryz.func172 rfl Tryz.call172 ?_
  refine of_tr (fun _ _ _ ZK => ((ZK 72 [(ndX r.ma r.am)] (di (↑(ht (rdE (ndX r.ma r.am))) + 1)) ∧ (((decide ((↑(ht (rdE (ndX r.ma r.am))) : Int) + 1 ≤ 32)) = true) → ZK 72 [(ndX r.mw r.wh)] (di (↑(ht (rdE (ndX r.mw r.wh))) + 1)))) ∧ ((db (decide ((↑(ht (rdE (ndX r.ma r.am))) : Int) + 1 ≤ 32) && decide ((↑(ht (rdE (ndX r.mw r.wh))) : Int) + 1 ≤ 32))) : DV) = (db (decide ((↑(ht r.am) : Int) + 1 ≤ 32) && decide ((↑(ht r.wh) : Int) + 1 ≤ 32))))) (by kernel_rfl) ?_
  have e1 : rdE (ndX r.ma r.am) = r.am := rdE_eq h.ha
  have e2 : rdE (ndX r.mw r.wh) = r.wh := rdE_eq h.hw
  simp only [e1, e2]
  exact ⟨⟨f72 _ _ h.ha h.am, fun _ => f72 _ _ h.hw h.wh⟩, trivial⟩
def kdL : List ByteArray := [⟨#[112, 111, 105, 110, 116, 115]⟩, ⟨#[112, 101, 110, 97, 108, 116, 121]⟩, ⟨#[99, 97, 112]⟩, ⟨#[102, 108, 111, 111, 114]⟩]
theorem kd_rel {h : IH} {v : Value} (hv : DV.rel h (.slc 1 4 (elemF false 1 [ds ⟨#[112, 111, 105, 110, 116, 115]⟩, ds ⟨#[112, 101, 110, 97, 108, 116, 121]⟩, ds ⟨#[99, 97, 112]⟩, ds ⟨#[102, 108, 111, 111, 114]⟩])) v) : DV.rel h (wdD kdL) v := by
  refine DV.rel_slc_congr (fun i hi => ?_) hv
  have hi : i < 4 := hi
  rcases i with _ | _ | _ | _ | i
  · rfl
  · rfl
  · rfl
  · rfl
  · omega
theorem f171 : FnOK Tryz.prog G 171 [] (wdD kdL) := by
  refine FnOK.res ?_ fun k v hv => kd_rel hv
  refine FnOK.walkK (orc := noO) (keep := []) follows Tryz.func171 rfl Tryz.call171 ?_
  refine of_tr (fun _ _ _ _ => (ZS ((.slc 1 4 (elemF false 1 [(ds (ByteArray.mk #[112, 111, 105, 110, 116, 115])), (ds (ByteArray.mk #[112, 101, 110, 97, 108, 116, 121])), (ds (ByteArray.mk #[99, 97, 112])), (ds (ByteArray.mk #[102, 108, 111, 111, 114]))])) : DV))) (by kernel_rfl) ?_
  rfl
def ruB (r : Rl) : Bool := decide (r.kind ≥ 0) && decide (r.kind < 4) && nameB r.nm && (decide (r.gr.size = 0) || nameB r.gr) && (decide ((ht r.am : Int) + 1 ≤ 32) && decide ((ht r.wh : Int) + 1 ≤ 32)) && sndE r.am && (nonB r.wh || sndE r.wh)
noncomputable def orcRu (r : Rl) : Oracle := fun f a => match f, a with
  | 171, [] => some (wdD kdL)
  | 119, [.con (.string s)] => some (db (nameB s))
  | 172, [_] => some (db (decide ((ht r.am : Int) + 1 ≤ 32) && decide ((ht r.wh : Int) + 1 ≤ 32)))
  | 173, [e] => some (db (nonB (rdE e)))
  | 73, [e] => some (db (sndE (rdE e)))
  | 74, [e] => some (ds (fmtE (rdE e)))
  | _, _ => none
theorem f142 (hT : Tab G) (r : Rl) (h : RlS r) : FnOK Tryz.prog G 142 [rlD r] (db (ruB r)) := by
  refine FnOK.walkK (orc := orcRu r) (keep := []) follows Tryz.func142 rfl Tryz.call142 ?_
  refine of_tr (fun _ _ _ ZK => (fun Za Zb => (((((decide (r.kind ≥ 0)) = true) → ZK 171 [] (.slc 1 4 (stF kdL))) ∧ (((decide (r.kind ≥ 0) && decide (r.kind < ↑kdL.length)) = true) → ZK 119 [(ds r.nm)] (db (nameB r.nm))) ∧ (((decide (r.kind ≥ 0) && decide (r.kind < ↑kdL.length) && nameB r.nm && !r.gr.toList == (ByteArray.mk #[]).toList) = true) → ZK 119 [(ds r.gr)] (db (nameB r.gr))) ∧ (((decide (r.kind ≥ 0) && decide (r.kind < ↑kdL.length) && nameB r.nm && Zb) = true) → ZK 172 [(rlD r)] (db Za)) ∧ (((decide (r.kind ≥ 0) && decide (r.kind < (↑kdL.length : Int)) && nameB r.nm && Zb && Za) = true) → ZK 73 [(ndX r.ma r.am)] (db (sndE (rdE (ndX r.ma r.am))))) ∧ (((decide (r.kind ≥ 0) && decide (r.kind < (↑kdL.length : Int)) && nameB r.nm && Zb && Za && sndE (rdE (ndX r.ma r.am))) = true) → ZK 173 [(ndX r.mw r.wh)] (db (nonB (rdE (ndX r.mw r.wh))))) ∧ (((decide (r.kind ≥ 0) && decide (r.kind < (↑kdL.length : Int)) && nameB r.nm && Zb && Za && sndE (rdE (ndX r.ma r.am)) && !nonB (rdE (ndX r.mw r.wh))) = true) → ZK 73 [(ndX r.mw r.wh)] (db (sndE (rdE (ndX r.mw r.wh)))))) ∧ ((db (decide (r.kind ≥ 0) && decide (r.kind < (↑kdL.length : Int)) && nameB r.nm && Zb && Za && sndE (rdE (ndX r.ma r.am)) && (nonB (rdE (ndX r.mw r.wh)) || sndE (rdE (ndX r.mw r.wh))))) : DV) = (db (ruB r)))) (decide ((↑(ht r.am) : Int) + 1 ≤ 32) && decide ((↑(ht r.wh) : Int) + 1 ≤ 32)) (r.gr.toList == (ByteArray.mk #[]).toList || nameB r.gr)) (by kernel_rfl) ?_
  have e1 : rdE (ndX r.ma r.am) = r.am := rdE_eq h.ha
  have e2 : rdE (ndX r.mw r.wh) = r.wh := rdE_eq h.hw
  simp only [e1, e2, emp_beq]
  exact ⟨⟨fun _ => f171, fun _ => f119 _ (by have := h.nm; omega), fun _ => f119 _ (by have := h.gr; omega), fun _ => f172 r h, fun _ => f73 hT _ _ h.ha h.am, fun _ => f173 _ _, fun _ => f73 hT _ _ h.hw h.wh⟩, rfl⟩
def lnB (r : Rl) : ByteArray := kdL.getD r.kind.toNat .empty ++ ⟨#[32]⟩ ++ r.nm ++ (if r.gr.size = 0 then .empty else ⟨#[32, 105, 110, 32]⟩ ++ r.gr) ++ (⟨#[58, 32]⟩ ++ fmtE r.am) ++ (if r.wh.k = 0 then .empty else ⟨#[32, 105, 102, 32]⟩ ++ fmtE r.wh) ++ ⟨#[59, 10]⟩
theorem lnA {r : Rl} (h1 : r.gr.size ≠ 0) (h2 : r.wh.k ≠ 0) : lnB r = kdL.getD r.kind.toNat .empty ++ ⟨#[32]⟩ ++ r.nm ++ (⟨#[32, 105, 110, 32]⟩ ++ r.gr) ++ (⟨#[58, 32]⟩ ++ fmtE r.am) ++ (⟨#[32, 105, 102, 32]⟩ ++ fmtE r.wh) ++ ⟨#[59, 10]⟩ := by
  unfold lnB; rw [if_neg h1, if_neg h2]
theorem lnBb {r : Rl} (h1 : r.gr.size ≠ 0) (h2 : r.wh.k = 0) : lnB r = kdL.getD r.kind.toNat .empty ++ ⟨#[32]⟩ ++ r.nm ++ (⟨#[32, 105, 110, 32]⟩ ++ r.gr) ++ (⟨#[58, 32]⟩ ++ fmtE r.am) ++ ⟨#[59, 10]⟩ := by
  unfold lnB; rw [if_neg h1, if_pos h2, ByteArray.append_empty]
theorem lnC {r : Rl} (h1 : r.gr.size = 0) (h2 : r.wh.k ≠ 0) : lnB r = kdL.getD r.kind.toNat .empty ++ ⟨#[32]⟩ ++ r.nm ++ (⟨#[58, 32]⟩ ++ fmtE r.am) ++ (⟨#[32, 105, 102, 32]⟩ ++ fmtE r.wh) ++ ⟨#[59, 10]⟩ := by
  unfold lnB; rw [if_pos h1, if_neg h2, ByteArray.append_empty]
theorem lnD {r : Rl} (h1 : r.gr.size = 0) (h2 : r.wh.k = 0) : lnB r = kdL.getD r.kind.toNat .empty ++ ⟨#[32]⟩ ++ r.nm ++ (⟨#[58, 32]⟩ ++ fmtE r.am) ++ ⟨#[59, 10]⟩ := by
  unfold lnB; rw [if_pos h1, if_pos h2, ByteArray.append_empty, ByteArray.append_empty]
theorem f144 (hT : Tab G) (r : Rl) (h : RlS r) (hr : ruB r = true) : FnOK Tryz.prog G 144 [rlD r] (ds (lnB r)) := by
  refine FnOK.walkK (orc := orcRu r) (keep := []) follows Tryz.func144 rfl Tryz.call144 ?_
  refine of_tr (fun _ _ _ ZK => (fun Za Zb Zc => ((ZK 171 [] (.slc 1 4 (stF kdL)) ∧ ((0 ≤ r.kind) ∧ (r.kind < ↑kdL.length)) ∧ ((kdL.getD r.kind.toNat ByteArray.empty).size + (ByteArray.mk #[32]).size ≤ 9223372036854775807) ∧ ((kdL.getD r.kind.toNat ByteArray.empty ++ ByteArray.mk #[32]).size + r.nm.size ≤ 9223372036854775807)) ∧ (((!r.gr.toList == (ByteArray.mk #[]).toList) = true) → ((((ByteArray.mk #[32, 105, 110, 32]).size + r.gr.size ≤ 9223372036854775807) ∧ ((kdL.getD r.kind.toNat ByteArray.empty ++ ByteArray.mk #[32] ++ r.nm).size + Zc.size ≤ 9223372036854775807)) ∧ (ZK 74 [(ndX r.ma r.am)] (ds (fmtE (rdE (ndX r.ma r.am)))) ∧ ((ByteArray.mk #[58, 32]).size + (fmtE (rdE (ndX r.ma r.am))).size ≤ 9223372036854775807) ∧ ((kdL.getD r.kind.toNat ByteArray.empty ++ ByteArray.mk #[32] ++ r.nm ++ Zc).size + Za.size ≤ 9223372036854775807)) ∧ (((r.wh.k != 0) = true) → ((ZK 74 [(ndX r.mw r.wh)] (ds (fmtE (rdE (ndX r.mw r.wh)))) ∧ ((ByteArray.mk #[32, 105, 102, 32]).size + (fmtE (rdE (ndX r.mw r.wh))).size ≤ 9223372036854775807) ∧ ((kdL.getD r.kind.toNat ByteArray.empty ++ ByteArray.mk #[32] ++ r.nm ++ Zc ++ Za).size + Zb.size ≤ 9223372036854775807)) ∧ ((kdL.getD r.kind.toNat ByteArray.empty ++ ByteArray.mk #[32] ++ r.nm ++ Zc ++ Za ++ Zb).size + (ByteArray.mk #[59, 10]).size ≤ 9223372036854775807) ∧ ((ds (kdL.getD r.kind.toNat ByteArray.empty ++ ByteArray.mk #[32] ++ r.nm ++ Zc ++ Za ++ Zb ++ ByteArray.mk #[59, 10])) : DV) = (ds (lnB r)))) ∧ (((r.wh.k != 0) = false) → (((kdL.getD r.kind.toNat ByteArray.empty ++ ByteArray.mk #[32] ++ r.nm ++ Zc ++ Za).size + (ByteArray.mk #[59, 10]).size ≤ 9223372036854775807) ∧ ((ds (kdL.getD r.kind.toNat ByteArray.empty ++ ByteArray.mk #[32] ++ r.nm ++ Zc ++ Za ++ ByteArray.mk #[59, 10])) : DV) = (ds (lnB r)))))) ∧ (((!r.gr.toList == (ByteArray.mk #[]).toList) = false) → ((ZK 74 [(ndX r.ma r.am)] (ds (fmtE (rdE (ndX r.ma r.am)))) ∧ ((ByteArray.mk #[58, 32]).size + (fmtE (rdE (ndX r.ma r.am))).size ≤ 9223372036854775807) ∧ ((kdL.getD r.kind.toNat ByteArray.empty ++ ByteArray.mk #[32] ++ r.nm).size + Za.size ≤ 9223372036854775807)) ∧ (((r.wh.k != 0) = true) → ((ZK 74 [(ndX r.mw r.wh)] (ds (fmtE (rdE (ndX r.mw r.wh)))) ∧ ((ByteArray.mk #[32, 105, 102, 32]).size + (fmtE (rdE (ndX r.mw r.wh))).size ≤ 9223372036854775807) ∧ ((kdL.getD r.kind.toNat ByteArray.empty ++ ByteArray.mk #[32] ++ r.nm ++ Za).size + Zb.size ≤ 9223372036854775807)) ∧ ((kdL.getD r.kind.toNat ByteArray.empty ++ ByteArray.mk #[32] ++ r.nm ++ Za ++ Zb).size + (ByteArray.mk #[59, 10]).size ≤ 9223372036854775807) ∧ ((ds (kdL.getD r.kind.toNat ByteArray.empty ++ ByteArray.mk #[32] ++ r.nm ++ Za ++ Zb ++ ByteArray.mk #[59, 10])) : DV) = (ds (lnB r)))) ∧ (((r.wh.k != 0) = false) → (((kdL.getD r.kind.toNat ByteArray.empty ++ ByteArray.mk #[32] ++ r.nm ++ Za).size + (ByteArray.mk #[59, 10]).size ≤ 9223372036854775807) ∧ ((ds (kdL.getD r.kind.toNat ByteArray.empty ++ ByteArray.mk #[32] ++ r.nm ++ Za ++ ByteArray.mk #[59, 10])) : DV) = (ds (lnB r)))))))) (ByteArray.mk #[58, 32] ++ fmtE (rdE (ndX r.ma r.am))) (ByteArray.mk #[32, 105, 102, 32] ++ fmtE (rdE (ndX r.mw r.wh))) (ByteArray.mk #[32, 105, 110, 32] ++ r.gr)) (by kernel_rfl) ?_
  have e1 : rdE (ndX r.ma r.am) = r.am := rdE_eq h.ha
  have e2 : rdE (ndX r.mw r.wh) = r.wh := rdE_eq h.hw
  simp only [e1, e2, emp_beq, ByteArray.size_append]
  have hh := hr
  unfold ruB at hh
  simp only [Bool.and_eq_true, decide_eq_true_eq] at hh
  obtain ⟨⟨⟨⟨⟨⟨hk0, hk4⟩, hn⟩, hg⟩, hd⟩, ha⟩, hw⟩ := hh
  have k4 : kdL.length = 4 := rfl
  have hks : ∀ i, (kdL.getD i .empty).size ≤ 7 := fun i => by
    rcases i with _ | _ | _ | _ | i
    · decide
    · decide
    · decide
    · decide
    · show (ByteArray.empty).size ≤ 7
      decide
  have s1 := hks r.kind.toNat
  have s2 := h.nm
  have s3 := h.gr
  have s4 := fmt_small _ _ (Nat.le_refl _) ha
  have n4 := h.am.nd
  have c1 : (ByteArray.mk #[32]).size = 1 := rfl
  have c2 : (ByteArray.mk #[32, 105, 110, 32]).size = 4 := rfl
  have c3 : (ByteArray.mk #[58, 32]).size = 2 := rfl
  have c4 : (ByteArray.mk #[32, 105, 102, 32]).size = 4 := rfl
  have c5 : (ByteArray.mk #[59, 10]).size = 2 := rfl
  have hw2 : (r.wh.k != 0) = true → sndE r.wh = true := fun hc => by
    rcases Bool.or_eq_true .. ▸ hw with h1 | h1
    · unfold nonB at h1
      simp only [Bool.and_eq_true, beq_iff_eq] at h1
      rw [h1.1.1.1] at hc; cases hc
    · exact h1
  have s5 : (r.wh.k != 0) = true → (fmtE r.wh).size ≤ 120000 := fun hc => by
    have := fmt_small _ _ (Nat.le_refl _) (hw2 hc)
    have := h.wh.nd
    omega
  refine ⟨⟨f171, ⟨by omega, by omega⟩, by omega, by omega⟩, fun h1 => ⟨⟨by omega, by omega⟩, ⟨f74 hT _ _ h.ha h.am ha, by omega, by omega⟩, fun h2 => ?_, fun h2 => ⟨by omega, ?_⟩⟩, fun h1 => ⟨⟨f74 hT _ _ h.ha h.am ha, by omega, by omega⟩, fun h2 => ?_, fun h2 => ⟨by omega, ?_⟩⟩⟩
  · have := s5 h2
    refine ⟨⟨f74 hT _ _ h.hw h.wh (hw2 h2), by omega, by omega⟩, by omega, ?_⟩
    rw [lnA (by simpa using h1) (by simpa using h2)]
  · rw [lnBb (by simpa using h1) (by simpa using h2)]
  · have := s5 h2
    refine ⟨⟨f74 hT _ _ h.hw h.wh (hw2 h2), by omega, by omega⟩, by omega, ?_⟩
    rw [lnC (by simpa using h1) (by simpa using h2)]
  · rw [lnD (by simpa using h1) (by simpa using h2)]
end Go.Proofs
set_option autoImplicit false
namespace Go.Proofs
open Go Go.Ab Go.RowKit
set_option maxHeartbeats 4000000
set_option maxRecDepth 100000
variable {G : IH}
/-! The text of rules. -/
def rl0 : Rl := ⟨0, .empty, .empty, ex0, ex0, 0, 0, 0⟩
def rlF (R : List Rl) (i : Nat) : DV := rlD (R.getD i rl0)
abbrev rlsD (R : List Rl) : DV := .slc 16 R.length (rlF R)
def catB (R : List Rl) : Nat → ByteArray
  | 0 => .empty
  | k + 1 => catB R k ++ lnB (R.getD k rl0)
def fmtR (R : List Rl) : ByteArray := if R.length > 32 then .empty else if R.any (fun r => !ruB r) then .empty else if (catB R R.length).size > 16384 then .empty else catB R R.length
def bB (n : Nat) (f : Nat → DV) : ByteArray := bs (bytesOf n f)
theorem bB_eq (t : ByteArray) : bB t.size (byteD t) = t := by
  unfold bB bs
  rw [byteD_L, ← size_list]
  have : bytesOf t.data.toList.length (byteL t.data.toList) = t.data.toList := by
    unfold bytesOf
    apply List.ext_getElem
    · simp
    · intro i h1 h2
      have h3 : i < t.data.size := by simpa using h2
      have e3 : t.data[i]? = some t.data[i] := Array.getElem?_eq_getElem h3
      simp [byteL, byteOfD, e3]
  rw [this]
def orcBm : FuncId → List AV → List (Nat × List AV) → Option (AV × List (Nat × List AV)) := fun f args pre => match f, args, pre with
  | 143, [_, .d (.con (.string s))], [(u, [.d (.con (.pointer none)), .d (.con (.slice none _ _))])] => some (.d (.tup [di s.size, .con .nilIface]), [(u, [.box u 0, .vec 14 1 0 s.size]), (14, [.arr byteK 1 (byteD s)])])
  | 143, [_, .d (.con (.string s))], [(u, [.box _ 0, .vec v 1 0 n]), (_, [.arr k 1 f])] => some (.d (.tup [di s.size, .con .nilIface]), [(u, [.box u 0, .vec 14 1 0 (bB n f ++ s).size]), (14, [.arr byteK 1 (byteD (bB n f ++ s))])])
  | 145, [_], [(u, [A, .vec v 1 0 n]), (w, [.arr k 1 f])] => some (vi n, [(u, [A, .vec v 1 0 n]), (w, [.arr k 1 f])])
  | 145, [_], [(u, [A, .d (.con (.slice none 0 0))])] => some (vi 0, [(u, [A, .d (.con (.slice none 0 0))])])
  | 146, [_], [(u, [A, .vec v 1 0 n]), (w, [.arr k 1 f])] => some (.d (ds (bB n f)), [(u, [A, .vec v 1 0 n]), (w, [.arr byteF 1 f])])
  | 146, [_], [(u, [A, .d (.con (.slice none 0 0))])] => some (.d (ds .empty), [(u, [A, .d (.con (.slice none 0 0))])])
  | _, _, _ => none
theorem f143a (s : ByteArray) (hs : s.size ≤ 281474976710) : FnM Tryz.prog G 143 [.tb 1000000 0 146, vs s] [(1000000, [nilP, .d (.con (.slice none 0 0))])] (.d (.tup [di s.size, .con .nilIface]))
    [(1000000, [.box 1000000 0, .vec 14 1 0 s.size]), (14, [.arr byteK 1 (byteD s)])] := by
  have := f143_fresh (G := G) s hs
  rwa [size_list, ← byteD_L] at this
theorem f143b (s t : ByteArray) (hs : t.size + s.size ≤ 281474976710) : FnM Tryz.prog G 143 [.tb 1000000 0 146, vs s] [(1000000, [.box 1000000 0, .vec 1000001 1 0 t.size]), (1000001, [.arr byteK 1 (byteD t)])] (.d (.tup [di s.size, .con .nilIface]))
    [(1000000, [.box 1000000 0, .vec 14 1 0 (t ++ s).size]), (14, [.arr byteK 1 (byteD (t ++ s))])] := by
  have := f143_used (G := G) s t.data.toList (by rw [size_list]; exact hs)
  have e : t.data.toList ++ s.data.toList = (t ++ s).data.toList := by rw [ByteArray.data_append, Array.toList_append]
  rwa [e, size_list, size_list, ← byteD_L, ← byteD_L] at this
theorem f146a (y A : AV) (hy : ∀ β h v, y.rel β h v → v = .pointer (some ⟨blk β 1000000, 0, none⟩)) (t : ByteArray) (h0 : 0 < t.size) (hl : t.size ≤ 4611686018427387904) :
    FnM Tryz.prog G 146 [y] [(1000000, [A, .vec 1000001 1 0 t.size]), (1000001, [.arr byteK 1 (byteD t)])] (.d (ds t)) [(1000000, [A, .vec 1000001 1 0 t.size]), (1000001, [.arr byteF 1 (byteD t)])] := by
  have := f146 (G := G) y A hy false t.data.toList (fun e => by rw [← size_list, e] at h0; simp at h0) (by rw [size_list]; exact hl)
  rw [size_list, ← byteD_L] at this
  exact this
theorem f145 (A : AV) (n : Nat) (k : RK) (f : Nat → DV) : FnM Tryz.prog G 145 [.tb 1000000 0 146] [(1000000, [A, .vec 1000001 1 0 n]), (1000001, [.arr k 1 f])] (vi n) [(1000000, [A, .vec 1000001 1 0 n]), (1000001, [.arr k 1 f])] := by
  refine FnM.walk (orc := noO) (keep := []) [] follows (by kernel_rfl) Tryz.func145 rfl Tryz.call145 ?_
  refine of_tr (fun _ _ _ _ => ((ZS ((vi (↑n)) : AV)) ∧ ((some [A, (.vec 1000001 1 0 n)]) : (Option (List AV))) = (some [A, (.vec 1000001 1 0 n)]) ∧ ((some [(.arr k 1 f)]) : (Option (List AV))) = (some [(.arr k 1 f)]) ∧ True)) (by kernel_rfl) ?_
  exact ⟨rfl, rfl, rfl, trivial⟩
theorem f145n (A : AV) : FnM Tryz.prog G 145 [.tb 1000000 0 146] [(1000000, [A, .d (.con (.slice none 0 0))])] (vi 0) [(1000000, [A, .d (.con (.slice none 0 0))])] := by
  refine FnM.walk (orc := noO) (keep := []) [] follows (by kernel_rfl) Tryz.func145 rfl Tryz.call145 ?_
  refine of_tr (fun _ _ _ _ => ((ZS ((vi 0) : AV)) ∧ ((some [A, (.d (.con (.slice none 0 0)))]) : (Option (List AV))) = (some [A, (.d (.con (.slice none 0 0)))]) ∧ True)) (by kernel_rfl) ?_
  exact ⟨rfl, rfl, trivial⟩
noncomputable def rdR (d : DV) : Rl := match d with
  | .agg [.con (.int _ k), .con (.string nm), .con (.string gr), a1, a2, a3, a4, a5, a6, b1, b2, b3, b4, b5, b6, .con (.int _ p)] => ⟨k, nm, gr, rdE (.agg [a1, a2, a3, a4, a5, a6]), rdE (.agg [b1, b2, b3, b4, b5, b6]), p, 0, 0⟩
  | _ => rl0
theorem rdR_eq {r : Rl} (h : RlS r) : rdR (rlD r) = { r with ma := 0, mw := 0 } := by
  have e1 : rdE (ndX r.ma r.am) = r.am := rdE_eq h.ha
  have e2 : rdE (ndX r.mw r.wh) = r.wh := rdE_eq h.hw
  show Rl.mk r.kind r.nm r.gr (rdE (ndX r.ma r.am)) (rdE (ndX r.mw r.wh)) r.pos 0 0 = _
  rw [e1, e2]
theorem ru_rd {r : Rl} (h : RlS r) : ruB (rdR (rlD r)) = ruB r := by rw [rdR_eq h]; rfl
theorem ln_rd {r : Rl} (h : RlS r) : lnB (rdR (rlD r)) = lnB r := by rw [rdR_eq h]; rfl
noncomputable def orcFd : Oracle := fun f a => match f, a with
  | 142, [d] => some (db (ruB (rdR d)))
  | 144, [d] => some (ds (lnB (rdR d)))
  | _, _ => none
noncomputable def orcFm : Orc := { d := orcFd, ty := fun T => Nat.beq T 146, m := orcBm }
theorem getD_mem' {α : Type} {l : List α} {i : Nat} {x0 : α} (h : i < l.length) : l.getD i x0 ∈ l := by
  rw [List.getD, List.getElem?_eq_getElem h]; exact List.getElem_mem h
theorem ln_small {r : Rl} (h : RlS r) (hr : ruB r = true) : (lnB r).size ≤ 300000 ∧ 0 < (lnB r).size := by
  have hh := hr
  unfold ruB at hh
  simp only [Bool.and_eq_true, decide_eq_true_eq] at hh
  obtain ⟨⟨⟨⟨⟨⟨hk0, hk4⟩, hn⟩, hg⟩, hd⟩, ha⟩, hw⟩ := hh
  have hks : ∀ i, (kdL.getD i .empty).size ≤ 7 := fun i => by
    rcases i with _ | _ | _ | _ | i
    · decide
    · decide
    · decide
    · decide
    · show (ByteArray.empty).size ≤ 7
      decide
  have s1 := hks r.kind.toNat
  have s2 := h.nm
  have s3 := h.gr
  have s4 := fmt_small _ _ (Nat.le_refl _) ha
  have n4 := h.am.nd
  have n5 := h.wh.nd
  have c1 : (ByteArray.mk #[32]).size = 1 := rfl
  have c2 : (ByteArray.mk #[32, 105, 110, 32]).size = 4 := rfl
  have c3 : (ByteArray.mk #[58, 32]).size = 2 := rfl
  have c4 : (ByteArray.mk #[32, 105, 102, 32]).size = 4 := rfl
  have c5 : (ByteArray.mk #[59, 10]).size = 2 := rfl
  have c0 : (ByteArray.empty).size = 0 := rfl
  have g1 : (if r.gr.size = 0 then ByteArray.empty else ⟨#[32, 105, 110, 32]⟩ ++ r.gr).size ≤ 1004 := by
    split
    · omega
    · rw [ByteArray.size_append]; omega
  have g2 : (if r.wh.k = 0 then ByteArray.empty else ⟨#[32, 105, 102, 32]⟩ ++ fmtE r.wh).size ≤ 120004 := by
    split
    · omega
    · rename_i hc
      have hs : sndE r.wh = true := by
        rcases (Bool.or_eq_true ..).mp hw with h1 | h1
        · unfold nonB at h1
          simp only [Bool.and_eq_true, beq_iff_eq] at h1
          exact absurd h1.1.1.1 hc
        · exact h1
      have := fmt_small _ _ (Nat.le_refl _) hs
      rw [ByteArray.size_append]; omega
  unfold lnB
  simp only [ByteArray.size_append]
  omega
theorem cat_small {R : List Rl} (hR : ∀ i, i < R.length → RlS (R.getD i rl0)) : ∀ k, k ≤ R.length → (∀ i, i < k → ruB (R.getD i rl0) = true) → (catB R k).size ≤ 300000 * k ∧ (0 < k → 0 < (catB R k).size)
  | 0, _, _ => ⟨Nat.le_refl _, fun h => absurd h (by decide)⟩
  | k + 1, hk, hu => by
    have ih := cat_small hR k (by omega) fun i hi => hu i (by omega)
    have h1 := ln_small (hR k hk) (hu k (by omega))
    simp only [catB, ByteArray.size_append]
    omega
theorem any_bad {R : List Rl} {k : Nat} (hk : k < R.length) (h : ruB (R.getD k rl0) = false) : (R.any fun r => !ruB r) = true := by
  rw [List.any_eq_true]
  exact ⟨_, getD_mem' hk, by rw [h]; rfl⟩
def bx114 (R : List Rl) (k : Nat) : List (Nat × List AV) := match Nat.beq k 0 with
  | true => [(3, [nilP, .d (.con (.slice none 0 0))])]
  | false => [(3, [.box 3 0, .vec 900 1 0 (catB R k).size]), (900, [.arr byteK 1 (byteD (catB R k))])]
noncomputable def S114 (R : List Rl) (k : Nat) : AS := ⟨regs Tryz.f114.ntmps [(3, .tb 3 0 146), (9, .d (rlsD R)), (10, vi R.length), (11, vi k)], bx114 R k⟩
theorem f114 (hT : Tab G) (R : List Rl) (hR : ∀ i, i < R.length → RlS (R.getD i rl0)) (hl : R.length ≤ 9223372036854775807) : FnOK Tryz.prog G 114 [rlsD R] (ds (fmtR R)) := by
  refine FnOK.walkK (orc := orcFm) (keep := []) follows Tryz.func114 rfl Tryz.call114 ?_
  refine of_tr (fun ZT ZW ZQ _ => ((((decide ((↑R.length : Int) > 32)) = true) → (((ds (ByteArray.mk #[])) : DV) = (ds (fmtR R)))) ∧ (((decide ((↑R.length : Int) > 32)) = false) → ZW [cd Tryz.f114 [1, 1, 1, 0, 1, 0], (.blk 0), cd Tryz.f114 [1, 1, 1, 1]] (stS ZT [1]) ZQ))) (by kernel_rfl) ?_
  refine ⟨fun h => ?_, fun h => ?_⟩
  · have : R.length > 32 := by have := of_decide_eq_true h; omega
    unfold fmtR
    rw [if_pos this]; rfl
  have hl32 : ¬ R.length > 32 := by have := of_decide_eq_false h; omega
  refine AWP.loop (c := cAt (bodyOf Tryz.f114) [1, 1, 1, 0, 1, 0, 0]) (by kernel_rfl) (S114 R) (fun k => k ≤ R.length ∧ ∀ i, i < k → ruB (R.getD i rl0) = true) (fun k => R.length - k) 0 ?_ ⟨Nat.zero_le _, fun i hi => by omega⟩ ?_
  · exact AS.leA (by kernel_rfl)
  · rintro k ⟨hk, hkd⟩
    have hbad : ∀ k, k < R.length → (!ruB (R.getD k rl0)) = true → (ds ⟨#[]⟩ : DV) = ds (fmtR R) := fun k h1 h2 => by
      unfold fmtR
      rw [if_neg hl32, if_pos (any_bad h1 (by simpa using h2))]; rfl
    have hgood : (∀ i, i < R.length → ruB (R.getD i rl0) = true) → (R.any fun r => !ruB r) = false := fun h => by
      rw [List.any_eq_false]
      intro r hr
      obtain ⟨i, hi, rfl⟩ := List.getElem_of_mem hr
      have := h i hi
      rw [List.getD, List.getElem?_eq_getElem hi, Option.getD_some] at this
      rw [this]; decide
    rcases k with _ | k
    · refine walkK (orc := orcFm) (keep := []) (cuts := []) (n := 1000) follows ?_
      refine of_rd (fun ZT ZW ZQ ZK ZA _ => (fun Za => ((((decide (0 < (↑R.length : Int))) = true) → ((((0 : Int) ≤ (0 : Int)) ∧ (0 < (↑R.length : Int))) ∧ ZK 142 [Za] (db (ruB (rdR Za))) ∧ (((!ruB (rdR Za)) = true) → (((ds (ByteArray.mk #[])) : DV) = (ds (fmtR R)))) ∧ (((!ruB (rdR Za)) = false) → ((ZK 144 [Za] (ds (lnB (rdR Za))) ∧ FnM Tryz.prog G 143 [(.tb 1000000 0 146), (vs (lnB (rdR Za)))] [(1000000, [(.d (.con (.pointer none))), (.d (.con (.slice none 0 0)))])] (.d (.tup [(di (↑(lnB (rdR Za)).size)), (.con .nilIface)])) [(1000000, [(.box 1000000 0), (.vec 14 1 0 (lnB (rdR Za)).size)]), (14, [(.arr ⟨false, 5, false, none⟩ 1 (byteD (lnB (rdR Za))))])]) ∧ (I64 (0 + 1)) ∧ (ZA (stS ZT [0, 1])))))) ∧ (((decide (0 < (↑R.length : Int))) = false) → ZW [cd Tryz.f114 [1, 1, 1, 1]] (stS ZT [1]) ZQ))) (rlD (R.getD (Int.toNat 0) rl0))) (by kernel_rfl) ?_
      refine ⟨fun h1 => ?_, fun h1 => ?_⟩
      · have hk2 : 0 < R.length := by have := of_decide_eq_true h1; omega
        have hs := hR 0 hk2
        rw [show Int.toNat 0 = 0 from rfl, ru_rd hs, ln_rd hs]
        refine ⟨⟨by omega, by omega⟩, f142 hT _ hs, fun h2 => hbad 0 hk2 h2, fun h2 => ?_⟩
        have h2 : ruB (R.getD 0 rl0) = true := by simpa using h2
        have hz := ln_small hs h2
        refine ⟨⟨f144 hT _ hs h2, f143a _ (by omega)⟩, ⟨by omega, by omega⟩, Again.mkR [(21014, 900)] rfl 1 ?_ ⟨hk2, fun i hi => (by obtain rfl : i = 0 := (by omega); exact h2)⟩ (by omega)⟩
        have e : catB R 1 = lnB (rdR (rlD (R.getD 0 rl0))) := by
          rw [ln_rd hs]
          show ByteArray.empty ++ lnB (R.getD 0 rl0) = _
          exact ByteArray.empty_append
        refine AS.leZ [] [0, 1] (b := ((T0 ∧ T0 ∧ T0 ∧ T0 ∧ True) ∧ ((some [(.box 3 0), (.vec 900 1 0 (lnB (rdR (rlD (R.getD (↑0 : Int).toNat rl0)))).size)]) : (Option (List AV))) = (some [(.box 3 0), (.vec 900 1 0 (catB R 1).size)]) ∧ ((some [(.arr ⟨false, 5, false, none⟩ 1 (byteD (lnB (rdR (rlD (R.getD (↑0 : Int).toNat rl0))))))]) : (Option (List AV))) = (some [(.arr ⟨false, 5, false, none⟩ 1 (byteD (catB R 1)))]) ∧ True)) (by kernel_rfl) (by kernel_rfl) ?_
        rw [e]
        exact ⟨⟨rfl, rfl, rfl, rfl, trivial⟩, rfl, rfl, trivial⟩
      · have h1 := of_decide_eq_false h1
        have h0 : R.length = 0 := by omega
        refine walkK (orc := orcFm) (keep := []) (cuts := []) (n := 1000) follows ?_
        refine of_tr (fun _ _ _ _ => (FnM Tryz.prog G 145 [(.tb 1000000 0 146)] [(1000000, [(.d (.con (.pointer none))), (.d (.con (.slice none 0 0)))])] (vi 0) [(1000000, [(.d (.con (.pointer none))), (.d (.con (.slice none 0 0)))])] ∧ ((false = true) → (((ds (ByteArray.mk #[])) : DV) = (ds (fmtR R)))) ∧ ((false = false) → (FnM Tryz.prog G 146 [(.tb 1000000 0 146)] [(1000000, [(.d (.con (.pointer none))), (.d (.con (.slice none 0 0)))])] (vs ByteArray.empty) [(1000000, [(.d (.con (.pointer none))), (.d (.con (.slice none 0 0)))])] ∧ ((ds ByteArray.empty) : DV) = (ds (fmtR R)))))) (by kernel_rfl) ?_
        refine ⟨f145n _, fun h => (by cases h), fun _ => ⟨f146n _ _ (fun β h v hv => hv.1), ?_⟩⟩
        obtain rfl := List.eq_nil_of_length_eq_zero h0
        rfl
    · refine walkK (orc := orcFm) (keep := []) (cuts := []) (n := 1000) follows ?_
      refine of_rd (fun ZT ZW ZQ ZK ZA _ => (fun Za => ((((decide ((↑(k + 1) : Int) < ↑R.length)) = true) → (((0 ≤ (↑(k + 1) : Int)) ∧ ((↑(k + 1) : Int) < ↑R.length)) ∧ ZK 142 [Za] (db (ruB (rdR Za))) ∧ (((!ruB (rdR Za)) = true) → (((ds (ByteArray.mk #[])) : DV) = (ds (fmtR R)))) ∧ (((!ruB (rdR Za)) = false) → ((ZK 144 [Za] (ds (lnB (rdR Za))) ∧ FnM Tryz.prog G 143 [(.tb 1000000 0 146), (vs (lnB (rdR Za)))] [(1000000, [(.box 1000000 0), (.vec 1000001 1 0 (catB R (k + 1)).size)]), (1000001, [(.arr ⟨false, 5, false, none⟩ 1 (byteD (catB R (k + 1))))])] (.d (.tup [(di ((↑(ByteArray.size (lnB (rdR (rlD (List.getD R (Int.toNat (↑(k + 1) : Int)) rl0))))) : Int))), (.con .nilIface)])) [(1000000, [(.box 1000000 0), (.vec 14 1 0 (bB (catB R (k + 1)).size (byteD (catB R (k + 1))) ++ lnB (rdR Za)).size)]), (14, [(.arr ⟨false, 5, false, none⟩ 1 (byteD (bB (catB R (k + 1)).size (byteD (catB R (k + 1))) ++ lnB (rdR Za))))])]) ∧ (I64 (↑(k + 1) + 1)) ∧ (ZA (stS ZT [0, 1])))))) ∧ (((decide ((↑(k + 1) : Int) < ↑R.length)) = false) → ZW [cd Tryz.f114 [1, 1, 1, 1]] (stS ZT [1]) ZQ))) (rlD (R.getD ((↑(k + 1) : Int)).toNat rl0))) (by kernel_rfl) ?_
      refine ⟨fun h1 => ?_, fun h1 => ?_⟩
      · have hk2 : k + 1 < R.length := by have := of_decide_eq_true h1; omega
        have hs := hR (k + 1) hk2
        have hc := cat_small hR (k + 1) (by omega) hkd
        rw [show ((k + 1 : Nat) : Int).toNat = k + 1 from rfl, ru_rd hs, ln_rd hs, bB_eq]
        refine ⟨⟨by omega, by omega⟩, f142 hT _ hs, fun h2 => hbad _ hk2 h2, fun h2 => ?_⟩
        have h2 : ruB (R.getD (k + 1) rl0) = true := by simpa using h2
        have hz := ln_small hs h2
        refine ⟨⟨f144 hT _ hs h2, f143b _ _ (by omega)⟩, ⟨by omega, by omega⟩, Again.mkR [(21014, 900)] rfl (k + 1 + 1) ?_ ⟨hk2, fun i hi => ?_⟩ (by omega)⟩
        · have e : catB R (k + 1 + 1) = bB (catB R (k + 1)).size (byteD (catB R (k + 1))) ++ lnB (rdR (rlD (R.getD (k + 1) rl0))) := by
            rw [ln_rd hs, bB_eq]; rfl
          refine AS.leZ [] [0, 1] (b := ((T0 ∧ T0 ∧ T0 ∧ T0 ∧ True) ∧ ((some [(.box 3 0), (.vec 900 1 0 (bB (catB R (k + 1)).size (byteD (catB R (k + 1))) ++ lnB (rdR (rlD (R.getD ((↑(k + 1) : Int)).toNat rl0)))).size)]) : (Option (List AV))) = (some [(.box 3 0), (.vec 900 1 0 (catB R (k + 1 + 1)).size)]) ∧ ((some [(.arr ⟨false, 5, false, none⟩ 1 (byteD (bB (catB R (k + 1)).size (byteD (catB R (k + 1))) ++ lnB (rdR (rlD (R.getD ((↑(k + 1) : Int)).toNat rl0))))))]) : (Option (List AV))) = (some [(.arr ⟨false, 5, false, none⟩ 1 (byteD (catB R (k + 1 + 1))))]) ∧ True)) (by kernel_rfl) (by kernel_rfl) ?_
          rw [e]
          exact ⟨⟨rfl, rfl, rfl, rfl, trivial⟩, rfl, rfl, trivial⟩
        · rcases Nat.lt_or_ge i (k + 1) with h4 | h4
          · exact hkd i h4
          · obtain rfl : i = k + 1 := by omega
            exact h2
      · have h1 := of_decide_eq_false h1
        obtain h0 : R.length = k + 1 := by omega
        have hc := cat_small hR (k + 1) (by omega) hkd
        refine walkK (orc := orcFm) (keep := []) (cuts := []) (n := 1000) follows ?_
        refine of_tr (fun _ _ _ _ => (fun Za Zb => (FnM Tryz.prog G 145 [(.tb 1000000 0 146)] [(1000000, [(.box 1000000 0), Zb]), (1000001, [Za])] (vi (↑(catB R (k + 1)).size)) [(1000000, [(.box 1000000 0), Zb]), (1000001, [Za])] ∧ (((decide ((↑(catB R (k + 1)).size : Int) > 16384)) = true) → (((ds (ByteArray.mk #[])) : DV) = (ds (fmtR R)))) ∧ (((decide ((↑(catB R (k + 1)).size : Int) > 16384)) = false) → (FnM Tryz.prog G 146 [(.tb 1000000 0 146)] [(1000000, [(.box 1000000 0), Zb]), (1000001, [Za])] (vs (bB (catB R (k + 1)).size (byteD (catB R (k + 1))))) [(1000000, [(.box 1000000 0), Zb]), (1000001, [(.arr ⟨false, 5, true, none⟩ 1 (byteD (catB R (k + 1))))])] ∧ ((ds (bB (catB R (k + 1)).size (byteD (catB R (k + 1))))) : DV) = (ds (fmtR R)))))) ((.arr ⟨false, 5, false, none⟩ 1 (byteD (catB R (k + 1)))) : AV) ((.vec 1000001 1 0 (catB R (k + 1)).size) : AV)) (by kernel_rfl) ?_
        have hf : fmtR R = if (catB R (k + 1)).size > 16384 then .empty else catB R (k + 1) := by
          unfold fmtR
          rw [if_neg hl32, hgood (fun i hi => hkd i (by omega)), if_neg (by decide), h0]
        rw [bB_eq, hf]
        refine ⟨f145 _ _ _ _, fun h2 => ?_, fun h2 => ⟨f146a (.tb 1000000 0 146) _ (fun β h v hv => hv.1) _ (hc.2 (by omega)) (by omega), ?_⟩⟩
        · rw [if_pos (by have := of_decide_eq_true h2; omega)]; rfl
        · rw [if_neg (by have := of_decide_eq_false h2; omega)]
end Go.Proofs
