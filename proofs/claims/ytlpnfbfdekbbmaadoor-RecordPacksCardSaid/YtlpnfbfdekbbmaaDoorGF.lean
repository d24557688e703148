import Derived.Test.YtlpnfbfdekbbmaaDoorGE
import Derived.Test.YtlpnfbfdekbbmaaDoorAcC
set_option autoImplicit false
namespace Go.Proofs
open Go Go.Ab
/-! A sum tells whether one byte has turned. -/
def mulP (x : BitVec 64) : BitVec 64 := x * 1099511628211#64
theorem mulP_inj {x y : BitVec 64} (h : mulP x = mulP y) : x = y := by
  have e : 1099511628211#64 * 14886173955864302971#64 = 1#64 := by decide
  have := congrArg (· * 14886173955864302971#64) h
  simp only [mulP, BitVec.mul_assoc, e, BitVec.mul_one] at this
  exact this
theorem fnv_bv (h b : Int) : fnv h b = ((mulP (BitVec.ofInt 64 h ^^^ BitVec.ofInt 64 (IntKind.wrap .u64 b))).toNat : Int) := by
  unfold fnv mulP
  show IntKind.wrap .u64 (IntKind.wrap .u64 ((BitVec.ofInt 64 h ^^^ BitVec.ofInt 64 (IntKind.wrap .u64 b)).toNat : Int) * 1099511628211) = _
  generalize BitVec.ofInt 64 h ^^^ BitVec.ofInt 64 (IntKind.wrap .u64 b) = x
  rw [u64_nat x.toNat x.isLt, BitVec.toNat_mul]
  have e : (x.toNat : Int) * 1099511628211 = ((x.toNat * 1099511628211 : Nat) : Int) := (Int.natCast_mul _ _).symm
  rw [e]
  have e2 : (1099511628211#64).toNat = 1099511628211 := rfl
  rw [e2]
  rfl
theorem ofInt_inj {a b : Int} (ha : 0 ≤ a ∧ a < 18446744073709551616) (hb : 0 ≤ b ∧ b < 18446744073709551616) (h : BitVec.ofInt 64 a = BitVec.ofInt 64 b) : a = b := by
  have := congrArg BitVec.toNat h
  simp only [BitVec.toNat_ofInt] at this
  omega
theorem xor_left {x y z : BitVec 64} (h : x ^^^ z = y ^^^ z) : x = y := by
  have := congrArg (· ^^^ z) h
  simpa [BitVec.xor_assoc] using this
theorem xor_right {x y z : BitVec 64} (h : z ^^^ x = z ^^^ y) : x = y := by
  rw [BitVec.xor_comm z x, BitVec.xor_comm z y] at h
  exact xor_left h
theorem fnv_eq {h h' b b' : Int} (e : fnv h b = fnv h' b') : BitVec.ofInt 64 h ^^^ BitVec.ofInt 64 (IntKind.wrap .u64 b) = BitVec.ofInt 64 h' ^^^ BitVec.ofInt 64 (IntKind.wrap .u64 b') := by
  rw [fnv_bv, fnv_bv] at e
  exact mulP_inj (BitVec.eq_of_toNat_eq (by omega))
theorem fnv_bd (h b : Int) : 0 ≤ fnv h b ∧ fnv h b < 18446744073709551616 := by
  rw [fnv_bv]
  have := (mulP (BitVec.ofInt 64 h ^^^ BitVec.ofInt 64 (IntKind.wrap .u64 b))).isLt
  omega
/-- The sum of a list of bytes, from h on. -/
def sumF (h : Int) : List UInt8 → Int
  | [] => h
  | c :: l => sumF (fnv h (c.toNat : Int)) l
theorem sumF_app (h : Int) (a b : List UInt8) : sumF h (a ++ b) = sumF (sumF h a) b := by
  induction a generalizing h with
  | nil => rfl
  | cons c a ih => exact ih _
theorem sumF_bd {h : Int} (hh : 0 ≤ h ∧ h < 18446744073709551616) (l : List UInt8) : 0 ≤ sumF h l ∧ sumF h l < 18446744073709551616 := by
  induction l generalizing h with
  | nil => exact hh
  | cons c l ih => exact ih (fnv_bd _ _)
theorem sumF_inj {h h' : Int} (hh : 0 ≤ h ∧ h < 18446744073709551616) (hh' : 0 ≤ h' ∧ h' < 18446744073709551616) (l : List UInt8) (e : sumF h l = sumF h' l) : h = h' := by
  induction l generalizing h h' with
  | nil => exact e
  | cons c l ih =>
    have := ih (fnv_bd _ _) (fnv_bd _ _) e
    exact ofInt_inj hh hh' (xor_left (fnv_eq this))
theorem sumF_byte {h : Int} {c c' : UInt8} {l : List UInt8} (e : sumF h (c :: l) = sumF h (c' :: l)) : c = c' := by
  have h1 := sumF_inj (fnv_bd _ _) (fnv_bd _ _) l e
  have h2 := xor_right (fnv_eq h1)
  have b1 := c.toNat_lt
  have b2 := c'.toNat_lt
  rw [u64_nat _ (by omega), u64_nat _ (by omega)] at h2
  have := ofInt_inj (by omega) (by omega) h2
  exact UInt8.toNat_inj.1 (by omega)
theorem sumI_F (l : List UInt8) : ∀ i, i ≤ l.length → sumI (bs l) i = sumF 14695981039346656037 (l.take i)
  | 0, _ => by simp [sumI, sumF]
  | i + 1, h => by
    rw [List.take_succ_eq_append_getElem (by omega), sumF_app, ← sumI_F l i (by omega)]
    simp only [sumI, sumF]
    rw [byteAt_bs, List.getElem?_eq_getElem (by omega), Option.getD_some]
theorem sumN_F (l : List UInt8) : ((sumN l : Nat) : Int) = sumF 14695981039346656037 l := by
  unfold sumN
  rw [Int.toNat_of_nonneg (sumI_bd _ _).1, sumI_F l _ (Nat.le_refl _), List.take_length]
theorem sumN_lt (l : List UInt8) : sumN l < 18446744073709551616 := by
  have := (sumI_bd (bs l) l.length).2
  unfold sumN; omega
theorem sumN_set {l : List UInt8} {j : Nat} {c : UInt8} (hj : j < l.length) (e : sumN (l.set j c) = sumN l) : l[j] = c := by
  have h1 : l.set j c = l.take j ++ c :: l.drop (j + 1) := List.set_eq_take_append_cons_drop.trans (by rw [if_pos hj])
  have h2 : l = l.take j ++ l[j] :: l.drop (j + 1) := by simp
  have e2 : sumF 14695981039346656037 (l.set j c) = sumF 14695981039346656037 l := by
    rw [← sumN_F, ← sumN_F, e]
  rw [h1] at e2
  conv at e2 => rhs; rw [h2]
  rw [sumF_app, sumF_app] at e2
  exact (sumF_byte e2).symm
end Go.Proofs

set_option autoImplicit false
namespace Go.Proofs
open Go Go.Ab
theorem hexC_lt : ∀ k, k < 16 → (hexC k).toNat < 128 := by decide
theorem hexL_lt (n w : Nat) : ∀ b ∈ hexL n w, b.toNat < 128 := by
  intro b hb
  simp only [hexL, List.mem_map] at hb
  obtain ⟨i, _, rfl⟩ := hb
  exact hexC_lt _ (Nat.mod_lt _ (by decide))
theorem bodyP_lt (g : Nat) (p : ByteArray) : ∀ n, ∀ b ∈ bodyP g p n, b.toNat < 128
  | 0, b, hb => by
    simp only [bodyP, List.mem_append] at hb
    rcases hb with h | h <;> exact hexL_lt _ _ b h
  | n + 1, b, hb => by
    simp only [bodyP, List.mem_append] at hb
    rcases hb with h | h
    · exact bodyP_lt g p n b h
    · exact hexL_lt _ _ b h
theorem bodyL_lt (g : Nat) (p : ByteArray) : ∀ b ∈ bodyL g p, b.toNat < 128 := bodyP_lt g p _
theorem bodyL_len (g : Nat) (p : ByteArray) : (bodyL g p).length = 24 + 2 * p.size := bodyP_len g p _
theorem stampC_ge (g j : Nat) : 128 ≤ (stampC g j).toNat := by
  unfold stampC
  have : g / 128 ^ (8 - j) % 128 < 128 := Nat.mod_lt _ (by decide)
  rw [UInt8.toNat_ofNat']; omega
theorem stampL_ge (g : Nat) : ∀ b ∈ stampL g, 128 ≤ b.toNat := by
  intro b hb
  simp only [stampL, List.mem_map] at hb
  obtain ⟨i, _, rfl⟩ := hb
  exact stampC_ge _ _
/-- The parts of a record: the R, the sum, the body, the stamp. -/
theorem encL_parts (g : Nat) (p : ByteArray) : encL g p = ([82] ++ hexL (sumN (bodyL g p)) 16) ++ (bodyL g p ++ stampL g) := by
  unfold encL
  generalize sumN (bodyL g p) = z
  simp only [List.append_assoc]
theorem encL_front_len (z : Nat) : ([82] ++ hexL z 16).length = 17 := by rw [List.length_append, hexL_len]; rfl
/-- The bytes ahead of the stamp are below 128. -/
theorem encL_low (g : Nat) (p : ByteArray) {i : Nat} (h : i < 41 + 2 * p.size) : ∃ b, (encL g p)[i]? = some b ∧ b.toNat < 128 := by
  have hl := encL_len g p
  have hi : i < (encL g p).length := by omega
  refine ⟨(encL g p)[i], List.getElem?_eq_getElem hi, ?_⟩
  have hm : (encL g p)[i] ∈ ([82] ++ hexL (sumN (bodyL g p)) 16) ++ bodyL g p := by
    have e : encL g p = (([82] ++ hexL (sumN (bodyL g p)) 16) ++ bodyL g p) ++ stampL g := rfl
    have hlt : i < (([82] ++ hexL (sumN (bodyL g p)) 16) ++ bodyL g p).length := by rw [List.length_append, encL_front_len, bodyL_len]; omega
    have h1 : (encL g p)[i]? = (([82] ++ hexL (sumN (bodyL g p)) 16) ++ bodyL g p)[i]? := by
      conv => lhs; rw [e]
      exact List.getElem?_append_left hlt
    rw [List.getElem?_eq_getElem hi] at h1
    exact List.mem_of_getElem? h1.symm
  simp only [List.mem_append, List.mem_singleton] at hm
  rcases hm with (h | h) | h
  · rw [h]; decide
  · exact hexL_lt _ _ _ h
  · exact bodyL_lt _ _ _ h
/-- Those of the stamp are not. -/
theorem encL_high (g : Nat) (p : ByteArray) {i : Nat} (h1 : 41 + 2 * p.size ≤ i) (h2 : i < 50 + 2 * p.size) : ∃ b, (encL g p)[i]? = some b ∧ 128 ≤ b.toNat := by
  have e : encL g p = (([82] ++ hexL (sumN (bodyL g p)) 16) ++ bodyL g p) ++ stampL g := rfl
  have hf : (([82] ++ hexL (sumN (bodyL g p)) 16) ++ bodyL g p).length = 41 + 2 * p.size := by rw [List.length_append, encL_front_len, bodyL_len]; omega
  have hs := stampL_len g
  have hj : i - (41 + 2 * p.size) < (stampL g).length := by omega
  refine ⟨(stampL g)[i - (41 + 2 * p.size)], ?_, stampL_ge g _ (List.getElem_mem hj)⟩
  rw [e, List.getElem?_append_right (by omega), hf, List.getElem?_eq_getElem hj]
theorem prefix_get {a b : List UInt8} (h : a <+: b) {i : Nat} (hi : i < a.length) : b[i]? = a[i]? := by
  obtain ⟨t, rfl⟩ := h
  exact List.getElem?_append_left hi
theorem set_window {l : List UInt8} {j a n : Nat} {c : UInt8} (h : j < a ∨ a + n ≤ j) : ((l.set j c).drop a).take n = (l.drop a).take n := by
  apply List.ext_getElem?
  intro k
  rw [List.getElem?_take, List.getElem?_take]
  split
  · rename_i hk
    rw [List.getElem?_drop, List.getElem?_drop, List.getElem?_set_ne (by omega)]
  · rfl
/-- A record, one byte of it turned, is none. -/
theorem damaged {g : Nat} {p : ByteArray} {j : Nat} {c : UInt8} (T : List UInt8) (hp : p.size ≤ 30000) (hj : j < (encL g p).length) (hc : (encL g p)[j] ≠ c) : decSpec g ((encL g p).set j c ++ T) = none := by
  refine decSpec_none fun q hq hpre => ?_
  have hl := encL_len g p
  have hlq := encL_len g q
  have hE : ((encL g p).set j c).length = 50 + 2 * p.size := by rw [List.length_set, hl]
  -- the sizes are the same
  have hsize : q.size = p.size := by
    by_cases hw : 33 ≤ j ∧ j < 41
    · rcases Nat.lt_trichotomy q.size p.size with h | h | h
      · exfalso
        obtain ⟨b, hb, hb2⟩ := encL_high g q (i := 41 + 2 * q.size) (Nat.le_refl _) (by omega)
        obtain ⟨b', hb', hb2'⟩ := encL_low g p (i := 41 + 2 * q.size) (by omega)
        have h1 := prefix_get hpre (i := 41 + 2 * q.size) (by omega)
        rw [List.getElem?_append_left (by omega), List.getElem?_set_ne (by omega), hb', hb] at h1
        injection h1 with h1
        subst h1; omega
      · exact h
      · exfalso
        obtain ⟨b, hb, hb2⟩ := encL_low g q (i := 41 + 2 * p.size) (by omega)
        obtain ⟨b', hb', hb2'⟩ := encL_high g p (i := 41 + 2 * p.size) (Nat.le_refl _) (by omega)
        have h1 := prefix_get hpre (i := 41 + 2 * p.size) (by omega)
        rw [List.getElem?_append_left (by omega), List.getElem?_set_ne (by omega), hb', hb] at h1
        injection h1 with h1
        subst h1; omega
    · have h1 := (read_enc hpre).2.1
      rw [List.drop_append_of_le_length (by omega), List.take_append_of_le_length (by rw [List.length_drop]; omega), set_window (by omega)] at h1
      have h2 := (read_enc (List.prefix_refl (encL g p))).2.1
      rw [h2] at h1
      exact (hexL_inj' h1 (by omega) (by omega)).symm
  -- so it is that record
  have heq : (encL g p).set j c = encL g q := by
    have := List.prefix_of_prefix_length_le (List.prefix_append ((encL g p).set j c) T) hpre (by rw [hE, hlq, hsize]; exact Nat.le_refl _)
    exact this.eq_of_length (by rw [hE, hlq, hsize])
  have hne : encL g p ≠ encL g q := by
    intro e
    rw [← e] at heq
    have : ((encL g p).set j c)[j]? = some c := by rw [List.getElem?_set_self hj]
    rw [heq, List.getElem?_eq_getElem hj] at this
    exact hc (by simpa using this)
  have key : ∀ (A A' B B' : List UInt8), A.length = 17 → A'.length = 17 → (A ++ (B ++ stampL g)).set j c = A' ++ (B' ++ stampL g) → B.length = B'.length → B.length = 24 + 2 * p.size →
      (j < 17 ∧ A.set j c = A' ∧ B = B') ∨ (17 ≤ j ∧ j < 41 + 2 * p.size ∧ A = A' ∧ B.set (j - 17) c = B') ∨ (41 + 2 * p.size ≤ j ∧ A = A' ∧ B = B') := by
    intro A A' B B' hA hA' e hB hB2
    rw [List.set_append] at e
    by_cases h1 : j < 17
    · rw [if_pos (by omega)] at e
      obtain ⟨e1, e2⟩ := List.append_inj e (by rw [List.length_set]; omega)
      exact .inl ⟨h1, e1, (List.append_inj e2 hB).1⟩
    · rw [if_neg (by omega), hA] at e
      obtain ⟨e1, e2⟩ := List.append_inj e (by omega)
      rw [List.set_append] at e2
      by_cases h2 : j < 41 + 2 * p.size
      · rw [if_pos (by omega)] at e2
        exact .inr (.inl ⟨by omega, h2, e1, (List.append_inj e2 (by rw [List.length_set]; exact hB)).1⟩)
      · rw [if_neg (by omega)] at e2
        exact .inr (.inr ⟨by omega, e1, (List.append_inj e2 hB).1⟩)
  have hparts := heq
  rw [encL_parts g p, encL_parts g q] at hparts
  have hbl : (bodyL g p).length = (bodyL g q).length := by rw [bodyL_len, bodyL_len, hsize]
  rcases key _ _ _ _ (encL_front_len _) (encL_front_len _) hparts hbl (bodyL_len g p) with ⟨_, _, hB⟩ | ⟨h1, h2, hA, hB⟩ | ⟨_, hA, hB⟩
  · exact hne (by rw [encL_parts g p, encL_parts g q, hB])
  · have hs := (List.append_inj hA rfl).2
    have hs' := hexL_inj' hs (by have := sumN_lt (bodyL g p); omega) (by have := sumN_lt (bodyL g q); omega)
    rw [← hB] at hs'
    have hjl : j - 17 < (bodyL g p).length := by rw [bodyL_len]; omega
    have := sumN_set hjl hs'.symm
    apply hne
    rw [encL_parts g p, encL_parts g q, ← hB]
    have e : (bodyL g p).set (j - 17) c = bodyL g p := by rw [← this]; exact List.set_getElem_self hjl
    rw [e]
  · exact hne (by rw [encL_parts g p, encL_parts g q, hB])
end Go.Proofs

set_option autoImplicit false
namespace Go.Proofs
open Go Go.Ab Go.RowKit
set_option maxHeartbeats 1000000
set_option maxRecDepth 100000
variable {G : IH}
theorem xor_byte (b : UInt8) {m : Int} (hm : 0 < m ∧ m < 256) : ∃ c : UInt8, b ≠ c ∧ IntKind.wrap .u8 ((BitVec.ofInt (IntKind.bits .u8) (b.toNat : Int) ^^^ BitVec.ofInt (IntKind.bits .u8) m).toNat : Int) = (c.toNat : Int) := by
  obtain ⟨m, rfl⟩ := Int.eq_ofNat_of_zero_le (show 0 ≤ m by omega)
  have e1 : BitVec.ofInt (IntKind.bits .u8) (b.toNat : Int) = b.toBitVec := by
    show BitVec.ofInt 8 (b.toNat : Int) = b.toBitVec
    rw [BitVec.ofInt_natCast]
    exact BitVec.ofNat_toNat ..
  have e2 : BitVec.ofInt (IntKind.bits .u8) (m : Int) = BitVec.ofNat 8 m := by
    show BitVec.ofInt 8 (m : Int) = _
    rw [BitVec.ofInt_natCast]
  refine ⟨⟨b.toBitVec ^^^ BitVec.ofNat 8 m⟩, fun e => ?_, ?_⟩
  · have h1 : b.toBitVec = b.toBitVec ^^^ BitVec.ofNat 8 m := congrArg UInt8.toBitVec e
    have h2 := congrArg (b.toBitVec ^^^ ·) h1
    simp only [← BitVec.xor_assoc, BitVec.xor_self, BitVec.zero_xor] at h2
    have h3 := congrArg BitVec.toNat h2
    simp at h3
    omega
  · rw [e1, e2]
    have := (b.toBitVec ^^^ BitVec.ofNat 8 m).isLt
    exact u8_nat _ this
theorem set_row {R : List UInt8} {i : Nat} (hi : i < R.length) (c : UInt8) (v : Int) (hv : v = (c.toNat : Int)) : (fun j => bif Nat.beq j i then DV.con (Value.int IntKind.u8 v) else byteD (bs R) j) = byteL (R.set i c) := by
  funext j
  by_cases h : j = i
  · subst h
    rw [nbeq_self, cond_true, hv]
    simp [byteL, hi]
  · rw [nbeq_ne h, cond_false, byteD_L]
    simp only [byteL]
    rw [List.getElem?_set_ne (Ne.symm h)]
    rfl
theorem walkL_damage {g : Nat} (hg : okGen (g : Int) = true) (l : List ByteArray) (hl : ∀ p ∈ l, p.size ≤ 30000) {k i : Nat} {c : UInt8} (hk : k < l.length) (h1 : recLen (l.take k) ≤ i) (h2 : i < recLen (l.take (k + 1))) (hi : i < (recsL g l).length) (hc : (recsL g l)[i] ≠ c) :
    walkL (g : Int) (bs ((recsL g l).set i c)) = l.take k := by
  have hp : (sAt l k).size ≤ 30000 := by rw [sAt_get hk]; exact hl _ (List.getElem_mem hk)
  have e : recsL g l = recsL g (l.take k) ++ (encL g (sAt l k) ++ recsL g (l.drop (k + 1))) := by
    have h1 : l = l.take (k + 1) ++ l.drop (k + 1) := (List.take_append_drop ..).symm
    conv => lhs; rw [h1]
    rw [recsL_app, List.take_succ_eq_append_getElem hk, recsL_app, sAt_get hk]
    simp only [recsL, List.append_nil, List.append_assoc]
  have e2 : recLen (l.take (k + 1)) = recLen (l.take k) + (50 + 2 * (sAt l k).size) := by
    rw [List.take_succ_eq_append_getElem hk, recLen_app, sAt_get hk]; simp [recLen]
  have hlen := encL_len g (sAt l k)
  have hj : i - recLen (l.take k) < (encL g (sAt l k)).length := by omega
  have e3 : (recsL g l).set i c = recsL g (l.take k) ++ ((encL g (sAt l k)).set (i - recLen (l.take k)) c ++ recsL g (l.drop (k + 1))) := by
    rw [e, List.set_append, if_neg (by rw [recsL_len]; omega), recsL_len, List.set_append, if_pos hj]
  rw [e3]
  refine walkL_recs hg (damaged _ hp hj ?_) _ fun p hp => hl p (List.mem_of_mem_take hp)
  have e4 : (recsL g l)[i]? = some ((encL g (sAt l k))[i - recLen (l.take k)]) := by
    rw [e, List.getElem?_append_right (by rw [recsL_len]; omega), recsL_len, List.getElem?_append_left hj, List.getElem?_eq_getElem hj]
  rw [List.getElem?_eq_getElem hi] at e4
  injection e4 with e4
  rw [← e4]; exact hc
noncomputable def S4 (g : Nat) (l : List ByteArray) (X : List UInt8) (i : Nat) (k : Nat) : AS := ⟨regs Tryd.f4.ntmps [(0, vi g), (1, .d (strs l.length (sAt l))), (10, .d (.slc 1 (l.length + 1) (offF l))), (12, .vec 49 1 0 (recLen l)), (13, vi i), (14, vi k)], [(49, [.arr byteK 1 (byteL X)])]⟩
theorem byteL_at (l : List UInt8) (n : Nat) : BytesAt n (fun i => byteL l (0 + i)) := by
  intro i hi
  simp [byteL, byteOfD]
theorem byteL_bytes (l : List UInt8) : bytesOf l.length (fun i => byteL l (0 + i)) = l := by
  simp only [Nat.zero_add]
  exact bytesOf_L l
theorem f4 (hT : Tab G) (g : Int) (l : List ByteArray) (c m : Int) (hn : l.length ≤ 9223372036854775807) (hc : 0 ≤ c ∧ c < 65536) (hm : 0 ≤ m ∧ m < 256) : FnOK Tryd.prog G 4 [di g, strs l.length (sAt l), .con (.int .u16 c), .con (.int .u8 m)] (db true) := by
  refine FnOK.walk (orc := orcLw) (keep := []) follows Tryd.func4 rfl Tryd.call4 ?_
  refine of_eqH (b :=
    (FnOK Tryd.prog G ((10 : Nat)) [] (.con (.bool true)) ∧
    (((false = true) →
    (((.con (.bool false)) : DV) = (db true))) ∧
    ((false = false) →
    (FnOK Tryd.prog G ((14 : Nat)) [(.slc ((1 : Nat)) (List.length l) (fun i => DV.con (Value.string (sAt l i)))), (.con (.int .i64 ((6 : Int)))), (.con (.int .i64 ((60 : Int))))] (.con (.bool (fewB (List.length l) (fun i => DV.con (Value.string (sAt l i))) (6 : Int) (60 : Int)))) ∧
    ((((!fewB (List.length l) (fun i => DV.con (Value.string (sAt l i))) (6 : Int) (60 : Int) || (↑(List.length l) : Int) == (0 : Int) || decide (g < (1 : Int)) || decide (g > (1099511627776 : Int)) || m == (0 : Int)) = true) →
    (((.con (.bool true)) : DV) = (db true))) ∧
    (((!fewB (List.length l) (fun i => DV.con (Value.string (sAt l i))) (6 : Int) (60 : Int) || (↑(List.length l) : Int) == (0 : Int) || decide (g < (1 : Int)) || decide (g > (1099511627776 : Int)) || m == (0 : Int)) = false) →
    (FnOK Tryd.prog G ((15 : Nat)) [(.con (.int .i64 g)), (.slc ((1 : Nat)) (List.length l) (fun i => DV.con (Value.string (sAt l i))))] (.tup [(.con (.string (bs (recsL (Int.toNat g) (lst (List.length l) fun i => DV.con (Value.string (sAt l i))))))), (.slc ((1 : Nat)) (List.length l + (1 : Nat)) (offF (lst (List.length l) fun i => DV.con (Value.string (sAt l i))))), (.con (.bool true))]) ∧
    (((false = true) →
    (((.con (.bool false)) : DV) = (db true))) ∧
    ((false = false) →
    (((↑(ByteArray.size (bs (recsL (Int.toNat g) (lst (List.length l) fun i => DV.con (Value.string (sAt l i)))))) : Int) ≠ (0 : Int)) ∧
    (((((0 : Int) ≤ Int.tmod (IntKind.wrap IntKind.i64 c) (↑(ByteArray.size (bs (recsL (Int.toNat g) (lst (List.length l) fun i => DV.con (Value.string (sAt l i)))))) : Int)) ∧
    (Int.tmod (IntKind.wrap IntKind.i64 c) (↑(ByteArray.size (bs (recsL (Int.toNat g) (lst (List.length l) fun i => DV.con (Value.string (sAt l i)))))) : Int) < (↑(ByteArray.size (bs (recsL (Int.toNat g) (lst (List.length l) fun i => DV.con (Value.string (sAt l i)))))) : Int))) ∧
    (((0 : Int) ≤ Int.tmod (IntKind.wrap IntKind.i64 c) (↑(ByteArray.size (bs (recsL (Int.toNat g) (lst (List.length l) fun i => DV.con (Value.string (sAt l i)))))) : Int)) ∧
    (Int.tmod (IntKind.wrap IntKind.i64 c) (↑(ByteArray.size (bs (recsL (Int.toNat g) (lst (List.length l) fun i => DV.con (Value.string (sAt l i)))))) : Int) < (↑(ByteArray.size (bs (recsL (Int.toNat g) (lst (List.length l) fun i => DV.con (Value.string (sAt l i)))))) : Int)))) ∧
    AWP Tryd.prog G [.code (cAt (bodyOf Tryd.f4) [1, 1, 1, 1, 1, 1, 1, 1, 1, 0, 0]), (.blk ((0 : Nat))), .code (cAt (bodyOf Tryd.f4) [1, 1, 1, 1, 1, 1, 1, 1, 1, 1])] ⟨[(.d (.con (.int .i64 g))), (.d (.slc ((1 : Nat)) (List.length l) (fun i => DV.con (Value.string (sAt l i))))), (.d (.con (.int .u16 c))), (.d (.con (.int .u8 m))), .any, .any, .any, .any, (.d (.con (.bool false))), (.d (.con (.string (bs (recsL (Int.toNat g) (lst (List.length l) fun i => DV.con (Value.string (sAt l i)))))))), (.d (.slc ((1 : Nat)) (List.length l + (1 : Nat)) (offF (lst (List.length l) fun i => DV.con (Value.string (sAt l i)))))), (.d (.con (.bool true))), (.vec ((49 : Nat)) ((1 : Nat)) ((0 : Nat)) (ByteArray.size (bs (recsL (Int.toNat g) (lst (List.length l) fun i => DV.con (Value.string (sAt l i))))))), (.d (.con (.int .i64 (Int.tmod (IntKind.wrap IntKind.i64 c) (↑(ByteArray.size (bs (recsL (Int.toNat g) (lst (List.length l) fun i => DV.con (Value.string (sAt l i)))))) : Int))))), (.d (.con (.int .i64 ((0 : Int))))), .any, .any, (.d (.con (.bool true))), (.d (.con (.bool false))), (.d (.slc ((1 : Nat)) (List.length l) (fun i => DV.con (Value.string (sAt l i))))), (.d (.con (.bool (fewB (List.length l) (fun i => DV.con (Value.string (sAt l i))) (6 : Int) (60 : Int))))), (.d (.con (.bool (!fewB (List.length l) (fun i => DV.con (Value.string (sAt l i))) (6 : Int) (60 : Int))))), (.d (.con (.bool (!fewB (List.length l) (fun i => DV.con (Value.string (sAt l i))) (6 : Int) (60 : Int))))), .any, .any, .any, (.d (.con (.bool (!fewB (List.length l) (fun i => DV.con (Value.string (sAt l i))) (6 : Int) (60 : Int) || (↑(List.length l) : Int) == (0 : Int))))), (.d (.con (.bool (!fewB (List.length l) (fun i => DV.con (Value.string (sAt l i))) (6 : Int) (60 : Int) || (↑(List.length l) : Int) == (0 : Int))))), .any, .any, (.d (.con (.bool (!fewB (List.length l) (fun i => DV.con (Value.string (sAt l i))) (6 : Int) (60 : Int) || (↑(List.length l) : Int) == (0 : Int) || decide (g < (1 : Int)))))), (.d (.con (.bool (!fewB (List.length l) (fun i => DV.con (Value.string (sAt l i))) (6 : Int) (60 : Int) || (↑(List.length l) : Int) == (0 : Int) || decide (g < (1 : Int)))))), .any, .any, (.d (.con (.bool (!fewB (List.length l) (fun i => DV.con (Value.string (sAt l i))) (6 : Int) (60 : Int) || (↑(List.length l) : Int) == (0 : Int) || decide (g < (1 : Int)) || decide (g > (1099511627776 : Int)))))), (.d (.con (.bool (!fewB (List.length l) (fun i => DV.con (Value.string (sAt l i))) (6 : Int) (60 : Int) || (↑(List.length l) : Int) == (0 : Int) || decide (g < (1 : Int)) || decide (g > (1099511627776 : Int)))))), .any, .any, (.d (.con (.bool (!fewB (List.length l) (fun i => DV.con (Value.string (sAt l i))) (6 : Int) (60 : Int) || (↑(List.length l) : Int) == (0 : Int) || decide (g < (1 : Int)) || decide (g > (1099511627776 : Int)) || m == (0 : Int))))), (.d (.tup [(.con (.string (bs (recsL (Int.toNat g) (lst (List.length l) fun i => DV.con (Value.string (sAt l i))))))), (.slc ((1 : Nat)) (List.length l + (1 : Nat)) (offF (lst (List.length l) fun i => DV.con (Value.string (sAt l i))))), (.con (.bool true))])), (.d (.con (.int .i64 g))), (.d (.slc ((1 : Nat)) (List.length l) (fun i => DV.con (Value.string (sAt l i))))), (.d (.tup [(.con (.string (bs (recsL (Int.toNat g) (lst (List.length l) fun i => DV.con (Value.string (sAt l i))))))), (.slc ((1 : Nat)) (List.length l + (1 : Nat)) (offF (lst (List.length l) fun i => DV.con (Value.string (sAt l i))))), (.con (.bool true))])), (.d (.con (.string (bs (recsL (Int.toNat g) (lst (List.length l) fun i => DV.con (Value.string (sAt l i)))))))), (.d (.slc ((1 : Nat)) (List.length l + (1 : Nat)) (offF (lst (List.length l) fun i => DV.con (Value.string (sAt l i)))))), (.d (.con (.bool true))), (.d (.con (.bool true))), (.d (.con (.bool false))), (.d (.con (.string (bs (recsL (Int.toNat g) (lst (List.length l) fun i => DV.con (Value.string (sAt l i)))))))), (.vec ((49 : Nat)) ((1 : Nat)) ((0 : Nat)) (ByteArray.size (bs (recsL (Int.toNat g) (lst (List.length l) fun i => DV.con (Value.string (sAt l i))))))), (.d (.con (.int .u16 c))), (.d (.con (.int .i64 (IntKind.wrap IntKind.i64 c)))), (.vec ((49 : Nat)) ((1 : Nat)) ((0 : Nat)) (ByteArray.size (bs (recsL (Int.toNat g) (lst (List.length l) fun i => DV.con (Value.string (sAt l i))))))), (.d (.con (.int .i64 ((↑(ByteArray.size (bs (recsL (Int.toNat g) (lst (List.length l) fun i => DV.con (Value.string (sAt l i)))))) : Int))))), (.d (.con (.int .i64 (Int.tmod (IntKind.wrap IntKind.i64 c) (↑(ByteArray.size (bs (recsL (Int.toNat g) (lst (List.length l) fun i => DV.con (Value.string (sAt l i)))))) : Int))))), (.vec ((49 : Nat)) ((1 : Nat)) ((0 : Nat)) (ByteArray.size (bs (recsL (Int.toNat g) (lst (List.length l) fun i => DV.con (Value.string (sAt l i))))))), (.d (.con (.int .i64 (Int.tmod (IntKind.wrap IntKind.i64 c) (↑(ByteArray.size (bs (recsL (Int.toNat g) (lst (List.length l) fun i => DV.con (Value.string (sAt l i)))))) : Int))))), (.elem ((49 : Nat)) ((1 : Nat)) ((0 : Nat) + Int.toNat (Int.tmod (IntKind.wrap IntKind.i64 c) (↑(ByteArray.size (bs (recsL (Int.toNat g) (lst (List.length l) fun i => DV.con (Value.string (sAt l i)))))) : Int))) ((0 : Nat))), (.d (.con (.int .u8 (byteAt (bs (recsL (Int.toNat g) (lst (List.length l) fun i => DV.con (Value.string (sAt l i))))) ((0 : Nat) + Int.toNat (Int.tmod (IntKind.wrap IntKind.i64 c) (↑(ByteArray.size (bs (recsL (Int.toNat g) (lst (List.length l) fun i => DV.con (Value.string (sAt l i)))))) : Int))))))), (.d (.con (.int .u8 m))), (.d (.con (.int .u8 (IntKind.wrap IntKind.u8 (↑(BitVec.toNat (BitVec.ofInt (IntKind.bits IntKind.u8) (byteAt (bs (recsL (Int.toNat g) (lst (List.length l) fun i => DV.con (Value.string (sAt l i))))) ((0 : Nat) + Int.toNat (Int.tmod (IntKind.wrap IntKind.i64 c) (↑(ByteArray.size (bs (recsL (Int.toNat g) (lst (List.length l) fun i => DV.con (Value.string (sAt l i)))))) : Int)))) ^^^ BitVec.ofInt (IntKind.bits IntKind.u8) m)) : Int))))), (.elem ((49 : Nat)) ((1 : Nat)) ((0 : Nat) + Int.toNat (Int.tmod (IntKind.wrap IntKind.i64 c) (↑(ByteArray.size (bs (recsL (Int.toNat g) (lst (List.length l) fun i => DV.con (Value.string (sAt l i)))))) : Int))) ((0 : Nat))), .any, .any, .any, .any, .any, .any, .any, .any, .any, .any, .any, .any, .any, .any, .any, .any, .any, .any, .any, .any, .any, .any, .any, .any, .any, .any, .any, .any, .any], [(((49 : Nat)), [(.arr ⟨false, ((5 : Nat)), false⟩ ((1 : Nat)) (fun j => bif Nat.beq j ((0 : Nat) + Int.toNat (Int.tmod (IntKind.wrap IntKind.i64 c) (↑(ByteArray.size (bs (recsL (Int.toNat g) (lst (List.length l) fun i => DV.con (Value.string (sAt l i)))))) : Int))) then DV.con (Value.int IntKind.u8 (IntKind.wrap IntKind.u8 (↑(BitVec.toNat (BitVec.ofInt (IntKind.bits IntKind.u8) (byteAt (bs (recsL (Int.toNat g) (lst (List.length l) fun i => DV.con (Value.string (sAt l i))))) ((0 : Nat) + Int.toNat (Int.tmod (IntKind.wrap IntKind.i64 c) (↑(ByteArray.size (bs (recsL (Int.toNat g) (lst (List.length l) fun i => DV.con (Value.string (sAt l i)))))) : Int)))) ^^^ BitVec.ofInt (IntKind.bits IntKind.u8) m)) : Int))) else byteD (bs (recsL (Int.toNat g) (lst (List.length l) fun i => DV.con (Value.string (sAt l i))))) j))])]⟩ (Ret Tryd.prog Tryd.f4 (db true)))))))))))))) (by kernel_rfl) ?_
  simp only [lst_sAt]
  refine ⟨f10 hT, fun h => by simp at h, fun _ => ⟨f14' l 6 60 hn, fun _ => trivial, fun h4 => ?_⟩⟩
  have h4 : fewB l.length (fun i => ds (sAt l i)) 6 60 = true ∧ l.length ≠ 0 ∧ 1 ≤ g ∧ g ≤ 1099511627776 ∧ m ≠ 0 := by
    simp at h4
    exact ⟨h4.1.1.1.1, fun e => h4.1.1.1.2 (List.eq_nil_of_length_eq_zero e), by omega, by omega, h4.2⟩
  obtain ⟨hf, hne, hg1, hg2, hm0⟩ := h4
  obtain ⟨hl1, hl2⟩ := fewB_mem hf
  obtain ⟨g, rfl⟩ := Int.eq_ofNat_of_zero_le (show 0 ≤ g by omega)
  have hg : okGen (g : Int) = true := (okGen_iff _).2 ⟨hg1, hg2⟩
  have hl3 : ∀ p ∈ l, p.size ≤ 60 := fun p hp => by have := hl2 p hp; omega
  have hl4 : ∀ p ∈ l, p.size ≤ 30000 := fun p hp => by have := hl3 p hp; omega
  have hrs : recLen l ≤ 1020 := by
    have := recLen_small (c := 6) (by omega) hl3
    omega
  have hrp : 0 < recLen l := by have := recLen_ge l; omega
  have hsz : (bs (recsL g l)).size = recLen l := by rw [bs_size, recsL_len]
  have ecw : IntKind.wrap .i64 c = c := IntWalk.i64_in _ ⟨by omega, by omega⟩
  simp only [Int.toNat_natCast, hsz, ecw, Nat.zero_add]
  obtain ⟨i, hi⟩ := Int.eq_ofNat_of_zero_le (show 0 ≤ Int.tmod c (recLen l : Int) from Int.tmod_nonneg _ hc.1)
  have hil : i < recLen l := by
    have := Int.tmod_lt_of_pos c (show (0 : Int) < (recLen l : Int) by omega)
    omega
  rw [hi]
  simp only [Int.toNat_natCast]
  have hir : i < (recsL g l).length := by rw [recsL_len]; exact hil
  have eb : byteAt (bs (recsL g l)) i = (((recsL g l)[i]).toNat : Int) := by
    rw [byteAt_bs, List.getElem?_eq_getElem hir]; rfl
  obtain ⟨b, hb1, hb2⟩ := xor_byte ((recsL g l)[i]) (m := m) ⟨by omega, hm.2⟩
  rw [eb, hb2, set_row hir b _ rfl]
  refine ⟨f15 g l hg ⟨by omega, hl4⟩, fun h => by simp at h, fun _ => ⟨by omega, ⟨⟨by omega, by omega⟩, by omega, by omega⟩, ?_⟩⟩
  refine AWP.loop (c := cAt (bodyOf Tryd.f4) [1, 1, 1, 1, 1, 1, 1, 1, 1, 0, 0, 0]) (by kernel_rfl) (S4 g l ((recsL g l).set i b) i) (fun k => k < l.length ∧ recLen (l.take k) ≤ i) (fun k => l.length - k) 0 ?_ ⟨by omega, Nat.zero_le _⟩ ?_
  · refine of_eq (b :=
    (((((.d (.con (.int .i64 ((↑g : Int))))) : AV) = (.d (.con (.int .i64 ((↑g : Int)))))) ∧
    ((((.d (.slc ((1 : Nat)) (List.length l) (fun i => DV.con (Value.string (sAt l i))))) : AV) = (.d (.slc ((1 : Nat)) (List.length l) (fun i => DV.con (Value.string (sAt l i)))))) ∧
    ((((.d (.slc ((1 : Nat)) (List.length l + (1 : Nat)) (offF l))) : AV) = (.d (.slc ((1 : Nat)) (List.length l + (1 : Nat)) (offF l)))) ∧
    ((((.vec ((49 : Nat)) ((1 : Nat)) ((0 : Nat)) (recLen l)) : AV) = (.vec ((49 : Nat)) ((1 : Nat)) ((0 : Nat)) (recLen l))) ∧
    ((((.d (.con (.int .i64 ((↑i : Int))))) : AV) = (.d (.con (.int .i64 ((↑i : Int)))))) ∧
    ((((.d (.con (.int .i64 ((0 : Int))))) : AV) = (.d (.con (.int .i64 ((0 : Int)))))) ∧
    True)))))) ∧
    ((((some [(.arr ⟨false, ((5 : Nat)), false⟩ ((1 : Nat)) (byteL (List.set (recsL g l) i b)))]) : (Option (List AV))) = (some [(.arr ⟨false, ((5 : Nat)), false⟩ ((1 : Nat)) (byteL (List.set (recsL g l) i b)))])) ∧
    True))) (by kernel_rfl) ?_
    exact ⟨⟨rfl, rfl, rfl, rfl, rfl, rfl, trivial⟩, rfl, trivial⟩
  · rintro k ⟨hk, hki⟩
    refine walk (orc := orcLw) (keep := []) (cuts := []) (n := 1000) follows ?_
    refine of_eqH (b :=
      (((I64 ((↑k : Int) + (1 : Int))) ∧
      (((0 : Int) ≤ (↑k : Int) + (1 : Int)) ∧
      ((↑k : Int) + (1 : Int) < (↑(List.length l + (1 : Nat)) : Int)))) ∧
      ((((decide ((↑(recLen (List.take (Int.toNat ((↑k : Int) + (1 : Int))) l)) : Int) ≤ (↑i : Int))) = true) →
      ((I64 ((↑k : Int) + (1 : Int))) ∧
      Again (S4 g l (List.set (recsL g l) i b) i) (fun k => k < List.length l ∧ recLen (List.take k l) ≤ i) (fun k => List.length l - k) k ⟨[(.d (.con (.int .i64 ((↑g : Int))))), (.d (.slc ((1 : Nat)) (List.length l) (fun i => DV.con (Value.string (sAt l i))))), .any, .any, .any, .any, .any, .any, .any, .any, (.d (.slc ((1 : Nat)) (List.length l + (1 : Nat)) (offF l))), .any, (.vec ((49 : Nat)) ((1 : Nat)) ((0 : Nat)) (recLen l)), (.d (.con (.int .i64 ((↑i : Int))))), (.d (.con (.int .i64 ((↑k : Int) + (1 : Int))))), .any, .any, .any, .any, .any, .any, .any, .any, .any, .any, .any, .any, .any, .any, .any, .any, .any, .any, .any, .any, .any, .any, .any, .any, .any, .any, .any, .any, .any, .any, .any, .any, .any, .any, .any, .any, .any, .any, .any, .any, .any, .any, .any, .any, .any, .any, .any, (.d (.slc ((1 : Nat)) (List.length l + (1 : Nat)) (offF l))), (.d (.con (.int .i64 ((↑k : Int))))), (.d (.con (.int .i64 ((↑k : Int) + (1 : Int))))), (.d (.ptr [(.con (.int .i64 ((↑(recLen (List.take (Int.toNat ((↑k : Int) + (1 : Int))) l)) : Int))))])), (.d (.con (.int .i64 ((↑(recLen (List.take (Int.toNat ((↑k : Int) + (1 : Int))) l)) : Int))))), (.d (.con (.int .i64 ((↑i : Int))))), (.d (.con (.bool (decide ((↑(recLen (List.take (Int.toNat ((↑k : Int) + (1 : Int))) l)) : Int) ≤ (↑i : Int)))))), (.d (.con (.int .i64 ((↑k : Int))))), (.d (.con (.int .i64 ((↑k : Int) + (1 : Int))))), .any, .any, .any, .any, .any, .any, .any, .any, .any, .any, .any, .any, .any, .any, .any, .any, .any, .any, .any, .any], [(((49 : Nat)), [(.arr ⟨false, ((5 : Nat)), false⟩ ((1 : Nat)) (byteL (List.set (recsL g l) i b)))])]⟩)) ∧
      (((decide ((↑(recLen (List.take (Int.toNat ((↑k : Int) + (1 : Int))) l)) : Int) ≤ (↑i : Int))) = false) →
      AWP Tryd.prog G [.code (cAt (bodyOf Tryd.f4) [1, 1, 1, 1, 1, 1, 1, 1, 1, 1])] ⟨[(.d (.con (.int .i64 ((↑g : Int))))), (.d (.slc ((1 : Nat)) (List.length l) (fun i => DV.con (Value.string (sAt l i))))), .any, .any, .any, .any, .any, .any, .any, .any, (.d (.slc ((1 : Nat)) (List.length l + (1 : Nat)) (offF l))), .any, (.vec ((49 : Nat)) ((1 : Nat)) ((0 : Nat)) (recLen l)), (.d (.con (.int .i64 ((↑i : Int))))), (.d (.con (.int .i64 ((↑k : Int))))), .any, .any, .any, .any, .any, .any, .any, .any, .any, .any, .any, .any, .any, .any, .any, .any, .any, .any, .any, .any, .any, .any, .any, .any, .any, .any, .any, .any, .any, .any, .any, .any, .any, .any, .any, .any, .any, .any, .any, .any, .any, .any, .any, .any, .any, .any, .any, (.d (.slc ((1 : Nat)) (List.length l + (1 : Nat)) (offF l))), (.d (.con (.int .i64 ((↑k : Int))))), (.d (.con (.int .i64 ((↑k : Int) + (1 : Int))))), (.d (.ptr [(.con (.int .i64 ((↑(recLen (List.take (Int.toNat ((↑k : Int) + (1 : Int))) l)) : Int))))])), (.d (.con (.int .i64 ((↑(recLen (List.take (Int.toNat ((↑k : Int) + (1 : Int))) l)) : Int))))), (.d (.con (.int .i64 ((↑i : Int))))), (.d (.con (.bool (decide ((↑(recLen (List.take (Int.toNat ((↑k : Int) + (1 : Int))) l)) : Int) ≤ (↑i : Int)))))), .any, .any, .any, .any, .any, .any, .any, .any, .any, .any, .any, .any, .any, .any, .any, .any, .any, .any, .any, .any, .any, .any], [(((49 : Nat)), [(.arr ⟨false, ((5 : Nat)), false⟩ ((1 : Nat)) (byteL (List.set (recsL g l) i b)))])]⟩ (Ret Tryd.prog Tryd.f4 (db true)))))) (by kernel_rfl) ?_
    have ek : Int.toNat ((k : Int) + 1) = k + 1 := by omega
    rw [ek]
    refine ⟨⟨⟨by omega, by omega⟩, by omega, by omega⟩, fun h => ?_, fun h => ?_⟩
    · have h : recLen (l.take (k + 1)) ≤ i := by simp at h; omega
      have hk1 : k + 1 < l.length := by
        rcases Nat.lt_or_ge (k + 1) l.length with h2 | h2
        · exact h2
        · exfalso
          rw [List.take_of_length_le h2] at h
          omega
      refine ⟨⟨by omega, by omega⟩, Again.mk (k + 1) ?_ ⟨hk1, h⟩ (by omega)⟩
      refine of_eq (b :=
        (((((.d (.con (.int .i64 ((↑g : Int))))) : AV) = (.d (.con (.int .i64 ((↑g : Int)))))) ∧
        ((((.d (.slc ((1 : Nat)) (List.length l) (fun i => DV.con (Value.string (sAt l i))))) : AV) = (.d (.slc ((1 : Nat)) (List.length l) (fun i => DV.con (Value.string (sAt l i)))))) ∧
        ((((.d (.slc ((1 : Nat)) (List.length l + (1 : Nat)) (offF l))) : AV) = (.d (.slc ((1 : Nat)) (List.length l + (1 : Nat)) (offF l)))) ∧
        ((((.vec ((49 : Nat)) ((1 : Nat)) ((0 : Nat)) (recLen l)) : AV) = (.vec ((49 : Nat)) ((1 : Nat)) ((0 : Nat)) (recLen l))) ∧
        ((((.d (.con (.int .i64 ((↑i : Int))))) : AV) = (.d (.con (.int .i64 ((↑i : Int)))))) ∧
        ((((.d (.con (.int .i64 ((↑k : Int) + (1 : Int))))) : AV) = (.d (.con (.int .i64 ((↑(k + (1 : Nat)) : Int)))))) ∧
        True)))))) ∧
        ((((some [(.arr ⟨false, ((5 : Nat)), false⟩ ((1 : Nat)) (byteL (List.set (recsL g l) i b)))]) : (Option (List AV))) = (some [(.arr ⟨false, ((5 : Nat)), false⟩ ((1 : Nat)) (byteL (List.set (recsL g l) i b)))])) ∧
        True))) (by kernel_rfl) ?_
      exact ⟨⟨rfl, rfl, rfl, rfl, rfl, rfl, trivial⟩, rfl, trivial⟩
    · have h : i < recLen (l.take (k + 1)) := by simp at h; omega
      refine walk (orc := orcLw) (keep := []) (cuts := []) (n := 1000) follows ?_
      refine of_eqH (b :=
        ((BytesAt (recLen l) (fun i_1 => byteL (List.set (recsL g l) i b) ((0 : Nat) + i_1)) ∧
        FnOK Tryd.prog G ((11 : Nat)) [(.con (.string ({ data := List.toArray (bytesOf (recLen l) fun i_1 => byteL (List.set (recsL g l) i b) ((0 : Nat) + i_1)) }))), (.con (.int .i64 ((↑g : Int))))] (.tup [(.slc ((1 : Nat)) (List.length (walkL (↑g : Int) { data := List.toArray (bytesOf (recLen l) fun i_1 => byteL (List.set (recsL g l) i b) ((0 : Nat) + i_1)) })) (rowS (walkL (↑g : Int) { data := List.toArray (bytesOf (recLen l) fun i_1 => byteL (List.set (recsL g l) i b) ((0 : Nat) + i_1)) }))), (.con (.int .i64 ((↑(recLen (walkL (↑g : Int) { data := List.toArray (bytesOf (recLen l) fun i_1 => byteL (List.set (recsL g l) i b) ((0 : Nat) + i_1)) })) : Int))))])) ∧
        (((((0 : Int) ≤ (0 : Int)) ∧
        (((0 : Int) ≤ (↑k : Int)) ∧
        ((↑k : Int) ≤ (↑(List.length l) : Int)))) ∧
        (FnOK Tryd.prog G ((13 : Nat)) [(.slc ((1 : Nat)) (List.length (walkL (↑g : Int) { data := List.toArray (bytesOf (recLen l) fun i_1 => byteL (List.set (recsL g l) i b) ((0 : Nat) + i_1)) })) (rowS (walkL (↑g : Int) { data := List.toArray (bytesOf (recLen l) fun i_1 => byteL (List.set (recsL g l) i b) ((0 : Nat) + i_1)) }))), (.slc ((1 : Nat)) (Int.toNat ((↑k : Int) - (0 : Int))) (fun i => DV.con (Value.string (sAt l (Int.toNat (0 : Int) + i)))))] (.con (.bool (sEq (List.length (walkL (↑g : Int) { data := List.toArray (bytesOf (recLen l) fun i_1 => byteL (List.set (recsL g l) i b) ((0 : Nat) + i_1)) })) (rowS (walkL (↑g : Int) { data := List.toArray (bytesOf (recLen l) fun i_1 => byteL (List.set (recsL g l) i b) ((0 : Nat) + i_1)) })) (Int.toNat ((↑k : Int) - (0 : Int))) fun i => DV.con (Value.string (sAt l (Int.toNat (0 : Int) + i)))))) ∧
        (((sEq (List.length (walkL (↑g : Int) { data := List.toArray (bytesOf (recLen l) fun i_1 => byteL (List.set (recsL g l) i b) ((0 : Nat) + i_1)) })) (rowS (walkL (↑g : Int) { data := List.toArray (bytesOf (recLen l) fun i_1 => byteL (List.set (recsL g l) i b) ((0 : Nat) + i_1)) })) (Int.toNat ((↑k : Int) - (0 : Int))) fun i => DV.con (Value.string (sAt l (Int.toNat (0 : Int) + i)))) = true) →
        (((0 : Int) ≤ (↑k : Int)) ∧
        ((↑k : Int) < (↑(List.length l + (1 : Nat)) : Int)))))) ∧
        (((.con (.bool ((sEq (List.length (walkL (↑g : Int) { data := List.toArray (bytesOf (recLen l) fun i_1 => byteL (List.set (recsL g l) i b) ((0 : Nat) + i_1)) })) (rowS (walkL (↑g : Int) { data := List.toArray (bytesOf (recLen l) fun i_1 => byteL (List.set (recsL g l) i b) ((0 : Nat) + i_1)) })) (Int.toNat ((↑k : Int) - (0 : Int))) fun i => DV.con (Value.string (sAt l (Int.toNat (0 : Int) + i)))) && (↑(recLen (walkL (↑g : Int) { data := List.toArray (bytesOf (recLen l) fun i_1 => byteL (List.set (recsL g l) i b) ((0 : Nat) + i_1)) })) : Int) == (↑(recLen (List.take (Int.toNat (↑k : Int)) l)) : Int)))) : DV) = (db true))))) (by kernel_rfl) ?_
      have hX : ((recsL g l).set i b).length = recLen l := by rw [List.length_set, recsL_len]
      have eb2 : (⟨(bytesOf (recLen l) fun j => byteL ((recsL g l).set i b) (0 + j)).toArray⟩ : ByteArray) = bs ((recsL g l).set i b) := by
        have := byteL_bytes ((recsL g l).set i b)
        rw [hX] at this
        rw [this]; rfl
      have hF := walkL_damage hg l hl4 hk hki h hir hb1
      have ek0 : Int.toNat ((k : Int) - 0) = k := by omega
      have e0 : Int.toNat (0 : Int) = 0 := rfl
      have hlk : (l.take k).length = k := by rw [List.length_take]; omega
      have hfs : ∀ i, i < (l.take k).length → ds (sAt l (0 + i)) = ds (sAt (l.take k) i) := fun i hi => by
        rw [Nat.zero_add]
        simp only [sAt, List.getD_eq_getElem?_getD, List.getElem?_take]
        rw [if_pos (by omega)]
      have h11 := f11 (G := G) (bs ((recsL g l).set i b)) (g : Int) (by rw [bs_size, hX]; omega)
      have h13 := f13S (G := G) (l.take k) (l.take k) (fun i => ds (sAt l (0 + i))) hfs (by omega)
      have hseq := (sEq_S (l.take k) (l.take k) (fun i => ds (sAt l (0 + i))) hfs).2 rfl
      rw [hseq] at h13
      rw [hF] at h11
      unfold strL at h11 h13
      simp only [hlk] at h11 h13 hseq
      simp only [eb2, Int.toNat_natCast, ek0, e0, hF, hlk, hseq]
      exact ⟨⟨byteL_at _ _, h11⟩, ⟨⟨by omega, by omega, by omega⟩, h13, fun _ => ⟨by omega, by omega⟩⟩, by simp⟩
end Go.Proofs
