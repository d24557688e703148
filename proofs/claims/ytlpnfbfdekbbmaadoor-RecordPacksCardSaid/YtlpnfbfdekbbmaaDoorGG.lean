import Derived.Test.YtlpnfbfdekbbmaaDoorGF
import Derived.Test.YtlpnfbfdekbbmaaDoorAcC
import Derived.Test.YtlpnfbfdekbbmaaDoorShelfR
set_option autoImplicit false
namespace Go.Proofs
open Go Go.Ab
theorem stampW_inj {a b : Nat} (h : UInt8.ofNat (128 + a % 128) = UInt8.ofNat (128 + b % 128)) : a % 128 = b % 128 := by
  have h1 : a % 128 < 128 := Nat.mod_lt _ (by decide)
  have h2 : b % 128 < 128 := Nat.mod_lt _ (by decide)
  have := congrArg UInt8.toNat h
  rw [UInt8.toNat_ofNat', UInt8.toNat_ofNat'] at this
  omega
theorem lowStamp_inj {a b w : Nat} (h : lowStamp a w = lowStamp b w) : a % 128 ^ w = b % 128 ^ w := by
  induction w with
  | zero => simp [Nat.mod_one]
  | succ w ih =>
    rw [lowStamp_succ, lowStamp_succ, List.cons.injEq] at h
    have h1 := stampW_inj h.1
    rw [Nat.mod_pow_succ, Nat.mod_pow_succ, ih h.2, h1]
theorem stampL_inj {a b : Nat} (h : stampL a = stampL b) (ha : a ≤ 1099511627776) (hb : b ≤ 1099511627776) : a = b := by
  have h1 : lowStamp a 9 = lowStamp b 9 := h
  have := lowStamp_inj h1
  rwa [Nat.mod_eq_of_lt (by omega), Nat.mod_eq_of_lt (by omega)] at this
/-- Records of some generations. -/
def cellsL : List (Nat × ByteArray) → List UInt8
  | [] => []
  | c :: l => encL c.1 c.2 ++ cellsL l
theorem cellsL_app (a b : List (Nat × ByteArray)) : cellsL (a ++ b) = cellsL a ++ cellsL b := by
  induction a with
  | nil => rfl
  | cons c a ih => simp only [List.cons_append, cellsL, ih, List.append_assoc]
def zeros (n : Nat) : List UInt8 := List.replicate n 0
theorem head_low (l : List (Nat × ByteArray)) (z : Nat) (b : UInt8) (h : (cellsL l ++ zeros z)[0]? = some b) : b.toNat < 128 := by
  cases l with
  | nil =>
    simp only [cellsL, List.nil_append] at h
    have := List.mem_of_getElem? h
    rw [zeros, List.mem_replicate] at this
    rw [this.2]; decide
  | cons c l =>
    obtain ⟨b', h1, h2⟩ := encL_low c.1 c.2 (i := 0) (by omega)
    rw [cellsL, List.append_assoc, List.getElem?_append_left (by rw [encL_len]; omega), h1] at h
    injection h with h; subst h; exact h2
/-- Nine bytes from 128 on in a row are a stamp. -/
theorem window {z : Nat} : ∀ (l : List (Nat × ByteArray)) (t : Nat), (∀ j, j < 9 → ∃ b, (cellsL l ++ zeros z)[t + j]? = some b ∧ 128 ≤ b.toNat) → ∃ c ∈ l, ((cellsL l ++ zeros z).drop t).take 9 = stampL c.1
  | [], t, h => by
    exfalso
    obtain ⟨b, h1, h2⟩ := h 0 (by omega)
    simp only [cellsL, List.nil_append] at h1
    have := List.mem_of_getElem? h1
    rw [zeros, List.mem_replicate] at this
    rw [this.2] at h2
    exact absurd h2 (by decide)
  | c :: l, t, h => by
    have hl := encL_len c.1 c.2
    have e : cellsL (c :: l) ++ zeros z = encL c.1 c.2 ++ (cellsL l ++ zeros z) := by rw [cellsL, List.append_assoc]
    rw [e] at h ⊢
    rcases Nat.lt_or_ge t (50 + 2 * c.2.size) with ht | ht
    · obtain ⟨b, h1, h2⟩ := h 0 (by omega)
      rw [Nat.add_zero, List.getElem?_append_left (by omega)] at h1
      rcases Nat.lt_trichotomy t (41 + 2 * c.2.size) with h3 | h3 | h3
      · exfalso
        obtain ⟨b', h4, h5⟩ := encL_low c.1 c.2 h3
        rw [h4] at h1; injection h1 with h1; subst h1; omega
      · refine ⟨c, by simp, ?_⟩
        have e2 : encL c.1 c.2 = (([82] ++ hexL (sumN (bodyL c.1 c.2)) 16) ++ bodyL c.1 c.2) ++ stampL c.1 := rfl
        have hf : (([82] ++ hexL (sumN (bodyL c.1 c.2)) 16) ++ bodyL c.1 c.2).length = 41 + 2 * c.2.size := by rw [List.length_append, encL_front_len, bodyL_len]; omega
        rw [e2, List.append_assoc]
        exact take_drop_mid (hf.trans h3.symm) (stampL_len _)
      · exfalso
        obtain ⟨b', h4, h5⟩ := h (50 + 2 * c.2.size - t) (by omega)
        rw [show t + (50 + 2 * c.2.size - t) = 50 + 2 * c.2.size by omega, List.getElem?_append_right (by omega), hl, Nat.sub_self] at h4
        have := head_low l z b' h4
        omega
    · have := window l (t - (50 + 2 * c.2.size)) fun j hj => by
        obtain ⟨b, h1, h2⟩ := h j hj
        rw [List.getElem?_append_right (by omega), hl] at h1
        exact ⟨b, by rw [← h1]; congr 1; omega, h2⟩
      obtain ⟨d, hd, hd2⟩ := this
      refine ⟨d, by simp [hd], ?_⟩
      rw [← hd2, List.drop_append, List.drop_eq_nil_of_le (by omega), List.nil_append, hl]
/-- A front of a record written over records of other generations and zeros is the record, or none. -/
theorem torn {g : Nat} {p : ByteArray} {l : List (Nat × ByteArray)} {z a k : Nat} (hp : p.size ≤ 30000) (hg : g ≤ 1099511627776) (hl : ∀ c ∈ l, c.1 ≤ 1099511627776 ∧ c.1 ≠ g) (hlen : a + (50 + 2 * p.size) ≤ (cellsL l ++ zeros z).length) (hk : k ≤ 50 + 2 * p.size)
    (hne : (encL g p).take k ++ ((cellsL l ++ zeros z).drop (a + k)).take (50 + 2 * p.size - k) ≠ encL g p) : decSpec g ((encL g p).take k ++ ((cellsL l ++ zeros z).drop (a + k)).take (50 + 2 * p.size - k)) = none := by
  refine decSpec_none fun q hq hpre => ?_
  have hlp := encL_len g p
  have hlq := encL_len g q
  have htk : ((encL g p).take k).length = k := by rw [List.length_take]; omega
  have hX : ((encL g p).take k ++ ((cellsL l ++ zeros z).drop (a + k)).take (50 + 2 * p.size - k)).length = 50 + 2 * p.size := by
    rw [List.length_append, htk, List.length_take, List.length_drop]; omega
  have hqp : q.size ≤ p.size := by
    have := hpre.length_le
    rw [hX, hlq] at this; omega
  -- a stamp that lies behind k is one of another generation
  have hst : k ≤ 41 + 2 * q.size → False := by
    intro h1
    have hw : ((((encL g p).take k ++ ((cellsL l ++ zeros z).drop (a + k)).take (50 + 2 * p.size - k)).drop (41 + 2 * q.size)).take 9) = ((cellsL l ++ zeros z).drop (a + (41 + 2 * q.size))).take 9 := by
      rw [List.drop_append, List.drop_eq_nil_of_le (by omega), List.nil_append, htk, List.drop_take, List.drop_drop, List.take_take]
      rw [show min 9 (50 + 2 * p.size - k - (41 + 2 * q.size - k)) = 9 by omega, show a + k + (41 + 2 * q.size - k) = a + (41 + 2 * q.size) by omega]
    have hq9 : ((encL g q).drop (41 + 2 * q.size)).take 9 = stampL g := by
      have e2 : encL g q = (([82] ++ hexL (sumN (bodyL g q)) 16) ++ bodyL g q) ++ (stampL g ++ []) := by rw [List.append_nil]; rfl
      have hf : (([82] ++ hexL (sumN (bodyL g q)) 16) ++ bodyL g q).length = 41 + 2 * q.size := by rw [List.length_append, encL_front_len, bodyL_len]; omega
      rw [e2]
      exact take_drop_mid hf (stampL_len _)
    have hpw : (((encL g p).take k ++ ((cellsL l ++ zeros z).drop (a + k)).take (50 + 2 * p.size - k)).drop (41 + 2 * q.size)).take 9 = stampL g := by
      obtain ⟨t, ht⟩ := hpre
      rw [← ht, List.drop_append_of_le_length (by omega), List.take_append_of_le_length (by rw [List.length_drop]; omega)]
      exact hq9
    rw [hw] at hpw
    have hbytes : ∀ j, j < 9 → ∃ b, (cellsL l ++ zeros z)[a + (41 + 2 * q.size) + j]? = some b ∧ 128 ≤ b.toNat := by
      intro j hj
      have hjl : j < (stampL g).length := by rw [stampL_len]; exact hj
      refine ⟨(stampL g)[j], ?_, stampL_ge g _ (List.getElem_mem hjl)⟩
      have : (((cellsL l ++ zeros z).drop (a + (41 + 2 * q.size))).take 9)[j]? = (stampL g)[j]? := by rw [hpw]
      rw [List.getElem?_take, if_pos hj, List.getElem?_drop, List.getElem?_eq_getElem hjl] at this
      exact this
    obtain ⟨c, hc, hc2⟩ := window l _ hbytes
    rw [hpw] at hc2
    exact (hl c hc).2 (stampL_inj hc2 hg (hl c hc).1).symm
  by_cases hk41 : k < 41
  · exact hst (by omega)
  · have hsize : q.size = p.size := by
      have h1 := (read_enc hpre).2.1
      rw [List.drop_append_of_le_length (by omega), List.take_append_of_le_length (by rw [List.length_drop]; omega), List.drop_take, List.take_take, show min 8 (k - 33) = 8 by omega] at h1
      have h2 := (read_enc (List.prefix_refl (encL g p))).2.1
      rw [h2] at h1
      exact (hexL_inj' h1 (by omega) (by omega)).symm
    have heq : (encL g p).take k ++ ((cellsL l ++ zeros z).drop (a + k)).take (50 + 2 * p.size - k) = encL g q := (hpre.eq_of_length (by rw [hX, hlq, hsize])).symm
    by_cases hk2 : k ≤ 41 + 2 * q.size
    · exact hst hk2
    · apply hne
      have hbody : (encL g p).take (41 + 2 * p.size) = (encL g q).take (41 + 2 * p.size) := by
        rw [← heq, List.take_append_of_le_length (by omega), List.take_take, show min (41 + 2 * p.size) k = 41 + 2 * p.size by omega]
      rw [heq]
      have e2 : ∀ x : ByteArray, x.size = p.size → (encL g x).take (41 + 2 * p.size) = ([82] ++ hexL (sumN (bodyL g x)) 16) ++ bodyL g x := by
        intro x hx
        have e3 : encL g x = (([82] ++ hexL (sumN (bodyL g x)) 16) ++ bodyL g x) ++ stampL g := rfl
        have hf : (([82] ++ hexL (sumN (bodyL g x)) 16) ++ bodyL g x).length = 41 + 2 * p.size := by rw [List.length_append, encL_front_len, bodyL_len]; omega
        rw [e3, ← hf, List.take_left']; rfl
      rw [e2 p rfl, e2 q hsize] at hbody
      have e4 := (List.append_inj hbody (by rw [encL_front_len, encL_front_len])).2
      rw [encL_parts g p, encL_parts g q, e4]
end Go.Proofs

set_option autoImplicit false
namespace Go.Proofs
open Go Go.Ab Go.RowKit
set_option maxHeartbeats 1000000
set_option maxRecDepth 100000
variable {G : IH}
theorem repeat_zero : ∀ n, Lib.repeatL [0] n = zeros n
  | 0 => rfl
  | n + 1 => by rw [Lib.repeatL, repeat_zero n]; rfl
theorem f22 (c : Int) (h : 0 ≤ c ∧ c ≤ 100000) : FnOK Tryd.prog G 22 [ds { data := #[0] }, di c] (ds (bs (zeros c.toNat))) := by
  obtain ⟨n, rfl⟩ := Int.eq_ofNat_of_zero_le h.1
  refine FnOK.of_calls (args := [.string { data := #[0] }, .int .i64 n]) (v := .string (bs (zeros n))) Tryd.call22 fun w _ => ?_
  refine Calls.mono (Tryr.strings_Repeat { data := #[0] } n w (by omega) ?_) ?_
  · have : ({ data := #[0] } : ByteArray).size = 1 := rfl
    rw [this]; omega
  · rintro e w' ⟨he, hb⟩
    refine ⟨?_, hb⟩
    rw [he]
    show _ = _
    rw [show ({ data := #[0] } : ByteArray).data.toList = [0] from rfl, repeat_zero]
    rfl
theorem f22' (z : Nat) (h : z ≤ 100000) : FnOK Tryd.prog G 22 [ds { data := #[0] }, di (z : Int)] (ds (bs (zeros z))) := by
  have := f22 (G := G) (z : Int) ⟨by omega, by omega⟩
  rwa [Int.toNat_natCast] at this
/-- A row of numbers. -/
def ints (O : List Int) : DV := .slc 1 O.length fun i => di (O.getD i 0)
noncomputable def orcT : Oracle := fun f args => match f, args with
  | 10, [] => some (db true)
  | 11, [.con (.string d), .con (.int .i64 g)] => some (.tup [strL (walkL g d), di (recLen (walkL g d))])
  | 13, [.slc _ n f, .slc _ m f'] => some (db (sEq n f m f'))
  | 14, [.slc _ n f, .con (.int .i64 c), .con (.int .i64 b)] => some (db (fewB n f c b))
  | 15, [.con (.int .i64 g), .slc _ n f] => some (.tup [ds (bs (recsL g.toNat (lst n f))), .slc 1 (n + 1) (offF (lst n f)), db true])
  | 17, [.con (.int .i64 g), .con (.string p)] => some (.tup [ds (encS g p), di (encE g p)])
  | 22, [.con (.string _), .con (.int .i64 c)] => some (ds (bs (zeros c.toNat)))
  | _, _ => none
noncomputable def orc8 : Orc := ⟨orcT, false, fun d => Nat.beq d 167, fun _ => false, fun _ _ _ => none⟩
theorem cellsL_one (L : List (Nat × ByteArray)) (n : Nat) (p : ByteArray) : cellsL (L ++ [(n, p)]) = cellsL L ++ encL n p := by
  rw [cellsL_app]; simp only [cellsL, List.append_nil]
theorem cellsL_le {L : List (Nat × ByteArray)} (h : ∀ c ∈ L, c.2.size ≤ 60) : (cellsL L).length ≤ 170 * L.length := by
  induction L with
  | nil => simp [cellsL]
  | cons c L ih =>
    have h1 := ih fun d hd => h d (by simp [hd])
    have h2 := h c (by simp)
    rw [cellsL, List.length_append, encL_len, List.length_cons]
    omega
noncomputable def S8 (g : Nat) (l : List ByteArray) (q : ByteArray) (b : List ByteArray) (O : List Int) (wr : Int) (x : Nat × List (Nat × ByteArray)) : AS := ⟨regs Tryd.f8.ntmps [(0, vi g), (1, .d (strs l.length (sAt l))), (2, vs q), (4, .d (ints O)), (5, .d (.con (.int .u16 wr))), (13, vs (bs (recsL g l))), (14, .d (.slc 1 (l.length + 1) (offF l))), (16, vs (bs (encL g q))), (18, vs (bs (cellsL x.2))), (79, .d (strs b.length (sAt b))), (80, vi b.length), (81, vi x.1)], []⟩
theorem f8 (hT : Tab G) (g : Int) (l : List ByteArray) (q : ByteArray) (b : List ByteArray) (O : List Int) (wr : Int) (hn : l.length ≤ 9223372036854775807) (hnb : b.length ≤ 9223372036854775807) (hwr : 0 ≤ wr ∧ wr < 65536) : FnOK Tryd.prog G 8 [di g, strs l.length (sAt l), ds q, strs b.length (sAt b), ints O, .con (.int .u16 wr)] (db true) := by
  refine FnOK.walk (orc := orc8) (keep := []) follows Tryd.func8 rfl Tryd.call8 ?_
  refine of_eqH (b :=
    (FnOK Tryd.prog G ((10 : Nat)) [] (.con (.bool true)) ∧
    (((false = true) →
    (((.con (.bool false)) : DV) = (db true))) ∧
    ((false = false) →
    ((FnOK Tryd.prog G ((14 : Nat)) [(.slc ((1 : Nat)) (List.length l) (fun i => DV.con (Value.string (sAt l i)))), (.con (.int .i64 ((3 : Int)))), (.con (.int .i64 ((60 : Int))))] (.con (.bool (fewB (List.length l) (fun i => DV.con (Value.string (sAt l i))) (3 : Int) (60 : Int)))) ∧
    (((!!fewB (List.length l) (fun i => DV.con (Value.string (sAt l i))) (3 : Int) (60 : Int)) = true) →
    FnOK Tryd.prog G ((14 : Nat)) [(.slc ((1 : Nat)) (List.length b) (fun i => DV.con (Value.string (sAt b i)))), (.con (.int .i64 ((8 : Int)))), (.con (.int .i64 ((60 : Int))))] (.con (.bool (fewB (List.length b) (fun i => DV.con (Value.string (sAt b i))) (8 : Int) (60 : Int)))))) ∧
    ((((!fewB (List.length l) (fun i => DV.con (Value.string (sAt l i))) (3 : Int) (60 : Int) || !fewB (List.length b) (fun i => DV.con (Value.string (sAt b i))) (8 : Int) (60 : Int) || decide ((↑(ByteArray.size q) : Int) > (60 : Int)) || decide ((↑(List.length O) : Int) > (8 : Int)) || decide (g < (1 : Int)) || decide (g > (1099511627776 : Int))) = true) →
    (((.con (.bool true)) : DV) = (db true))) ∧
    (((!fewB (List.length l) (fun i => DV.con (Value.string (sAt l i))) (3 : Int) (60 : Int) || !fewB (List.length b) (fun i => DV.con (Value.string (sAt b i))) (8 : Int) (60 : Int) || decide ((↑(ByteArray.size q) : Int) > (60 : Int)) || decide ((↑(List.length O) : Int) > (8 : Int)) || decide (g < (1 : Int)) || decide (g > (1099511627776 : Int))) = false) →
    (FnOK Tryd.prog G ((15 : Nat)) [(.con (.int .i64 g)), (.slc ((1 : Nat)) (List.length l) (fun i => DV.con (Value.string (sAt l i))))] (.tup [(.con (.string (bs (recsL (Int.toNat g) (lst (List.length l) fun i => DV.con (Value.string (sAt l i))))))), (.slc ((1 : Nat)) (List.length l + (1 : Nat)) (offF (lst (List.length l) fun i => DV.con (Value.string (sAt l i))))), (.con (.bool true))]) ∧
    (FnOK Tryd.prog G ((17 : Nat)) [(.con (.int .i64 g)), (.con (.string q))] (.tup [(.con (.string (encS g q))), (.con (.int .i64 (encE g q)))]) ∧
    ((((!true || encE g q != (0 : Int) || ByteArray.toList (encS g q) == ByteArray.toList { data := #[] }) = true) →
    (((.con (.bool false)) : DV) = (db true))) ∧
    (((!true || encE g q != (0 : Int) || ByteArray.toList (encS g q) == ByteArray.toList { data := #[] }) = false) →
    AWP Tryd.prog G [.code (cAt (bodyOf Tryd.f8) [1, 1, 1, 1, 1, 1, 1, 0, 1, 0]), (.blk ((0 : Nat))), .code (cAt (bodyOf Tryd.f8) [1, 1, 1, 1, 1, 1, 1, 1])] ⟨[(.d (.con (.int .i64 g))), (.d (.slc ((1 : Nat)) (List.length l) (fun i => DV.con (Value.string (sAt l i))))), (.d (.con (.string q))), (.d (.slc ((1 : Nat)) (List.length b) (fun i => DV.con (Value.string (sAt b i))))), (.d (.slc ((1 : Nat)) (List.length O) (fun i => DV.con (Value.int IntKind.i64 (List.getD O i (0 : Int)))))), (.d (.con (.int .u16 wr))), .any, .any, .any, .any, .any, .any, (.d (.con (.bool false))), (.d (.con (.string (bs (recsL (Int.toNat g) (lst (List.length l) fun i => DV.con (Value.string (sAt l i)))))))), (.d (.slc ((1 : Nat)) (List.length l + (1 : Nat)) (offF (lst (List.length l) fun i => DV.con (Value.string (sAt l i)))))), (.d (.con (.bool true))), (.d (.con (.string (encS g q)))), (.d (.con (.int .i64 (encE g q)))), (.d (.con (.string ({ data := #[] })))), .any, .any, .any, .any, .any, .any, .any, .any, .any, (.d (.con (.bool true))), (.d (.con (.bool false))), (.d (.slc ((1 : Nat)) (List.length l) (fun i => DV.con (Value.string (sAt l i))))), (.d (.con (.bool (fewB (List.length l) (fun i => DV.con (Value.string (sAt l i))) (3 : Int) (60 : Int))))), (.d (.con (.bool (!fewB (List.length l) (fun i => DV.con (Value.string (sAt l i))) (3 : Int) (60 : Int))))), (.d (.con (.bool (!fewB (List.length l) (fun i => DV.con (Value.string (sAt l i))) (3 : Int) (60 : Int))))), .any, .any, .any, (.d (.con (.bool (!fewB (List.length l) (fun i => DV.con (Value.string (sAt l i))) (3 : Int) (60 : Int) || !fewB (List.length b) (fun i => DV.con (Value.string (sAt b i))) (8 : Int) (60 : Int))))), (.d (.con (.bool (!fewB (List.length l) (fun i => DV.con (Value.string (sAt l i))) (3 : Int) (60 : Int) || !fewB (List.length b) (fun i => DV.con (Value.string (sAt b i))) (8 : Int) (60 : Int))))), .any, .any, .any, (.d (.con (.bool (!fewB (List.length l) (fun i => DV.con (Value.string (sAt l i))) (3 : Int) (60 : Int) || !fewB (List.length b) (fun i => DV.con (Value.string (sAt b i))) (8 : Int) (60 : Int) || decide ((↑(ByteArray.size q) : Int) > (60 : Int)))))), (.d (.con (.bool (!fewB (List.length l) (fun i => DV.con (Value.string (sAt l i))) (3 : Int) (60 : Int) || !fewB (List.length b) (fun i => DV.con (Value.string (sAt b i))) (8 : Int) (60 : Int) || decide ((↑(ByteArray.size q) : Int) > (60 : Int)))))), .any, .any, .any, (.d (.con (.bool (!fewB (List.length l) (fun i => DV.con (Value.string (sAt l i))) (3 : Int) (60 : Int) || !fewB (List.length b) (fun i => DV.con (Value.string (sAt b i))) (8 : Int) (60 : Int) || decide ((↑(ByteArray.size q) : Int) > (60 : Int)) || decide ((↑(List.length O) : Int) > (8 : Int)))))), (.d (.con (.bool (!fewB (List.length l) (fun i => DV.con (Value.string (sAt l i))) (3 : Int) (60 : Int) || !fewB (List.length b) (fun i => DV.con (Value.string (sAt b i))) (8 : Int) (60 : Int) || decide ((↑(ByteArray.size q) : Int) > (60 : Int)) || decide ((↑(List.length O) : Int) > (8 : Int)))))), .any, .any, (.d (.con (.bool (!fewB (List.length l) (fun i => DV.con (Value.string (sAt l i))) (3 : Int) (60 : Int) || !fewB (List.length b) (fun i => DV.con (Value.string (sAt b i))) (8 : Int) (60 : Int) || decide ((↑(ByteArray.size q) : Int) > (60 : Int)) || decide ((↑(List.length O) : Int) > (8 : Int)) || decide (g < (1 : Int)))))), (.d (.con (.bool (!fewB (List.length l) (fun i => DV.con (Value.string (sAt l i))) (3 : Int) (60 : Int) || !fewB (List.length b) (fun i => DV.con (Value.string (sAt b i))) (8 : Int) (60 : Int) || decide ((↑(ByteArray.size q) : Int) > (60 : Int)) || decide ((↑(List.length O) : Int) > (8 : Int)) || decide (g < (1 : Int)))))), .any, .any, (.d (.con (.bool (!fewB (List.length l) (fun i => DV.con (Value.string (sAt l i))) (3 : Int) (60 : Int) || !fewB (List.length b) (fun i => DV.con (Value.string (sAt b i))) (8 : Int) (60 : Int) || decide ((↑(ByteArray.size q) : Int) > (60 : Int)) || decide ((↑(List.length O) : Int) > (8 : Int)) || decide (g < (1 : Int)) || decide (g > (1099511627776 : Int)))))), (.d (.tup [(.con (.string (bs (recsL (Int.toNat g) (lst (List.length l) fun i => DV.con (Value.string (sAt l i))))))), (.slc ((1 : Nat)) (List.length l + (1 : Nat)) (offF (lst (List.length l) fun i => DV.con (Value.string (sAt l i))))), (.con (.bool true))])), (.d (.con (.int .i64 g))), (.d (.slc ((1 : Nat)) (List.length l) (fun i => DV.con (Value.string (sAt l i))))), (.d (.tup [(.con (.string (bs (recsL (Int.toNat g) (lst (List.length l) fun i => DV.con (Value.string (sAt l i))))))), (.slc ((1 : Nat)) (List.length l + (1 : Nat)) (offF (lst (List.length l) fun i => DV.con (Value.string (sAt l i))))), (.con (.bool true))])), (.d (.con (.string (bs (recsL (Int.toNat g) (lst (List.length l) fun i => DV.con (Value.string (sAt l i)))))))), (.d (.slc ((1 : Nat)) (List.length l + (1 : Nat)) (offF (lst (List.length l) fun i => DV.con (Value.string (sAt l i)))))), (.d (.con (.bool true))), (.d (.tup [(.con (.string (encS g q))), (.con (.int .i64 (encE g q)))])), (.d (.con (.int .i64 g))), (.d (.con (.string q))), (.d (.tup [(.con (.string (encS g q))), (.con (.int .i64 (encE g q)))])), (.d (.con (.string (encS g q)))), (.d (.con (.int .i64 (encE g q)))), (.d (.con (.bool true))), (.d (.con (.bool false))), (.d (.con (.bool false))), .any, .any, (.d (.con (.bool (!true || encE g q != (0 : Int))))), (.d (.con (.bool (!true || encE g q != (0 : Int))))), .any, .any, (.d (.con (.bool (!true || encE g q != (0 : Int) || ByteArray.toList (encS g q) == ByteArray.toList { data := #[] })))), (.d (.slc ((1 : Nat)) (List.length b) (fun i => DV.con (Value.string (sAt b i))))), (.d (.con (.int .i64 ((↑(List.length b) : Int))))), (.d (.con (.int .i64 ((0 : Int))))), .any, .any, .any, .any, .any, .any, .any, .any, .any, .any, .any, .any, .any, .any, .any, .any, .any, .any, .any, .any, .any, .any, .any, .any, .any, .any, .any, .any, .any, .any, .any, .any, .any, .any, .any, .any, .any, .any, .any, .any, .any, .any, .any, .any, .any, .any, .any, .any, .any, .any, .any, .any, .any, .any, .any, .any, .any, .any, .any, .any, .any, .any, .any, .any, .any, .any, .any, .any, .any, .any, .any, .any, .any, .any, .any, .any, .any, .any, .any, .any, .any, .any, .any, .any, .any, .any, .any, .any, .any, .any, .any, .any, .any, .any, .any, .any, .any, .any, .any, .any, .any, .any, .any, .any, .any, .any, .any, .any, .any, .any, .any, .any, .any, .any, .any, .any, .any, .any, .any, .any, .any, .any, .any, .any, .any, .any, .any], []⟩ (Ret Tryd.prog Tryd.f8 (db true))))))))))))) (by kernel_rfl) ?_
  simp only [lst_sAt]
  refine ⟨f10 hT, fun h => by simp at h, fun _ => ⟨⟨f14' l 3 60 hn, fun _ => f14' b 8 60 hnb⟩, fun _ => trivial, fun h4 => ?_⟩⟩
  have h4 : (fewB l.length (fun i => ds (sAt l i)) 3 60 = true ∧ fewB b.length (fun i => ds (sAt b i)) 8 60 = true) ∧ q.size ≤ 60 ∧ 1 ≤ g ∧ g ≤ 1099511627776 := by
    simp at h4
    obtain ⟨⟨⟨⟨⟨h1, h2⟩, h3⟩, h5⟩, h6⟩, h7⟩ := h4
    exact ⟨⟨h1, h2⟩, by omega, by omega, by omega⟩
  obtain ⟨⟨hf, hfb⟩, hq, hg1, hg2⟩ := h4
  obtain ⟨hl1, hl2⟩ := fewB_mem hf
  obtain ⟨hb1, hb2⟩ := fewB_mem hfb
  obtain ⟨g, rfl⟩ := Int.eq_ofNat_of_zero_le (show 0 ≤ g by omega)
  have hg : okGen (g : Int) = true := (okGen_iff _).2 ⟨hg1, hg2⟩
  have hl3 : ∀ p ∈ l, p.size ≤ 60 := fun p hp => by have := hl2 p hp; omega
  have hl4 : ∀ p ∈ l, p.size ≤ 30000 := fun p hp => by have := hl3 p hp; omega
  have hb3 : ∀ p ∈ b, p.size ≤ 60 := fun p hp => by have := hb2 p hp; omega
  have hrs : recLen l ≤ 510 := by
    have := recLen_small (c := 3) (by omega) hl3
    omega
  obtain ⟨hS, hE⟩ := enc_ok hg (show q.size ≤ 30000 by omega)
  have k17 := f17' (G := G) (g : Int) q
  rw [hS, hE] at k17 ⊢
  have hne : (ByteArray.toList (bs (encL g q)) == ByteArray.toList { data := #[] }) = false := by
    rw [Bool.eq_false_iff]
    intro h2
    rw [beq_iff_eq, toList_inj] at h2
    have := congrArg ByteArray.size h2
    rw [bs_size, encL_len] at this
    have e0 : ({ data := #[] } : ByteArray).size = 0 := rfl
    omega
  rw [hne]
  simp only [Int.toNat_natCast]
  refine ⟨f15 g l hg ⟨by omega, hl4⟩, k17, fun h => by simp at h, fun _ => ?_⟩
  refine AWP.loop (c := cAt (bodyOf Tryd.f8) [1, 1, 1, 1, 1, 1, 1, 0, 1, 0, 0]) (by kernel_rfl) (S8 g l q b O wr) (fun x => x.1 ≤ b.length ∧ x.2.length ≤ x.1 ∧ ∀ c ∈ x.2, c.2.size ≤ 60 ∧ c.1 ≤ 1099511627776 ∧ c.1 ≠ g) (fun x => b.length - x.1) (0, []) ?_ ⟨Nat.zero_le _, Nat.le_refl _, fun c hc => by simp at hc⟩ ?_
  · refine of_eq (b :=
    (((((.d (.con (.int .i64 ((↑g : Int))))) : AV) = (.d (.con (.int .i64 ((↑g : Int)))))) ∧
    ((((.d (.slc ((1 : Nat)) (List.length l) (fun i => DV.con (Value.string (sAt l i))))) : AV) = (.d (.slc ((1 : Nat)) (List.length l) (fun i => DV.con (Value.string (sAt l i)))))) ∧
    ((((.d (.con (.string q))) : AV) = (.d (.con (.string q)))) ∧
    ((((.d (.slc ((1 : Nat)) (List.length O) (fun i => DV.con (Value.int IntKind.i64 (List.getD O i (0 : Int)))))) : AV) = (.d (.slc ((1 : Nat)) (List.length O) (fun i => DV.con (Value.int IntKind.i64 (List.getD O i (0 : Int))))))) ∧
    ((((.d (.con (.int .u16 wr))) : AV) = (.d (.con (.int .u16 wr)))) ∧
    ((((.d (.con (.string (bs (recsL g l))))) : AV) = (.d (.con (.string (bs (recsL g l)))))) ∧
    ((((.d (.slc ((1 : Nat)) (List.length l + (1 : Nat)) (offF l))) : AV) = (.d (.slc ((1 : Nat)) (List.length l + (1 : Nat)) (offF l)))) ∧
    ((((.d (.con (.string (bs (encL g q))))) : AV) = (.d (.con (.string (bs (encL g q)))))) ∧
    ((((.d (.con (.string ({ data := #[] })))) : AV) = (.d (.con (.string (bs (cellsL [])))))) ∧
    ((((.d (.slc ((1 : Nat)) (List.length b) (fun i => DV.con (Value.string (sAt b i))))) : AV) = (.d (.slc ((1 : Nat)) (List.length b) (fun i => DV.con (Value.string (sAt b i)))))) ∧
    ((((.d (.con (.int .i64 ((↑(List.length b) : Int))))) : AV) = (.d (.con (.int .i64 ((↑(List.length b) : Int)))))) ∧
    ((((.d (.con (.int .i64 ((0 : Int))))) : AV) = (.d (.con (.int .i64 ((0 : Int)))))) ∧
    True)))))))))))) ∧
    True)) (by kernel_rfl) ?_
    exact ⟨⟨rfl, rfl, rfl, rfl, rfl, rfl, rfl, rfl, rfl, rfl, rfl, rfl, trivial⟩, trivial⟩
  · rintro ⟨i, L⟩ ⟨hi, hLi, hL⟩
    refine walk (orc := orc8) (keep := []) (cuts := []) (n := 1000) follows ?_
    refine of_eqH (b :=
      ((((decide ((↑i : Int) < (↑(List.length b) : Int))) = true) →
      ((((0 : Int) ≤ (↑i : Int)) ∧
      ((↑i : Int) < (↑(List.length b) : Int))) ∧
      ((I64 ((↑g : Int) + (1 : Int))) ∧
      ((((decide ((↑i : Int) < (↑(List.length O) : Int))) = true) →
      ((((0 : Int) ≤ (↑i : Int)) ∧
      ((↑i : Int) < (↑(List.length O) : Int))) ∧
      ((((List.getD O (Int.toNat (↑i : Int)) (0 : Int) == (↑g : Int) || decide (List.getD O (Int.toNat (↑i : Int)) (0 : Int) < (1 : Int)) || decide (List.getD O (Int.toNat (↑i : Int)) (0 : Int) > (1099511627776 : Int))) = true) →
      ((I64 ((↑i : Int) + (1 : Int))) ∧
      Again (S8 g l q b O wr) (fun x => Prod.fst x ≤ List.length b ∧ List.length (Prod.snd x) ≤ Prod.fst x ∧ ∀ (c : Nat × ByteArray), c ∈ Prod.snd x → ByteArray.size (Prod.snd c) ≤ (60 : Nat) ∧ Prod.fst c ≤ (1099511627776 : Nat) ∧ Prod.fst c ≠ g) (fun x => List.length b - Prod.fst x) ((i, L)) ⟨[(.d (.con (.int .i64 ((↑g : Int))))), (.d (.slc ((1 : Nat)) (List.length l) (fun i => DV.con (Value.string (sAt l i))))), (.d (.con (.string q))), .any, (.d (.slc ((1 : Nat)) (List.length O) (fun i => DV.con (Value.int IntKind.i64 (List.getD O i (0 : Int)))))), (.d (.con (.int .u16 wr))), .any, .any, .any, .any, .any, .any, .any, (.d (.con (.string (bs (recsL g l))))), (.d (.slc ((1 : Nat)) (List.length l + (1 : Nat)) (offF l))), .any, (.d (.con (.string (bs (encL g q))))), .any, (.d (.con (.string (bs (cellsL L))))), (.d (.con (.int .i64 ((↑i : Int))))), (.d (.con (.string (sAt b (Int.toNat (↑i : Int)))))), (.d (.con (.int .i64 (List.getD O (Int.toNat (↑i : Int)) (0 : Int))))), .any, .any, .any, .any, .any, .any, .any, .any, .any, .any, .any, .any, .any, .any, .any, .any, .any, .any, .any, .any, .any, .any, .any, .any, .any, .any, .any, .any, .any, .any, .any, .any, .any, .any, .any, .any, .any, .any, .any, .any, .any, .any, .any, .any, .any, .any, .any, .any, .any, .any, .any, .any, .any, .any, .any, .any, .any, (.d (.slc ((1 : Nat)) (List.length b) (fun i => DV.con (Value.string (sAt b i))))), (.d (.con (.int .i64 ((↑(List.length b) : Int))))), (.d (.con (.int .i64 ((↑i : Int) + (1 : Int))))), (.d (.con (.bool (decide ((↑i : Int) < (↑(List.length b) : Int)))))), (.d (.con (.int .i64 ((↑i : Int))))), (.d (.ptr [(.con (.string (sAt b (Int.toNat (↑i : Int)))))])), (.d (.con (.string (sAt b (Int.toNat (↑i : Int)))))), (.d (.con (.int .i64 ((↑g : Int))))), (.d (.con (.int .i64 ((↑g : Int) + (1 : Int))))), (.d (.con (.int .i64 ((↑i : Int))))), (.d (.slc ((1 : Nat)) (List.length O) (fun i => DV.con (Value.int IntKind.i64 (List.getD O i (0 : Int)))))), (.d (.con (.int .i64 ((↑(List.length O) : Int))))), (.d (.con (.bool (decide ((↑i : Int) < (↑(List.length O) : Int)))))), (.d (.slc ((1 : Nat)) (List.length O) (fun i => DV.con (Value.int IntKind.i64 (List.getD O i (0 : Int)))))), (.d (.con (.int .i64 ((↑i : Int))))), (.d (.ptr [(.con (.int .i64 (List.getD O (Int.toNat (↑i : Int)) (0 : Int))))])), (.d (.con (.int .i64 (List.getD O (Int.toNat (↑i : Int)) (0 : Int))))), (.d (.con (.int .i64 (List.getD O (Int.toNat (↑i : Int)) (0 : Int))))), (.d (.con (.int .i64 ((↑g : Int))))), (.d (.con (.bool (List.getD O (Int.toNat (↑i : Int)) (0 : Int) == (↑g : Int))))), (.d (.con (.bool (List.getD O (Int.toNat (↑i : Int)) (0 : Int) == (↑g : Int))))), .any, .any, (.d (.con (.bool (List.getD O (Int.toNat (↑i : Int)) (0 : Int) == (↑g : Int) || decide (List.getD O (Int.toNat (↑i : Int)) (0 : Int) < (1 : Int)))))), (.d (.con (.bool (List.getD O (Int.toNat (↑i : Int)) (0 : Int) == (↑g : Int) || decide (List.getD O (Int.toNat (↑i : Int)) (0 : Int) < (1 : Int)))))), .any, .any, (.d (.con (.bool (List.getD O (Int.toNat (↑i : Int)) (0 : Int) == (↑g : Int) || decide (List.getD O (Int.toNat (↑i : Int)) (0 : Int) < (1 : Int)) || decide (List.getD O (Int.toNat (↑i : Int)) (0 : Int) > (1099511627776 : Int)))))), .any, .any, .any, .any, .any, .any, .any, .any, .any, .any, .any, (.d (.con (.int .i64 ((↑i : Int) + (1 : Int))))), .any, .any, .any, .any, .any, .any, .any, .any, .any, .any, .any, .any, .any, .any, .any, .any, .any, .any, .any, .any, .any, .any, .any, .any, .any, .any, .any, .any, .any, .any, .any, .any, .any, .any, .any, .any, .any, .any, .any, .any, .any, .any, .any, .any, .any, .any, .any, .any, .any, .any, .any, .any, .any, .any, .any, .any, .any, .any, .any, .any, .any, .any, .any, .any, .any, .any, .any, .any, .any, .any, .any, .any, .any, .any, .any, .any, .any, .any, .any, .any, .any, .any, .any, .any, .any, .any, .any, .any, .any, .any], []⟩)) ∧
      (((List.getD O (Int.toNat (↑i : Int)) (0 : Int) == (↑g : Int) || decide (List.getD O (Int.toNat (↑i : Int)) (0 : Int) < (1 : Int)) || decide (List.getD O (Int.toNat (↑i : Int)) (0 : Int) > (1099511627776 : Int))) = false) →
      (FnOK Tryd.prog G ((17 : Nat)) [(.con (.int .i64 (List.getD O (Int.toNat (↑i : Int)) (0 : Int)))), (.con (.string (sAt b (Int.toNat (↑i : Int)))))] (.tup [(.con (.string (encS (List.getD O (Int.toNat (↑i : Int)) (0 : Int)) (sAt b (Int.toNat (↑i : Int)))))), (.con (.int .i64 (encE (List.getD O (Int.toNat (↑i : Int)) (0 : Int)) (sAt b (Int.toNat (↑i : Int))))))]) ∧
      ((((encE (List.getD O (Int.toNat (↑i : Int)) (0 : Int)) (sAt b (Int.toNat (↑i : Int))) != (0 : Int)) = true) →
      (((.con (.bool false)) : DV) = (db true))) ∧
      (((encE (List.getD O (Int.toNat (↑i : Int)) (0 : Int)) (sAt b (Int.toNat (↑i : Int))) != (0 : Int)) = false) →
      ((ByteArray.size (bs (cellsL L)) + ByteArray.size (encS (List.getD O (Int.toNat (↑i : Int)) (0 : Int)) (sAt b (Int.toNat (↑i : Int)))) ≤ (9223372036854775807 : Nat)) ∧
      ((I64 ((↑i : Int) + (1 : Int))) ∧
      Again (S8 g l q b O wr) (fun x => Prod.fst x ≤ List.length b ∧ List.length (Prod.snd x) ≤ Prod.fst x ∧ ∀ (c : Nat × ByteArray), c ∈ Prod.snd x → ByteArray.size (Prod.snd c) ≤ (60 : Nat) ∧ Prod.fst c ≤ (1099511627776 : Nat) ∧ Prod.fst c ≠ g) (fun x => List.length b - Prod.fst x) ((i, L)) ⟨[(.d (.con (.int .i64 ((↑g : Int))))), (.d (.slc ((1 : Nat)) (List.length l) (fun i => DV.con (Value.string (sAt l i))))), (.d (.con (.string q))), .any, (.d (.slc ((1 : Nat)) (List.length O) (fun i => DV.con (Value.int IntKind.i64 (List.getD O i (0 : Int)))))), (.d (.con (.int .u16 wr))), .any, .any, .any, .any, .any, .any, .any, (.d (.con (.string (bs (recsL g l))))), (.d (.slc ((1 : Nat)) (List.length l + (1 : Nat)) (offF l))), .any, (.d (.con (.string (bs (encL g q))))), .any, (.d (.con (.string (bs (cellsL L) ++ encS (List.getD O (Int.toNat (↑i : Int)) (0 : Int)) (sAt b (Int.toNat (↑i : Int))))))), (.d (.con (.int .i64 ((↑i : Int))))), (.d (.con (.string (sAt b (Int.toNat (↑i : Int)))))), (.d (.con (.int .i64 (List.getD O (Int.toNat (↑i : Int)) (0 : Int))))), (.d (.con (.string (encS (List.getD O (Int.toNat (↑i : Int)) (0 : Int)) (sAt b (Int.toNat (↑i : Int))))))), (.d (.con (.int .i64 (encE (List.getD O (Int.toNat (↑i : Int)) (0 : Int)) (sAt b (Int.toNat (↑i : Int))))))), .any, .any, .any, .any, .any, .any, .any, .any, .any, .any, .any, .any, .any, .any, .any, .any, .any, .any, .any, .any, .any, .any, .any, .any, .any, .any, .any, .any, .any, .any, .any, .any, .any, .any, .any, .any, .any, .any, .any, .any, .any, .any, .any, .any, .any, .any, .any, .any, .any, .any, .any, .any, .any, .any, .any, (.d (.slc ((1 : Nat)) (List.length b) (fun i => DV.con (Value.string (sAt b i))))), (.d (.con (.int .i64 ((↑(List.length b) : Int))))), (.d (.con (.int .i64 ((↑i : Int) + (1 : Int))))), (.d (.con (.bool (decide ((↑i : Int) < (↑(List.length b) : Int)))))), (.d (.con (.int .i64 ((↑i : Int))))), (.d (.ptr [(.con (.string (sAt b (Int.toNat (↑i : Int)))))])), (.d (.con (.string (sAt b (Int.toNat (↑i : Int)))))), (.d (.con (.int .i64 ((↑g : Int))))), (.d (.con (.int .i64 ((↑g : Int) + (1 : Int))))), (.d (.con (.int .i64 ((↑i : Int))))), (.d (.slc ((1 : Nat)) (List.length O) (fun i => DV.con (Value.int IntKind.i64 (List.getD O i (0 : Int)))))), (.d (.con (.int .i64 ((↑(List.length O) : Int))))), (.d (.con (.bool (decide ((↑i : Int) < (↑(List.length O) : Int)))))), (.d (.slc ((1 : Nat)) (List.length O) (fun i => DV.con (Value.int IntKind.i64 (List.getD O i (0 : Int)))))), (.d (.con (.int .i64 ((↑i : Int))))), (.d (.ptr [(.con (.int .i64 (List.getD O (Int.toNat (↑i : Int)) (0 : Int))))])), (.d (.con (.int .i64 (List.getD O (Int.toNat (↑i : Int)) (0 : Int))))), (.d (.con (.int .i64 (List.getD O (Int.toNat (↑i : Int)) (0 : Int))))), (.d (.con (.int .i64 ((↑g : Int))))), (.d (.con (.bool (List.getD O (Int.toNat (↑i : Int)) (0 : Int) == (↑g : Int))))), (.d (.con (.bool (List.getD O (Int.toNat (↑i : Int)) (0 : Int) == (↑g : Int))))), .any, .any, (.d (.con (.bool (List.getD O (Int.toNat (↑i : Int)) (0 : Int) == (↑g : Int) || decide (List.getD O (Int.toNat (↑i : Int)) (0 : Int) < (1 : Int)))))), (.d (.con (.bool (List.getD O (Int.toNat (↑i : Int)) (0 : Int) == (↑g : Int) || decide (List.getD O (Int.toNat (↑i : Int)) (0 : Int) < (1 : Int)))))), .any, .any, (.d (.con (.bool (List.getD O (Int.toNat (↑i : Int)) (0 : Int) == (↑g : Int) || decide (List.getD O (Int.toNat (↑i : Int)) (0 : Int) < (1 : Int)) || decide (List.getD O (Int.toNat (↑i : Int)) (0 : Int) > (1099511627776 : Int)))))), (.d (.tup [(.con (.string (encS (List.getD O (Int.toNat (↑i : Int)) (0 : Int)) (sAt b (Int.toNat (↑i : Int)))))), (.con (.int .i64 (encE (List.getD O (Int.toNat (↑i : Int)) (0 : Int)) (sAt b (Int.toNat (↑i : Int))))))])), (.d (.con (.int .i64 (List.getD O (Int.toNat (↑i : Int)) (0 : Int))))), (.d (.con (.string (sAt b (Int.toNat (↑i : Int)))))), (.d (.tup [(.con (.string (encS (List.getD O (Int.toNat (↑i : Int)) (0 : Int)) (sAt b (Int.toNat (↑i : Int)))))), (.con (.int .i64 (encE (List.getD O (Int.toNat (↑i : Int)) (0 : Int)) (sAt b (Int.toNat (↑i : Int))))))])), (.d (.con (.string (encS (List.getD O (Int.toNat (↑i : Int)) (0 : Int)) (sAt b (Int.toNat (↑i : Int))))))), (.d (.con (.int .i64 (encE (List.getD O (Int.toNat (↑i : Int)) (0 : Int)) (sAt b (Int.toNat (↑i : Int))))))), (.d (.con (.int .i64 (encE (List.getD O (Int.toNat (↑i : Int)) (0 : Int)) (sAt b (Int.toNat (↑i : Int))))))), (.d (.con (.bool (encE (List.getD O (Int.toNat (↑i : Int)) (0 : Int)) (sAt b (Int.toNat (↑i : Int))) != (0 : Int))))), (.d (.con (.string (bs (cellsL L))))), (.d (.con (.string (encS (List.getD O (Int.toNat (↑i : Int)) (0 : Int)) (sAt b (Int.toNat (↑i : Int))))))), (.d (.con (.string (bs (cellsL L) ++ encS (List.getD O (Int.toNat (↑i : Int)) (0 : Int)) (sAt b (Int.toNat (↑i : Int))))))), (.d (.con (.int .i64 ((↑i : Int) + (1 : Int))))), .any, .any, .any, .any, .any, .any, .any, .any, .any, .any, .any, .any, .any, .any, .any, .any, .any, .any, .any, .any, .any, .any, .any, .any, .any, .any, .any, .any, .any, .any, .any, .any, .any, .any, .any, .any, .any, .any, .any, .any, .any, .any, .any, .any, .any, .any, .any, .any, .any, .any, .any, .any, .any, .any, .any, .any, .any, .any, .any, .any, .any, .any, .any, .any, .any, .any, .any, .any, .any, .any, .any, .any, .any, .any, .any, .any, .any, .any, .any, .any, .any, .any, .any, .any, .any, .any, .any, .any, .any, .any], []⟩))))))))) ∧
      (((decide ((↑i : Int) < (↑(List.length O) : Int))) = false) →
      (((((↑g : Int) + (1 : Int) == (↑g : Int) || decide ((↑g : Int) + (1 : Int) < (1 : Int)) || decide ((↑g : Int) + (1 : Int) > (1099511627776 : Int))) = true) →
      ((I64 ((↑i : Int) + (1 : Int))) ∧
      Again (S8 g l q b O wr) (fun x => Prod.fst x ≤ List.length b ∧ List.length (Prod.snd x) ≤ Prod.fst x ∧ ∀ (c : Nat × ByteArray), c ∈ Prod.snd x → ByteArray.size (Prod.snd c) ≤ (60 : Nat) ∧ Prod.fst c ≤ (1099511627776 : Nat) ∧ Prod.fst c ≠ g) (fun x => List.length b - Prod.fst x) ((i, L)) ⟨[(.d (.con (.int .i64 ((↑g : Int))))), (.d (.slc ((1 : Nat)) (List.length l) (fun i => DV.con (Value.string (sAt l i))))), (.d (.con (.string q))), .any, (.d (.slc ((1 : Nat)) (List.length O) (fun i => DV.con (Value.int IntKind.i64 (List.getD O i (0 : Int)))))), (.d (.con (.int .u16 wr))), .any, .any, .any, .any, .any, .any, .any, (.d (.con (.string (bs (recsL g l))))), (.d (.slc ((1 : Nat)) (List.length l + (1 : Nat)) (offF l))), .any, (.d (.con (.string (bs (encL g q))))), .any, (.d (.con (.string (bs (cellsL L))))), (.d (.con (.int .i64 ((↑i : Int))))), (.d (.con (.string (sAt b (Int.toNat (↑i : Int)))))), (.d (.con (.int .i64 ((↑g : Int) + (1 : Int))))), .any, .any, .any, .any, .any, .any, .any, .any, .any, .any, .any, .any, .any, .any, .any, .any, .any, .any, .any, .any, .any, .any, .any, .any, .any, .any, .any, .any, .any, .any, .any, .any, .any, .any, .any, .any, .any, .any, .any, .any, .any, .any, .any, .any, .any, .any, .any, .any, .any, .any, .any, .any, .any, .any, .any, .any, .any, (.d (.slc ((1 : Nat)) (List.length b) (fun i => DV.con (Value.string (sAt b i))))), (.d (.con (.int .i64 ((↑(List.length b) : Int))))), (.d (.con (.int .i64 ((↑i : Int) + (1 : Int))))), (.d (.con (.bool (decide ((↑i : Int) < (↑(List.length b) : Int)))))), (.d (.con (.int .i64 ((↑i : Int))))), (.d (.ptr [(.con (.string (sAt b (Int.toNat (↑i : Int)))))])), (.d (.con (.string (sAt b (Int.toNat (↑i : Int)))))), (.d (.con (.int .i64 ((↑g : Int))))), (.d (.con (.int .i64 ((↑g : Int) + (1 : Int))))), (.d (.con (.int .i64 ((↑i : Int))))), (.d (.slc ((1 : Nat)) (List.length O) (fun i => DV.con (Value.int IntKind.i64 (List.getD O i (0 : Int)))))), (.d (.con (.int .i64 ((↑(List.length O) : Int))))), (.d (.con (.bool (decide ((↑i : Int) < (↑(List.length O) : Int)))))), .any, .any, .any, .any, (.d (.con (.int .i64 ((↑g : Int) + (1 : Int))))), (.d (.con (.int .i64 ((↑g : Int))))), (.d (.con (.bool ((↑g : Int) + (1 : Int) == (↑g : Int))))), (.d (.con (.bool ((↑g : Int) + (1 : Int) == (↑g : Int))))), .any, .any, (.d (.con (.bool ((↑g : Int) + (1 : Int) == (↑g : Int) || decide ((↑g : Int) + (1 : Int) < (1 : Int)))))), (.d (.con (.bool ((↑g : Int) + (1 : Int) == (↑g : Int) || decide ((↑g : Int) + (1 : Int) < (1 : Int)))))), .any, .any, (.d (.con (.bool ((↑g : Int) + (1 : Int) == (↑g : Int) || decide ((↑g : Int) + (1 : Int) < (1 : Int)) || decide ((↑g : Int) + (1 : Int) > (1099511627776 : Int)))))), .any, .any, .any, .any, .any, .any, .any, .any, .any, .any, .any, (.d (.con (.int .i64 ((↑i : Int) + (1 : Int))))), .any, .any, .any, .any, .any, .any, .any, .any, .any, .any, .any, .any, .any, .any, .any, .any, .any, .any, .any, .any, .any, .any, .any, .any, .any, .any, .any, .any, .any, .any, .any, .any, .any, .any, .any, .any, .any, .any, .any, .any, .any, .any, .any, .any, .any, .any, .any, .any, .any, .any, .any, .any, .any, .any, .any, .any, .any, .any, .any, .any, .any, .any, .any, .any, .any, .any, .any, .any, .any, .any, .any, .any, .any, .any, .any, .any, .any, .any, .any, .any, .any, .any, .any, .any, .any, .any, .any, .any, .any, .any], []⟩)) ∧
      ((((↑g : Int) + (1 : Int) == (↑g : Int) || decide ((↑g : Int) + (1 : Int) < (1 : Int)) || decide ((↑g : Int) + (1 : Int) > (1099511627776 : Int))) = false) →
      (FnOK Tryd.prog G ((17 : Nat)) [(.con (.int .i64 ((↑g : Int) + (1 : Int)))), (.con (.string (sAt b (Int.toNat (↑i : Int)))))] (.tup [(.con (.string (encS ((↑g : Int) + (1 : Int)) (sAt b (Int.toNat (↑i : Int)))))), (.con (.int .i64 (encE ((↑g : Int) + (1 : Int)) (sAt b (Int.toNat (↑i : Int))))))]) ∧
      ((((encE ((↑g : Int) + (1 : Int)) (sAt b (Int.toNat (↑i : Int))) != (0 : Int)) = true) →
      (((.con (.bool false)) : DV) = (db true))) ∧
      (((encE ((↑g : Int) + (1 : Int)) (sAt b (Int.toNat (↑i : Int))) != (0 : Int)) = false) →
      ((ByteArray.size (bs (cellsL L)) + ByteArray.size (encS ((↑g : Int) + (1 : Int)) (sAt b (Int.toNat (↑i : Int)))) ≤ (9223372036854775807 : Nat)) ∧
      ((I64 ((↑i : Int) + (1 : Int))) ∧
      Again (S8 g l q b O wr) (fun x => Prod.fst x ≤ List.length b ∧ List.length (Prod.snd x) ≤ Prod.fst x ∧ ∀ (c : Nat × ByteArray), c ∈ Prod.snd x → ByteArray.size (Prod.snd c) ≤ (60 : Nat) ∧ Prod.fst c ≤ (1099511627776 : Nat) ∧ Prod.fst c ≠ g) (fun x => List.length b - Prod.fst x) ((i, L)) ⟨[(.d (.con (.int .i64 ((↑g : Int))))), (.d (.slc ((1 : Nat)) (List.length l) (fun i => DV.con (Value.string (sAt l i))))), (.d (.con (.string q))), .any, (.d (.slc ((1 : Nat)) (List.length O) (fun i => DV.con (Value.int IntKind.i64 (List.getD O i (0 : Int)))))), (.d (.con (.int .u16 wr))), .any, .any, .any, .any, .any, .any, .any, (.d (.con (.string (bs (recsL g l))))), (.d (.slc ((1 : Nat)) (List.length l + (1 : Nat)) (offF l))), .any, (.d (.con (.string (bs (encL g q))))), .any, (.d (.con (.string (bs (cellsL L) ++ encS ((↑g : Int) + (1 : Int)) (sAt b (Int.toNat (↑i : Int))))))), (.d (.con (.int .i64 ((↑i : Int))))), (.d (.con (.string (sAt b (Int.toNat (↑i : Int)))))), (.d (.con (.int .i64 ((↑g : Int) + (1 : Int))))), (.d (.con (.string (encS ((↑g : Int) + (1 : Int)) (sAt b (Int.toNat (↑i : Int))))))), (.d (.con (.int .i64 (encE ((↑g : Int) + (1 : Int)) (sAt b (Int.toNat (↑i : Int))))))), .any, .any, .any, .any, .any, .any, .any, .any, .any, .any, .any, .any, .any, .any, .any, .any, .any, .any, .any, .any, .any, .any, .any, .any, .any, .any, .any, .any, .any, .any, .any, .any, .any, .any, .any, .any, .any, .any, .any, .any, .any, .any, .any, .any, .any, .any, .any, .any, .any, .any, .any, .any, .any, .any, .any, (.d (.slc ((1 : Nat)) (List.length b) (fun i => DV.con (Value.string (sAt b i))))), (.d (.con (.int .i64 ((↑(List.length b) : Int))))), (.d (.con (.int .i64 ((↑i : Int) + (1 : Int))))), (.d (.con (.bool (decide ((↑i : Int) < (↑(List.length b) : Int)))))), (.d (.con (.int .i64 ((↑i : Int))))), (.d (.ptr [(.con (.string (sAt b (Int.toNat (↑i : Int)))))])), (.d (.con (.string (sAt b (Int.toNat (↑i : Int)))))), (.d (.con (.int .i64 ((↑g : Int))))), (.d (.con (.int .i64 ((↑g : Int) + (1 : Int))))), (.d (.con (.int .i64 ((↑i : Int))))), (.d (.slc ((1 : Nat)) (List.length O) (fun i => DV.con (Value.int IntKind.i64 (List.getD O i (0 : Int)))))), (.d (.con (.int .i64 ((↑(List.length O) : Int))))), (.d (.con (.bool (decide ((↑i : Int) < (↑(List.length O) : Int)))))), .any, .any, .any, .any, (.d (.con (.int .i64 ((↑g : Int) + (1 : Int))))), (.d (.con (.int .i64 ((↑g : Int))))), (.d (.con (.bool ((↑g : Int) + (1 : Int) == (↑g : Int))))), (.d (.con (.bool ((↑g : Int) + (1 : Int) == (↑g : Int))))), .any, .any, (.d (.con (.bool ((↑g : Int) + (1 : Int) == (↑g : Int) || decide ((↑g : Int) + (1 : Int) < (1 : Int)))))), (.d (.con (.bool ((↑g : Int) + (1 : Int) == (↑g : Int) || decide ((↑g : Int) + (1 : Int) < (1 : Int)))))), .any, .any, (.d (.con (.bool ((↑g : Int) + (1 : Int) == (↑g : Int) || decide ((↑g : Int) + (1 : Int) < (1 : Int)) || decide ((↑g : Int) + (1 : Int) > (1099511627776 : Int)))))), (.d (.tup [(.con (.string (encS ((↑g : Int) + (1 : Int)) (sAt b (Int.toNat (↑i : Int)))))), (.con (.int .i64 (encE ((↑g : Int) + (1 : Int)) (sAt b (Int.toNat (↑i : Int))))))])), (.d (.con (.int .i64 ((↑g : Int) + (1 : Int))))), (.d (.con (.string (sAt b (Int.toNat (↑i : Int)))))), (.d (.tup [(.con (.string (encS ((↑g : Int) + (1 : Int)) (sAt b (Int.toNat (↑i : Int)))))), (.con (.int .i64 (encE ((↑g : Int) + (1 : Int)) (sAt b (Int.toNat (↑i : Int))))))])), (.d (.con (.string (encS ((↑g : Int) + (1 : Int)) (sAt b (Int.toNat (↑i : Int))))))), (.d (.con (.int .i64 (encE ((↑g : Int) + (1 : Int)) (sAt b (Int.toNat (↑i : Int))))))), (.d (.con (.int .i64 (encE ((↑g : Int) + (1 : Int)) (sAt b (Int.toNat (↑i : Int))))))), (.d (.con (.bool (encE ((↑g : Int) + (1 : Int)) (sAt b (Int.toNat (↑i : Int))) != (0 : Int))))), (.d (.con (.string (bs (cellsL L))))), (.d (.con (.string (encS ((↑g : Int) + (1 : Int)) (sAt b (Int.toNat (↑i : Int))))))), (.d (.con (.string (bs (cellsL L) ++ encS ((↑g : Int) + (1 : Int)) (sAt b (Int.toNat (↑i : Int))))))), (.d (.con (.int .i64 ((↑i : Int) + (1 : Int))))), .any, .any, .any, .any, .any, .any, .any, .any, .any, .any, .any, .any, .any, .any, .any, .any, .any, .any, .any, .any, .any, .any, .any, .any, .any, .any, .any, .any, .any, .any, .any, .any, .any, .any, .any, .any, .any, .any, .any, .any, .any, .any, .any, .any, .any, .any, .any, .any, .any, .any, .any, .any, .any, .any, .any, .any, .any, .any, .any, .any, .any, .any, .any, .any, .any, .any, .any, .any, .any, .any, .any, .any, .any, .any, .any, .any, .any, .any, .any, .any, .any, .any, .any, .any, .any, .any, .any, .any, .any, .any], []⟩)))))))))))) ∧
      (((decide ((↑i : Int) < (↑(List.length b) : Int))) = false) →
      AWP Tryd.prog G [.code (cAt (bodyOf Tryd.f8) [1, 1, 1, 1, 1, 1, 1, 1])] ⟨[(.d (.con (.int .i64 ((↑g : Int))))), (.d (.slc ((1 : Nat)) (List.length l) (fun i => DV.con (Value.string (sAt l i))))), (.d (.con (.string q))), .any, (.d (.slc ((1 : Nat)) (List.length O) (fun i => DV.con (Value.int IntKind.i64 (List.getD O i (0 : Int)))))), (.d (.con (.int .u16 wr))), .any, .any, .any, .any, .any, .any, .any, (.d (.con (.string (bs (recsL g l))))), (.d (.slc ((1 : Nat)) (List.length l + (1 : Nat)) (offF l))), .any, (.d (.con (.string (bs (encL g q))))), .any, (.d (.con (.string (bs (cellsL L))))), .any, .any, .any, .any, .any, .any, .any, .any, .any, .any, .any, .any, .any, .any, .any, .any, .any, .any, .any, .any, .any, .any, .any, .any, .any, .any, .any, .any, .any, .any, .any, .any, .any, .any, .any, .any, .any, .any, .any, .any, .any, .any, .any, .any, .any, .any, .any, .any, .any, .any, .any, .any, .any, .any, .any, .any, .any, .any, .any, .any, (.d (.slc ((1 : Nat)) (List.length b) (fun i => DV.con (Value.string (sAt b i))))), (.d (.con (.int .i64 ((↑(List.length b) : Int))))), (.d (.con (.int .i64 ((↑i : Int))))), (.d (.con (.bool (decide ((↑i : Int) < (↑(List.length b) : Int)))))), .any, .any, .any, .any, .any, .any, .any, .any, .any, .any, .any, .any, .any, .any, .any, .any, .any, .any, .any, .any, .any, .any, .any, .any, .any, .any, .any, .any, .any, .any, .any, .any, .any, .any, .any, .any, .any, .any, .any, .any, .any, .any, .any, .any, .any, .any, .any, .any, .any, .any, .any, .any, .any, .any, .any, .any, .any, .any, .any, .any, .any, .any, .any, .any, .any, .any, .any, .any, .any, .any, .any, .any, .any, .any, .any, .any, .any, .any, .any, .any, .any, .any, .any, .any, .any, .any, .any, .any, .any, .any, .any, .any, .any, .any, .any, .any, .any, .any, .any, .any, .any, .any, .any, .any, .any, .any, .any, .any, .any, .any, .any, .any, .any, .any, .any, .any, .any, .any, .any, .any, .any, .any, .any, .any, .any, .any], []⟩ (Ret Tryd.prog Tryd.f8 (db true))))) (by kernel_rfl) ?_
    have hlen : (cellsL L).length ≤ 170 * L.length := cellsL_le fun c hc => (hL c hc).1
    have hi : i ≤ b.length := hi
    have hLi : L.length ≤ i := hLi
    refine ⟨fun h => ?_, fun h => ?_⟩
    · have hi' : i < b.length := by simpa using h
      have hp : (sAt b i).size ≤ 60 := by rw [sAt_get hi']; exact hb3 _ (List.getElem_mem hi')
      have step : ∀ v : Int, (v == (g : Int) || decide (v < 1) || decide (v > 1099511627776)) = false → ∃ n : Nat, v = n ∧ okGen (n : Int) = true ∧ n ≤ 1099511627776 ∧ n ≠ g := by
        intro v hv
        simp at hv
        obtain ⟨n, rfl⟩ := Int.eq_ofNat_of_zero_le (show 0 ≤ v by omega)
        exact ⟨n, rfl, (okGen_iff _).2 ⟨by omega, by omega⟩, by omega, by omega⟩
      simp only [Int.toNat_natCast]
      refine ⟨⟨by omega, by omega⟩, ⟨by omega, by omega⟩, fun ho => ⟨⟨by omega, by simpa using ho⟩, fun h => ⟨⟨by omega, by omega⟩, Again.mk (i + 1, L) ?_ ⟨by simp only; omega, by simp only; omega, hL⟩ (by simp only; omega)⟩, fun h => ?_⟩, fun ho => ⟨fun h => ⟨⟨by omega, by omega⟩, Again.mk (i + 1, L) ?_ ⟨by simp only; omega, by simp only; omega, hL⟩ (by simp only; omega)⟩, fun h => ?_⟩⟩
      · refine of_eq (b :=
        (((((.d (.con (.int .i64 ((↑g : Int))))) : AV) = (.d (.con (.int .i64 ((↑g : Int)))))) ∧
        ((((.d (.slc ((1 : Nat)) (List.length l) (fun i => DV.con (Value.string (sAt l i))))) : AV) = (.d (.slc ((1 : Nat)) (List.length l) (fun i => DV.con (Value.string (sAt l i)))))) ∧
        ((((.d (.con (.string q))) : AV) = (.d (.con (.string q)))) ∧
        ((((.d (.slc ((1 : Nat)) (List.length O) (fun i => DV.con (Value.int IntKind.i64 (List.getD O i (0 : Int)))))) : AV) = (.d (.slc ((1 : Nat)) (List.length O) (fun i => DV.con (Value.int IntKind.i64 (List.getD O i (0 : Int))))))) ∧
        ((((.d (.con (.int .u16 wr))) : AV) = (.d (.con (.int .u16 wr)))) ∧
        ((((.d (.con (.string (bs (recsL g l))))) : AV) = (.d (.con (.string (bs (recsL g l)))))) ∧
        ((((.d (.slc ((1 : Nat)) (List.length l + (1 : Nat)) (offF l))) : AV) = (.d (.slc ((1 : Nat)) (List.length l + (1 : Nat)) (offF l)))) ∧
        ((((.d (.con (.string (bs (encL g q))))) : AV) = (.d (.con (.string (bs (encL g q)))))) ∧
        ((((.d (.con (.string (bs (cellsL L))))) : AV) = (.d (.con (.string (bs (cellsL L)))))) ∧
        ((((.d (.slc ((1 : Nat)) (List.length b) (fun i => DV.con (Value.string (sAt b i))))) : AV) = (.d (.slc ((1 : Nat)) (List.length b) (fun i => DV.con (Value.string (sAt b i)))))) ∧
        ((((.d (.con (.int .i64 ((↑(List.length b) : Int))))) : AV) = (.d (.con (.int .i64 ((↑(List.length b) : Int)))))) ∧
        ((((.d (.con (.int .i64 ((↑i : Int) + (1 : Int))))) : AV) = (.d (.con (.int .i64 ((↑(i + (1 : Nat)) : Int)))))) ∧
        True)))))))))))) ∧
        True)) (by kernel_rfl) ?_
        exact ⟨⟨rfl, rfl, rfl, rfl, rfl, rfl, rfl, rfl, rfl, rfl, rfl, rfl, trivial⟩, trivial⟩
      · obtain ⟨n, hv, hn1, hn2, hn3⟩ := step _ h
        simp only [hv]
        obtain ⟨hS', hE'⟩ := enc_ok hn1 (show (sAt b i).size ≤ 30000 by omega)
        have k17' := f17' (G := G) (n : Int) (sAt b i)
        rw [hS', hE'] at k17' ⊢
        refine ⟨k17', fun h => by simp at h, fun _ => ⟨?_, ⟨by omega, by omega⟩, Again.mk (i + 1, L ++ [(n, sAt b i)]) ?_ ⟨by simp only; omega, by simp; omega, ?_⟩ (by simp only; omega)⟩⟩
        · rw [bs_size, bs_size, encL_len]; omega
        · refine of_eq (b :=
          (((((.d (.con (.int .i64 ((↑g : Int))))) : AV) = (.d (.con (.int .i64 ((↑g : Int)))))) ∧
          ((((.d (.slc ((1 : Nat)) (List.length l) (fun i => DV.con (Value.string (sAt l i))))) : AV) = (.d (.slc ((1 : Nat)) (List.length l) (fun i => DV.con (Value.string (sAt l i)))))) ∧
          ((((.d (.con (.string q))) : AV) = (.d (.con (.string q)))) ∧
          ((((.d (.slc ((1 : Nat)) (List.length O) (fun i => DV.con (Value.int IntKind.i64 (List.getD O i (0 : Int)))))) : AV) = (.d (.slc ((1 : Nat)) (List.length O) (fun i => DV.con (Value.int IntKind.i64 (List.getD O i (0 : Int))))))) ∧
          ((((.d (.con (.int .u16 wr))) : AV) = (.d (.con (.int .u16 wr)))) ∧
          ((((.d (.con (.string (bs (recsL g l))))) : AV) = (.d (.con (.string (bs (recsL g l)))))) ∧
          ((((.d (.slc ((1 : Nat)) (List.length l + (1 : Nat)) (offF l))) : AV) = (.d (.slc ((1 : Nat)) (List.length l + (1 : Nat)) (offF l)))) ∧
          ((((.d (.con (.string (bs (encL g q))))) : AV) = (.d (.con (.string (bs (encL g q)))))) ∧
          ((((.d (.con (.string (bs (cellsL L) ++ bs (encL n (sAt b i)))))) : AV) = (.d (.con (.string (bs (cellsL (L ++ [(n, sAt b i)]))))))) ∧
          ((((.d (.slc ((1 : Nat)) (List.length b) (fun i => DV.con (Value.string (sAt b i))))) : AV) = (.d (.slc ((1 : Nat)) (List.length b) (fun i => DV.con (Value.string (sAt b i)))))) ∧
          ((((.d (.con (.int .i64 ((↑(List.length b) : Int))))) : AV) = (.d (.con (.int .i64 ((↑(List.length b) : Int)))))) ∧
          ((((.d (.con (.int .i64 ((↑i : Int) + (1 : Int))))) : AV) = (.d (.con (.int .i64 ((↑(i + (1 : Nat)) : Int)))))) ∧
          True)))))))))))) ∧
          True)) (by kernel_rfl) ?_
          rw [bs_append, ← cellsL_one]
          exact ⟨⟨rfl, rfl, rfl, rfl, rfl, rfl, rfl, rfl, rfl, rfl, rfl, rfl, trivial⟩, trivial⟩
        · intro c hc
          rcases List.mem_append.1 hc with hc | hc
          · exact hL c hc
          · rw [List.mem_singleton] at hc
            subst hc
            exact ⟨hp, hn2, hn3⟩
      · refine of_eq (b :=
        (((((.d (.con (.int .i64 ((↑g : Int))))) : AV) = (.d (.con (.int .i64 ((↑g : Int)))))) ∧
        ((((.d (.slc ((1 : Nat)) (List.length l) (fun i => DV.con (Value.string (sAt l i))))) : AV) = (.d (.slc ((1 : Nat)) (List.length l) (fun i => DV.con (Value.string (sAt l i)))))) ∧
        ((((.d (.con (.string q))) : AV) = (.d (.con (.string q)))) ∧
        ((((.d (.slc ((1 : Nat)) (List.length O) (fun i => DV.con (Value.int IntKind.i64 (List.getD O i (0 : Int)))))) : AV) = (.d (.slc ((1 : Nat)) (List.length O) (fun i => DV.con (Value.int IntKind.i64 (List.getD O i (0 : Int))))))) ∧
        ((((.d (.con (.int .u16 wr))) : AV) = (.d (.con (.int .u16 wr)))) ∧
        ((((.d (.con (.string (bs (recsL g l))))) : AV) = (.d (.con (.string (bs (recsL g l)))))) ∧
        ((((.d (.slc ((1 : Nat)) (List.length l + (1 : Nat)) (offF l))) : AV) = (.d (.slc ((1 : Nat)) (List.length l + (1 : Nat)) (offF l)))) ∧
        ((((.d (.con (.string (bs (encL g q))))) : AV) = (.d (.con (.string (bs (encL g q)))))) ∧
        ((((.d (.con (.string (bs (cellsL L))))) : AV) = (.d (.con (.string (bs (cellsL L)))))) ∧
        ((((.d (.slc ((1 : Nat)) (List.length b) (fun i => DV.con (Value.string (sAt b i))))) : AV) = (.d (.slc ((1 : Nat)) (List.length b) (fun i => DV.con (Value.string (sAt b i)))))) ∧
        ((((.d (.con (.int .i64 ((↑(List.length b) : Int))))) : AV) = (.d (.con (.int .i64 ((↑(List.length b) : Int)))))) ∧
        ((((.d (.con (.int .i64 ((↑i : Int) + (1 : Int))))) : AV) = (.d (.con (.int .i64 ((↑(i + (1 : Nat)) : Int)))))) ∧
        True)))))))))))) ∧
        True)) (by kernel_rfl) ?_
        exact ⟨⟨rfl, rfl, rfl, rfl, rfl, rfl, rfl, rfl, rfl, rfl, rfl, rfl, trivial⟩, trivial⟩
      · obtain ⟨n, hv, hn1, hn2, hn3⟩ := step _ h
        simp only [hv]
        obtain ⟨hS', hE'⟩ := enc_ok hn1 (show (sAt b i).size ≤ 30000 by omega)
        have k17' := f17' (G := G) (n : Int) (sAt b i)
        rw [hS', hE'] at k17' ⊢
        refine ⟨k17', fun h => by simp at h, fun _ => ⟨?_, ⟨by omega, by omega⟩, Again.mk (i + 1, L ++ [(n, sAt b i)]) ?_ ⟨by simp only; omega, by simp; omega, ?_⟩ (by simp only; omega)⟩⟩
        · rw [bs_size, bs_size, encL_len]; omega
        · refine of_eq (b :=
          (((((.d (.con (.int .i64 ((↑g : Int))))) : AV) = (.d (.con (.int .i64 ((↑g : Int)))))) ∧
          ((((.d (.slc ((1 : Nat)) (List.length l) (fun i => DV.con (Value.string (sAt l i))))) : AV) = (.d (.slc ((1 : Nat)) (List.length l) (fun i => DV.con (Value.string (sAt l i)))))) ∧
          ((((.d (.con (.string q))) : AV) = (.d (.con (.string q)))) ∧
          ((((.d (.slc ((1 : Nat)) (List.length O) (fun i => DV.con (Value.int IntKind.i64 (List.getD O i (0 : Int)))))) : AV) = (.d (.slc ((1 : Nat)) (List.length O) (fun i => DV.con (Value.int IntKind.i64 (List.getD O i (0 : Int))))))) ∧
          ((((.d (.con (.int .u16 wr))) : AV) = (.d (.con (.int .u16 wr)))) ∧
          ((((.d (.con (.string (bs (recsL g l))))) : AV) = (.d (.con (.string (bs (recsL g l)))))) ∧
          ((((.d (.slc ((1 : Nat)) (List.length l + (1 : Nat)) (offF l))) : AV) = (.d (.slc ((1 : Nat)) (List.length l + (1 : Nat)) (offF l)))) ∧
          ((((.d (.con (.string (bs (encL g q))))) : AV) = (.d (.con (.string (bs (encL g q)))))) ∧
          ((((.d (.con (.string (bs (cellsL L) ++ bs (encL n (sAt b i)))))) : AV) = (.d (.con (.string (bs (cellsL (L ++ [(n, sAt b i)]))))))) ∧
          ((((.d (.slc ((1 : Nat)) (List.length b) (fun i => DV.con (Value.string (sAt b i))))) : AV) = (.d (.slc ((1 : Nat)) (List.length b) (fun i => DV.con (Value.string (sAt b i)))))) ∧
          ((((.d (.con (.int .i64 ((↑(List.length b) : Int))))) : AV) = (.d (.con (.int .i64 ((↑(List.length b) : Int)))))) ∧
          ((((.d (.con (.int .i64 ((↑i : Int) + (1 : Int))))) : AV) = (.d (.con (.int .i64 ((↑(i + (1 : Nat)) : Int)))))) ∧
          True)))))))))))) ∧
          True)) (by kernel_rfl) ?_
          rw [bs_append, ← cellsL_one]
          exact ⟨⟨rfl, rfl, rfl, rfl, rfl, rfl, rfl, rfl, rfl, rfl, rfl, rfl, trivial⟩, trivial⟩
        · intro c hc
          rcases List.mem_append.1 hc with hc | hc
          · exact hL c hc
          · rw [List.mem_singleton] at hc
            subst hc
            exact ⟨hp, hn2, hn3⟩
    · refine walk (orc := orc8) (keep := []) (cuts := []) (n := 1000) follows ?_
      refine of_eqH (b :=
        (((I64 ((↑(ByteArray.size (bs (recsL g l))) : Int) + (↑(ByteArray.size (bs (encL g q))) : Int))) ∧
        ((I64 ((↑(ByteArray.size (bs (recsL g l))) : Int) + (↑(ByteArray.size (bs (encL g q))) : Int) - (↑(ByteArray.size (bs (cellsL L))) : Int))) ∧
        (FnOK Tryd.prog G ((22 : Nat)) [(.con (.string ({ data := #[(0 : UInt8)] }))), (.con (.int .i64 (if (↑(ByteArray.size (bs (recsL g l))) : Int) + (↑(ByteArray.size (bs (encL g q))) : Int) - (↑(ByteArray.size (bs (cellsL L))) : Int) > (0 : Int) then (↑(ByteArray.size (bs (recsL g l))) : Int) + (↑(ByteArray.size (bs (encL g q))) : Int) - (↑(ByteArray.size (bs (cellsL L))) : Int) else (0 : Int))))] (.con (.string (bs (zeros (Int.toNat (if (↑(ByteArray.size (bs (recsL g l))) : Int) + (↑(ByteArray.size (bs (encL g q))) : Int) - (↑(ByteArray.size (bs (cellsL L))) : Int) > (0 : Int) then (↑(ByteArray.size (bs (recsL g l))) : Int) + (↑(ByteArray.size (bs (encL g q))) : Int) - (↑(ByteArray.size (bs (cellsL L))) : Int) else (0 : Int))))))) ∧
        (ByteArray.size (bs (cellsL L)) + ByteArray.size (bs (zeros (Int.toNat (if (↑(ByteArray.size (bs (recsL g l))) : Int) + (↑(ByteArray.size (bs (encL g q))) : Int) - (↑(ByteArray.size (bs (cellsL L))) : Int) > (0 : Int) then (↑(ByteArray.size (bs (recsL g l))) : Int) + (↑(ByteArray.size (bs (encL g q))) : Int) - (↑(ByteArray.size (bs (cellsL L))) : Int) else (0 : Int))))) ≤ (9223372036854775807 : Nat))))) ∧
        (((I64 ((↑(ByteArray.size (bs (encL g q))) : Int) + (1 : Int))) ∧
        ((↑(ByteArray.size (bs (encL g q))) : Int) + (1 : Int) ≠ (0 : Int))) ∧
        (((((0 : Int) ≤ (0 : Int)) ∧
        (((0 : Int) ≤ Int.tmod (IntKind.wrap IntKind.i64 wr) ((↑(ByteArray.size (bs (encL g q))) : Int) + (1 : Int))) ∧
        (Int.tmod (IntKind.wrap IntKind.i64 wr) ((↑(ByteArray.size (bs (encL g q))) : Int) + (1 : Int)) ≤ (↑(ByteArray.size (bs (encL g q))) : Int)))) ∧
        ((ByteArray.size (bs (recsL g l)) + ByteArray.size (ByteArray.extract (bs (encL g q)) (Int.toNat (0 : Int)) (Int.toNat (Int.tmod (IntKind.wrap IntKind.i64 wr) ((↑(ByteArray.size (bs (encL g q))) : Int) + (1 : Int))))) ≤ (9223372036854775807 : Nat)) ∧
        ((I64 ((↑(ByteArray.size (bs (recsL g l))) : Int) + Int.tmod (IntKind.wrap IntKind.i64 wr) ((↑(ByteArray.size (bs (encL g q))) : Int) + (1 : Int)))) ∧
        ((((0 : Int) ≤ (↑(ByteArray.size (bs (recsL g l))) : Int) + Int.tmod (IntKind.wrap IntKind.i64 wr) ((↑(ByteArray.size (bs (encL g q))) : Int) + (1 : Int))) ∧
        (((↑(ByteArray.size (bs (recsL g l))) : Int) + Int.tmod (IntKind.wrap IntKind.i64 wr) ((↑(ByteArray.size (bs (encL g q))) : Int) + (1 : Int)) ≤ (↑(ByteArray.size (bs (cellsL L) ++ bs (zeros (Int.toNat (if (↑(ByteArray.size (bs (recsL g l))) : Int) + (↑(ByteArray.size (bs (encL g q))) : Int) - (↑(ByteArray.size (bs (cellsL L))) : Int) > (0 : Int) then (↑(ByteArray.size (bs (recsL g l))) : Int) + (↑(ByteArray.size (bs (encL g q))) : Int) - (↑(ByteArray.size (bs (cellsL L))) : Int) else (0 : Int)))))) : Int)) ∧
        ((↑(ByteArray.size (bs (cellsL L) ++ bs (zeros (Int.toNat (if (↑(ByteArray.size (bs (recsL g l))) : Int) + (↑(ByteArray.size (bs (encL g q))) : Int) - (↑(ByteArray.size (bs (cellsL L))) : Int) > (0 : Int) then (↑(ByteArray.size (bs (recsL g l))) : Int) + (↑(ByteArray.size (bs (encL g q))) : Int) - (↑(ByteArray.size (bs (cellsL L))) : Int) else (0 : Int)))))) : Int) ≤ (↑(ByteArray.size (bs (cellsL L) ++ bs (zeros (Int.toNat (if (↑(ByteArray.size (bs (recsL g l))) : Int) + (↑(ByteArray.size (bs (encL g q))) : Int) - (↑(ByteArray.size (bs (cellsL L))) : Int) > (0 : Int) then (↑(ByteArray.size (bs (recsL g l))) : Int) + (↑(ByteArray.size (bs (encL g q))) : Int) - (↑(ByteArray.size (bs (cellsL L))) : Int) else (0 : Int)))))) : Int)))) ∧
        (ByteArray.size (bs (recsL g l) ++ ByteArray.extract (bs (encL g q)) (Int.toNat (0 : Int)) (Int.toNat (Int.tmod (IntKind.wrap IntKind.i64 wr) ((↑(ByteArray.size (bs (encL g q))) : Int) + (1 : Int))))) + ByteArray.size (ByteArray.extract (bs (cellsL L) ++ bs (zeros (Int.toNat (if (↑(ByteArray.size (bs (recsL g l))) : Int) + (↑(ByteArray.size (bs (encL g q))) : Int) - (↑(ByteArray.size (bs (cellsL L))) : Int) > (0 : Int) then (↑(ByteArray.size (bs (recsL g l))) : Int) + (↑(ByteArray.size (bs (encL g q))) : Int) - (↑(ByteArray.size (bs (cellsL L))) : Int) else (0 : Int))))) (Int.toNat ((↑(ByteArray.size (bs (recsL g l))) : Int) + Int.tmod (IntKind.wrap IntKind.i64 wr) ((↑(ByteArray.size (bs (encL g q))) : Int) + (1 : Int)))) (Int.toNat (↑(ByteArray.size (bs (cellsL L) ++ bs (zeros (Int.toNat (if (↑(ByteArray.size (bs (recsL g l))) : Int) + (↑(ByteArray.size (bs (encL g q))) : Int) - (↑(ByteArray.size (bs (cellsL L))) : Int) > (0 : Int) then (↑(ByteArray.size (bs (recsL g l))) : Int) + (↑(ByteArray.size (bs (encL g q))) : Int) - (↑(ByteArray.size (bs (cellsL L))) : Int) else (0 : Int)))))) : Int))) ≤ (9223372036854775807 : Nat)))))) ∧
        (((I64 ((↑(ByteArray.size (bs (recsL g l))) : Int) + (↑(ByteArray.size (bs (encL g q))) : Int))) ∧
        (((0 : Int) ≤ (0 : Int)) ∧
        (((0 : Int) ≤ (↑(ByteArray.size (bs (recsL g l))) : Int) + (↑(ByteArray.size (bs (encL g q))) : Int)) ∧
        ((↑(ByteArray.size (bs (recsL g l))) : Int) + (↑(ByteArray.size (bs (encL g q))) : Int) ≤ (↑(ByteArray.size (bs (recsL g l) ++ ByteArray.extract (bs (encL g q)) (Int.toNat (0 : Int)) (Int.toNat (Int.tmod (IntKind.wrap IntKind.i64 wr) ((↑(ByteArray.size (bs (encL g q))) : Int) + (1 : Int)))) ++ ByteArray.extract (bs (cellsL L) ++ bs (zeros (Int.toNat (if (↑(ByteArray.size (bs (recsL g l))) : Int) + (↑(ByteArray.size (bs (encL g q))) : Int) - (↑(ByteArray.size (bs (cellsL L))) : Int) > (0 : Int) then (↑(ByteArray.size (bs (recsL g l))) : Int) + (↑(ByteArray.size (bs (encL g q))) : Int) - (↑(ByteArray.size (bs (cellsL L))) : Int) else (0 : Int))))) (Int.toNat ((↑(ByteArray.size (bs (recsL g l))) : Int) + Int.tmod (IntKind.wrap IntKind.i64 wr) ((↑(ByteArray.size (bs (encL g q))) : Int) + (1 : Int)))) (Int.toNat (↑(ByteArray.size (bs (cellsL L) ++ bs (zeros (Int.toNat (if (↑(ByteArray.size (bs (recsL g l))) : Int) + (↑(ByteArray.size (bs (encL g q))) : Int) - (↑(ByteArray.size (bs (cellsL L))) : Int) > (0 : Int) then (↑(ByteArray.size (bs (recsL g l))) : Int) + (↑(ByteArray.size (bs (encL g q))) : Int) - (↑(ByteArray.size (bs (cellsL L))) : Int) else (0 : Int)))))) : Int)))) : Int))))) ∧
        (FnOK Tryd.prog G ((11 : Nat)) [(.con (.string (ByteArray.extract (bs (recsL g l) ++ ByteArray.extract (bs (encL g q)) (Int.toNat (0 : Int)) (Int.toNat (Int.tmod (IntKind.wrap IntKind.i64 wr) ((↑(ByteArray.size (bs (encL g q))) : Int) + (1 : Int)))) ++ ByteArray.extract (bs (cellsL L) ++ bs (zeros (Int.toNat (if (↑(ByteArray.size (bs (recsL g l))) : Int) + (↑(ByteArray.size (bs (encL g q))) : Int) - (↑(ByteArray.size (bs (cellsL L))) : Int) > (0 : Int) then (↑(ByteArray.size (bs (recsL g l))) : Int) + (↑(ByteArray.size (bs (encL g q))) : Int) - (↑(ByteArray.size (bs (cellsL L))) : Int) else (0 : Int))))) (Int.toNat ((↑(ByteArray.size (bs (recsL g l))) : Int) + Int.tmod (IntKind.wrap IntKind.i64 wr) ((↑(ByteArray.size (bs (encL g q))) : Int) + (1 : Int)))) (Int.toNat (↑(ByteArray.size (bs (cellsL L) ++ bs (zeros (Int.toNat (if (↑(ByteArray.size (bs (recsL g l))) : Int) + (↑(ByteArray.size (bs (encL g q))) : Int) - (↑(ByteArray.size (bs (cellsL L))) : Int) > (0 : Int) then (↑(ByteArray.size (bs (recsL g l))) : Int) + (↑(ByteArray.size (bs (encL g q))) : Int) - (↑(ByteArray.size (bs (cellsL L))) : Int) else (0 : Int)))))) : Int))) (Int.toNat (0 : Int)) (Int.toNat ((↑(ByteArray.size (bs (recsL g l))) : Int) + (↑(ByteArray.size (bs (encL g q))) : Int)))))), (.con (.int .i64 ((↑g : Int))))] (.tup [(.slc ((1 : Nat)) (List.length (walkL (↑g : Int) (ByteArray.extract (bs (recsL g l) ++ ByteArray.extract (bs (encL g q)) (Int.toNat (0 : Int)) (Int.toNat (Int.tmod (IntKind.wrap IntKind.i64 wr) ((↑(ByteArray.size (bs (encL g q))) : Int) + (1 : Int)))) ++ ByteArray.extract (bs (cellsL L) ++ bs (zeros (Int.toNat (if (↑(ByteArray.size (bs (recsL g l))) : Int) + (↑(ByteArray.size (bs (encL g q))) : Int) - (↑(ByteArray.size (bs (cellsL L))) : Int) > (0 : Int) then (↑(ByteArray.size (bs (recsL g l))) : Int) + (↑(ByteArray.size (bs (encL g q))) : Int) - (↑(ByteArray.size (bs (cellsL L))) : Int) else (0 : Int))))) (Int.toNat ((↑(ByteArray.size (bs (recsL g l))) : Int) + Int.tmod (IntKind.wrap IntKind.i64 wr) ((↑(ByteArray.size (bs (encL g q))) : Int) + (1 : Int)))) (Int.toNat (↑(ByteArray.size (bs (cellsL L) ++ bs (zeros (Int.toNat (if (↑(ByteArray.size (bs (recsL g l))) : Int) + (↑(ByteArray.size (bs (encL g q))) : Int) - (↑(ByteArray.size (bs (cellsL L))) : Int) > (0 : Int) then (↑(ByteArray.size (bs (recsL g l))) : Int) + (↑(ByteArray.size (bs (encL g q))) : Int) - (↑(ByteArray.size (bs (cellsL L))) : Int) else (0 : Int)))))) : Int))) (Int.toNat (0 : Int)) (Int.toNat ((↑(ByteArray.size (bs (recsL g l))) : Int) + (↑(ByteArray.size (bs (encL g q))) : Int)))))) (rowS (walkL (↑g : Int) (ByteArray.extract (bs (recsL g l) ++ ByteArray.extract (bs (encL g q)) (Int.toNat (0 : Int)) (Int.toNat (Int.tmod (IntKind.wrap IntKind.i64 wr) ((↑(ByteArray.size (bs (encL g q))) : Int) + (1 : Int)))) ++ ByteArray.extract (bs (cellsL L) ++ bs (zeros (Int.toNat (if (↑(ByteArray.size (bs (recsL g l))) : Int) + (↑(ByteArray.size (bs (encL g q))) : Int) - (↑(ByteArray.size (bs (cellsL L))) : Int) > (0 : Int) then (↑(ByteArray.size (bs (recsL g l))) : Int) + (↑(ByteArray.size (bs (encL g q))) : Int) - (↑(ByteArray.size (bs (cellsL L))) : Int) else (0 : Int))))) (Int.toNat ((↑(ByteArray.size (bs (recsL g l))) : Int) + Int.tmod (IntKind.wrap IntKind.i64 wr) ((↑(ByteArray.size (bs (encL g q))) : Int) + (1 : Int)))) (Int.toNat (↑(ByteArray.size (bs (cellsL L) ++ bs (zeros (Int.toNat (if (↑(ByteArray.size (bs (recsL g l))) : Int) + (↑(ByteArray.size (bs (encL g q))) : Int) - (↑(ByteArray.size (bs (cellsL L))) : Int) > (0 : Int) then (↑(ByteArray.size (bs (recsL g l))) : Int) + (↑(ByteArray.size (bs (encL g q))) : Int) - (↑(ByteArray.size (bs (cellsL L))) : Int) else (0 : Int)))))) : Int))) (Int.toNat (0 : Int)) (Int.toNat ((↑(ByteArray.size (bs (recsL g l))) : Int) + (↑(ByteArray.size (bs (encL g q))) : Int))))))), (.con (.int .i64 ((↑(recLen (walkL (↑g : Int) (ByteArray.extract (bs (recsL g l) ++ ByteArray.extract (bs (encL g q)) (Int.toNat (0 : Int)) (Int.toNat (Int.tmod (IntKind.wrap IntKind.i64 wr) ((↑(ByteArray.size (bs (encL g q))) : Int) + (1 : Int)))) ++ ByteArray.extract (bs (cellsL L) ++ bs (zeros (Int.toNat (if (↑(ByteArray.size (bs (recsL g l))) : Int) + (↑(ByteArray.size (bs (encL g q))) : Int) - (↑(ByteArray.size (bs (cellsL L))) : Int) > (0 : Int) then (↑(ByteArray.size (bs (recsL g l))) : Int) + (↑(ByteArray.size (bs (encL g q))) : Int) - (↑(ByteArray.size (bs (cellsL L))) : Int) else (0 : Int))))) (Int.toNat ((↑(ByteArray.size (bs (recsL g l))) : Int) + Int.tmod (IntKind.wrap IntKind.i64 wr) ((↑(ByteArray.size (bs (encL g q))) : Int) + (1 : Int)))) (Int.toNat (↑(ByteArray.size (bs (cellsL L) ++ bs (zeros (Int.toNat (if (↑(ByteArray.size (bs (recsL g l))) : Int) + (↑(ByteArray.size (bs (encL g q))) : Int) - (↑(ByteArray.size (bs (cellsL L))) : Int) > (0 : Int) then (↑(ByteArray.size (bs (recsL g l))) : Int) + (↑(ByteArray.size (bs (encL g q))) : Int) - (↑(ByteArray.size (bs (cellsL L))) : Int) else (0 : Int)))))) : Int))) (Int.toNat (0 : Int)) (Int.toNat ((↑(ByteArray.size (bs (recsL g l))) : Int) + (↑(ByteArray.size (bs (encL g q))) : Int)))))) : Int))))]) ∧
        ((((Int.tmod (IntKind.wrap IntKind.i64 wr) ((↑(ByteArray.size (bs (encL g q))) : Int) + (1 : Int)) == (↑(ByteArray.size (bs (encL g q))) : Int)) = true) →
        ((((((0 : Nat) + List.length l) * (16 : Nat) ≤ (1099511627776 : Nat)) ∧
        ((0 : Nat) + List.length l ≤ (1099511627776 : Nat))) ∧
        ((∀ (i : Nat), i < List.length l → elemOK false (1 : Nat) (DV.con (Value.string (sAt l i))) = true) ∧
        (((((0 : Nat) + List.length l + (1 : Nat)) * (16 : Nat) ≤ (1099511627776 : Nat)) ∧
        ((0 : Nat) + List.length l + (1 : Nat) ≤ (1099511627776 : Nat))) ∧
        ((∀ (i : Nat), i < (1 : Nat) → elemOK false (1 : Nat) (elemF false (1 : Nat) [DV.con (Value.string q)] i) = true) ∧
        FnOK Tryd.prog G ((13 : Nat)) [(.slc ((1 : Nat)) (List.length (walkL (↑g : Int) (ByteArray.extract (bs (recsL g l) ++ ByteArray.extract (bs (encL g q)) (Int.toNat (0 : Int)) (Int.toNat (Int.tmod (IntKind.wrap IntKind.i64 wr) ((↑(ByteArray.size (bs (encL g q))) : Int) + (1 : Int)))) ++ ByteArray.extract (bs (cellsL L) ++ bs (zeros (Int.toNat (if (↑(ByteArray.size (bs (recsL g l))) : Int) + (↑(ByteArray.size (bs (encL g q))) : Int) - (↑(ByteArray.size (bs (cellsL L))) : Int) > (0 : Int) then (↑(ByteArray.size (bs (recsL g l))) : Int) + (↑(ByteArray.size (bs (encL g q))) : Int) - (↑(ByteArray.size (bs (cellsL L))) : Int) else (0 : Int))))) (Int.toNat ((↑(ByteArray.size (bs (recsL g l))) : Int) + Int.tmod (IntKind.wrap IntKind.i64 wr) ((↑(ByteArray.size (bs (encL g q))) : Int) + (1 : Int)))) (Int.toNat (↑(ByteArray.size (bs (cellsL L) ++ bs (zeros (Int.toNat (if (↑(ByteArray.size (bs (recsL g l))) : Int) + (↑(ByteArray.size (bs (encL g q))) : Int) - (↑(ByteArray.size (bs (cellsL L))) : Int) > (0 : Int) then (↑(ByteArray.size (bs (recsL g l))) : Int) + (↑(ByteArray.size (bs (encL g q))) : Int) - (↑(ByteArray.size (bs (cellsL L))) : Int) else (0 : Int)))))) : Int))) (Int.toNat (0 : Int)) (Int.toNat ((↑(ByteArray.size (bs (recsL g l))) : Int) + (↑(ByteArray.size (bs (encL g q))) : Int)))))) (rowS (walkL (↑g : Int) (ByteArray.extract (bs (recsL g l) ++ ByteArray.extract (bs (encL g q)) (Int.toNat (0 : Int)) (Int.toNat (Int.tmod (IntKind.wrap IntKind.i64 wr) ((↑(ByteArray.size (bs (encL g q))) : Int) + (1 : Int)))) ++ ByteArray.extract (bs (cellsL L) ++ bs (zeros (Int.toNat (if (↑(ByteArray.size (bs (recsL g l))) : Int) + (↑(ByteArray.size (bs (encL g q))) : Int) - (↑(ByteArray.size (bs (cellsL L))) : Int) > (0 : Int) then (↑(ByteArray.size (bs (recsL g l))) : Int) + (↑(ByteArray.size (bs (encL g q))) : Int) - (↑(ByteArray.size (bs (cellsL L))) : Int) else (0 : Int))))) (Int.toNat ((↑(ByteArray.size (bs (recsL g l))) : Int) + Int.tmod (IntKind.wrap IntKind.i64 wr) ((↑(ByteArray.size (bs (encL g q))) : Int) + (1 : Int)))) (Int.toNat (↑(ByteArray.size (bs (cellsL L) ++ bs (zeros (Int.toNat (if (↑(ByteArray.size (bs (recsL g l))) : Int) + (↑(ByteArray.size (bs (encL g q))) : Int) - (↑(ByteArray.size (bs (cellsL L))) : Int) > (0 : Int) then (↑(ByteArray.size (bs (recsL g l))) : Int) + (↑(ByteArray.size (bs (encL g q))) : Int) - (↑(ByteArray.size (bs (cellsL L))) : Int) else (0 : Int)))))) : Int))) (Int.toNat (0 : Int)) (Int.toNat ((↑(ByteArray.size (bs (recsL g l))) : Int) + (↑(ByteArray.size (bs (encL g q))) : Int))))))), (.slc ((1 : Nat)) ((0 : Nat) + List.length l + (1 : Nat)) (fun i => bif Nat.blt ((0 : Nat) + i) ((0 : Nat) + List.length l) then bif Nat.blt ((0 : Nat) + i) (0 : Nat) then DV.con undef else DV.con (Value.string (sAt l ((0 : Nat) + i - (0 : Nat)))) else elemF false (1 : Nat) [DV.con (Value.string q)] ((0 : Nat) + i - ((0 : Nat) + List.length l))))] (.con (.bool (sEq (List.length (walkL (↑g : Int) (ByteArray.extract (bs (recsL g l) ++ ByteArray.extract (bs (encL g q)) (Int.toNat (0 : Int)) (Int.toNat (Int.tmod (IntKind.wrap IntKind.i64 wr) ((↑(ByteArray.size (bs (encL g q))) : Int) + (1 : Int)))) ++ ByteArray.extract (bs (cellsL L) ++ bs (zeros (Int.toNat (if (↑(ByteArray.size (bs (recsL g l))) : Int) + (↑(ByteArray.size (bs (encL g q))) : Int) - (↑(ByteArray.size (bs (cellsL L))) : Int) > (0 : Int) then (↑(ByteArray.size (bs (recsL g l))) : Int) + (↑(ByteArray.size (bs (encL g q))) : Int) - (↑(ByteArray.size (bs (cellsL L))) : Int) else (0 : Int))))) (Int.toNat ((↑(ByteArray.size (bs (recsL g l))) : Int) + Int.tmod (IntKind.wrap IntKind.i64 wr) ((↑(ByteArray.size (bs (encL g q))) : Int) + (1 : Int)))) (Int.toNat (↑(ByteArray.size (bs (cellsL L) ++ bs (zeros (Int.toNat (if (↑(ByteArray.size (bs (recsL g l))) : Int) + (↑(ByteArray.size (bs (encL g q))) : Int) - (↑(ByteArray.size (bs (cellsL L))) : Int) > (0 : Int) then (↑(ByteArray.size (bs (recsL g l))) : Int) + (↑(ByteArray.size (bs (encL g q))) : Int) - (↑(ByteArray.size (bs (cellsL L))) : Int) else (0 : Int)))))) : Int))) (Int.toNat (0 : Int)) (Int.toNat ((↑(ByteArray.size (bs (recsL g l))) : Int) + (↑(ByteArray.size (bs (encL g q))) : Int)))))) (rowS (walkL (↑g : Int) (ByteArray.extract (bs (recsL g l) ++ ByteArray.extract (bs (encL g q)) (Int.toNat (0 : Int)) (Int.toNat (Int.tmod (IntKind.wrap IntKind.i64 wr) ((↑(ByteArray.size (bs (encL g q))) : Int) + (1 : Int)))) ++ ByteArray.extract (bs (cellsL L) ++ bs (zeros (Int.toNat (if (↑(ByteArray.size (bs (recsL g l))) : Int) + (↑(ByteArray.size (bs (encL g q))) : Int) - (↑(ByteArray.size (bs (cellsL L))) : Int) > (0 : Int) then (↑(ByteArray.size (bs (recsL g l))) : Int) + (↑(ByteArray.size (bs (encL g q))) : Int) - (↑(ByteArray.size (bs (cellsL L))) : Int) else (0 : Int))))) (Int.toNat ((↑(ByteArray.size (bs (recsL g l))) : Int) + Int.tmod (IntKind.wrap IntKind.i64 wr) ((↑(ByteArray.size (bs (encL g q))) : Int) + (1 : Int)))) (Int.toNat (↑(ByteArray.size (bs (cellsL L) ++ bs (zeros (Int.toNat (if (↑(ByteArray.size (bs (recsL g l))) : Int) + (↑(ByteArray.size (bs (encL g q))) : Int) - (↑(ByteArray.size (bs (cellsL L))) : Int) > (0 : Int) then (↑(ByteArray.size (bs (recsL g l))) : Int) + (↑(ByteArray.size (bs (encL g q))) : Int) - (↑(ByteArray.size (bs (cellsL L))) : Int) else (0 : Int)))))) : Int))) (Int.toNat (0 : Int)) (Int.toNat ((↑(ByteArray.size (bs (recsL g l))) : Int) + (↑(ByteArray.size (bs (encL g q))) : Int)))))) ((0 : Nat) + List.length l + (1 : Nat)) fun i => bif Nat.blt ((0 : Nat) + i) ((0 : Nat) + List.length l) then bif Nat.blt ((0 : Nat) + i) (0 : Nat) then DV.con undef else DV.con (Value.string (sAt l ((0 : Nat) + i - (0 : Nat)))) else elemF false (1 : Nat) [DV.con (Value.string q)] ((0 : Nat) + i - ((0 : Nat) + List.length l))))))))) ∧
        (((.con (.bool ((sEq (List.length (walkL (↑g : Int) (ByteArray.extract (bs (recsL g l) ++ ByteArray.extract (bs (encL g q)) (Int.toNat (0 : Int)) (Int.toNat (Int.tmod (IntKind.wrap IntKind.i64 wr) ((↑(ByteArray.size (bs (encL g q))) : Int) + (1 : Int)))) ++ ByteArray.extract (bs (cellsL L) ++ bs (zeros (Int.toNat (if (↑(ByteArray.size (bs (recsL g l))) : Int) + (↑(ByteArray.size (bs (encL g q))) : Int) - (↑(ByteArray.size (bs (cellsL L))) : Int) > (0 : Int) then (↑(ByteArray.size (bs (recsL g l))) : Int) + (↑(ByteArray.size (bs (encL g q))) : Int) - (↑(ByteArray.size (bs (cellsL L))) : Int) else (0 : Int))))) (Int.toNat ((↑(ByteArray.size (bs (recsL g l))) : Int) + Int.tmod (IntKind.wrap IntKind.i64 wr) ((↑(ByteArray.size (bs (encL g q))) : Int) + (1 : Int)))) (Int.toNat (↑(ByteArray.size (bs (cellsL L) ++ bs (zeros (Int.toNat (if (↑(ByteArray.size (bs (recsL g l))) : Int) + (↑(ByteArray.size (bs (encL g q))) : Int) - (↑(ByteArray.size (bs (cellsL L))) : Int) > (0 : Int) then (↑(ByteArray.size (bs (recsL g l))) : Int) + (↑(ByteArray.size (bs (encL g q))) : Int) - (↑(ByteArray.size (bs (cellsL L))) : Int) else (0 : Int)))))) : Int))) (Int.toNat (0 : Int)) (Int.toNat ((↑(ByteArray.size (bs (recsL g l))) : Int) + (↑(ByteArray.size (bs (encL g q))) : Int)))))) (rowS (walkL (↑g : Int) (ByteArray.extract (bs (recsL g l) ++ ByteArray.extract (bs (encL g q)) (Int.toNat (0 : Int)) (Int.toNat (Int.tmod (IntKind.wrap IntKind.i64 wr) ((↑(ByteArray.size (bs (encL g q))) : Int) + (1 : Int)))) ++ ByteArray.extract (bs (cellsL L) ++ bs (zeros (Int.toNat (if (↑(ByteArray.size (bs (recsL g l))) : Int) + (↑(ByteArray.size (bs (encL g q))) : Int) - (↑(ByteArray.size (bs (cellsL L))) : Int) > (0 : Int) then (↑(ByteArray.size (bs (recsL g l))) : Int) + (↑(ByteArray.size (bs (encL g q))) : Int) - (↑(ByteArray.size (bs (cellsL L))) : Int) else (0 : Int))))) (Int.toNat ((↑(ByteArray.size (bs (recsL g l))) : Int) + Int.tmod (IntKind.wrap IntKind.i64 wr) ((↑(ByteArray.size (bs (encL g q))) : Int) + (1 : Int)))) (Int.toNat (↑(ByteArray.size (bs (cellsL L) ++ bs (zeros (Int.toNat (if (↑(ByteArray.size (bs (recsL g l))) : Int) + (↑(ByteArray.size (bs (encL g q))) : Int) - (↑(ByteArray.size (bs (cellsL L))) : Int) > (0 : Int) then (↑(ByteArray.size (bs (recsL g l))) : Int) + (↑(ByteArray.size (bs (encL g q))) : Int) - (↑(ByteArray.size (bs (cellsL L))) : Int) else (0 : Int)))))) : Int))) (Int.toNat (0 : Int)) (Int.toNat ((↑(ByteArray.size (bs (recsL g l))) : Int) + (↑(ByteArray.size (bs (encL g q))) : Int)))))) ((0 : Nat) + List.length l + (1 : Nat)) fun i => bif Nat.blt ((0 : Nat) + i) ((0 : Nat) + List.length l) then bif Nat.blt ((0 : Nat) + i) (0 : Nat) then DV.con undef else DV.con (Value.string (sAt l ((0 : Nat) + i - (0 : Nat)))) else elemF false (1 : Nat) [DV.con (Value.string q)] ((0 : Nat) + i - ((0 : Nat) + List.length l))) && (↑(recLen (walkL (↑g : Int) (ByteArray.extract (bs (recsL g l) ++ ByteArray.extract (bs (encL g q)) (Int.toNat (0 : Int)) (Int.toNat (Int.tmod (IntKind.wrap IntKind.i64 wr) ((↑(ByteArray.size (bs (encL g q))) : Int) + (1 : Int)))) ++ ByteArray.extract (bs (cellsL L) ++ bs (zeros (Int.toNat (if (↑(ByteArray.size (bs (recsL g l))) : Int) + (↑(ByteArray.size (bs (encL g q))) : Int) - (↑(ByteArray.size (bs (cellsL L))) : Int) > (0 : Int) then (↑(ByteArray.size (bs (recsL g l))) : Int) + (↑(ByteArray.size (bs (encL g q))) : Int) - (↑(ByteArray.size (bs (cellsL L))) : Int) else (0 : Int))))) (Int.toNat ((↑(ByteArray.size (bs (recsL g l))) : Int) + Int.tmod (IntKind.wrap IntKind.i64 wr) ((↑(ByteArray.size (bs (encL g q))) : Int) + (1 : Int)))) (Int.toNat (↑(ByteArray.size (bs (cellsL L) ++ bs (zeros (Int.toNat (if (↑(ByteArray.size (bs (recsL g l))) : Int) + (↑(ByteArray.size (bs (encL g q))) : Int) - (↑(ByteArray.size (bs (cellsL L))) : Int) > (0 : Int) then (↑(ByteArray.size (bs (recsL g l))) : Int) + (↑(ByteArray.size (bs (encL g q))) : Int) - (↑(ByteArray.size (bs (cellsL L))) : Int) else (0 : Int)))))) : Int))) (Int.toNat (0 : Int)) (Int.toNat ((↑(ByteArray.size (bs (recsL g l))) : Int) + (↑(ByteArray.size (bs (encL g q))) : Int)))))) : Int) == (↑(ByteArray.size (ByteArray.extract (bs (recsL g l) ++ ByteArray.extract (bs (encL g q)) (Int.toNat (0 : Int)) (Int.toNat (Int.tmod (IntKind.wrap IntKind.i64 wr) ((↑(ByteArray.size (bs (encL g q))) : Int) + (1 : Int)))) ++ ByteArray.extract (bs (cellsL L) ++ bs (zeros (Int.toNat (if (↑(ByteArray.size (bs (recsL g l))) : Int) + (↑(ByteArray.size (bs (encL g q))) : Int) - (↑(ByteArray.size (bs (cellsL L))) : Int) > (0 : Int) then (↑(ByteArray.size (bs (recsL g l))) : Int) + (↑(ByteArray.size (bs (encL g q))) : Int) - (↑(ByteArray.size (bs (cellsL L))) : Int) else (0 : Int))))) (Int.toNat ((↑(ByteArray.size (bs (recsL g l))) : Int) + Int.tmod (IntKind.wrap IntKind.i64 wr) ((↑(ByteArray.size (bs (encL g q))) : Int) + (1 : Int)))) (Int.toNat (↑(ByteArray.size (bs (cellsL L) ++ bs (zeros (Int.toNat (if (↑(ByteArray.size (bs (recsL g l))) : Int) + (↑(ByteArray.size (bs (encL g q))) : Int) - (↑(ByteArray.size (bs (cellsL L))) : Int) > (0 : Int) then (↑(ByteArray.size (bs (recsL g l))) : Int) + (↑(ByteArray.size (bs (encL g q))) : Int) - (↑(ByteArray.size (bs (cellsL L))) : Int) else (0 : Int)))))) : Int))) (Int.toNat (0 : Int)) (Int.toNat ((↑(ByteArray.size (bs (recsL g l))) : Int) + (↑(ByteArray.size (bs (encL g q))) : Int))))) : Int)))) : DV) = (db true)))) ∧
        (((Int.tmod (IntKind.wrap IntKind.i64 wr) ((↑(ByteArray.size (bs (encL g q))) : Int) + (1 : Int)) == (↑(ByteArray.size (bs (encL g q))) : Int)) = false) →
        (((I64 ((↑(ByteArray.size (bs (recsL g l))) : Int) + (↑(ByteArray.size (bs (encL g q))) : Int))) ∧
        ((((0 : Int) ≤ (0 : Int)) ∧
        (((0 : Int) ≤ (↑(ByteArray.size (bs (recsL g l))) : Int) + (↑(ByteArray.size (bs (encL g q))) : Int)) ∧
        ((↑(ByteArray.size (bs (recsL g l))) : Int) + (↑(ByteArray.size (bs (encL g q))) : Int) ≤ (↑(ByteArray.size (ByteArray.extract (bs (recsL g l) ++ ByteArray.extract (bs (encL g q)) (Int.toNat (0 : Int)) (Int.toNat (Int.tmod (IntKind.wrap IntKind.i64 wr) ((↑(ByteArray.size (bs (encL g q))) : Int) + (1 : Int)))) ++ ByteArray.extract (bs (cellsL L) ++ bs (zeros (Int.toNat (if (↑(ByteArray.size (bs (recsL g l))) : Int) + (↑(ByteArray.size (bs (encL g q))) : Int) - (↑(ByteArray.size (bs (cellsL L))) : Int) > (0 : Int) then (↑(ByteArray.size (bs (recsL g l))) : Int) + (↑(ByteArray.size (bs (encL g q))) : Int) - (↑(ByteArray.size (bs (cellsL L))) : Int) else (0 : Int))))) (Int.toNat ((↑(ByteArray.size (bs (recsL g l))) : Int) + Int.tmod (IntKind.wrap IntKind.i64 wr) ((↑(ByteArray.size (bs (encL g q))) : Int) + (1 : Int)))) (Int.toNat (↑(ByteArray.size (bs (cellsL L) ++ bs (zeros (Int.toNat (if (↑(ByteArray.size (bs (recsL g l))) : Int) + (↑(ByteArray.size (bs (encL g q))) : Int) - (↑(ByteArray.size (bs (cellsL L))) : Int) > (0 : Int) then (↑(ByteArray.size (bs (recsL g l))) : Int) + (↑(ByteArray.size (bs (encL g q))) : Int) - (↑(ByteArray.size (bs (cellsL L))) : Int) else (0 : Int)))))) : Int))) (Int.toNat (0 : Int)) (Int.toNat ((↑(ByteArray.size (bs (recsL g l))) : Int) + (↑(ByteArray.size (bs (encL g q))) : Int))))) : Int)))) ∧
        (ByteArray.size (bs (recsL g l)) + ByteArray.size (bs (encL g q)) ≤ (9223372036854775807 : Nat)))) ∧
        ((((ByteArray.toList (ByteArray.extract (ByteArray.extract (bs (recsL g l) ++ ByteArray.extract (bs (encL g q)) (Int.toNat (0 : Int)) (Int.toNat (Int.tmod (IntKind.wrap IntKind.i64 wr) ((↑(ByteArray.size (bs (encL g q))) : Int) + (1 : Int)))) ++ ByteArray.extract (bs (cellsL L) ++ bs (zeros (Int.toNat (if (↑(ByteArray.size (bs (recsL g l))) : Int) + (↑(ByteArray.size (bs (encL g q))) : Int) - (↑(ByteArray.size (bs (cellsL L))) : Int) > (0 : Int) then (↑(ByteArray.size (bs (recsL g l))) : Int) + (↑(ByteArray.size (bs (encL g q))) : Int) - (↑(ByteArray.size (bs (cellsL L))) : Int) else (0 : Int))))) (Int.toNat ((↑(ByteArray.size (bs (recsL g l))) : Int) + Int.tmod (IntKind.wrap IntKind.i64 wr) ((↑(ByteArray.size (bs (encL g q))) : Int) + (1 : Int)))) (Int.toNat (↑(ByteArray.size (bs (cellsL L) ++ bs (zeros (Int.toNat (if (↑(ByteArray.size (bs (recsL g l))) : Int) + (↑(ByteArray.size (bs (encL g q))) : Int) - (↑(ByteArray.size (bs (cellsL L))) : Int) > (0 : Int) then (↑(ByteArray.size (bs (recsL g l))) : Int) + (↑(ByteArray.size (bs (encL g q))) : Int) - (↑(ByteArray.size (bs (cellsL L))) : Int) else (0 : Int)))))) : Int))) (Int.toNat (0 : Int)) (Int.toNat ((↑(ByteArray.size (bs (recsL g l))) : Int) + (↑(ByteArray.size (bs (encL g q))) : Int)))) (Int.toNat (0 : Int)) (Int.toNat ((↑(ByteArray.size (bs (recsL g l))) : Int) + (↑(ByteArray.size (bs (encL g q))) : Int)))) == ByteArray.toList (bs (recsL g l) ++ bs (encL g q))) = true) →
        ((I64 ((↑(List.length l) : Int) + (1 : Int))) ∧
        (((.con (.bool ((↑(List.length (walkL (↑g : Int) (ByteArray.extract (bs (recsL g l) ++ ByteArray.extract (bs (encL g q)) (Int.toNat (0 : Int)) (Int.toNat (Int.tmod (IntKind.wrap IntKind.i64 wr) ((↑(ByteArray.size (bs (encL g q))) : Int) + (1 : Int)))) ++ ByteArray.extract (bs (cellsL L) ++ bs (zeros (Int.toNat (if (↑(ByteArray.size (bs (recsL g l))) : Int) + (↑(ByteArray.size (bs (encL g q))) : Int) - (↑(ByteArray.size (bs (cellsL L))) : Int) > (0 : Int) then (↑(ByteArray.size (bs (recsL g l))) : Int) + (↑(ByteArray.size (bs (encL g q))) : Int) - (↑(ByteArray.size (bs (cellsL L))) : Int) else (0 : Int))))) (Int.toNat ((↑(ByteArray.size (bs (recsL g l))) : Int) + Int.tmod (IntKind.wrap IntKind.i64 wr) ((↑(ByteArray.size (bs (encL g q))) : Int) + (1 : Int)))) (Int.toNat (↑(ByteArray.size (bs (cellsL L) ++ bs (zeros (Int.toNat (if (↑(ByteArray.size (bs (recsL g l))) : Int) + (↑(ByteArray.size (bs (encL g q))) : Int) - (↑(ByteArray.size (bs (cellsL L))) : Int) > (0 : Int) then (↑(ByteArray.size (bs (recsL g l))) : Int) + (↑(ByteArray.size (bs (encL g q))) : Int) - (↑(ByteArray.size (bs (cellsL L))) : Int) else (0 : Int)))))) : Int))) (Int.toNat (0 : Int)) (Int.toNat ((↑(ByteArray.size (bs (recsL g l))) : Int) + (↑(ByteArray.size (bs (encL g q))) : Int)))))) : Int) == (↑(List.length l) : Int) + (1 : Int)))) : DV) = (db true)))) ∧
        (((ByteArray.toList (ByteArray.extract (ByteArray.extract (bs (recsL g l) ++ ByteArray.extract (bs (encL g q)) (Int.toNat (0 : Int)) (Int.toNat (Int.tmod (IntKind.wrap IntKind.i64 wr) ((↑(ByteArray.size (bs (encL g q))) : Int) + (1 : Int)))) ++ ByteArray.extract (bs (cellsL L) ++ bs (zeros (Int.toNat (if (↑(ByteArray.size (bs (recsL g l))) : Int) + (↑(ByteArray.size (bs (encL g q))) : Int) - (↑(ByteArray.size (bs (cellsL L))) : Int) > (0 : Int) then (↑(ByteArray.size (bs (recsL g l))) : Int) + (↑(ByteArray.size (bs (encL g q))) : Int) - (↑(ByteArray.size (bs (cellsL L))) : Int) else (0 : Int))))) (Int.toNat ((↑(ByteArray.size (bs (recsL g l))) : Int) + Int.tmod (IntKind.wrap IntKind.i64 wr) ((↑(ByteArray.size (bs (encL g q))) : Int) + (1 : Int)))) (Int.toNat (↑(ByteArray.size (bs (cellsL L) ++ bs (zeros (Int.toNat (if (↑(ByteArray.size (bs (recsL g l))) : Int) + (↑(ByteArray.size (bs (encL g q))) : Int) - (↑(ByteArray.size (bs (cellsL L))) : Int) > (0 : Int) then (↑(ByteArray.size (bs (recsL g l))) : Int) + (↑(ByteArray.size (bs (encL g q))) : Int) - (↑(ByteArray.size (bs (cellsL L))) : Int) else (0 : Int)))))) : Int))) (Int.toNat (0 : Int)) (Int.toNat ((↑(ByteArray.size (bs (recsL g l))) : Int) + (↑(ByteArray.size (bs (encL g q))) : Int)))) (Int.toNat (0 : Int)) (Int.toNat ((↑(ByteArray.size (bs (recsL g l))) : Int) + (↑(ByteArray.size (bs (encL g q))) : Int)))) == ByteArray.toList (bs (recsL g l) ++ bs (encL g q))) = false) →
        ((FnOK Tryd.prog G ((13 : Nat)) [(.slc ((1 : Nat)) (List.length (walkL (↑g : Int) (ByteArray.extract (bs (recsL g l) ++ ByteArray.extract (bs (encL g q)) (Int.toNat (0 : Int)) (Int.toNat (Int.tmod (IntKind.wrap IntKind.i64 wr) ((↑(ByteArray.size (bs (encL g q))) : Int) + (1 : Int)))) ++ ByteArray.extract (bs (cellsL L) ++ bs (zeros (Int.toNat (if (↑(ByteArray.size (bs (recsL g l))) : Int) + (↑(ByteArray.size (bs (encL g q))) : Int) - (↑(ByteArray.size (bs (cellsL L))) : Int) > (0 : Int) then (↑(ByteArray.size (bs (recsL g l))) : Int) + (↑(ByteArray.size (bs (encL g q))) : Int) - (↑(ByteArray.size (bs (cellsL L))) : Int) else (0 : Int))))) (Int.toNat ((↑(ByteArray.size (bs (recsL g l))) : Int) + Int.tmod (IntKind.wrap IntKind.i64 wr) ((↑(ByteArray.size (bs (encL g q))) : Int) + (1 : Int)))) (Int.toNat (↑(ByteArray.size (bs (cellsL L) ++ bs (zeros (Int.toNat (if (↑(ByteArray.size (bs (recsL g l))) : Int) + (↑(ByteArray.size (bs (encL g q))) : Int) - (↑(ByteArray.size (bs (cellsL L))) : Int) > (0 : Int) then (↑(ByteArray.size (bs (recsL g l))) : Int) + (↑(ByteArray.size (bs (encL g q))) : Int) - (↑(ByteArray.size (bs (cellsL L))) : Int) else (0 : Int)))))) : Int))) (Int.toNat (0 : Int)) (Int.toNat ((↑(ByteArray.size (bs (recsL g l))) : Int) + (↑(ByteArray.size (bs (encL g q))) : Int)))))) (rowS (walkL (↑g : Int) (ByteArray.extract (bs (recsL g l) ++ ByteArray.extract (bs (encL g q)) (Int.toNat (0 : Int)) (Int.toNat (Int.tmod (IntKind.wrap IntKind.i64 wr) ((↑(ByteArray.size (bs (encL g q))) : Int) + (1 : Int)))) ++ ByteArray.extract (bs (cellsL L) ++ bs (zeros (Int.toNat (if (↑(ByteArray.size (bs (recsL g l))) : Int) + (↑(ByteArray.size (bs (encL g q))) : Int) - (↑(ByteArray.size (bs (cellsL L))) : Int) > (0 : Int) then (↑(ByteArray.size (bs (recsL g l))) : Int) + (↑(ByteArray.size (bs (encL g q))) : Int) - (↑(ByteArray.size (bs (cellsL L))) : Int) else (0 : Int))))) (Int.toNat ((↑(ByteArray.size (bs (recsL g l))) : Int) + Int.tmod (IntKind.wrap IntKind.i64 wr) ((↑(ByteArray.size (bs (encL g q))) : Int) + (1 : Int)))) (Int.toNat (↑(ByteArray.size (bs (cellsL L) ++ bs (zeros (Int.toNat (if (↑(ByteArray.size (bs (recsL g l))) : Int) + (↑(ByteArray.size (bs (encL g q))) : Int) - (↑(ByteArray.size (bs (cellsL L))) : Int) > (0 : Int) then (↑(ByteArray.size (bs (recsL g l))) : Int) + (↑(ByteArray.size (bs (encL g q))) : Int) - (↑(ByteArray.size (bs (cellsL L))) : Int) else (0 : Int)))))) : Int))) (Int.toNat (0 : Int)) (Int.toNat ((↑(ByteArray.size (bs (recsL g l))) : Int) + (↑(ByteArray.size (bs (encL g q))) : Int))))))), (.slc ((1 : Nat)) (List.length l) (fun i => DV.con (Value.string (sAt l i))))] (.con (.bool (sEq (List.length (walkL (↑g : Int) (ByteArray.extract (bs (recsL g l) ++ ByteArray.extract (bs (encL g q)) (Int.toNat (0 : Int)) (Int.toNat (Int.tmod (IntKind.wrap IntKind.i64 wr) ((↑(ByteArray.size (bs (encL g q))) : Int) + (1 : Int)))) ++ ByteArray.extract (bs (cellsL L) ++ bs (zeros (Int.toNat (if (↑(ByteArray.size (bs (recsL g l))) : Int) + (↑(ByteArray.size (bs (encL g q))) : Int) - (↑(ByteArray.size (bs (cellsL L))) : Int) > (0 : Int) then (↑(ByteArray.size (bs (recsL g l))) : Int) + (↑(ByteArray.size (bs (encL g q))) : Int) - (↑(ByteArray.size (bs (cellsL L))) : Int) else (0 : Int))))) (Int.toNat ((↑(ByteArray.size (bs (recsL g l))) : Int) + Int.tmod (IntKind.wrap IntKind.i64 wr) ((↑(ByteArray.size (bs (encL g q))) : Int) + (1 : Int)))) (Int.toNat (↑(ByteArray.size (bs (cellsL L) ++ bs (zeros (Int.toNat (if (↑(ByteArray.size (bs (recsL g l))) : Int) + (↑(ByteArray.size (bs (encL g q))) : Int) - (↑(ByteArray.size (bs (cellsL L))) : Int) > (0 : Int) then (↑(ByteArray.size (bs (recsL g l))) : Int) + (↑(ByteArray.size (bs (encL g q))) : Int) - (↑(ByteArray.size (bs (cellsL L))) : Int) else (0 : Int)))))) : Int))) (Int.toNat (0 : Int)) (Int.toNat ((↑(ByteArray.size (bs (recsL g l))) : Int) + (↑(ByteArray.size (bs (encL g q))) : Int)))))) (rowS (walkL (↑g : Int) (ByteArray.extract (bs (recsL g l) ++ ByteArray.extract (bs (encL g q)) (Int.toNat (0 : Int)) (Int.toNat (Int.tmod (IntKind.wrap IntKind.i64 wr) ((↑(ByteArray.size (bs (encL g q))) : Int) + (1 : Int)))) ++ ByteArray.extract (bs (cellsL L) ++ bs (zeros (Int.toNat (if (↑(ByteArray.size (bs (recsL g l))) : Int) + (↑(ByteArray.size (bs (encL g q))) : Int) - (↑(ByteArray.size (bs (cellsL L))) : Int) > (0 : Int) then (↑(ByteArray.size (bs (recsL g l))) : Int) + (↑(ByteArray.size (bs (encL g q))) : Int) - (↑(ByteArray.size (bs (cellsL L))) : Int) else (0 : Int))))) (Int.toNat ((↑(ByteArray.size (bs (recsL g l))) : Int) + Int.tmod (IntKind.wrap IntKind.i64 wr) ((↑(ByteArray.size (bs (encL g q))) : Int) + (1 : Int)))) (Int.toNat (↑(ByteArray.size (bs (cellsL L) ++ bs (zeros (Int.toNat (if (↑(ByteArray.size (bs (recsL g l))) : Int) + (↑(ByteArray.size (bs (encL g q))) : Int) - (↑(ByteArray.size (bs (cellsL L))) : Int) > (0 : Int) then (↑(ByteArray.size (bs (recsL g l))) : Int) + (↑(ByteArray.size (bs (encL g q))) : Int) - (↑(ByteArray.size (bs (cellsL L))) : Int) else (0 : Int)))))) : Int))) (Int.toNat (0 : Int)) (Int.toNat ((↑(ByteArray.size (bs (recsL g l))) : Int) + (↑(ByteArray.size (bs (encL g q))) : Int)))))) (List.length l) fun i => DV.con (Value.string (sAt l i))))) ∧
        (((sEq (List.length (walkL (↑g : Int) (ByteArray.extract (bs (recsL g l) ++ ByteArray.extract (bs (encL g q)) (Int.toNat (0 : Int)) (Int.toNat (Int.tmod (IntKind.wrap IntKind.i64 wr) ((↑(ByteArray.size (bs (encL g q))) : Int) + (1 : Int)))) ++ ByteArray.extract (bs (cellsL L) ++ bs (zeros (Int.toNat (if (↑(ByteArray.size (bs (recsL g l))) : Int) + (↑(ByteArray.size (bs (encL g q))) : Int) - (↑(ByteArray.size (bs (cellsL L))) : Int) > (0 : Int) then (↑(ByteArray.size (bs (recsL g l))) : Int) + (↑(ByteArray.size (bs (encL g q))) : Int) - (↑(ByteArray.size (bs (cellsL L))) : Int) else (0 : Int))))) (Int.toNat ((↑(ByteArray.size (bs (recsL g l))) : Int) + Int.tmod (IntKind.wrap IntKind.i64 wr) ((↑(ByteArray.size (bs (encL g q))) : Int) + (1 : Int)))) (Int.toNat (↑(ByteArray.size (bs (cellsL L) ++ bs (zeros (Int.toNat (if (↑(ByteArray.size (bs (recsL g l))) : Int) + (↑(ByteArray.size (bs (encL g q))) : Int) - (↑(ByteArray.size (bs (cellsL L))) : Int) > (0 : Int) then (↑(ByteArray.size (bs (recsL g l))) : Int) + (↑(ByteArray.size (bs (encL g q))) : Int) - (↑(ByteArray.size (bs (cellsL L))) : Int) else (0 : Int)))))) : Int))) (Int.toNat (0 : Int)) (Int.toNat ((↑(ByteArray.size (bs (recsL g l))) : Int) + (↑(ByteArray.size (bs (encL g q))) : Int)))))) (rowS (walkL (↑g : Int) (ByteArray.extract (bs (recsL g l) ++ ByteArray.extract (bs (encL g q)) (Int.toNat (0 : Int)) (Int.toNat (Int.tmod (IntKind.wrap IntKind.i64 wr) ((↑(ByteArray.size (bs (encL g q))) : Int) + (1 : Int)))) ++ ByteArray.extract (bs (cellsL L) ++ bs (zeros (Int.toNat (if (↑(ByteArray.size (bs (recsL g l))) : Int) + (↑(ByteArray.size (bs (encL g q))) : Int) - (↑(ByteArray.size (bs (cellsL L))) : Int) > (0 : Int) then (↑(ByteArray.size (bs (recsL g l))) : Int) + (↑(ByteArray.size (bs (encL g q))) : Int) - (↑(ByteArray.size (bs (cellsL L))) : Int) else (0 : Int))))) (Int.toNat ((↑(ByteArray.size (bs (recsL g l))) : Int) + Int.tmod (IntKind.wrap IntKind.i64 wr) ((↑(ByteArray.size (bs (encL g q))) : Int) + (1 : Int)))) (Int.toNat (↑(ByteArray.size (bs (cellsL L) ++ bs (zeros (Int.toNat (if (↑(ByteArray.size (bs (recsL g l))) : Int) + (↑(ByteArray.size (bs (encL g q))) : Int) - (↑(ByteArray.size (bs (cellsL L))) : Int) > (0 : Int) then (↑(ByteArray.size (bs (recsL g l))) : Int) + (↑(ByteArray.size (bs (encL g q))) : Int) - (↑(ByteArray.size (bs (cellsL L))) : Int) else (0 : Int)))))) : Int))) (Int.toNat (0 : Int)) (Int.toNat ((↑(ByteArray.size (bs (recsL g l))) : Int) + (↑(ByteArray.size (bs (encL g q))) : Int)))))) (List.length l) fun i => DV.con (Value.string (sAt l i))) = true) →
        (((0 : Int) ≤ (↑(List.length l) : Int)) ∧
        ((↑(List.length l) : Int) < (↑(List.length l + (1 : Nat)) : Int))))) ∧
        (((.con (.bool ((sEq (List.length (walkL (↑g : Int) (ByteArray.extract (bs (recsL g l) ++ ByteArray.extract (bs (encL g q)) (Int.toNat (0 : Int)) (Int.toNat (Int.tmod (IntKind.wrap IntKind.i64 wr) ((↑(ByteArray.size (bs (encL g q))) : Int) + (1 : Int)))) ++ ByteArray.extract (bs (cellsL L) ++ bs (zeros (Int.toNat (if (↑(ByteArray.size (bs (recsL g l))) : Int) + (↑(ByteArray.size (bs (encL g q))) : Int) - (↑(ByteArray.size (bs (cellsL L))) : Int) > (0 : Int) then (↑(ByteArray.size (bs (recsL g l))) : Int) + (↑(ByteArray.size (bs (encL g q))) : Int) - (↑(ByteArray.size (bs (cellsL L))) : Int) else (0 : Int))))) (Int.toNat ((↑(ByteArray.size (bs (recsL g l))) : Int) + Int.tmod (IntKind.wrap IntKind.i64 wr) ((↑(ByteArray.size (bs (encL g q))) : Int) + (1 : Int)))) (Int.toNat (↑(ByteArray.size (bs (cellsL L) ++ bs (zeros (Int.toNat (if (↑(ByteArray.size (bs (recsL g l))) : Int) + (↑(ByteArray.size (bs (encL g q))) : Int) - (↑(ByteArray.size (bs (cellsL L))) : Int) > (0 : Int) then (↑(ByteArray.size (bs (recsL g l))) : Int) + (↑(ByteArray.size (bs (encL g q))) : Int) - (↑(ByteArray.size (bs (cellsL L))) : Int) else (0 : Int)))))) : Int))) (Int.toNat (0 : Int)) (Int.toNat ((↑(ByteArray.size (bs (recsL g l))) : Int) + (↑(ByteArray.size (bs (encL g q))) : Int)))))) (rowS (walkL (↑g : Int) (ByteArray.extract (bs (recsL g l) ++ ByteArray.extract (bs (encL g q)) (Int.toNat (0 : Int)) (Int.toNat (Int.tmod (IntKind.wrap IntKind.i64 wr) ((↑(ByteArray.size (bs (encL g q))) : Int) + (1 : Int)))) ++ ByteArray.extract (bs (cellsL L) ++ bs (zeros (Int.toNat (if (↑(ByteArray.size (bs (recsL g l))) : Int) + (↑(ByteArray.size (bs (encL g q))) : Int) - (↑(ByteArray.size (bs (cellsL L))) : Int) > (0 : Int) then (↑(ByteArray.size (bs (recsL g l))) : Int) + (↑(ByteArray.size (bs (encL g q))) : Int) - (↑(ByteArray.size (bs (cellsL L))) : Int) else (0 : Int))))) (Int.toNat ((↑(ByteArray.size (bs (recsL g l))) : Int) + Int.tmod (IntKind.wrap IntKind.i64 wr) ((↑(ByteArray.size (bs (encL g q))) : Int) + (1 : Int)))) (Int.toNat (↑(ByteArray.size (bs (cellsL L) ++ bs (zeros (Int.toNat (if (↑(ByteArray.size (bs (recsL g l))) : Int) + (↑(ByteArray.size (bs (encL g q))) : Int) - (↑(ByteArray.size (bs (cellsL L))) : Int) > (0 : Int) then (↑(ByteArray.size (bs (recsL g l))) : Int) + (↑(ByteArray.size (bs (encL g q))) : Int) - (↑(ByteArray.size (bs (cellsL L))) : Int) else (0 : Int)))))) : Int))) (Int.toNat (0 : Int)) (Int.toNat ((↑(ByteArray.size (bs (recsL g l))) : Int) + (↑(ByteArray.size (bs (encL g q))) : Int)))))) (List.length l) fun i => DV.con (Value.string (sAt l i))) && (↑(recLen (walkL (↑g : Int) (ByteArray.extract (bs (recsL g l) ++ ByteArray.extract (bs (encL g q)) (Int.toNat (0 : Int)) (Int.toNat (Int.tmod (IntKind.wrap IntKind.i64 wr) ((↑(ByteArray.size (bs (encL g q))) : Int) + (1 : Int)))) ++ ByteArray.extract (bs (cellsL L) ++ bs (zeros (Int.toNat (if (↑(ByteArray.size (bs (recsL g l))) : Int) + (↑(ByteArray.size (bs (encL g q))) : Int) - (↑(ByteArray.size (bs (cellsL L))) : Int) > (0 : Int) then (↑(ByteArray.size (bs (recsL g l))) : Int) + (↑(ByteArray.size (bs (encL g q))) : Int) - (↑(ByteArray.size (bs (cellsL L))) : Int) else (0 : Int))))) (Int.toNat ((↑(ByteArray.size (bs (recsL g l))) : Int) + Int.tmod (IntKind.wrap IntKind.i64 wr) ((↑(ByteArray.size (bs (encL g q))) : Int) + (1 : Int)))) (Int.toNat (↑(ByteArray.size (bs (cellsL L) ++ bs (zeros (Int.toNat (if (↑(ByteArray.size (bs (recsL g l))) : Int) + (↑(ByteArray.size (bs (encL g q))) : Int) - (↑(ByteArray.size (bs (cellsL L))) : Int) > (0 : Int) then (↑(ByteArray.size (bs (recsL g l))) : Int) + (↑(ByteArray.size (bs (encL g q))) : Int) - (↑(ByteArray.size (bs (cellsL L))) : Int) else (0 : Int)))))) : Int))) (Int.toNat (0 : Int)) (Int.toNat ((↑(ByteArray.size (bs (recsL g l))) : Int) + (↑(ByteArray.size (bs (encL g q))) : Int)))))) : Int) == (↑(recLen (List.take (Int.toNat (↑(List.length l) : Int)) l)) : Int)))) : DV) = (db true)))))))))))))) (by kernel_rfl) ?_
      have hsR : (bs (recsL g l)).size = recLen l := by rw [bs_size, recsL_len]
      have hsQ : (bs (encL g q)).size = 50 + 2 * q.size := by rw [bs_size, encL_len]
      have hsC : (bs (cellsL L)).size = (cellsL L).length := by rw [bs_size]
      have ecw : IntKind.wrap .i64 wr = wr := IntWalk.i64_in _ ⟨by omega, by omega⟩
      simp only [hsR, hsQ, hsC, ecw]
      obtain ⟨z, hz, hz2⟩ : ∃ z : Nat, (if ((recLen l : Nat) : Int) + ((50 + 2 * q.size : Nat) : Int) - ((cellsL L).length : Int) > 0 then ((recLen l : Nat) : Int) + ((50 + 2 * q.size : Nat) : Int) - ((cellsL L).length : Int) else 0) = (z : Int) ∧ z = recLen l + (50 + 2 * q.size) - (cellsL L).length := by
        refine ⟨_, ?_, rfl⟩
        split <;> omega
      obtain ⟨k, hk⟩ := Int.eq_ofNat_of_zero_le (show 0 ≤ Int.tmod wr (((50 + 2 * q.size : Nat) : Int) + 1) from Int.tmod_nonneg _ hwr.1)
      have hkl : k ≤ 50 + 2 * q.size := by
        have := Int.tmod_lt_of_pos wr (show (0 : Int) < ((50 + 2 * q.size : Nat) : Int) + 1 by omega)
        omega
      simp only [hz, hk, Int.toNat_natCast]
      have hAl : (recsL g l).length = recLen l := recsL_len g l
      have hEl : (encL g q).length = 50 + 2 * q.size := encL_len g q
      have hzl : (zeros z).length = z := List.length_replicate
      have hCl : (cellsL L ++ zeros z).length = (cellsL L).length + z := by rw [List.length_append, hzl]
      have e0 : Int.toNat (0 : Int) = 0 := rfl
      have eRk : Int.toNat ((recLen l : Int) + (k : Int)) = recLen l + k := by omega
      have eRQ : Int.toNat ((recLen l : Int) + ((50 + 2 * q.size : Nat) : Int)) = recLen l + (50 + 2 * q.size) := by omega
      have hX1 : (bs (encL g q)).extract 0 k = bs ((encL g q).take k) := by rw [extract_bs]; simp [bs]
      have hX2 : (bs (cellsL L ++ zeros z)).extract (recLen l + k) (cellsL L ++ zeros z).length = bs ((cellsL L ++ zeros z).drop (recLen l + k)) := by
        rw [extract_bs]
        simp only [bs]
        rw [List.take_of_length_le (by rw [List.length_drop]; omega)]
      have hX3 : (bs (recsL g l ++ (encL g q).take k ++ (cellsL L ++ zeros z).drop (recLen l + k))).extract 0 (recLen l + (50 + 2 * q.size)) = bs (recsL g l ++ ((encL g q).take k ++ ((cellsL L ++ zeros z).drop (recLen l + k)).take (50 + 2 * q.size - k))) := by
        rw [extract_bs]
        simp only [bs, List.drop_zero, Nat.sub_zero]
        rw [List.append_assoc, List.take_append, List.take_of_length_le (by omega), hAl, List.take_append, List.take_of_length_le (by rw [List.length_take]; omega), List.length_take, show recLen l + (50 + 2 * q.size) - recLen l - min k (encL g q).length = 50 + 2 * q.size - k by omega]
      have hDl : (recsL g l ++ ((encL g q).take k ++ ((cellsL L ++ zeros z).drop (recLen l + k)).take (50 + 2 * q.size - k))).length = recLen l + (50 + 2 * q.size) := by
        rw [List.length_append, List.length_append, List.length_take, List.length_take, List.length_drop]; omega
      have hX4 : (bs (recsL g l ++ ((encL g q).take k ++ ((cellsL L ++ zeros z).drop (recLen l + k)).take (50 + 2 * q.size - k)))).extract 0 (recLen l + (50 + 2 * q.size)) = bs (recsL g l ++ ((encL g q).take k ++ ((cellsL L ++ zeros z).drop (recLen l + k)).take (50 + 2 * q.size - k))) := by
        rw [extract_bs]
        simp only [bs, List.drop_zero, Nat.sub_zero]
        rw [List.take_of_length_le (by omega)]
      simp only [e0, eRk, eRQ, bs_append, bs_size (cellsL L ++ zeros z), hX1, hX2, hX3, hX4, Nat.zero_add]
      generalize hY : (encL g q).take k ++ ((cellsL L ++ zeros z).drop (recLen l + k)).take (50 + 2 * q.size - k) = Y
      rw [hY] at hDl
      have h11 := f11 (G := G) (bs (recsL g l ++ Y)) (g : Int) (by rw [bs_size, hDl]; omega)
      have hall : walkL (g : Int) (bs (recsL g (l ++ [q]))) = l ++ [q] := walkL_all hg (l ++ [q]) fun p hp => by
        rcases List.mem_append.1 hp with hp | hp
        · exact hl4 p hp
        · rw [List.mem_singleton] at hp; subst hp; omega
      have hone : recsL g (l ++ [q]) = recsL g l ++ encL g q := by rw [recsL_app]; simp only [recsL, List.append_nil]
      have hrl : recLen (l ++ [q]) = recLen l + (50 + 2 * q.size) := by rw [recLen_app]; simp [recLen]
      refine ⟨⟨⟨by omega, by omega⟩, ⟨by omega, by omega⟩, f22' z (by omega), ?_⟩, ⟨⟨by omega, by omega⟩, by omega⟩, ⟨⟨by omega, by omega, by omega⟩, ?_, ⟨by omega, by omega⟩, ⟨by omega, by omega, by omega⟩, ?_⟩, ⟨⟨by omega, by omega⟩, by omega, by omega, ?_⟩, h11, fun h => ?_, fun h => ⟨⟨⟨by omega, by omega⟩, ⟨by omega, by omega, ?_⟩, by omega⟩, fun h2 => ⟨⟨by omega, by omega⟩, ?_⟩, fun h2 => ?_⟩⟩
      · rw [bs_size, hzl]; omega
      · rw [bs_size, List.length_take]; omega
      · rw [bs_size, bs_size, List.length_append, List.length_take, List.length_drop]; omega
      · rw [bs_size, List.length_append, List.length_append, List.length_take, List.length_drop]; omega
      · have h : k = 50 + 2 * q.size := by simp at h; omega
        have hYe : Y = encL g q := by
          rw [← hY, List.take_of_length_le (by omega), h, Nat.sub_self, List.take_zero, List.append_nil]
        have hfs : ∀ i, i < (l ++ [q]).length → (fun i : Nat => bif i.blt l.length then bif i.blt 0 then DV.con undef else DV.con (Value.string (sAt l (i - 0))) else elemF false 1 [DV.con (Value.string q)] (i - l.length)) i = ds (sAt (l ++ [q]) i) := by
          intro i hi
          rw [List.length_append, List.length_singleton] at hi
          by_cases h2 : i < l.length
          · have e1 : i.blt l.length = true := by simp [Nat.blt_eq, h2]
            have e2 : i.blt 0 = false := rfl
            simp only [e1, e2, cond_true, cond_false, Nat.sub_zero, sAt, List.getD_eq_getElem?_getD, List.getElem?_append_left h2]
          · have e1 : i.blt l.length = false := by rw [Bool.eq_false_iff]; intro h3; exact h2 (by simpa [Nat.blt_eq] using h3)
            have e3 : i = l.length := by omega
            subst e3
            simp only [e1, cond_false, Nat.sub_self, sAt, List.getD_eq_getElem?_getD, List.getElem?_concat_length]
            rfl
        have h13 := f13S (G := G) (l ++ [q]) (l ++ [q]) _ hfs (by rw [List.length_append, List.length_singleton]; omega)
        have hseq := (sEq_S (l ++ [q]) (l ++ [q]) _ hfs).2 rfl
        have hlen1 : (l ++ [q]).length = l.length + 1 := by rw [List.length_append, List.length_singleton]
        subst hYe
        rw [← hone, hall]
        have h13' := h13
        unfold strL at h13'
        rw [hlen1] at h13' hseq
        rw [hlen1]
        have hel : ∀ i : Nat, i < 1 → elemOK false 1 (elemF false 1 [DV.con (Value.string q)] i) = true := fun i hi => by
          have : i = 0 := by omega
          subst this; rfl
        refine ⟨⟨⟨?_, ?_⟩, fun _ _ => rfl, ⟨?_, ?_⟩, hel, h13'⟩, ?_⟩
        · omega
        · omega
        · omega
        · omega
        rw [hseq, hrl, bs_size, hone, List.length_append, hAl, hEl]
        simp
      · rw [bs_size, hDl]; omega
      · rw [beq_iff_eq, toList_inj] at h2
        rw [h2, ← hone, hall, List.length_append, List.length_singleton]
        simp
      · have hne2 : Y ≠ encL g q := by
          intro e
          rw [e] at h2
          simp at h2
        have hN : decSpec g Y = none := by
          rw [← hY] at hne2 ⊢
          exact torn (by omega) (by omega) (fun c hc => (hL c hc).2) (by omega) hkl hne2
        have hW : walkL (g : Int) (bs (recsL g l ++ Y)) = l := walkL_recs hg hN l hl4
        have h13 := f13S (G := G) l l (fun i => ds (sAt l i)) (fun _ _ => rfl) (by omega)
        have hseq := (sEq_S l l (fun i => ds (sAt l i)) (fun _ _ => rfl)).2 rfl
        rw [hW, hseq, List.take_length]
        rw [hseq] at h13
        exact ⟨⟨h13, fun _ => ⟨by omega, by omega⟩⟩, by simp⟩
end Go.Proofs
