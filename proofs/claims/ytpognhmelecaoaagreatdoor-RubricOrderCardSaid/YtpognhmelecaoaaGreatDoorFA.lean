import Derived.Test.YtpognhmelecaoaaGreatDoorProg
import Derived.Test.YtpognhmelecaoaaGreatDoorAcC
import Derived.Lib.ItoaLen
import Derived.Test.YtpognhmelecaoaaGreatDoorAcD
import Derived.Test.YtpognhmelecaoaaGreatDoorShelf
set_option autoImplicit false
namespace Go.Proofs
open Go Go.Ab
set_option maxHeartbeats 1000000
set_option maxRecDepth 100000
theorem follows : Tryz.prog.follows .mixedOrders = true := by kernel_rfl
@[match_pattern] abbrev fr (n d : Int) : DV := .agg [di n, di d]
def ok (n d : Int) : Bool := decide (1 ≤ d ∧ d ≤ 1000000 ∧ -1000000000 ≤ n ∧ n ≤ 1000000000 ∧ Int.gcd n d = 1)
abbrev FE := Int × Int × Int
def fe (x : FE) : DV := .tup [fr x.1 x.2.1, di x.2.2]
def red1 (n d : Int) : FE := if ok (n.tdiv (Int.gcd n d)) (d.tdiv (Int.gcd n d)) then (n.tdiv (Int.gcd n d), d.tdiv (Int.gcd n d), 0) else (0, 0, 2)
def red (n d : Int) : FE := if d < 0 then red1 (-n) (-d) else red1 n d
def big (n : Int) : Bool := decide (-1000000000000000 ≤ n ∧ n ≤ 1000000000000000)
def mk (n d : Int) : FE := if d = 0 then (0, 0, 1) else if big n = true ∧ big d = true then red n d else (0, 0, 2)
abbrev str (l : List UInt8) : ByteArray := ⟨l.toArray⟩
def sg (n : Int) : List UInt8 := if n < 0 then [45] else []
def pt (n p : Int) : List UInt8 := sg n ++ (Lib.itoa ((n.natAbs : Int).tdiv p) ++ 46 :: (Lib.itoa (p + (n.natAbs : Int).tmod p)).drop 1)
def decA (n d : Int) : Nat → Int → List UInt8 × Bool
  | 0, _ => ([], false)
  | k + 1, p => if p.tmod d = 0 then (if p = 1 then (Lib.itoa n, true) else (pt (n * p.tdiv d) p, true)) else decA n d k (10 * p)
def decF (n d : Int) : List UInt8 × Bool := if ok n d then decA n d 7 1 else ([], false)
def tailB (d : Nat) : Nat → Nat → List UInt8
  | 0, _ => []
  | k + 1, r => if r = 0 then [] else Lib.decDigits (10 * r / d) ++ tailB d k (10 * r % d)
def decB (n d : Int) : List UInt8 × Bool :=
  if ok n d = true ∧ (1000000 : Int).tmod d = 0 then
    (sg n ++ (Lib.decDigits (n.natAbs / d.toNat) ++ (if n.natAbs % d.toNat = 0 then [] else 46 :: tailB d.toNat 7 (n.natAbs % d.toNat))), true)
  else ([], false)
def sb (x : List UInt8 × Bool) : DV := .tup [ds (str x.1), db x.2]
def orc : Oracle
  | 167, [di n] => some (di (n.natAbs : Int))
  | 166, [di a, di b] => some (di (Int.gcd a b))
  | 96, [di a, di b] => some (di (Int.gcd a b))
  | 134, [fr a b] => some (db (ok a b))
  | 47, [fr a b] => some (db (ok a b))
  | 165, [di a, di b] => some (fe (red a b))
  | 136, [di a, di b] => some (fe (red a b))
  | 176, [di a] => some (ds (str (Lib.itoa a)))
  | 169, [di n] => some (.tup [ds (str (sg n)), di (n.natAbs : Int)])
  | 170, [di n] => some (ds (str (Lib.decDigits n.toNat)))
  | 177, [di n, di p] => some (ds (str (pt n p)))
  | 151, [fr n d] => some (sb (decF n d))
  | 138, [fr n d] => some (sb (decF n d))
  | _, _ => none
end Go.Proofs
set_option autoImplicit false
namespace Go.Proofs
open Go Go.Ab
set_option maxHeartbeats 1000000
set_option maxRecDepth 100000
variable {G : IH}
theorem gcd_step {x y : Int} (hx : 0 ≤ x) (hy : 0 ≤ y) : Int.gcd y (x.tmod y) = Int.gcd x y := by
  obtain ⟨a, rfl⟩ := Int.eq_ofNat_of_zero_le hx
  obtain ⟨b, rfl⟩ := Int.eq_ofNat_of_zero_le hy
  rw [← Int.ofNat_tmod]
  simp only [Int.gcd_natCast_natCast]
  rw [Nat.gcd_comm b, ← Nat.gcd_rec, Nat.gcd_comm]
theorem f167 (n : Int) (h0 : -9223372036854775807 ≤ n) (h1 : n ≤ 9223372036854775807) : FnOK Tryz.prog G 167 [di n] (di (n.natAbs : Int)) := by
  refine FnOK.walk (orc := orc) (keep := []) follows Tryz.func167 rfl Tryz.call167 ?_
  refine of_tr (fun _ _ _ _ => ((R64 n) ∧ ((di (if -n > n then -n else n)) : DV) = (di ↑n.natAbs))) (by kernel_rfl) ?_
  refine ⟨⟨h0, h1⟩, congrArg di ?_⟩
  split <;> omega
def gcdI (a b : Int) (x : Int × Int) : Prop := 0 ≤ x.1 ∧ 0 ≤ x.2 ∧ Int.gcd x.1 x.2 = Int.gcd a b
def gcdM (x : Int × Int) : Nat := x.2.toNat
theorem tmod_bd {x y : Int} (hx : 0 ≤ x) (hy : 0 < y) : 0 ≤ x.tmod y ∧ x.tmod y < y := by
  rw [Int.tmod_eq_emod_of_nonneg hx]
  exact ⟨Int.emod_nonneg _ (by omega), Int.emod_lt_of_pos _ hy⟩
def gcdS (x : Int × Int) : AS := ⟨regs 12 [(0, vi x.1), (1, vi x.2)], []⟩
theorem f166 (a b : Int) (ha : 0 ≤ a) (hb : 0 ≤ b) : FnOK Tryz.prog G 166 [di a, di b] (di (Int.gcd a b)) := by
  refine FnOK.walk (orc := orc) (keep := []) follows Tryz.func166 rfl Tryz.call166 ?_
  refine of_tr (fun ZT ZW ZQ _ => ZW [cd Tryz.f166 [1, 0, 0], (.blk 0), cd Tryz.f166 [1, 1]] (stS ZT []) ZQ) (by kernel_rfl) ?_
  refine AWP.loop (c := cAt (bodyOf Tryz.f166) [1, 0, 0, 0]) (by kernel_rfl) gcdS (gcdI a b) gcdM (a, b) ?_ ⟨ha, hb, rfl⟩ ?_
  · exact AS.leA (by kernel_rfl)
  · rintro ⟨x, y⟩ ⟨hx, hy, hg⟩
    simp only at hx hy hg
    refine walk (orc := orc) (keep := []) (cuts := []) (n := 1000) follows ?_
    refine of_rd (fun ZT ZW ZQ _ ZA _ => ((((decide (y > 0)) = true) → ((y ≠ 0) ∧ (ZA (stS ZT [0])))) ∧ (((decide (y > 0)) = false) → ZW [cd Tryz.f166 [1, 1]] (stS ZT [1]) ZQ))) (by kernel_rfl) ?_
    refine ⟨fun h => ?_, fun h => ?_⟩
    · have hy' : 0 < y := by simpa using h
      have hb := tmod_bd hx hy'
      refine ⟨by omega, Again.mk (y, x.tmod y) ?_ ⟨hy, hb.1, by rw [← hg]; exact gcd_step hx hy⟩ (by simp only [gcdM]; omega)⟩
      exact AS.leA (by kernel_rfl)
    · refine walk (orc := orc) (keep := []) (cuts := []) (n := 1000) follows ?_
      refine of_tr (fun _ _ _ _ => (((di x) : DV) = (di ↑(a.gcd b)))) (by kernel_rfl) ?_
      have : y = 0 := by simp at h; omega
      subst this
      rw [← hg]; simp; omega
theorem gcd_abs (n d : Int) : Int.gcd (n.natAbs : Int) d = Int.gcd n d := by simp [Int.gcd]
theorem f134 (n d : Int) : FnOK Tryz.prog G 134 [fr n d] (db (ok n d)) := by
  refine FnOK.walk (orc := orc) (keep := []) follows Tryz.func134 rfl Tryz.call134 ?_
  refine of_tr (fun _ _ _ ZK => (fun Za => ((((Za = true) → ZK 167 [(di n)] (di (↑n.natAbs))) ∧ ((Za = true) → ZK 166 [(di (↑n.natAbs)), (di d)] (di ((↑(Int.gcd (↑(Int.natAbs n) : Int) d) : Int))))) ∧ ((db (decide (d ≥ 1) && decide (d ≤ 1000000) && decide (n ≥ -1000000000) && decide (n ≤ 1000000000) && (↑(Int.gcd (↑(Int.natAbs n) : Int) d) : Int) == 1)) : DV) = (db (ok n d)))) (decide (d ≥ 1) && decide (d ≤ 1000000) && decide (n ≥ -1000000000) && decide (n ≤ 1000000000))) (by kernel_rfl) ?_
  refine ⟨⟨fun h => ?_, fun h => ?_⟩, congrArg db ?_⟩
  · simp at h; exact f167 n (by omega) (by omega)
  · simp at h; exact f166 _ d (by omega) (by omega)
  · rw [gcd_abs, Bool.eq_iff_iff]; simp [ok]; omega
theorem gcd_pos {n d : Int} (hd : d ≠ 0) : Int.gcd n d ≠ 0 := by
  intro h; rw [Int.gcd_eq_zero_iff] at h; exact hd h.2
theorem f165 (n d : Int) (hd : d ≠ 0) (hn : R64 n) (hd' : R64 d) : FnOK Tryz.prog G 165 [di n, di d] (fe (red n d)) := by
  obtain ⟨n0, n1⟩ := hn
  obtain ⟨d0, d1⟩ := hd'
  refine FnOK.walk (orc := orc) (keep := []) follows Tryz.func165 rfl Tryz.call165 ?_
  refine of_tr (fun _ _ _ ZK => (fun Za Zb => ((((decide (d < 0)) = true) → (((R64 n) ∧ (R64 d)) ∧ (ZK 167 [(di (-n))] (di (↑(-n).natAbs)) ∧ ZK 166 [(di (↑(-n).natAbs)), (di (-d))] (di (Za))) ∧ ((Za ≠ 0) ∧ (R64 (-n)) ∧ (Za ≠ 0) ∧ (R64 (-d))) ∧ ZK 134 [(.agg [(di (Int.tdiv (-n) Za)), (di (Int.tdiv (-d) Za))])] (db (ok (Int.tdiv (-n) Za) (Int.tdiv (-d) Za))) ∧ (((!ok (Int.tdiv (-n) Za) (Int.tdiv (-d) Za)) = true) → (((.tup [(.agg [(di 0), (di 0)]), (di 2)]) : DV) = (fe (red n d)))) ∧ (((!ok (Int.tdiv (-n) Za) (Int.tdiv (-d) Za)) = false) → (((.tup [(.agg [(di (Int.tdiv (-n) Za)), (di (Int.tdiv (-d) Za))]), (di 0)]) : DV) = (fe (red n d)))))) ∧ (((decide (d < 0)) = false) → ((ZK 167 [(di n)] (di (↑n.natAbs)) ∧ ZK 166 [(di (↑n.natAbs)), (di d)] (di (Zb))) ∧ ((Zb ≠ 0) ∧ (R64 n) ∧ (Zb ≠ 0) ∧ (R64 d)) ∧ ZK 134 [(.agg [(di (Int.tdiv n Zb)), (di (Int.tdiv d Zb))])] (db (ok (Int.tdiv n Zb) (Int.tdiv d Zb))) ∧ (((!ok (Int.tdiv n Zb) (Int.tdiv d Zb)) = true) → (((.tup [(.agg [(di 0), (di 0)]), (di 2)]) : DV) = (fe (red n d)))) ∧ (((!ok (Int.tdiv n Zb) (Int.tdiv d Zb)) = false) → (((.tup [(.agg [(di (Int.tdiv n Zb)), (di (Int.tdiv d Zb))]), (di 0)]) : DV) = (fe (red n d)))))))) (↑(Int.gcd (↑(Int.natAbs (-n)) : Int) (-d)) : Int) (↑(Int.gcd (↑(Int.natAbs n) : Int) d) : Int)) (by kernel_rfl) ?_
  have aux : ∀ n d : Int, 0 < d → R64 n → R64 d → (FnOK Tryz.prog G 167 [di n] (di (n.natAbs : Int)) ∧ FnOK Tryz.prog G 166 [di (n.natAbs : Int), di d] (di (Int.gcd (n.natAbs : Int) d))) ∧ ((Int.gcd (n.natAbs : Int) d : Int) ≠ 0) := by
    intro n d hd hn hd'
    exact ⟨⟨f167 n hn.1 hn.2, f166 _ d (by omega) (by omega)⟩, by have := gcd_pos (n := (n.natAbs : Int)) (d := d) (by omega); omega⟩
  refine ⟨fun h => ?_, fun h => ?_⟩
  · have hneg : d < 0 := by simpa using h
    obtain ⟨h1, h2⟩ := aux (-n) (-d) (by omega) ⟨by omega, by omega⟩ ⟨by omega, by omega⟩
    refine ⟨⟨⟨n0, n1⟩, d0, d1⟩, h1, ⟨h2, ⟨by omega, by omega⟩, h2, by omega, by omega⟩, f134 _ _, fun h => ?_, fun h => ?_⟩
    · simp only [gcd_abs] at h
      simp only [red, if_pos hneg, red1]
      rw [if_neg (by simpa using h)]; rfl
    · simp only [gcd_abs] at h ⊢
      simp only [red, if_pos hneg, red1]
      rw [if_pos (by simpa using h)]; rfl
  · have hpos : ¬ d < 0 := by simpa using h
    obtain ⟨h1, h2⟩ := aux n d (by omega) ⟨by omega, by omega⟩ ⟨by omega, by omega⟩
    refine ⟨h1, ⟨h2, ⟨by omega, by omega⟩, h2, by omega, by omega⟩, f134 _ _, fun h => ?_, fun h => ?_⟩
    · simp only [gcd_abs] at h
      simp only [red, if_neg hpos, red1]
      rw [if_neg (by simpa using h)]; rfl
    · simp only [gcd_abs] at h ⊢
      simp only [red, if_neg hpos, red1]
      rw [if_pos (by simpa using h)]; rfl
end Go.Proofs
set_option autoImplicit false
namespace Go.Proofs
open Go Go.Ab
set_option maxHeartbeats 1000000
set_option maxRecDepth 100000
variable {G : IH}
theorem ok_spec {n d : Int} (h : ok n d = true) : 1 ≤ d ∧ d ≤ 1000000 ∧ -1000000000 ≤ n ∧ n ≤ 1000000000 ∧ Int.gcd n d = 1 := by simpa [ok] using h
theorem ediv_I64 {a b : Int} (hb : 0 < b) (h : R64 a) : I64 (a / b) := by
  obtain ⟨h0, h1⟩ := h
  rcases Int.lt_or_le a 0 with h | h
  · have h2 := Int.ediv_neg_of_neg_of_pos h hb
    have h3 : a ≤ a / b := by
      have h4 := Int.emod_add_mul_ediv a b
      have h5 := Int.emod_nonneg a (show b ≠ 0 by omega)
      have h6 : (a / b) * b ≤ (a / b) * 1 := Int.mul_le_mul_of_nonpos_left (by omega) (by omega)
      have := Int.emod_lt_of_pos a hb
      rcases Int.lt_or_le (a / b) a with h7 | h7
      · have h8 : b * (a / b) ≤ b * (a - 1) := Int.mul_le_mul_of_nonneg_left (by omega) (by omega)
        have h9 : b * (a - 1) ≤ 1 * (a - 1) := Int.mul_le_mul_of_nonpos_right (by omega) (by omega)
        have h10 : b * (a - 1) = b * a - b := by rw [Int.mul_sub, Int.mul_one]
        have h11 : b * a ≤ 1 * a := Int.mul_le_mul_of_nonpos_right (by omega) (by omega)
        omega
      · exact h7
    exact ⟨by omega, by omega⟩
  · have h2 := Int.ediv_nonneg h (Int.le_of_lt hb)
    have h3 := Int.ediv_le_self b h
    exact ⟨by omega, by omega⟩
theorem f169 (n : Int) (h : R64 n) : FnOK Tryz.prog G 169 [di n] (.tup [ds (str (sg n)), di (n.natAbs : Int)]) := by
  refine FnOK.walk (orc := orc) (keep := []) follows Tryz.func169 rfl Tryz.call169 ?_
  refine of_tr (fun _ _ _ _ => ((((decide (n < 0)) = true) → ((R64 n) ∧ ((.tup [(ds (ByteArray.mk #[45])), (di (-n))]) : DV) = (.tup [(ds (str (sg n))), (di ↑n.natAbs)]))) ∧ (((decide (n < 0)) = false) → (((.tup [(ds (ByteArray.mk #[])), (di n)]) : DV) = (.tup [(ds (str (sg n))), (di ↑n.natAbs)]))))) (by kernel_rfl) ?_
  refine ⟨fun hn => ⟨h, ?_⟩, fun hn => ?_⟩
  · simp at hn; simp only [sg, if_pos hn]; rw [show (n.natAbs : Int) = -n by omega]
  · simp at hn; simp only [sg, if_neg (show ¬ n < 0 by omega)]; rw [show (n.natAbs : Int) = n by omega]
end Go.Proofs
set_option autoImplicit false
namespace Go.Proofs
open Go Go.Ab
set_option maxHeartbeats 1000000
set_option maxRecDepth 100000
theorem str_app (a b : List UInt8) : str a ++ str b = str (a ++ b) := ByteArray.ext (by rw [ByteArray.data_append]; simp)
theorem str_size (a : List UInt8) : ByteArray.size (str a) = a.length := by simp [ByteArray.size]
theorem str_extract (a : List UInt8) (i j : Nat) : ByteArray.extract (str a) i j = str ((a.drop i).take (j - i)) := ByteArray.ext (by rw [ByteArray.data_extract]; simp)
theorem itoa_len (n : Int) (h : I64 n) : (Lib.itoa n).length ≤ 21 := Lib.itoa_length_le n h.1 h.2
theorem itoa_sg (n : Int) : Lib.itoa n = sg n ++ Lib.decDigits n.natAbs := by
  unfold Lib.itoa sg
  split
  · rfl
  · rw [show n.toNat = n.natAbs by omega]; rfl
def Tab (G : IH) : Prop := ∀ w, G.holds w → Lib.TabIs Tryz.prog w "internal/strconv.uint64pow10" .u64 Lib.pow10Tab
variable {G : IH}
theorem f176 (hT : Tab G) (n : Int) (h : I64 n) : FnOK Tryz.prog G 176 [di n] (ds (str (Lib.itoa n))) := by
  refine FnOK.of_calls (args := [.int .i64 n]) (v := .string (str (Lib.itoa n))) Tryz.call176 fun w hw => ?_
  refine Calls.mono (Tryz.strconv_Itoa n h.1 h.2 w (hT w hw)) ?_
  rintro e w' ⟨he, k, os, rfl⟩
  exact ⟨he, below_grow w k os⟩
theorem f177 (hT : Tab G) (n p : Int) (hn : R64 n) (hp : 0 < p) (hp' : p ≤ 1000000000) : FnOK Tryz.prog G 177 [di n, di p] (ds (str (pt n p))) := by
  obtain ⟨n0, n1⟩ := hn
  have b1 := tmod_bd (x := (n.natAbs : Int)) (y := p) (by omega) hp
  have hm : I64 (p + Int.tmod (n.natAbs : Int) p) := ⟨by omega, by omega⟩
  have hq : I64 (Int.tdiv (n.natAbs : Int) p) := by
    rw [Int.tdiv_eq_ediv_of_nonneg (by omega)]
    exact ediv_I64 hp ⟨by omega, by omega⟩
  have l1 := itoa_len _ hm
  have l2 := itoa_len _ hq
  have l3 : 1 ≤ (Lib.itoa (p + Int.tmod (n.natAbs : Int) p)).length := by
    have h1 := Lib.decDigits_length ((p + Int.tmod (n.natAbs : Int) p).natAbs)
    have h2 : 1 ≤ Lib.nDigits ((p + Int.tmod (n.natAbs : Int) p).natAbs) := by unfold Lib.nDigits; split <;> omega
    rw [itoa_sg, List.length_append]; omega
  have tk : ∀ l : List UInt8, List.take (Int.toNat (l.length : Int) - Int.toNat 1) (List.drop (Int.toNat 1) l) = l.drop 1 := by
    intro l
    rw [List.take_of_length_le (by simp)]; rfl
  refine FnOK.walk (orc := orc) (keep := []) follows Tryz.func177 rfl Tryz.call177 ?_
  refine of_tr (fun _ _ _ ZK => (fun Za Zb Zc Zd Ze => ((((decide (n < 0)) = true) → ((ZK 167 [(di n)] (di (↑n.natAbs)) ∧ (p ≠ 0) ∧ (I64 Zd) ∧ ZK 176 [(di Zd)] (ds (str (Lib.itoa Zd))) ∧ ((0 : Int) ≤ (1 : Int)) ∧ (1 ≤ Za) ∧ (Za ≤ Za)) ∧ (ZK 167 [(di n)] (di (↑n.natAbs)) ∧ (p ≠ 0) ∧ (R64 ↑n.natAbs) ∧ ZK 176 [(di (((↑n.natAbs : Int)).tdiv p))] (ds (str Zb)) ∧ ((ByteArray.mk #[45]).size + (str Zb).size ≤ 9223372036854775807) ∧ ((ByteArray.mk #[45] ++ str Zb).size + (ByteArray.mk #[46]).size ≤ 9223372036854775807) ∧ (ByteArray.size ({ data := #[45] } ++ str Ze ++ { data := #[46] }) + ByteArray.size (ByteArray.extract Zc (Int.toNat 1) (Int.toNat Za)) ≤ 9223372036854775807)) ∧ ((ds ({ data := #[45] } ++ str Ze ++ { data := #[46] } ++ ByteArray.extract Zc (Int.toNat 1) (Int.toNat Za))) : DV) = (ds (str (pt n p))))) ∧ (((decide (n < 0)) = false) → ((ZK 167 [(di n)] (di (↑n.natAbs)) ∧ (p ≠ 0) ∧ (I64 Zd) ∧ ZK 176 [(di Zd)] (ds (str (Lib.itoa Zd))) ∧ ((0 : Int) ≤ (1 : Int)) ∧ (1 ≤ Za) ∧ (Za ≤ Za)) ∧ (ZK 167 [(di n)] (di (↑n.natAbs)) ∧ (p ≠ 0) ∧ (R64 ↑n.natAbs) ∧ ZK 176 [(di (((↑n.natAbs : Int)).tdiv p))] (ds (str Zb)) ∧ ((ByteArray.mk #[]).size + (str Zb).size ≤ 9223372036854775807) ∧ ((ByteArray.mk #[] ++ str Zb).size + (ByteArray.mk #[46]).size ≤ 9223372036854775807) ∧ (ByteArray.size ({ data := #[] } ++ str Ze ++ { data := #[46] }) + ByteArray.size (ByteArray.extract Zc (Int.toNat 1) (Int.toNat Za)) ≤ 9223372036854775807)) ∧ ((ds ({ data := #[] } ++ str Ze ++ { data := #[46] } ++ ByteArray.extract Zc (Int.toNat 1) (Int.toNat Za))) : DV) = (ds (str (pt n p))))))) (↑(ByteArray.size (str (Lib.itoa (p + Int.tmod (↑(Int.natAbs n) : Int) p)))) : Int) (Lib.itoa (((↑n.natAbs : Int)).tdiv p)) (str (Lib.itoa (p + Int.tmod (↑(Int.natAbs n) : Int) p))) (p + ((↑n.natAbs : Int)).tmod p) (Lib.itoa (Int.tdiv (↑(Int.natAbs n) : Int) p))) (by kernel_rfl) ?_
  simp only [str_app, str_size, str_extract, tk, List.length_append, List.length_cons, List.length_nil, List.length_drop]
  refine ⟨fun h => ?_, fun h => ?_⟩
  · have h : n < 0 := by simpa using h
    refine ⟨⟨f167 n (by omega) (by omega), by omega, hm, f176 hT _ hm, by omega, by omega, by omega⟩, ⟨f167 n (by omega) (by omega), by omega, ⟨by omega, by omega⟩, f176 hT _ hq, by omega, by omega, by omega⟩, ?_⟩
    simp [pt, sg, h]
  · have h : ¬ n < 0 := by simpa using h
    refine ⟨⟨f167 n (by omega) (by omega), by omega, hm, f176 hT _ hm, by omega, by omega, by omega⟩, ⟨f167 n (by omega) (by omega), by omega, ⟨by omega, by omega⟩, f176 hT _ hq, by omega, by omega, by omega⟩, ?_⟩
    simp [pt, sg, h]
end Go.Proofs
set_option autoImplicit false
namespace Go.Proofs
open Go Go.Ab
set_option maxHeartbeats 1000000
set_option maxRecDepth 100000
variable {G : IH}
theorem dec_small {u : Nat} (h : u < 10) : Lib.decDigits u = [UInt8.ofNat (48 + u)] := by rw [Lib.decDigits, dif_pos h]
theorem dec_big {u : Nat} (h : ¬ u < 10) : Lib.decDigits u = Lib.decDigits (u / 10) ++ [UInt8.ofNat (48 + u % 10)] := by rw [Lib.decDigits, dif_neg h]
end Go.Proofs
