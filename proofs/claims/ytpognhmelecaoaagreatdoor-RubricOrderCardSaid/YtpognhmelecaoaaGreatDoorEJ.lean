import Derived.Test.YtpognhmelecaoaaGreatDoorAcD
import Derived.Test.YtpognhmelecaoaaGreatDoorEI
set_option autoImplicit false
namespace Go.Proofs
open Go Go.Ab Go.RowKit
set_option maxHeartbeats 4000000
set_option maxRecDepth 100000
variable {G : IH}
/-! Bounds. -/
structure Bd where
  a : Int
  b : Int
  c : Int
  d : Int
  deriving DecidableEq
abbrev bdD (x : Bd) : DV := .agg [di x.a, di x.b, di x.c, di x.d]
def leN (a b c d : Int) : Int := if cmpO a b c d > 0 then c else a
def leD (a b c d : Int) : Int := if cmpO a b c d > 0 then d else b
def grN (a b c d : Int) : Int := if cmpO a b c d < 0 then c else a
def grD (a b c d : Int) : Int := if cmpO a b c d < 0 then d else b
noncomputable def orcBd : Oracle := fun f a => match f, a with
  | 99, [fr a b, fr c d] => some (.tup [di (cmpO a b c d), db (ok2O a b c d)])
  | 91, [fr a b, fr c d] => some (fe' (addF a b c d))
  | 92, [fr a b, fr c d] => some (fe' (mulF a b c d))
  | 89, [fr a b, fr c d] => some (fe' (subF a b c d))
  | 93, [fr a b, fr c d] => some (fe' (divF a b c d))
  | 94, [fr a b, fr c d] => some (fr (leN a b c d) (leD a b c d))
  | 95, [fr a b, fr c d] => some (fr (grN a b c d) (grD a b c d))
  | _, _ => none
theorem f94 (a b c d : Int) : FnOK Tryz.prog G 94 [fr a b, fr c d] (fr (leN a b c d) (leD a b c d)) := by
  refine FnOK.walk (orc := orcBd) (keep := []) follows Tryz.func94 rfl Tryz.call94 ?_
  refine of_tr (fun _ _ _ ZK => (ZK 99 [(.agg [(di a), (di b)]), (.agg [(di c), (di d)])] (.tup [(di (cmpO a b c d)), (db (ok2O a b c d))]) ∧ (((decide (cmpO a b c d > 0)) = true) → (((.agg [(di c), (di d)]) : DV) = (fr (leN a b c d) (leD a b c d)))) ∧ (((decide (cmpO a b c d > 0)) = false) → (((.agg [(di a), (di b)]) : DV) = (fr (leN a b c d) (leD a b c d)))))) (by kernel_rfl) ?_
  simp only [decide_eq_true_eq, decide_eq_false_iff_not]
  unfold leN leD
  refine ⟨f99 _ _ _ _, fun h => ?_, fun h => ?_⟩
  · rw [if_pos h, if_pos h]
  · rw [if_neg h, if_neg h]
theorem f95 (a b c d : Int) : FnOK Tryz.prog G 95 [fr a b, fr c d] (fr (grN a b c d) (grD a b c d)) := by
  refine FnOK.walk (orc := orcBd) (keep := []) follows Tryz.func95 rfl Tryz.call95 ?_
  refine of_tr (fun _ _ _ ZK => (ZK 99 [(.agg [(di a), (di b)]), (.agg [(di c), (di d)])] (.tup [(di (cmpO a b c d)), (db (ok2O a b c d))]) ∧ (((decide (cmpO a b c d < 0)) = true) → (((.agg [(di c), (di d)]) : DV) = (fr (grN a b c d) (grD a b c d)))) ∧ (((decide (cmpO a b c d < 0)) = false) → (((.agg [(di a), (di b)]) : DV) = (fr (grN a b c d) (grD a b c d)))))) (by kernel_rfl) ?_
  simp only [decide_eq_true_eq, decide_eq_false_iff_not]
  unfold grN grD
  refine ⟨f99 _ _ _ _, fun h => ?_, fun h => ?_⟩
  · rw [if_pos h, if_pos h]
  · rw [if_neg h, if_neg h]
def betB (p q : FE) : Bd := ⟨p.1, p.2.1, q.1, q.2.1⟩
def betO (p q : FE) : Bool := p.2.2 == 0 && q.2.2 == 0
theorem f90a (x y : Bd) : FnOK Tryz.prog G 90 [bdD x, bdD y, .con (.func (.func 91) #[] #[])] (.tup [bdD (betB (addF x.a x.b y.a y.b) (addF x.c x.d y.c y.d)), db (betO (addF x.a x.b y.a y.b) (addF x.c x.d y.c y.d))]) := by
  refine FnOK.walk (orc := orcBd) (keep := []) follows Tryz.func90 rfl Tryz.call90 ?_
  refine of_tr (fun _ _ _ ZK => (ZK 91 [(.agg [(di x.a), (di x.b)]), (.agg [(di y.a), (di y.b)])] (.tup [(.agg [(di (addF x.a x.b y.a y.b).fst), (di (addF x.a x.b y.a y.b).snd.fst)]), (di (addF x.a x.b y.a y.b).snd.snd)]) ∧ ZK 91 [(.agg [(di x.c), (di x.d)]), (.agg [(di y.c), (di y.d)])] (.tup [(.agg [(di (addF x.c x.d y.c y.d).fst), (di (addF x.c x.d y.c y.d).snd.fst)]), (di (addF x.c x.d y.c y.d).snd.snd)]) ∧ ((.tup [(.agg [(di (addF x.a x.b y.a y.b).fst), (di (addF x.a x.b y.a y.b).snd.fst), (di (addF x.c x.d y.c y.d).fst), (di (addF x.c x.d y.c y.d).snd.fst)]), (db ((addF x.a x.b y.a y.b).snd.snd == 0 && (addF x.c x.d y.c y.d).snd.snd == 0))]) : DV) = (.tup [(bdD (betB (addF x.a x.b y.a y.b) (addF x.c x.d y.c y.d))), (db (betO (addF x.a x.b y.a y.b) (addF x.c x.d y.c y.d)))]))) (by kernel_rfl) ?_
  exact ⟨f91' _ _ _ _, f91' _ _ _ _, rfl⟩
theorem f90s (x y : Bd) : FnOK Tryz.prog G 90 [bdD x, bdD y, .con (.func (.func 89) #[] #[])] (.tup [bdD (betB (subF x.a x.b y.a y.b) (subF x.c x.d y.c y.d)), db (betO (subF x.a x.b y.a y.b) (subF x.c x.d y.c y.d))]) := by
  refine FnOK.walk (orc := orcBd) (keep := []) follows Tryz.func90 rfl Tryz.call90 ?_
  refine of_tr (fun _ _ _ ZK => (ZK 89 [(.agg [(di x.a), (di x.b)]), (.agg [(di y.a), (di y.b)])] (.tup [(.agg [(di (subF x.a x.b y.a y.b).fst), (di (subF x.a x.b y.a y.b).snd.fst)]), (di (subF x.a x.b y.a y.b).snd.snd)]) ∧ ZK 89 [(.agg [(di x.c), (di x.d)]), (.agg [(di y.c), (di y.d)])] (.tup [(.agg [(di (subF x.c x.d y.c y.d).fst), (di (subF x.c x.d y.c y.d).snd.fst)]), (di (subF x.c x.d y.c y.d).snd.snd)]) ∧ ((.tup [(.agg [(di (subF x.a x.b y.a y.b).fst), (di (subF x.a x.b y.a y.b).snd.fst), (di (subF x.c x.d y.c y.d).fst), (di (subF x.c x.d y.c y.d).snd.fst)]), (db ((subF x.a x.b y.a y.b).snd.snd == 0 && (subF x.c x.d y.c y.d).snd.snd == 0))]) : DV) = (.tup [(bdD (betB (subF x.a x.b y.a y.b) (subF x.c x.d y.c y.d))), (db (betO (subF x.a x.b y.a y.b) (subF x.c x.d y.c y.d)))]))) (by kernel_rfl) ?_
  exact ⟨f89' _ _ _ _, f89' _ _ _ _, rfl⟩
/-! Corners. -/
abbrev Fr2 := Int × Int
def fr2 (l : List Fr2) (i : Nat) : DV := fr (l.getD i (0, 0)).1 (l.getD i (0, 0)).2
abbrev fr2D (l : List Fr2) : DV := .slc 2 l.length (fr2 l)
theorem two_rel {p q : Fr2} {h : IH} {v : Value} (hv : DV.rel h (.slc 2 2 (elemF true 2 [di p.1, di p.2, di q.1, di q.2])) v) : DV.rel h (fr2D [p, q]) v := by
  refine DV.rel_slc_congr (fun i hi => ?_) hv
  have hi : i < 2 := hi
  rcases i with _ | _ | i
  · rfl
  · rfl
  · omega
abbrev loP (x : Bd) : List Fr2 := [(x.a, x.b), (x.c, x.d)]
def cnR (op : Int → Int → Int → Int → FE) (x y : Bd) (n : Nat) : FE := op ((loP x).getD (n / 2) (0, 0)).1 ((loP x).getD (n / 2) (0, 0)).2 ((loP y).getD (n % 2) (0, 0)).1 ((loP y).getD (n % 2) (0, 0)).2
abbrev frK : RK := ⟨true, 23, false, none⟩
def rowC (op : Int → Int → Int → Int → FE) (x y : Bd) : Nat → Nat → DV := rowRec (fun _ => DV.con undef) true 2 fun n => [di (cnR op x y n).1, di (cnR op x y n).2.1]
abbrev bdC (x : Bd) : List AV := [vi x.a, vi x.b, vi x.c, vi x.d]
noncomputable def S88 (f : Nat) (op : Int → Int → Int → Int → FE) (x y : Bd) (k : Nat) : AS := ⟨regs Tryz.f88.ntmps [(2, .d (.con (.func (.func f) #[] #[]))), (3, .box 3 0), (4, .box 4 0), (6, .box 6 0), (8, .vec 900 2 0 (2 * k)), (22, .d (fr2D (loP x))), (23, vi 2), (24, vi k)], [(3, bdC x), (4, bdC y), (6, [vi 0, vi 0, vi 0, vi 0]), (900, [.arr frK 2 (rowC op x y (2 * k))])]⟩
noncomputable def S88i (f : Nat) (op : Int → Int → Int → Int → FE) (x y : Bd) (k j : Nat) : AS := ⟨regs Tryz.f88.ntmps [(2, .d (.con (.func (.func f) #[] #[]))), (3, .box 3 0), (4, .box 4 0), (6, .box 6 0), (8, .vec 900 2 0 (2 * k + j)), (10, .box 10 0), (22, .d (fr2D (loP x))), (23, vi 2), (24, vi k), (32, .d (fr2D (loP y))), (33, vi 2), (34, vi j)], [(3, bdC x), (4, bdC y), (6, [vi 0, vi 0, vi 0, vi 0]), (10, [vi ((loP x).getD k (0, 0)).1, vi ((loP x).getD k (0, 0)).2]), (900, [.arr frK 2 (rowC op x y (2 * k + j))])]⟩
theorem cn_eq (op : Int → Int → Int → Int → FE) (x y : Bd) {k j : Nat} (hj : j < 2) : op ((loP x).getD k (0, 0)).1 ((loP x).getD k (0, 0)).2 ((loP y).getD j (0, 0)).1 ((loP y).getD j (0, 0)).2 = cnR op x y (2 * k + j) := by
  unfold cnR
  rw [show (2 * k + j) / 2 = k by omega, show (2 * k + j) % 2 = j by omega]
def cnBad (op : Int → Int → Int → Int → FE) (x y : Bd) : Bool := (List.range 4).any fun n => (cnR op x y n).2.2 != 0
def mnR (op : Int → Int → Int → Int → FE) (x y : Bd) : Nat → Bd
  | 0 => ⟨(cnR op x y 0).1, (cnR op x y 0).2.1, (cnR op x y 0).1, (cnR op x y 0).2.1⟩
  | n + 1 => ⟨leN (mnR op x y n).a (mnR op x y n).b (cnR op x y n).1 (cnR op x y n).2.1, leD (mnR op x y n).a (mnR op x y n).b (cnR op x y n).1 (cnR op x y n).2.1, grN (mnR op x y n).c (mnR op x y n).d (cnR op x y n).1 (cnR op x y n).2.1, grD (mnR op x y n).c (mnR op x y n).d (cnR op x y n).1 (cnR op x y n).2.1⟩
def cnB (op : Int → Int → Int → Int → FE) (x y : Bd) : Bd := if cnBad op x y then ⟨0, 0, 0, 0⟩ else mnR op x y 4
theorem cn_bad {op : Int → Int → Int → Int → FE} {x y : Bd} {n : Nat} (hn : n < 4) (h : (cnR op x y n).2.2 ≠ 0) : cnBad op x y = true := by
  unfold cnBad
  rw [List.any_eq_true]
  exact ⟨n, List.mem_range.2 hn, by simpa using h⟩
theorem cn_good {op : Int → Int → Int → Int → FE} {x y : Bd} (h : ∀ n, n < 4 → (cnR op x y n).2.2 = 0) : cnBad op x y = false := by
  unfold cnBad
  rw [List.any_eq_false]
  intro n hn
  rw [h n (List.mem_range.1 hn)]; decide
theorem rowC_next {op : Int → Int → Int → Int → FE} {x y : Bd} (k : Nat) {p q : Int} (hp : p = (cnR op x y k).1) (hq : q = (cnR op x y k).2.1) : (fun i => bif Nat.blt i k then rowC op x y k i else elemF true 2 [di p, di q] (i - k)) = rowC op x y (k + 1) := by
  subst hp; subst hq; rfl
def cnF (op : Int → Int → Int → Int → FE) (x y : Bd) (n : Nat) : DV := fr (cnR op x y n).1 (cnR op x y n).2.1
theorem rowC_get {op : Int → Int → Int → Int → FE} {x y : Bd} {i : Nat} (h : i < 4) : rowC op x y 4 (0 + i) = cnF op x y i := by
  rw [Nat.zero_add]
  unfold rowC cnF
  rw [rowRec_get h]; rfl
noncomputable def S88c (op : Int → Int → Int → Int → FE) (x y : Bd) (M : Nat → Bd) (n : Nat) : AS := ⟨regs Tryz.f88.ntmps [(6, .box 6 0), (15, .box 15 0), (61, .d (.slc 2 4 (cnF op x y))), (62, vi 4), (63, vi n)], [(6, [vi 0, vi 0, vi 0, vi 0]), (15, bdC (M n))]⟩
theorem f88m (x y : Bd) : FnOK Tryz.prog G 88 [bdD x, bdD y, .con (.func (.func 92) #[] #[])] (.tup [bdD (cnB mulF x y), db (!cnBad mulF x y)]) := by
  refine FnOK.walk (orc := orcBd) (keep := []) follows Tryz.func88 rfl Tryz.call88 ?_
  refine of_eqH (b := AWP Tryz.prog G [cd Tryz.f88 [1, 1, 0, 1, 0], (.blk 0), cd Tryz.f88 [1, 1, 1]] ⟨regs 78 [(0, (.d (bdD x))), (1, (.d (bdD y))), (2, (.d (.con (.func (.func 92) ⟨[]⟩ ⟨[]⟩)))), (3, (.box 3 0)), (4, (.box 4 0)), (6, (.box 6 0)), (7, (vb false)), (8, (.d (.con (.slice none 0 0)))), (18, (.box 3 0)), (19, (.d (.agg [(di x.a), (di x.b)]))), (20, (.box 3 2)), (21, (.d (.agg [(di x.c), (di x.d)]))), (22, (.d (.slc 2 2 (elemF true 2 [(di x.a), (di x.b), (di x.c), (di x.d)])))), (23, (vi 2)), (24, (vi 0))], [(6, [(vi 0), (vi 0), (vi 0), (vi 0)]), (4, [(vi y.a), (vi y.b), (vi y.c), (vi y.d)]), (3, [(vi x.a), (vi x.b), (vi x.c), (vi x.d)])]⟩ (Ret Tryz.prog Tryz.f88 (DV.tup [bdD (cnB mulF x y), db !cnBad mulF x y]))) (by kernel_rfl) ?_
  refine AWP.pre (.nilRow _ 8 900 2 frK (rowC mulF x y 0) (by kernel_rfl) (by kernel_rfl)) ?_
  refine AWP.pre (.reg _ 22 (.d (fr2D (loP x))) fun β h v hv => two_rel (p := (x.a, x.b)) (q := (x.c, x.d)) hv) ?_
  refine AWP.loop (c := cAt (bodyOf Tryz.f88) [1, 1, 0, 1, 0, 0]) (by kernel_rfl) (S88 92 mulF x y) (fun k => k ≤ 2 ∧ ∀ n, n < 2 * k → (cnR mulF x y n).2.2 = 0) (fun k => 2 - k) 0 ?_ ⟨Nat.zero_le _, fun n hn => by omega⟩ ?_
  · exact AS.leA (by kernel_rfl)
  · rintro k ⟨hk, hkd⟩
    refine walk (orc := orcBd) (keep := []) (cuts := []) (n := 1000) follows ?_
    refine of_eqH2 ((loP x).getD (↑k : Int).toNat (0, 0)) (Ret Tryz.prog Tryz.f88 (DV.tup [bdD (cnB mulF x y), db !cnBad mulF x y])) (fun Za Zb => ((((decide ((↑k : Int) < 2)) = true) → (((0 ≤ (↑k : Int)) ∧ ((↑k : Int) < ↑2)) ∧ AWP Tryz.prog G [cd Tryz.f88 [1, 1, 0, 1, 0, 0, 1, 1, 0, 0, 1, 1, 0], (.blk 2), (.blk 1), cd Tryz.f88 [1, 1, 0, 1, 0, 0, 1, 1, 1]] ⟨regs 78 [(2, (.d (.con (.func (.func 92) ⟨[]⟩ ⟨[]⟩)))), (3, (.box 3 0)), (4, (.box 4 0)), (6, (.box 6 0)), (8, (.vec 900 2 0 (2 * k))), (10, (.box 10 0)), (22, (.d (.slc 2 2 (fr2 (loP x))))), (23, (vi 2)), (24, (vi (↑k))), (25, (vb (decide ((↑k : Int) < 2)))), (26, (.d (.ptr [(di Za.fst), (di Za.snd)]))), (27, (.d (.agg [(di Za.fst), (di Za.snd)]))), (28, (.box 4 0)), (29, (.d (.agg [(di y.a), (di y.b)]))), (30, (.box 4 2)), (31, (.d (.agg [(di y.c), (di y.d)]))), (32, (.d (.slc 2 2 (elemF true 2 [(di y.a), (di y.b), (di y.c), (di y.d)])))), (33, (vi 2)), (34, (vi 0))], [(10, [(vi Za.fst), (vi Za.snd)]), (3, [(vi x.a), (vi x.b), (vi x.c), (vi x.d)]), (4, [(vi y.a), (vi y.b), (vi y.c), (vi y.d)]), (6, [(vi 0), (vi 0), (vi 0), (vi 0)]), (900, [(.arr ⟨true, 23, false, none⟩ 2 (rowC mulF x y (2 * k)))])]⟩ (RoundQ Tryz.prog G [(.blk 0), cd Tryz.f88 [1, 1, 1]] Zb (S88 92 mulF x y) (fun k => k ≤ 2 ∧ ∀ (n : Nat), n < 2 * k → (cnR mulF x y n).snd.snd = 0) (fun k => 2 - k) k))) ∧ (((decide ((↑k : Int) < 2)) = false) → AWP Tryz.prog G [cd Tryz.f88 [1, 1, 1]] ⟨regs 78 [(2, (.d (.con (.func (.func 92) ⟨[]⟩ ⟨[]⟩)))), (3, (.box 3 0)), (4, (.box 4 0)), (6, (.box 6 0)), (8, (.vec 900 2 0 (2 * k))), (22, (.d (.slc 2 2 (fr2 (loP x))))), (23, (vi 2)), (24, (vi (↑k))), (25, (vb (decide ((↑k : Int) < 2))))], [(3, [(vi x.a), (vi x.b), (vi x.c), (vi x.d)]), (4, [(vi y.a), (vi y.b), (vi y.c), (vi y.d)]), (6, [(vi 0), (vi 0), (vi 0), (vi 0)]), (900, [(.arr ⟨true, 23, false, none⟩ 2 (rowC mulF x y (2 * k)))])]⟩ Zb))) (by kernel_rfl) ?_
    simp only [Int.toNat_natCast]
    refine ⟨fun h1 => ?_, fun h1 => ?_⟩
    · have hk2 : k < 2 := by have := of_decide_eq_true h1; omega
      refine ⟨⟨by omega, by show (k : Int) < 2; omega⟩, ?_⟩
      refine AWP.pre (.reg _ 32 (.d (fr2D (loP y))) fun β h v hv => two_rel (p := (y.a, y.b)) (q := (y.c, y.d)) hv) ?_
      refine AWP.loop (c := cAt (bodyOf Tryz.f88) [1, 1, 0, 1, 0, 0, 1, 1, 0, 0, 1, 1, 0, 0]) (by kernel_rfl) (S88i 92 mulF x y k) (fun j => j ≤ 2 ∧ ∀ n, n < 2 * k + j → (cnR mulF x y n).2.2 = 0) (fun j => 2 - j) 0 ?_ ⟨Nat.zero_le _, hkd⟩ ?_
      · refine AS.leZ [4] [4] (b := ((T0 ∧ T0 ∧ T0 ∧ T0 ∧ ((.vec 900 2 0 (2 * k)) : AV) = (.vec 900 2 0 (2 * k + 0)) ∧ T0 ∧ T0 ∧ T0 ∧ T0 ∧ T0 ∧ T0 ∧ T0 ∧ True) ∧ T0 ∧ T0 ∧ T0 ∧ T0 ∧ ((some [(.arr ⟨true, 23, false, none⟩ 2 (rowC mulF x y (2 * k)))]) : (Option (List AV))) = (some [(.arr ⟨true, 23, false, none⟩ 2 (rowC mulF x y (2 * k + 0)))]) ∧ True)) (by kernel_rfl) (by kernel_rfl) ?_
        exact ⟨⟨rfl, rfl, rfl, rfl, rfl, rfl, rfl, rfl, rfl, rfl, rfl, rfl, trivial⟩, rfl, rfl, rfl, rfl, rfl, trivial⟩
      · rintro j ⟨hj, hjd⟩
        refine walk (orc := orcBd) (keep := []) (cuts := []) (n := 1000) follows ?_
        refine of_eqH4 (mulF ((loP x).getD k (0, 0)).fst ((loP x).getD k (0, 0)).snd ((loP y).getD (↑j : Int).toNat (0, 0)).fst ((loP y).getD (↑j : Int).toNat (0, 0)).snd) ((loP y).getD (↑j : Int).toNat (0, 0)) ((.d (.con (.func (.func 92) ⟨[]⟩ ⟨[]⟩))) : AV) ((.agg [(di ((loP x).getD k (0, 0)).fst), (di ((loP x).getD k (0, 0)).snd)]) : DV) (fun Za Zb Zc Zd => ((((decide ((↑j : Int) < 2)) = true) → (((0 ≤ (↑j : Int)) ∧ ((↑j : Int) < ↑2)) ∧ FnOK Tryz.prog G 92 [Zd, (.agg [(di Zb.fst), (di Zb.snd)])] (.tup [(.agg [(di Za.fst), (di Za.snd.fst)]), (di Za.snd.snd)]) ∧ (((Za.snd.snd != 0) = true) → (((.tup [(.agg [(di 0), (di 0), (di 0), (di 0)]), (db false)]) : DV) = (.tup [(bdD (cnB mulF x y)), (db !cnBad mulF x y)]))) ∧ (((Za.snd.snd != 0) = false) → (((((2 * k + j + 1) * 16 ≤ 1099511627776) ∧ (2 * k + j + 1 ≤ 1099511627776)) ∧ (∀ (i : Nat), i < 1 → elemOK true 2 (elemF true 2 [DV.con (Value.int IntKind.i64 Za.fst), DV.con (Value.int IntKind.i64 Za.snd.fst)] i) = true)) ∧ (I64 (↑j + 1)) ∧ Again (S88i 92 mulF x y k) (fun j => j ≤ 2 ∧ ∀ (n : Nat), n < 2 * k + j → (cnR mulF x y n).snd.snd = 0) (fun j => 2 - j) j ⟨regs 78 [(2, Zc), (3, (.box 3 0)), (4, (.box 4 0)), (6, (.box 6 0)), (8, (.vec 51 2 0 (2 * k + j + 1))), (10, (.box 10 0)), (12, (.box 12 0)), (13, (.box 13 0)), (14, (vi Za.snd.snd)), (22, (.d (.slc 2 2 (fr2 (loP x))))), (23, (vi 2)), (24, (vi (↑k))), (32, (.d (.slc 2 2 (fr2 (loP y))))), (33, (vi 2)), (34, (vi (↑j + 1))), (35, (vb (decide ((↑j : Int) < 2)))), (36, (.d (.ptr [(di Zb.fst), (di Zb.snd)]))), (37, (.d (.agg [(di Zb.fst), (di Zb.snd)]))), (38, (.d (.tup [(.agg [(di Za.fst), (di Za.snd.fst)]), (di Za.snd.snd)]))), (39, Zc), (40, (.d Zd)), (41, (.d (.agg [(di Zb.fst), (di Zb.snd)]))), (42, (.d (.tup [(.agg [(di Za.fst), (di Za.snd.fst)]), (di Za.snd.snd)]))), (43, (.d (.agg [(di Za.fst), (di Za.snd.fst)]))), (44, (vi Za.snd.snd)), (45, (vi Za.snd.snd)), (46, (vb (Za.snd.snd != 0))), (48, (.vec 900 2 0 (2 * k + j))), (49, (.d (.agg [(di Za.fst), (di Za.snd.fst)]))), (50, (.d (.slc 2 1 (elemF true 2 [(di Za.fst), (di Za.snd.fst)])))), (51, (.vec 51 2 0 (2 * k + j + 1))), (52, (vi (↑j + 1)))], [(51, [(.arr ⟨true, 23, false, none⟩ 2 (fun i => bif i.blt (2 * k + j) then rowC mulF x y (2 * k + j) i else elemF true 2 [DV.con (Value.int IntKind.i64 Za.fst), DV.con (Value.int IntKind.i64 Za.snd.fst)] (i - (2 * k + j))))]), (13, [(vi Za.fst), (vi Za.snd.fst)]), (12, [(vi Zb.fst), (vi Zb.snd)]), (3, [(vi x.a), (vi x.b), (vi x.c), (vi x.d)]), (4, [(vi y.a), (vi y.b), (vi y.c), (vi y.d)]), (6, [(vi 0), (vi 0), (vi 0), (vi 0)]), (10, [(vi ((loP x).getD k (0, 0)).fst), (vi ((loP x).getD k (0, 0)).snd)]), (900, [.dead])]⟩)))) ∧ (((decide ((↑j : Int) < 2)) = false) → AWP Tryz.prog G [(.blk 1), cd Tryz.f88 [1, 1, 0, 1, 0, 0, 1, 1, 1]] ⟨regs 78 [(2, Zc), (3, (.box 3 0)), (4, (.box 4 0)), (6, (.box 6 0)), (8, (.vec 900 2 0 (2 * k + j))), (10, (.box 10 0)), (22, (.d (.slc 2 2 (fr2 (loP x))))), (23, (vi 2)), (24, (vi (↑k))), (32, (.d (.slc 2 2 (fr2 (loP y))))), (33, (vi 2)), (34, (vi (↑j))), (35, (vb (decide ((↑j : Int) < 2))))], [(3, [(vi x.a), (vi x.b), (vi x.c), (vi x.d)]), (4, [(vi y.a), (vi y.b), (vi y.c), (vi y.d)]), (6, [(vi 0), (vi 0), (vi 0), (vi 0)]), (10, [(vi ((loP x).getD k (0, 0)).fst), (vi ((loP x).getD k (0, 0)).snd)]), (900, [(.arr ⟨true, 23, false, none⟩ 2 (rowC mulF x y (2 * k + j)))])]⟩ (RoundQ Tryz.prog G [(.blk 0), cd Tryz.f88 [1, 1, 1]] (Ret Tryz.prog Tryz.f88 (DV.tup [bdD (cnB mulF x y), db !cnBad mulF x y])) (S88 92 mulF x y) (fun k => k ≤ 2 ∧ ∀ (n : Nat), n < 2 * k → (cnR mulF x y n).snd.snd = 0) (fun k => 2 - k) k)))) (by kernel_rfl) ?_
        simp only [Int.toNat_natCast]
        refine ⟨fun h2 => ?_, fun h2 => ?_⟩
        · have hj2 : j < 2 := by have := of_decide_eq_true h2; omega
          have ec := cn_eq mulF x y (k := k) hj2
          refine ⟨⟨by omega, by show (j : Int) < 2; omega⟩, f92' _ _ _ _, fun h3 => ?_, fun h3 => ⟨⟨⟨by omega, by omega⟩, fun i hi => (by obtain rfl : i = 0 := (by omega); rfl)⟩, ⟨by omega, by omega⟩, Again.mkR [(51, 900)] rfl (j + 1) ?_ ⟨hj2, fun n hn => ?_⟩ (by omega)⟩⟩
          · rw [ec] at h3
            unfold cnB
            rw [cn_bad (n := 2 * k + j) (by omega) (by simpa using h3)]
            rfl
          · refine of_eq2 (mulF ((loP x).getD k (0, 0)).fst ((loP x).getD k (0, 0)).snd ((loP y).getD j (0, 0)).fst ((loP y).getD j (0, 0)).snd) (some [(vi ((loP x).getD k (0, 0)).fst), (vi ((loP x).getD k (0, 0)).snd)]) (fun Za Zb => ((((.d (.con (.func (.func 92) ⟨[]⟩ ⟨[]⟩))) : AV) = (.d (.con (.func (.func 92) ⟨[]⟩ ⟨[]⟩))) ∧ ((.box 3 0) : AV) = (.box 3 0) ∧ ((.box 4 0) : AV) = (.box 4 0) ∧ ((.box 6 0) : AV) = (.box 6 0) ∧ ((.vec 900 2 0 (2 * k + j + 1)) : AV) = (.vec 900 2 0 (2 * k + (j + 1))) ∧ ((.box 10 0) : AV) = (.box 10 0) ∧ ((.d (.slc 2 2 (fr2 (loP x)))) : AV) = (.d (.slc 2 2 (fr2 (loP x)))) ∧ ((vi 2) : AV) = (vi 2) ∧ ((vi (↑k)) : AV) = (vi (↑k)) ∧ ((.d (.slc 2 2 (fr2 (loP y)))) : AV) = (.d (.slc 2 2 (fr2 (loP y)))) ∧ ((vi 2) : AV) = (vi 2) ∧ ((vi (↑j + 1)) : AV) = (vi (↑(j + 1))) ∧ True) ∧ ((some [(vi x.a), (vi x.b), (vi x.c), (vi x.d)]) : (Option (List AV))) = (some [(vi x.a), (vi x.b), (vi x.c), (vi x.d)]) ∧ ((some [(vi y.a), (vi y.b), (vi y.c), (vi y.d)]) : (Option (List AV))) = (some [(vi y.a), (vi y.b), (vi y.c), (vi y.d)]) ∧ ((some [(vi 0), (vi 0), (vi 0), (vi 0)]) : (Option (List AV))) = (some [(vi 0), (vi 0), (vi 0), (vi 0)]) ∧ (Zb : (Option (List AV))) = Zb ∧ ((some [(.arr ⟨true, 23, false, none⟩ 2 (fun i => bif i.blt (2 * k + j) then rowC mulF x y (2 * k + j) i else elemF true 2 [DV.con (Value.int IntKind.i64 Za.fst), DV.con (Value.int IntKind.i64 Za.snd.fst)] (i - (2 * k + j))))]) : (Option (List AV))) = (some [(.arr ⟨true, 23, false, none⟩ 2 (rowC mulF x y (2 * k + (j + 1))))]) ∧ True)) (by kernel_rfl) ?_
            refine ⟨⟨rfl, rfl, rfl, rfl, rfl, rfl, rfl, rfl, rfl, rfl, rfl, rfl, trivial⟩, rfl, rfl, rfl, rfl, ?_, trivial⟩
            exact congrArg (fun f => some [AV.arr frK 2 f]) (rowC_next (2 * k + j) (by rw [ec]) (by rw [ec]))
          · rcases Nat.lt_or_ge n (2 * k + j) with h4 | h4
            · exact hjd n h4
            · obtain rfl : n = 2 * k + j := by omega
              rw [ec] at h3
              simpa using h3
        · have h2 := of_decide_eq_false h2
          obtain rfl : j = 2 := by omega
          refine walk (orc := orcBd) (keep := []) (cuts := []) (n := 1000) follows ?_
          refine of_rd (fun ZT _ _ _ ZA _ => ((I64 (↑k + 1)) ∧ (ZA (stS ZT [])))) (by kernel_rfl) ?_
          refine ⟨⟨by omega, by omega⟩, Again.mk (k + 1) ?_ ⟨hk2, fun n hn => hjd n (by omega)⟩ (by omega)⟩
          refine AS.leZ [4] [3] (b := ((T0 ∧ T0 ∧ T0 ∧ T0 ∧ ((.vec 900 2 0 (2 * k + 2)) : AV) = (.vec 900 2 0 (2 * (k + 1))) ∧ T0 ∧ T0 ∧ T0 ∧ True) ∧ T0 ∧ T0 ∧ T0 ∧ ((some [(.arr ⟨true, 23, false, none⟩ 2 (rowC mulF x y (2 * k + 2)))]) : (Option (List AV))) = (some [(.arr ⟨true, 23, false, none⟩ 2 (rowC mulF x y (2 * (k + 1))))]) ∧ True)) (by kernel_rfl) (by kernel_rfl) ?_
          exact ⟨⟨rfl, rfl, rfl, rfl, rfl, rfl, rfl, rfl, trivial⟩, rfl, rfl, rfl, rfl, trivial⟩
    · have h1 := of_decide_eq_false h1
      obtain rfl : k = 2 := by omega
      have hg := cn_good (op := mulF) (x := x) (y := y) fun n hn => hkd n hn
      unfold cnB
      rw [hg]
      refine AWP.freeze (agg := frK) (sz := 2) (f := rowC mulF x y 4) 900 (by kernel_rfl) ?_
      refine AWP.pre (.reg _ 8 (.d (.slc 2 4 (cnF mulF x y))) fun β h v hv => DV.rel_slc_congr (f := fun i => rowC mulF x y 4 (0 + i)) (fun i hi => rowC_get hi) hv) ?_
      refine walk (orc := orcBd) (keep := []) (cuts := []) (n := 1000) follows ?_
      refine of_tr (fun ZT ZW ZQ _ => (((((0 : Int) ≤ (0 : Int)) ∧ (0 < (↑4 : Int))) ∧ ((0 : Int) ≤ (0 : Int)) ∧ (0 < (↑4 : Int))) ∧ ZW [cd Tryz.f88 [1, 1, 1, 1, 0, 1, 0], (.blk 4), cd Tryz.f88 [1, 1, 1, 1, 1]] (stS ZT []) ZQ)) (by kernel_rfl) ?_
      refine ⟨⟨⟨by omega, by show (0 : Int) < 4; omega⟩, ⟨by omega, by show (0 : Int) < 4; omega⟩⟩, ?_⟩
      obtain ⟨M, hM⟩ : ∃ M, M = mnR mulF x y := ⟨_, rfl⟩
      refine AWP.loop (c := cAt (bodyOf Tryz.f88) [1, 1, 1, 1, 0, 1, 0, 0]) (by kernel_rfl) (S88c mulF x y M) (fun n => n ≤ 4) (fun n => 4 - n) 0 ?_ (Nat.zero_le _) ?_
      · refine AS.leZ [] [1] (b := ((T0 ∧ T0 ∧ T0 ∧ T0 ∧ T0 ∧ True) ∧ T0 ∧ ((some [(vi (cnR mulF x y (Int.toNat 0)).fst), (vi (cnR mulF x y (Int.toNat 0)).snd.fst), (vi (cnR mulF x y (Int.toNat 0)).fst), (vi (cnR mulF x y (Int.toNat 0)).snd.fst)]) : (Option (List AV))) = (some [(vi (M 0).a), (vi (M 0).b), (vi (M 0).c), (vi (M 0).d)]) ∧ True)) (by kernel_rfl) (by kernel_rfl) ?_
        refine ⟨⟨rfl, rfl, rfl, rfl, rfl, trivial⟩, rfl, ?_, trivial⟩
        rw [hM]; rfl
      · intro n hn
        refine walk (orc := orcBd) (keep := []) (cuts := []) (n := 1000) follows ?_
        refine of_rd (fun ZT ZW ZQ ZK ZA _ => (fun Za => ((((decide ((↑n : Int) < 4)) = true) → (((0 ≤ (↑n : Int)) ∧ ((↑n : Int) < ↑4)) ∧ (ZK 94 [(.agg [(di (M n).a), (di (M n).b)]), (.agg [(di Za.fst), (di Za.snd.fst)])] (.agg [(di (leN (M n).a (M n).b Za.fst Za.snd.fst)), (di (leD (M n).a (M n).b Za.fst Za.snd.fst))]) ∧ ZK 95 [(.agg [(di (M n).c), (di (M n).d)]), (.agg [(di Za.fst), (di Za.snd.fst)])] (.agg [(di (grN (M n).c (M n).d Za.fst Za.snd.fst)), (di (grD (M n).c (M n).d Za.fst Za.snd.fst))])) ∧ (I64 (↑n + 1)) ∧ (ZA (stS ZT [0])))) ∧ (((decide ((↑n : Int) < 4)) = false) → ZW [cd Tryz.f88 [1, 1, 1, 1, 1]] (stS ZT [1]) ZQ))) (cnR mulF x y (↑n : Int).toNat)) (by kernel_rfl) ?_
        simp only [Int.toNat_natCast]
        refine ⟨fun h2 => ?_, fun h2 => ?_⟩
        · have hn2 : n < 4 := by have := of_decide_eq_true h2; omega
          refine ⟨⟨by omega, by show (n : Int) < 4; omega⟩, ⟨f94 _ _ _ _, f95 _ _ _ _⟩, ⟨by omega, by omega⟩, Again.mk (n + 1) ?_ hn2 (by omega)⟩
          refine AS.leZ [] [1] (b := ((T0 ∧ T0 ∧ T0 ∧ T0 ∧ T0 ∧ True) ∧ T0 ∧ ((some [(vi (leN (M n).a (M n).b (cnR mulF x y (↑n : Int).toNat).fst (cnR mulF x y (↑n : Int).toNat).snd.fst)), (vi (leD (M n).a (M n).b (cnR mulF x y (↑n : Int).toNat).fst (cnR mulF x y (↑n : Int).toNat).snd.fst)), (vi (grN (M n).c (M n).d (cnR mulF x y (↑n : Int).toNat).fst (cnR mulF x y (↑n : Int).toNat).snd.fst)), (vi (grD (M n).c (M n).d (cnR mulF x y (↑n : Int).toNat).fst (cnR mulF x y (↑n : Int).toNat).snd.fst))]) : (Option (List AV))) = (some [(vi (M (n + 1)).a), (vi (M (n + 1)).b), (vi (M (n + 1)).c), (vi (M (n + 1)).d)]) ∧ True)) (by kernel_rfl) (by kernel_rfl) ?_
          refine ⟨⟨rfl, rfl, rfl, rfl, rfl, trivial⟩, rfl, ?_, trivial⟩
          rw [hM]; rfl
        · have h2 := of_decide_eq_false h2
          obtain rfl : n = 4 := by omega
          refine walk (orc := orcBd) (keep := []) (cuts := []) (n := 1000) follows ?_
          refine of_tr (fun _ _ _ _ => (((.tup [(bdD (M 4)), (db true)]) : DV) = (.tup [(bdD (if false = true then Bd.mk 0 0 0 0 else mnR mulF x y 4)), (db !false)]))) (by kernel_rfl) ?_
          rw [hM]; rfl
theorem f88s (x y : Bd) : FnOK Tryz.prog G 88 [bdD x, bdD y, .con (.func (.func 89) #[] #[])] (.tup [bdD (cnB subF x y), db (!cnBad subF x y)]) := by
  refine FnOK.walk (orc := orcBd) (keep := []) follows Tryz.func88 rfl Tryz.call88 ?_
  refine of_eqH (b := AWP Tryz.prog G [cd Tryz.f88 [1, 1, 0, 1, 0], (.blk 0), cd Tryz.f88 [1, 1, 1]] ⟨regs 78 [(0, (.d (bdD x))), (1, (.d (bdD y))), (2, (.d (.con (.func (.func 89) ⟨[]⟩ ⟨[]⟩)))), (3, (.box 3 0)), (4, (.box 4 0)), (6, (.box 6 0)), (7, (vb false)), (8, (.d (.con (.slice none 0 0)))), (18, (.box 3 0)), (19, (.d (.agg [(di x.a), (di x.b)]))), (20, (.box 3 2)), (21, (.d (.agg [(di x.c), (di x.d)]))), (22, (.d (.slc 2 2 (elemF true 2 [(di x.a), (di x.b), (di x.c), (di x.d)])))), (23, (vi 2)), (24, (vi 0))], [(6, [(vi 0), (vi 0), (vi 0), (vi 0)]), (4, [(vi y.a), (vi y.b), (vi y.c), (vi y.d)]), (3, [(vi x.a), (vi x.b), (vi x.c), (vi x.d)])]⟩ (Ret Tryz.prog Tryz.f88 (DV.tup [bdD (cnB subF x y), db !cnBad subF x y]))) (by kernel_rfl) ?_
  refine AWP.pre (.nilRow _ 8 900 2 frK (rowC subF x y 0) (by kernel_rfl) (by kernel_rfl)) ?_
  refine AWP.pre (.reg _ 22 (.d (fr2D (loP x))) fun β h v hv => two_rel (p := (x.a, x.b)) (q := (x.c, x.d)) hv) ?_
  refine AWP.loop (c := cAt (bodyOf Tryz.f88) [1, 1, 0, 1, 0, 0]) (by kernel_rfl) (S88 89 subF x y) (fun k => k ≤ 2 ∧ ∀ n, n < 2 * k → (cnR subF x y n).2.2 = 0) (fun k => 2 - k) 0 ?_ ⟨Nat.zero_le _, fun n hn => by omega⟩ ?_
  · exact AS.leA (by kernel_rfl)
  · rintro k ⟨hk, hkd⟩
    refine walk (orc := orcBd) (keep := []) (cuts := []) (n := 1000) follows ?_
    refine of_eqH2 ((loP x).getD (↑k : Int).toNat (0, 0)) (Ret Tryz.prog Tryz.f88 (DV.tup [bdD (cnB subF x y), db !cnBad subF x y])) (fun Za Zb => ((((decide ((↑k : Int) < 2)) = true) → (((0 ≤ (↑k : Int)) ∧ ((↑k : Int) < ↑2)) ∧ AWP Tryz.prog G [cd Tryz.f88 [1, 1, 0, 1, 0, 0, 1, 1, 0, 0, 1, 1, 0], (.blk 2), (.blk 1), cd Tryz.f88 [1, 1, 0, 1, 0, 0, 1, 1, 1]] ⟨regs 78 [(2, (.d (.con (.func (.func 89) ⟨[]⟩ ⟨[]⟩)))), (3, (.box 3 0)), (4, (.box 4 0)), (6, (.box 6 0)), (8, (.vec 900 2 0 (2 * k))), (10, (.box 10 0)), (22, (.d (.slc 2 2 (fr2 (loP x))))), (23, (vi 2)), (24, (vi (↑k))), (25, (vb (decide ((↑k : Int) < 2)))), (26, (.d (.ptr [(di Za.fst), (di Za.snd)]))), (27, (.d (.agg [(di Za.fst), (di Za.snd)]))), (28, (.box 4 0)), (29, (.d (.agg [(di y.a), (di y.b)]))), (30, (.box 4 2)), (31, (.d (.agg [(di y.c), (di y.d)]))), (32, (.d (.slc 2 2 (elemF true 2 [(di y.a), (di y.b), (di y.c), (di y.d)])))), (33, (vi 2)), (34, (vi 0))], [(10, [(vi Za.fst), (vi Za.snd)]), (3, [(vi x.a), (vi x.b), (vi x.c), (vi x.d)]), (4, [(vi y.a), (vi y.b), (vi y.c), (vi y.d)]), (6, [(vi 0), (vi 0), (vi 0), (vi 0)]), (900, [(.arr ⟨true, 23, false, none⟩ 2 (rowC subF x y (2 * k)))])]⟩ (RoundQ Tryz.prog G [(.blk 0), cd Tryz.f88 [1, 1, 1]] Zb (S88 89 subF x y) (fun k => k ≤ 2 ∧ ∀ (n : Nat), n < 2 * k → (cnR subF x y n).snd.snd = 0) (fun k => 2 - k) k))) ∧ (((decide ((↑k : Int) < 2)) = false) → AWP Tryz.prog G [cd Tryz.f88 [1, 1, 1]] ⟨regs 78 [(2, (.d (.con (.func (.func 89) ⟨[]⟩ ⟨[]⟩)))), (3, (.box 3 0)), (4, (.box 4 0)), (6, (.box 6 0)), (8, (.vec 900 2 0 (2 * k))), (22, (.d (.slc 2 2 (fr2 (loP x))))), (23, (vi 2)), (24, (vi (↑k))), (25, (vb (decide ((↑k : Int) < 2))))], [(3, [(vi x.a), (vi x.b), (vi x.c), (vi x.d)]), (4, [(vi y.a), (vi y.b), (vi y.c), (vi y.d)]), (6, [(vi 0), (vi 0), (vi 0), (vi 0)]), (900, [(.arr ⟨true, 23, false, none⟩ 2 (rowC subF x y (2 * k)))])]⟩ Zb))) (by kernel_rfl) ?_
    simp only [Int.toNat_natCast]
    refine ⟨fun h1 => ?_, fun h1 => ?_⟩
    · have hk2 : k < 2 := by have := of_decide_eq_true h1; omega
      refine ⟨⟨by omega, by show (k : Int) < 2; omega⟩, ?_⟩
      refine AWP.pre (.reg _ 32 (.d (fr2D (loP y))) fun β h v hv => two_rel (p := (y.a, y.b)) (q := (y.c, y.d)) hv) ?_
      refine AWP.loop (c := cAt (bodyOf Tryz.f88) [1, 1, 0, 1, 0, 0, 1, 1, 0, 0, 1, 1, 0, 0]) (by kernel_rfl) (S88i 89 subF x y k) (fun j => j ≤ 2 ∧ ∀ n, n < 2 * k + j → (cnR subF x y n).2.2 = 0) (fun j => 2 - j) 0 ?_ ⟨Nat.zero_le _, hkd⟩ ?_
      · refine AS.leZ [4] [4] (b := ((T0 ∧ T0 ∧ T0 ∧ T0 ∧ ((.vec 900 2 0 (2 * k)) : AV) = (.vec 900 2 0 (2 * k + 0)) ∧ T0 ∧ T0 ∧ T0 ∧ T0 ∧ T0 ∧ T0 ∧ T0 ∧ True) ∧ T0 ∧ T0 ∧ T0 ∧ T0 ∧ ((some [(.arr ⟨true, 23, false, none⟩ 2 (rowC subF x y (2 * k)))]) : (Option (List AV))) = (some [(.arr ⟨true, 23, false, none⟩ 2 (rowC subF x y (2 * k + 0)))]) ∧ True)) (by kernel_rfl) (by kernel_rfl) ?_
        exact ⟨⟨rfl, rfl, rfl, rfl, rfl, rfl, rfl, rfl, rfl, rfl, rfl, rfl, trivial⟩, rfl, rfl, rfl, rfl, rfl, trivial⟩
      · rintro j ⟨hj, hjd⟩
        refine walk (orc := orcBd) (keep := []) (cuts := []) (n := 1000) follows ?_
        refine of_eqH4 (subF ((loP x).getD k (0, 0)).fst ((loP x).getD k (0, 0)).snd ((loP y).getD (↑j : Int).toNat (0, 0)).fst ((loP y).getD (↑j : Int).toNat (0, 0)).snd) ((loP y).getD (↑j : Int).toNat (0, 0)) ((.d (.con (.func (.func 89) ⟨[]⟩ ⟨[]⟩))) : AV) ((.agg [(di ((loP x).getD k (0, 0)).fst), (di ((loP x).getD k (0, 0)).snd)]) : DV) (fun Za Zb Zc Zd => ((((decide ((↑j : Int) < 2)) = true) → (((0 ≤ (↑j : Int)) ∧ ((↑j : Int) < ↑2)) ∧ FnOK Tryz.prog G 89 [Zd, (.agg [(di Zb.fst), (di Zb.snd)])] (.tup [(.agg [(di Za.fst), (di Za.snd.fst)]), (di Za.snd.snd)]) ∧ (((Za.snd.snd != 0) = true) → (((.tup [(.agg [(di 0), (di 0), (di 0), (di 0)]), (db false)]) : DV) = (.tup [(bdD (cnB subF x y)), (db !cnBad subF x y)]))) ∧ (((Za.snd.snd != 0) = false) → (((((2 * k + j + 1) * 16 ≤ 1099511627776) ∧ (2 * k + j + 1 ≤ 1099511627776)) ∧ (∀ (i : Nat), i < 1 → elemOK true 2 (elemF true 2 [DV.con (Value.int IntKind.i64 Za.fst), DV.con (Value.int IntKind.i64 Za.snd.fst)] i) = true)) ∧ (I64 (↑j + 1)) ∧ Again (S88i 89 subF x y k) (fun j => j ≤ 2 ∧ ∀ (n : Nat), n < 2 * k + j → (cnR subF x y n).snd.snd = 0) (fun j => 2 - j) j ⟨regs 78 [(2, Zc), (3, (.box 3 0)), (4, (.box 4 0)), (6, (.box 6 0)), (8, (.vec 51 2 0 (2 * k + j + 1))), (10, (.box 10 0)), (12, (.box 12 0)), (13, (.box 13 0)), (14, (vi Za.snd.snd)), (22, (.d (.slc 2 2 (fr2 (loP x))))), (23, (vi 2)), (24, (vi (↑k))), (32, (.d (.slc 2 2 (fr2 (loP y))))), (33, (vi 2)), (34, (vi (↑j + 1))), (35, (vb (decide ((↑j : Int) < 2)))), (36, (.d (.ptr [(di Zb.fst), (di Zb.snd)]))), (37, (.d (.agg [(di Zb.fst), (di Zb.snd)]))), (38, (.d (.tup [(.agg [(di Za.fst), (di Za.snd.fst)]), (di Za.snd.snd)]))), (39, Zc), (40, (.d Zd)), (41, (.d (.agg [(di Zb.fst), (di Zb.snd)]))), (42, (.d (.tup [(.agg [(di Za.fst), (di Za.snd.fst)]), (di Za.snd.snd)]))), (43, (.d (.agg [(di Za.fst), (di Za.snd.fst)]))), (44, (vi Za.snd.snd)), (45, (vi Za.snd.snd)), (46, (vb (Za.snd.snd != 0))), (48, (.vec 900 2 0 (2 * k + j))), (49, (.d (.agg [(di Za.fst), (di Za.snd.fst)]))), (50, (.d (.slc 2 1 (elemF true 2 [(di Za.fst), (di Za.snd.fst)])))), (51, (.vec 51 2 0 (2 * k + j + 1))), (52, (vi (↑j + 1)))], [(51, [(.arr ⟨true, 23, false, none⟩ 2 (fun i => bif i.blt (2 * k + j) then rowC subF x y (2 * k + j) i else elemF true 2 [DV.con (Value.int IntKind.i64 Za.fst), DV.con (Value.int IntKind.i64 Za.snd.fst)] (i - (2 * k + j))))]), (13, [(vi Za.fst), (vi Za.snd.fst)]), (12, [(vi Zb.fst), (vi Zb.snd)]), (3, [(vi x.a), (vi x.b), (vi x.c), (vi x.d)]), (4, [(vi y.a), (vi y.b), (vi y.c), (vi y.d)]), (6, [(vi 0), (vi 0), (vi 0), (vi 0)]), (10, [(vi ((loP x).getD k (0, 0)).fst), (vi ((loP x).getD k (0, 0)).snd)]), (900, [.dead])]⟩)))) ∧ (((decide ((↑j : Int) < 2)) = false) → AWP Tryz.prog G [(.blk 1), cd Tryz.f88 [1, 1, 0, 1, 0, 0, 1, 1, 1]] ⟨regs 78 [(2, Zc), (3, (.box 3 0)), (4, (.box 4 0)), (6, (.box 6 0)), (8, (.vec 900 2 0 (2 * k + j))), (10, (.box 10 0)), (22, (.d (.slc 2 2 (fr2 (loP x))))), (23, (vi 2)), (24, (vi (↑k))), (32, (.d (.slc 2 2 (fr2 (loP y))))), (33, (vi 2)), (34, (vi (↑j))), (35, (vb (decide ((↑j : Int) < 2))))], [(3, [(vi x.a), (vi x.b), (vi x.c), (vi x.d)]), (4, [(vi y.a), (vi y.b), (vi y.c), (vi y.d)]), (6, [(vi 0), (vi 0), (vi 0), (vi 0)]), (10, [(vi ((loP x).getD k (0, 0)).fst), (vi ((loP x).getD k (0, 0)).snd)]), (900, [(.arr ⟨true, 23, false, none⟩ 2 (rowC subF x y (2 * k + j)))])]⟩ (RoundQ Tryz.prog G [(.blk 0), cd Tryz.f88 [1, 1, 1]] (Ret Tryz.prog Tryz.f88 (DV.tup [bdD (cnB subF x y), db !cnBad subF x y])) (S88 89 subF x y) (fun k => k ≤ 2 ∧ ∀ (n : Nat), n < 2 * k → (cnR subF x y n).snd.snd = 0) (fun k => 2 - k) k)))) (by kernel_rfl) ?_
        simp only [Int.toNat_natCast]
        refine ⟨fun h2 => ?_, fun h2 => ?_⟩
        · have hj2 : j < 2 := by have := of_decide_eq_true h2; omega
          have ec := cn_eq subF x y (k := k) hj2
          refine ⟨⟨by omega, by show (j : Int) < 2; omega⟩, f89' _ _ _ _, fun h3 => ?_, fun h3 => ⟨⟨⟨by omega, by omega⟩, fun i hi => (by obtain rfl : i = 0 := (by omega); rfl)⟩, ⟨by omega, by omega⟩, Again.mkR [(51, 900)] rfl (j + 1) ?_ ⟨hj2, fun n hn => ?_⟩ (by omega)⟩⟩
          · rw [ec] at h3
            unfold cnB
            rw [cn_bad (n := 2 * k + j) (by omega) (by simpa using h3)]
            rfl
          · refine of_eq2 (subF ((loP x).getD k (0, 0)).fst ((loP x).getD k (0, 0)).snd ((loP y).getD j (0, 0)).fst ((loP y).getD j (0, 0)).snd) (some [(vi ((loP x).getD k (0, 0)).fst), (vi ((loP x).getD k (0, 0)).snd)]) (fun Za Zb => ((((.d (.con (.func (.func 89) ⟨[]⟩ ⟨[]⟩))) : AV) = (.d (.con (.func (.func 89) ⟨[]⟩ ⟨[]⟩))) ∧ ((.box 3 0) : AV) = (.box 3 0) ∧ ((.box 4 0) : AV) = (.box 4 0) ∧ ((.box 6 0) : AV) = (.box 6 0) ∧ ((.vec 900 2 0 (2 * k + j + 1)) : AV) = (.vec 900 2 0 (2 * k + (j + 1))) ∧ ((.box 10 0) : AV) = (.box 10 0) ∧ ((.d (.slc 2 2 (fr2 (loP x)))) : AV) = (.d (.slc 2 2 (fr2 (loP x)))) ∧ ((vi 2) : AV) = (vi 2) ∧ ((vi (↑k)) : AV) = (vi (↑k)) ∧ ((.d (.slc 2 2 (fr2 (loP y)))) : AV) = (.d (.slc 2 2 (fr2 (loP y)))) ∧ ((vi 2) : AV) = (vi 2) ∧ ((vi (↑j + 1)) : AV) = (vi (↑(j + 1))) ∧ True) ∧ ((some [(vi x.a), (vi x.b), (vi x.c), (vi x.d)]) : (Option (List AV))) = (some [(vi x.a), (vi x.b), (vi x.c), (vi x.d)]) ∧ ((some [(vi y.a), (vi y.b), (vi y.c), (vi y.d)]) : (Option (List AV))) = (some [(vi y.a), (vi y.b), (vi y.c), (vi y.d)]) ∧ ((some [(vi 0), (vi 0), (vi 0), (vi 0)]) : (Option (List AV))) = (some [(vi 0), (vi 0), (vi 0), (vi 0)]) ∧ (Zb : (Option (List AV))) = Zb ∧ ((some [(.arr ⟨true, 23, false, none⟩ 2 (fun i => bif i.blt (2 * k + j) then rowC subF x y (2 * k + j) i else elemF true 2 [DV.con (Value.int IntKind.i64 Za.fst), DV.con (Value.int IntKind.i64 Za.snd.fst)] (i - (2 * k + j))))]) : (Option (List AV))) = (some [(.arr ⟨true, 23, false, none⟩ 2 (rowC subF x y (2 * k + (j + 1))))]) ∧ True)) (by kernel_rfl) ?_
            refine ⟨⟨rfl, rfl, rfl, rfl, rfl, rfl, rfl, rfl, rfl, rfl, rfl, rfl, trivial⟩, rfl, rfl, rfl, rfl, ?_, trivial⟩
            exact congrArg (fun f => some [AV.arr frK 2 f]) (rowC_next (2 * k + j) (by rw [ec]) (by rw [ec]))
          · rcases Nat.lt_or_ge n (2 * k + j) with h4 | h4
            · exact hjd n h4
            · obtain rfl : n = 2 * k + j := by omega
              rw [ec] at h3
              simpa using h3
        · have h2 := of_decide_eq_false h2
          obtain rfl : j = 2 := by omega
          refine walk (orc := orcBd) (keep := []) (cuts := []) (n := 1000) follows ?_
          refine of_rd (fun ZT _ _ _ ZA _ => ((I64 (↑k + 1)) ∧ (ZA (stS ZT [])))) (by kernel_rfl) ?_
          refine ⟨⟨by omega, by omega⟩, Again.mk (k + 1) ?_ ⟨hk2, fun n hn => hjd n (by omega)⟩ (by omega)⟩
          refine AS.leZ [4] [3] (b := ((T0 ∧ T0 ∧ T0 ∧ T0 ∧ ((.vec 900 2 0 (2 * k + 2)) : AV) = (.vec 900 2 0 (2 * (k + 1))) ∧ T0 ∧ T0 ∧ T0 ∧ True) ∧ T0 ∧ T0 ∧ T0 ∧ ((some [(.arr ⟨true, 23, false, none⟩ 2 (rowC subF x y (2 * k + 2)))]) : (Option (List AV))) = (some [(.arr ⟨true, 23, false, none⟩ 2 (rowC subF x y (2 * (k + 1))))]) ∧ True)) (by kernel_rfl) (by kernel_rfl) ?_
          exact ⟨⟨rfl, rfl, rfl, rfl, rfl, rfl, rfl, rfl, trivial⟩, rfl, rfl, rfl, rfl, trivial⟩
    · have h1 := of_decide_eq_false h1
      obtain rfl : k = 2 := by omega
      have hg := cn_good (op := subF) (x := x) (y := y) fun n hn => hkd n hn
      unfold cnB
      rw [hg]
      refine AWP.freeze (agg := frK) (sz := 2) (f := rowC subF x y 4) 900 (by kernel_rfl) ?_
      refine AWP.pre (.reg _ 8 (.d (.slc 2 4 (cnF subF x y))) fun β h v hv => DV.rel_slc_congr (f := fun i => rowC subF x y 4 (0 + i)) (fun i hi => rowC_get hi) hv) ?_
      refine walk (orc := orcBd) (keep := []) (cuts := []) (n := 1000) follows ?_
      refine of_tr (fun ZT ZW ZQ _ => (((((0 : Int) ≤ (0 : Int)) ∧ (0 < (↑4 : Int))) ∧ ((0 : Int) ≤ (0 : Int)) ∧ (0 < (↑4 : Int))) ∧ ZW [cd Tryz.f88 [1, 1, 1, 1, 0, 1, 0], (.blk 4), cd Tryz.f88 [1, 1, 1, 1, 1]] (stS ZT []) ZQ)) (by kernel_rfl) ?_
      refine ⟨⟨⟨by omega, by show (0 : Int) < 4; omega⟩, ⟨by omega, by show (0 : Int) < 4; omega⟩⟩, ?_⟩
      obtain ⟨M, hM⟩ : ∃ M, M = mnR subF x y := ⟨_, rfl⟩
      refine AWP.loop (c := cAt (bodyOf Tryz.f88) [1, 1, 1, 1, 0, 1, 0, 0]) (by kernel_rfl) (S88c subF x y M) (fun n => n ≤ 4) (fun n => 4 - n) 0 ?_ (Nat.zero_le _) ?_
      · refine AS.leZ [] [1] (b := ((T0 ∧ T0 ∧ T0 ∧ T0 ∧ T0 ∧ True) ∧ T0 ∧ ((some [(vi (cnR subF x y (Int.toNat 0)).fst), (vi (cnR subF x y (Int.toNat 0)).snd.fst), (vi (cnR subF x y (Int.toNat 0)).fst), (vi (cnR subF x y (Int.toNat 0)).snd.fst)]) : (Option (List AV))) = (some [(vi (M 0).a), (vi (M 0).b), (vi (M 0).c), (vi (M 0).d)]) ∧ True)) (by kernel_rfl) (by kernel_rfl) ?_
        refine ⟨⟨rfl, rfl, rfl, rfl, rfl, trivial⟩, rfl, ?_, trivial⟩
        rw [hM]; rfl
      · intro n hn
        refine walk (orc := orcBd) (keep := []) (cuts := []) (n := 1000) follows ?_
        refine of_rd (fun ZT ZW ZQ ZK ZA _ => (fun Za => ((((decide ((↑n : Int) < 4)) = true) → (((0 ≤ (↑n : Int)) ∧ ((↑n : Int) < ↑4)) ∧ (ZK 94 [(.agg [(di (M n).a), (di (M n).b)]), (.agg [(di Za.fst), (di Za.snd.fst)])] (.agg [(di (leN (M n).a (M n).b Za.fst Za.snd.fst)), (di (leD (M n).a (M n).b Za.fst Za.snd.fst))]) ∧ ZK 95 [(.agg [(di (M n).c), (di (M n).d)]), (.agg [(di Za.fst), (di Za.snd.fst)])] (.agg [(di (grN (M n).c (M n).d Za.fst Za.snd.fst)), (di (grD (M n).c (M n).d Za.fst Za.snd.fst))])) ∧ (I64 (↑n + 1)) ∧ (ZA (stS ZT [0])))) ∧ (((decide ((↑n : Int) < 4)) = false) → ZW [cd Tryz.f88 [1, 1, 1, 1, 1]] (stS ZT [1]) ZQ))) (cnR subF x y (↑n : Int).toNat)) (by kernel_rfl) ?_
        simp only [Int.toNat_natCast]
        refine ⟨fun h2 => ?_, fun h2 => ?_⟩
        · have hn2 : n < 4 := by have := of_decide_eq_true h2; omega
          refine ⟨⟨by omega, by show (n : Int) < 4; omega⟩, ⟨f94 _ _ _ _, f95 _ _ _ _⟩, ⟨by omega, by omega⟩, Again.mk (n + 1) ?_ hn2 (by omega)⟩
          refine AS.leZ [] [1] (b := ((T0 ∧ T0 ∧ T0 ∧ T0 ∧ T0 ∧ True) ∧ T0 ∧ ((some [(vi (leN (M n).a (M n).b (cnR subF x y (↑n : Int).toNat).fst (cnR subF x y (↑n : Int).toNat).snd.fst)), (vi (leD (M n).a (M n).b (cnR subF x y (↑n : Int).toNat).fst (cnR subF x y (↑n : Int).toNat).snd.fst)), (vi (grN (M n).c (M n).d (cnR subF x y (↑n : Int).toNat).fst (cnR subF x y (↑n : Int).toNat).snd.fst)), (vi (grD (M n).c (M n).d (cnR subF x y (↑n : Int).toNat).fst (cnR subF x y (↑n : Int).toNat).snd.fst))]) : (Option (List AV))) = (some [(vi (M (n + 1)).a), (vi (M (n + 1)).b), (vi (M (n + 1)).c), (vi (M (n + 1)).d)]) ∧ True)) (by kernel_rfl) (by kernel_rfl) ?_
          refine ⟨⟨rfl, rfl, rfl, rfl, rfl, trivial⟩, rfl, ?_, trivial⟩
          rw [hM]; rfl
        · have h2 := of_decide_eq_false h2
          obtain rfl : n = 4 := by omega
          refine walk (orc := orcBd) (keep := []) (cuts := []) (n := 1000) follows ?_
          refine of_tr (fun _ _ _ _ => (((.tup [(bdD (M 4)), (db true)]) : DV) = (.tup [(bdD (if false = true then Bd.mk 0 0 0 0 else mnR subF x y 4)), (db !false)]))) (by kernel_rfl) ?_
          rw [hM]; rfl
theorem f88d (x y : Bd) : FnOK Tryz.prog G 88 [bdD x, bdD y, .con (.func (.func 93) #[] #[])] (.tup [bdD (cnB divF x y), db (!cnBad divF x y)]) := by
  refine FnOK.walk (orc := orcBd) (keep := []) follows Tryz.func88 rfl Tryz.call88 ?_
  refine of_eqH (b := AWP Tryz.prog G [cd Tryz.f88 [1, 1, 0, 1, 0], (.blk 0), cd Tryz.f88 [1, 1, 1]] ⟨regs 78 [(0, (.d (bdD x))), (1, (.d (bdD y))), (2, (.d (.con (.func (.func 93) ⟨[]⟩ ⟨[]⟩)))), (3, (.box 3 0)), (4, (.box 4 0)), (6, (.box 6 0)), (7, (vb false)), (8, (.d (.con (.slice none 0 0)))), (18, (.box 3 0)), (19, (.d (.agg [(di x.a), (di x.b)]))), (20, (.box 3 2)), (21, (.d (.agg [(di x.c), (di x.d)]))), (22, (.d (.slc 2 2 (elemF true 2 [(di x.a), (di x.b), (di x.c), (di x.d)])))), (23, (vi 2)), (24, (vi 0))], [(6, [(vi 0), (vi 0), (vi 0), (vi 0)]), (4, [(vi y.a), (vi y.b), (vi y.c), (vi y.d)]), (3, [(vi x.a), (vi x.b), (vi x.c), (vi x.d)])]⟩ (Ret Tryz.prog Tryz.f88 (DV.tup [bdD (cnB divF x y), db !cnBad divF x y]))) (by kernel_rfl) ?_
  refine AWP.pre (.nilRow _ 8 900 2 frK (rowC divF x y 0) (by kernel_rfl) (by kernel_rfl)) ?_
  refine AWP.pre (.reg _ 22 (.d (fr2D (loP x))) fun β h v hv => two_rel (p := (x.a, x.b)) (q := (x.c, x.d)) hv) ?_
  refine AWP.loop (c := cAt (bodyOf Tryz.f88) [1, 1, 0, 1, 0, 0]) (by kernel_rfl) (S88 93 divF x y) (fun k => k ≤ 2 ∧ ∀ n, n < 2 * k → (cnR divF x y n).2.2 = 0) (fun k => 2 - k) 0 ?_ ⟨Nat.zero_le _, fun n hn => by omega⟩ ?_
  · exact AS.leA (by kernel_rfl)
  · rintro k ⟨hk, hkd⟩
    refine walk (orc := orcBd) (keep := []) (cuts := []) (n := 1000) follows ?_
    refine of_eqH2 ((loP x).getD (↑k : Int).toNat (0, 0)) (Ret Tryz.prog Tryz.f88 (DV.tup [bdD (cnB divF x y), db !cnBad divF x y])) (fun Za Zb => ((((decide ((↑k : Int) < 2)) = true) → (((0 ≤ (↑k : Int)) ∧ ((↑k : Int) < ↑2)) ∧ AWP Tryz.prog G [cd Tryz.f88 [1, 1, 0, 1, 0, 0, 1, 1, 0, 0, 1, 1, 0], (.blk 2), (.blk 1), cd Tryz.f88 [1, 1, 0, 1, 0, 0, 1, 1, 1]] ⟨regs 78 [(2, (.d (.con (.func (.func 93) ⟨[]⟩ ⟨[]⟩)))), (3, (.box 3 0)), (4, (.box 4 0)), (6, (.box 6 0)), (8, (.vec 900 2 0 (2 * k))), (10, (.box 10 0)), (22, (.d (.slc 2 2 (fr2 (loP x))))), (23, (vi 2)), (24, (vi (↑k))), (25, (vb (decide ((↑k : Int) < 2)))), (26, (.d (.ptr [(di Za.fst), (di Za.snd)]))), (27, (.d (.agg [(di Za.fst), (di Za.snd)]))), (28, (.box 4 0)), (29, (.d (.agg [(di y.a), (di y.b)]))), (30, (.box 4 2)), (31, (.d (.agg [(di y.c), (di y.d)]))), (32, (.d (.slc 2 2 (elemF true 2 [(di y.a), (di y.b), (di y.c), (di y.d)])))), (33, (vi 2)), (34, (vi 0))], [(10, [(vi Za.fst), (vi Za.snd)]), (3, [(vi x.a), (vi x.b), (vi x.c), (vi x.d)]), (4, [(vi y.a), (vi y.b), (vi y.c), (vi y.d)]), (6, [(vi 0), (vi 0), (vi 0), (vi 0)]), (900, [(.arr ⟨true, 23, false, none⟩ 2 (rowC divF x y (2 * k)))])]⟩ (RoundQ Tryz.prog G [(.blk 0), cd Tryz.f88 [1, 1, 1]] Zb (S88 93 divF x y) (fun k => k ≤ 2 ∧ ∀ (n : Nat), n < 2 * k → (cnR divF x y n).snd.snd = 0) (fun k => 2 - k) k))) ∧ (((decide ((↑k : Int) < 2)) = false) → AWP Tryz.prog G [cd Tryz.f88 [1, 1, 1]] ⟨regs 78 [(2, (.d (.con (.func (.func 93) ⟨[]⟩ ⟨[]⟩)))), (3, (.box 3 0)), (4, (.box 4 0)), (6, (.box 6 0)), (8, (.vec 900 2 0 (2 * k))), (22, (.d (.slc 2 2 (fr2 (loP x))))), (23, (vi 2)), (24, (vi (↑k))), (25, (vb (decide ((↑k : Int) < 2))))], [(3, [(vi x.a), (vi x.b), (vi x.c), (vi x.d)]), (4, [(vi y.a), (vi y.b), (vi y.c), (vi y.d)]), (6, [(vi 0), (vi 0), (vi 0), (vi 0)]), (900, [(.arr ⟨true, 23, false, none⟩ 2 (rowC divF x y (2 * k)))])]⟩ Zb))) (by kernel_rfl) ?_
    simp only [Int.toNat_natCast]
    refine ⟨fun h1 => ?_, fun h1 => ?_⟩
    · have hk2 : k < 2 := by have := of_decide_eq_true h1; omega
      refine ⟨⟨by omega, by show (k : Int) < 2; omega⟩, ?_⟩
      refine AWP.pre (.reg _ 32 (.d (fr2D (loP y))) fun β h v hv => two_rel (p := (y.a, y.b)) (q := (y.c, y.d)) hv) ?_
      refine AWP.loop (c := cAt (bodyOf Tryz.f88) [1, 1, 0, 1, 0, 0, 1, 1, 0, 0, 1, 1, 0, 0]) (by kernel_rfl) (S88i 93 divF x y k) (fun j => j ≤ 2 ∧ ∀ n, n < 2 * k + j → (cnR divF x y n).2.2 = 0) (fun j => 2 - j) 0 ?_ ⟨Nat.zero_le _, hkd⟩ ?_
      · refine AS.leZ [4] [4] (b := ((T0 ∧ T0 ∧ T0 ∧ T0 ∧ ((.vec 900 2 0 (2 * k)) : AV) = (.vec 900 2 0 (2 * k + 0)) ∧ T0 ∧ T0 ∧ T0 ∧ T0 ∧ T0 ∧ T0 ∧ T0 ∧ True) ∧ T0 ∧ T0 ∧ T0 ∧ T0 ∧ ((some [(.arr ⟨true, 23, false, none⟩ 2 (rowC divF x y (2 * k)))]) : (Option (List AV))) = (some [(.arr ⟨true, 23, false, none⟩ 2 (rowC divF x y (2 * k + 0)))]) ∧ True)) (by kernel_rfl) (by kernel_rfl) ?_
        exact ⟨⟨rfl, rfl, rfl, rfl, rfl, rfl, rfl, rfl, rfl, rfl, rfl, rfl, trivial⟩, rfl, rfl, rfl, rfl, rfl, trivial⟩
      · rintro j ⟨hj, hjd⟩
        refine walk (orc := orcBd) (keep := []) (cuts := []) (n := 1000) follows ?_
        refine of_eqH4 (divF ((loP x).getD k (0, 0)).fst ((loP x).getD k (0, 0)).snd ((loP y).getD (↑j : Int).toNat (0, 0)).fst ((loP y).getD (↑j : Int).toNat (0, 0)).snd) ((loP y).getD (↑j : Int).toNat (0, 0)) ((.d (.con (.func (.func 93) ⟨[]⟩ ⟨[]⟩))) : AV) ((.agg [(di ((loP x).getD k (0, 0)).fst), (di ((loP x).getD k (0, 0)).snd)]) : DV) (fun Za Zb Zc Zd => ((((decide ((↑j : Int) < 2)) = true) → (((0 ≤ (↑j : Int)) ∧ ((↑j : Int) < ↑2)) ∧ FnOK Tryz.prog G 93 [Zd, (.agg [(di Zb.fst), (di Zb.snd)])] (.tup [(.agg [(di Za.fst), (di Za.snd.fst)]), (di Za.snd.snd)]) ∧ (((Za.snd.snd != 0) = true) → (((.tup [(.agg [(di 0), (di 0), (di 0), (di 0)]), (db false)]) : DV) = (.tup [(bdD (cnB divF x y)), (db !cnBad divF x y)]))) ∧ (((Za.snd.snd != 0) = false) → (((((2 * k + j + 1) * 16 ≤ 1099511627776) ∧ (2 * k + j + 1 ≤ 1099511627776)) ∧ (∀ (i : Nat), i < 1 → elemOK true 2 (elemF true 2 [DV.con (Value.int IntKind.i64 Za.fst), DV.con (Value.int IntKind.i64 Za.snd.fst)] i) = true)) ∧ (I64 (↑j + 1)) ∧ Again (S88i 93 divF x y k) (fun j => j ≤ 2 ∧ ∀ (n : Nat), n < 2 * k + j → (cnR divF x y n).snd.snd = 0) (fun j => 2 - j) j ⟨regs 78 [(2, Zc), (3, (.box 3 0)), (4, (.box 4 0)), (6, (.box 6 0)), (8, (.vec 51 2 0 (2 * k + j + 1))), (10, (.box 10 0)), (12, (.box 12 0)), (13, (.box 13 0)), (14, (vi Za.snd.snd)), (22, (.d (.slc 2 2 (fr2 (loP x))))), (23, (vi 2)), (24, (vi (↑k))), (32, (.d (.slc 2 2 (fr2 (loP y))))), (33, (vi 2)), (34, (vi (↑j + 1))), (35, (vb (decide ((↑j : Int) < 2)))), (36, (.d (.ptr [(di Zb.fst), (di Zb.snd)]))), (37, (.d (.agg [(di Zb.fst), (di Zb.snd)]))), (38, (.d (.tup [(.agg [(di Za.fst), (di Za.snd.fst)]), (di Za.snd.snd)]))), (39, Zc), (40, (.d Zd)), (41, (.d (.agg [(di Zb.fst), (di Zb.snd)]))), (42, (.d (.tup [(.agg [(di Za.fst), (di Za.snd.fst)]), (di Za.snd.snd)]))), (43, (.d (.agg [(di Za.fst), (di Za.snd.fst)]))), (44, (vi Za.snd.snd)), (45, (vi Za.snd.snd)), (46, (vb (Za.snd.snd != 0))), (48, (.vec 900 2 0 (2 * k + j))), (49, (.d (.agg [(di Za.fst), (di Za.snd.fst)]))), (50, (.d (.slc 2 1 (elemF true 2 [(di Za.fst), (di Za.snd.fst)])))), (51, (.vec 51 2 0 (2 * k + j + 1))), (52, (vi (↑j + 1)))], [(51, [(.arr ⟨true, 23, false, none⟩ 2 (fun i => bif i.blt (2 * k + j) then rowC divF x y (2 * k + j) i else elemF true 2 [DV.con (Value.int IntKind.i64 Za.fst), DV.con (Value.int IntKind.i64 Za.snd.fst)] (i - (2 * k + j))))]), (13, [(vi Za.fst), (vi Za.snd.fst)]), (12, [(vi Zb.fst), (vi Zb.snd)]), (3, [(vi x.a), (vi x.b), (vi x.c), (vi x.d)]), (4, [(vi y.a), (vi y.b), (vi y.c), (vi y.d)]), (6, [(vi 0), (vi 0), (vi 0), (vi 0)]), (10, [(vi ((loP x).getD k (0, 0)).fst), (vi ((loP x).getD k (0, 0)).snd)]), (900, [.dead])]⟩)))) ∧ (((decide ((↑j : Int) < 2)) = false) → AWP Tryz.prog G [(.blk 1), cd Tryz.f88 [1, 1, 0, 1, 0, 0, 1, 1, 1]] ⟨regs 78 [(2, Zc), (3, (.box 3 0)), (4, (.box 4 0)), (6, (.box 6 0)), (8, (.vec 900 2 0 (2 * k + j))), (10, (.box 10 0)), (22, (.d (.slc 2 2 (fr2 (loP x))))), (23, (vi 2)), (24, (vi (↑k))), (32, (.d (.slc 2 2 (fr2 (loP y))))), (33, (vi 2)), (34, (vi (↑j))), (35, (vb (decide ((↑j : Int) < 2))))], [(3, [(vi x.a), (vi x.b), (vi x.c), (vi x.d)]), (4, [(vi y.a), (vi y.b), (vi y.c), (vi y.d)]), (6, [(vi 0), (vi 0), (vi 0), (vi 0)]), (10, [(vi ((loP x).getD k (0, 0)).fst), (vi ((loP x).getD k (0, 0)).snd)]), (900, [(.arr ⟨true, 23, false, none⟩ 2 (rowC divF x y (2 * k + j)))])]⟩ (RoundQ Tryz.prog G [(.blk 0), cd Tryz.f88 [1, 1, 1]] (Ret Tryz.prog Tryz.f88 (DV.tup [bdD (cnB divF x y), db !cnBad divF x y])) (S88 93 divF x y) (fun k => k ≤ 2 ∧ ∀ (n : Nat), n < 2 * k → (cnR divF x y n).snd.snd = 0) (fun k => 2 - k) k)))) (by kernel_rfl) ?_
        simp only [Int.toNat_natCast]
        refine ⟨fun h2 => ?_, fun h2 => ?_⟩
        · have hj2 : j < 2 := by have := of_decide_eq_true h2; omega
          have ec := cn_eq divF x y (k := k) hj2
          refine ⟨⟨by omega, by show (j : Int) < 2; omega⟩, f93' _ _ _ _, fun h3 => ?_, fun h3 => ⟨⟨⟨by omega, by omega⟩, fun i hi => (by obtain rfl : i = 0 := (by omega); rfl)⟩, ⟨by omega, by omega⟩, Again.mkR [(51, 900)] rfl (j + 1) ?_ ⟨hj2, fun n hn => ?_⟩ (by omega)⟩⟩
          · rw [ec] at h3
            unfold cnB
            rw [cn_bad (n := 2 * k + j) (by omega) (by simpa using h3)]
            rfl
          · refine of_eq2 (divF ((loP x).getD k (0, 0)).fst ((loP x).getD k (0, 0)).snd ((loP y).getD j (0, 0)).fst ((loP y).getD j (0, 0)).snd) (some [(vi ((loP x).getD k (0, 0)).fst), (vi ((loP x).getD k (0, 0)).snd)]) (fun Za Zb => ((((.d (.con (.func (.func 93) ⟨[]⟩ ⟨[]⟩))) : AV) = (.d (.con (.func (.func 93) ⟨[]⟩ ⟨[]⟩))) ∧ ((.box 3 0) : AV) = (.box 3 0) ∧ ((.box 4 0) : AV) = (.box 4 0) ∧ ((.box 6 0) : AV) = (.box 6 0) ∧ ((.vec 900 2 0 (2 * k + j + 1)) : AV) = (.vec 900 2 0 (2 * k + (j + 1))) ∧ ((.box 10 0) : AV) = (.box 10 0) ∧ ((.d (.slc 2 2 (fr2 (loP x)))) : AV) = (.d (.slc 2 2 (fr2 (loP x)))) ∧ ((vi 2) : AV) = (vi 2) ∧ ((vi (↑k)) : AV) = (vi (↑k)) ∧ ((.d (.slc 2 2 (fr2 (loP y)))) : AV) = (.d (.slc 2 2 (fr2 (loP y)))) ∧ ((vi 2) : AV) = (vi 2) ∧ ((vi (↑j + 1)) : AV) = (vi (↑(j + 1))) ∧ True) ∧ ((some [(vi x.a), (vi x.b), (vi x.c), (vi x.d)]) : (Option (List AV))) = (some [(vi x.a), (vi x.b), (vi x.c), (vi x.d)]) ∧ ((some [(vi y.a), (vi y.b), (vi y.c), (vi y.d)]) : (Option (List AV))) = (some [(vi y.a), (vi y.b), (vi y.c), (vi y.d)]) ∧ ((some [(vi 0), (vi 0), (vi 0), (vi 0)]) : (Option (List AV))) = (some [(vi 0), (vi 0), (vi 0), (vi 0)]) ∧ (Zb : (Option (List AV))) = Zb ∧ ((some [(.arr ⟨true, 23, false, none⟩ 2 (fun i => bif i.blt (2 * k + j) then rowC divF x y (2 * k + j) i else elemF true 2 [DV.con (Value.int IntKind.i64 Za.fst), DV.con (Value.int IntKind.i64 Za.snd.fst)] (i - (2 * k + j))))]) : (Option (List AV))) = (some [(.arr ⟨true, 23, false, none⟩ 2 (rowC divF x y (2 * k + (j + 1))))]) ∧ True)) (by kernel_rfl) ?_
            refine ⟨⟨rfl, rfl, rfl, rfl, rfl, rfl, rfl, rfl, rfl, rfl, rfl, rfl, trivial⟩, rfl, rfl, rfl, rfl, ?_, trivial⟩
            exact congrArg (fun f => some [AV.arr frK 2 f]) (rowC_next (2 * k + j) (by rw [ec]) (by rw [ec]))
          · rcases Nat.lt_or_ge n (2 * k + j) with h4 | h4
            · exact hjd n h4
            · obtain rfl : n = 2 * k + j := by omega
              rw [ec] at h3
              simpa using h3
        · have h2 := of_decide_eq_false h2
          obtain rfl : j = 2 := by omega
          refine walk (orc := orcBd) (keep := []) (cuts := []) (n := 1000) follows ?_
          refine of_rd (fun ZT _ _ _ ZA _ => ((I64 (↑k + 1)) ∧ (ZA (stS ZT [])))) (by kernel_rfl) ?_
          refine ⟨⟨by omega, by omega⟩, Again.mk (k + 1) ?_ ⟨hk2, fun n hn => hjd n (by omega)⟩ (by omega)⟩
          refine AS.leZ [4] [3] (b := ((T0 ∧ T0 ∧ T0 ∧ T0 ∧ ((.vec 900 2 0 (2 * k + 2)) : AV) = (.vec 900 2 0 (2 * (k + 1))) ∧ T0 ∧ T0 ∧ T0 ∧ True) ∧ T0 ∧ T0 ∧ T0 ∧ ((some [(.arr ⟨true, 23, false, none⟩ 2 (rowC divF x y (2 * k + 2)))]) : (Option (List AV))) = (some [(.arr ⟨true, 23, false, none⟩ 2 (rowC divF x y (2 * (k + 1))))]) ∧ True)) (by kernel_rfl) (by kernel_rfl) ?_
          exact ⟨⟨rfl, rfl, rfl, rfl, rfl, rfl, rfl, rfl, trivial⟩, rfl, rfl, rfl, rfl, trivial⟩
    · have h1 := of_decide_eq_false h1
      obtain rfl : k = 2 := by omega
      have hg := cn_good (op := divF) (x := x) (y := y) fun n hn => hkd n hn
      unfold cnB
      rw [hg]
      refine AWP.freeze (agg := frK) (sz := 2) (f := rowC divF x y 4) 900 (by kernel_rfl) ?_
      refine AWP.pre (.reg _ 8 (.d (.slc 2 4 (cnF divF x y))) fun β h v hv => DV.rel_slc_congr (f := fun i => rowC divF x y 4 (0 + i)) (fun i hi => rowC_get hi) hv) ?_
      refine walk (orc := orcBd) (keep := []) (cuts := []) (n := 1000) follows ?_
      refine of_tr (fun ZT ZW ZQ _ => (((((0 : Int) ≤ (0 : Int)) ∧ (0 < (↑4 : Int))) ∧ ((0 : Int) ≤ (0 : Int)) ∧ (0 < (↑4 : Int))) ∧ ZW [cd Tryz.f88 [1, 1, 1, 1, 0, 1, 0], (.blk 4), cd Tryz.f88 [1, 1, 1, 1, 1]] (stS ZT []) ZQ)) (by kernel_rfl) ?_
      refine ⟨⟨⟨by omega, by show (0 : Int) < 4; omega⟩, ⟨by omega, by show (0 : Int) < 4; omega⟩⟩, ?_⟩
      obtain ⟨M, hM⟩ : ∃ M, M = mnR divF x y := ⟨_, rfl⟩
      refine AWP.loop (c := cAt (bodyOf Tryz.f88) [1, 1, 1, 1, 0, 1, 0, 0]) (by kernel_rfl) (S88c divF x y M) (fun n => n ≤ 4) (fun n => 4 - n) 0 ?_ (Nat.zero_le _) ?_
      · refine AS.leZ [] [1] (b := ((T0 ∧ T0 ∧ T0 ∧ T0 ∧ T0 ∧ True) ∧ T0 ∧ ((some [(vi (cnR divF x y (Int.toNat 0)).fst), (vi (cnR divF x y (Int.toNat 0)).snd.fst), (vi (cnR divF x y (Int.toNat 0)).fst), (vi (cnR divF x y (Int.toNat 0)).snd.fst)]) : (Option (List AV))) = (some [(vi (M 0).a), (vi (M 0).b), (vi (M 0).c), (vi (M 0).d)]) ∧ True)) (by kernel_rfl) (by kernel_rfl) ?_
        refine ⟨⟨rfl, rfl, rfl, rfl, rfl, trivial⟩, rfl, ?_, trivial⟩
        rw [hM]; rfl
      · intro n hn
        refine walk (orc := orcBd) (keep := []) (cuts := []) (n := 1000) follows ?_
        refine of_rd (fun ZT ZW ZQ ZK ZA _ => (fun Za => ((((decide ((↑n : Int) < 4)) = true) → (((0 ≤ (↑n : Int)) ∧ ((↑n : Int) < ↑4)) ∧ (ZK 94 [(.agg [(di (M n).a), (di (M n).b)]), (.agg [(di Za.fst), (di Za.snd.fst)])] (.agg [(di (leN (M n).a (M n).b Za.fst Za.snd.fst)), (di (leD (M n).a (M n).b Za.fst Za.snd.fst))]) ∧ ZK 95 [(.agg [(di (M n).c), (di (M n).d)]), (.agg [(di Za.fst), (di Za.snd.fst)])] (.agg [(di (grN (M n).c (M n).d Za.fst Za.snd.fst)), (di (grD (M n).c (M n).d Za.fst Za.snd.fst))])) ∧ (I64 (↑n + 1)) ∧ (ZA (stS ZT [0])))) ∧ (((decide ((↑n : Int) < 4)) = false) → ZW [cd Tryz.f88 [1, 1, 1, 1, 1]] (stS ZT [1]) ZQ))) (cnR divF x y (↑n : Int).toNat)) (by kernel_rfl) ?_
        simp only [Int.toNat_natCast]
        refine ⟨fun h2 => ?_, fun h2 => ?_⟩
        · have hn2 : n < 4 := by have := of_decide_eq_true h2; omega
          refine ⟨⟨by omega, by show (n : Int) < 4; omega⟩, ⟨f94 _ _ _ _, f95 _ _ _ _⟩, ⟨by omega, by omega⟩, Again.mk (n + 1) ?_ hn2 (by omega)⟩
          refine AS.leZ [] [1] (b := ((T0 ∧ T0 ∧ T0 ∧ T0 ∧ T0 ∧ True) ∧ T0 ∧ ((some [(vi (leN (M n).a (M n).b (cnR divF x y (↑n : Int).toNat).fst (cnR divF x y (↑n : Int).toNat).snd.fst)), (vi (leD (M n).a (M n).b (cnR divF x y (↑n : Int).toNat).fst (cnR divF x y (↑n : Int).toNat).snd.fst)), (vi (grN (M n).c (M n).d (cnR divF x y (↑n : Int).toNat).fst (cnR divF x y (↑n : Int).toNat).snd.fst)), (vi (grD (M n).c (M n).d (cnR divF x y (↑n : Int).toNat).fst (cnR divF x y (↑n : Int).toNat).snd.fst))]) : (Option (List AV))) = (some [(vi (M (n + 1)).a), (vi (M (n + 1)).b), (vi (M (n + 1)).c), (vi (M (n + 1)).d)]) ∧ True)) (by kernel_rfl) (by kernel_rfl) ?_
          refine ⟨⟨rfl, rfl, rfl, rfl, rfl, trivial⟩, rfl, ?_, trivial⟩
          rw [hM]; rfl
        · have h2 := of_decide_eq_false h2
          obtain rfl : n = 4 := by omega
          refine walk (orc := orcBd) (keep := []) (cuts := []) (n := 1000) follows ?_
          refine of_tr (fun _ _ _ _ => (((.tup [(bdD (M 4)), (db true)]) : DV) = (.tup [(bdD (if false = true then Bd.mk 0 0 0 0 else mnR divF x y 4)), (db !false)]))) (by kernel_rfl) ?_
          rw [hM]; rfl
end Go.Proofs
