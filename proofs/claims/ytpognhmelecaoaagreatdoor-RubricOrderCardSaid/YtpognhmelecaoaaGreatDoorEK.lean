import Derived.Test.YtpognhmelecaoaaGreatDoorAcD
import Derived.Test.YtpognhmelecaoaaGreatDoorEJ
import Derived.Test.YtpognhmelecaoaaGreatDoorEI
set_option autoImplicit false
namespace Go.Proofs
open Go Go.Ab Go.RowKit
set_option maxHeartbeats 4000000
set_option maxRecDepth 100000
variable {G : IH}
/-! The bounds of an expression. -/
abbrev BR := Bd × Bool
abbrev bd0 : Bd := ⟨0, 0, 0, 0⟩
def foldB (mx : Bool) (R : List BR) : Nat → Bd
  | 0 => (R.getD 0 (bd0, true)).1
  | n + 1 => if mx then ⟨grN (foldB mx R n).a (foldB mx R n).b (R.getD n (bd0, true)).1.a (R.getD n (bd0, true)).1.b, grD (foldB mx R n).a (foldB mx R n).b (R.getD n (bd0, true)).1.a (R.getD n (bd0, true)).1.b, grN (foldB mx R n).c (foldB mx R n).d (R.getD n (bd0, true)).1.c (R.getD n (bd0, true)).1.d, grD (foldB mx R n).c (foldB mx R n).d (R.getD n (bd0, true)).1.c (R.getD n (bd0, true)).1.d⟩
    else ⟨leN (foldB mx R n).a (foldB mx R n).b (R.getD n (bd0, true)).1.a (R.getD n (bd0, true)).1.b, leD (foldB mx R n).a (foldB mx R n).b (R.getD n (bd0, true)).1.a (R.getD n (bd0, true)).1.b, leN (foldB mx R n).c (foldB mx R n).d (R.getD n (bd0, true)).1.c (R.getD n (bd0, true)).1.d, leD (foldB mx R n).c (foldB mx R n).d (R.getD n (bd0, true)).1.c (R.getD n (bd0, true)).1.d⟩
def bnC (k : Int) (R : List BR) : BR :=
  let p := (R.getD 0 (bd0, true)).1
  let q := (R.getD 1 (bd0, true)).1
  if k = 5 then (cnB subF ⟨0, 1, 0, 1⟩ p, !cnBad subF ⟨0, 1, 0, 1⟩ p)
  else if k = 6 then (betB (addF p.a p.b q.a q.b) (addF p.c p.d q.c q.d), betO (addF p.a p.b q.a q.b) (addF p.c p.d q.c q.d))
  else if k = 7 then (betB (subF p.a p.b q.c q.d) (subF p.c p.d q.a q.b), betO (subF p.a p.b q.c q.d) (subF p.c p.d q.a q.b))
  else if k = 8 then (cnB mulF p q, !cnBad mulF p q)
  else if k = 9 then (if sgnI q.a q.c = 0 then (bd0, false) else (cnB divF p q, !cnBad divF p q))
  else (foldB (decide (k = 11)) R R.length, true)
mutual
def bnE (l : List Fc) : Ex → BR
  | .mk k s n d _ kids => if k = 1 then (⟨n, d, n, d⟩, true) else if k = 2 then (⟨(fM l (.string s)).ln, (fM l (.string s)).ld, (fM l (.string s)).hn, (fM l (.string s)).hd⟩, true)
    else if (bnL l kids).any (fun r => !r.2) then (bd0, false) else bnC k (bnL l kids)
def bnL (l : List Fc) : List Ex → List BR
  | [] => []
  | x :: r => bnE l x :: bnL l r
end
theorem bnL_map (l : List Fc) : ∀ r : List Ex, bnL l r = r.map (bnE l)
  | [] => rfl
  | x :: r => by simp only [bnL, List.map_cons, bnL_map l r]
theorem bnL_get {l : List Fc} {r : List Ex} {i : Nat} (hi : i < r.length) : (bnL l r).getD i (bd0, true) = bnE l (r.getD i ex0) := by
  rw [bnL_map, List.getD, List.getElem?_map, List.getElem?_eq_getElem hi, List.getD, List.getElem?_eq_getElem hi]; rfl
theorem bnE_eq (l : List Fc) (x : Ex) : bnE l x = if x.k = 1 then (⟨x.n, x.d, x.n, x.d⟩, true) else if x.k = 2 then (⟨(fM l (.string x.s)).ln, (fM l (.string x.s)).ld, (fM l (.string x.s)).hn, (fM l (.string x.s)).hd⟩, true)
    else if (bnL l x.kids).any (fun r => !r.2) then (bd0, false) else bnC x.k (bnL l x.kids) := by cases x; simp only [bnE, Ex.k, Ex.s, Ex.n, Ex.d, Ex.kids]; rfl
noncomputable def orcBn (l : List Fc) : Oracle := fun f a => match f, a with
  | 46, [_, e] => some (.tup [bdD (bnE l (rdE e)).1, db (bnE l (rdE e)).2])
  | 87, [.agg [.con (.int .i64 a), _, .con (.int .i64 c), _]] => some (di (sgnI a c))
  | 94, [fr a b, fr c d] => some (fr (leN a b c d) (leD a b c d))
  | 95, [fr a b, fr c d] => some (fr (grN a b c d) (grD a b c d))
  | _, _ => none
noncomputable def orcBn2 (l : List Fc) : Oracle := fun f a => match f, a with
  | 88, [.agg [.con (.int .i64 a), .con (.int .i64 b), .con (.int .i64 c), .con (.int .i64 d)], .agg [.con (.int .i64 e), .con (.int .i64 f), .con (.int .i64 g), .con (.int .i64 h)], .con (.func (.func 89) #[] #[])] => some (.tup [bdD (cnB subF ⟨a, b, c, d⟩ ⟨e, f, g, h⟩), db (!cnBad subF ⟨a, b, c, d⟩ ⟨e, f, g, h⟩)])
  | 88, [.agg [.con (.int .i64 a), .con (.int .i64 b), .con (.int .i64 c), .con (.int .i64 d)], .agg [.con (.int .i64 e), .con (.int .i64 f), .con (.int .i64 g), .con (.int .i64 h)], .con (.func (.func 92) #[] #[])] => some (.tup [bdD (cnB mulF ⟨a, b, c, d⟩ ⟨e, f, g, h⟩), db (!cnBad mulF ⟨a, b, c, d⟩ ⟨e, f, g, h⟩)])
  | 88, [.agg [.con (.int .i64 a), .con (.int .i64 b), .con (.int .i64 c), .con (.int .i64 d)], .agg [.con (.int .i64 e), .con (.int .i64 f), .con (.int .i64 g), .con (.int .i64 h)], .con (.func (.func 93) #[] #[])] => some (.tup [bdD (cnB divF ⟨a, b, c, d⟩ ⟨e, f, g, h⟩), db (!cnBad divF ⟨a, b, c, d⟩ ⟨e, f, g, h⟩)])
  | 90, [.agg [.con (.int .i64 a), .con (.int .i64 b), .con (.int .i64 c), .con (.int .i64 d)], .agg [.con (.int .i64 e), .con (.int .i64 f), .con (.int .i64 g), .con (.int .i64 h)], .con (.func (.func 91) #[] #[])] => some (.tup [bdD (betB (addF a b e f) (addF c d g h)), db (betO (addF a b e f) (addF c d g h))])
  | 90, [.agg [.con (.int .i64 a), .con (.int .i64 b), .con (.int .i64 c), .con (.int .i64 d)], .agg [.con (.int .i64 e), .con (.int .i64 f), .con (.int .i64 g), .con (.int .i64 h)], .con (.func (.func 89) #[] #[])] => some (.tup [bdD (betB (subF a b e f) (subF c d g h)), db (betO (subF a b e f) (subF c d g h))])
  | 87, [.agg [.con (.int .i64 a), _, .con (.int .i64 c), _]] => some (di (sgnI a c))
  | 94, [fr a b, fr c d] => some (fr (leN a b c d) (leD a b c d))
  | 95, [fr a b, fr c d] => some (fr (grN a b c d) (grD a b c d))
  | _, _ => none
abbrev bdK : RK := ⟨true, 84, false, none⟩
def rowB4 (l : List Fc) (x : Ex) : Nat → Nat → DV := rowRec (fun _ => DV.con undef) true 4 fun j => [di (bnE l (x.kids.getD j ex0)).1.a, di (bnE l (x.kids.getD j ex0)).1.b, di (bnE l (x.kids.getD j ex0)).1.c, di (bnE l (x.kids.getD j ex0)).1.d]
theorem rowB_next {l : List Fc} {x : Ex} (k : Nat) {p q r t : Int} (hp : p = (bnE l (x.kids.getD k ex0)).1.a) (hq : q = (bnE l (x.kids.getD k ex0)).1.b) (hr : r = (bnE l (x.kids.getD k ex0)).1.c) (ht : t = (bnE l (x.kids.getD k ex0)).1.d) : (fun i => bif Nat.blt i k then rowB4 l x k i else elemF true 4 [di p, di q, di r, di t] (i - k)) = rowB4 l x (k + 1) := by
  subst hp; subst hq; subst hr; subst ht; rfl
noncomputable def S46 (l : List Fc) (ws : List ByteArray) (m : Nat) (x : Ex) (k : Nat) : AS := ⟨regs Tryz.f46.ntmps [(0, .d (wrD l ws)), (3, .box 3 0), (4, .box 4 0), (6, .vec 900 4 0 k), (45, .d (.slc 6 x.kids.length (lay (exG m) x.kids))), (46, vi x.kids.length), (47, vi k)], [(3, exC m x), (4, [vi 0, vi 0, vi 0, vi 0]), (900, [.arr bdK 4 (rowB4 l x k)])]⟩
def bdF (R : List BR) (i : Nat) : DV := bdD (R.getD i (bd0, true)).1
def fbA (mx : Bool) (R : List BR) (k : Nat) : Int := (foldB mx R k).a
def fbB (mx : Bool) (R : List BR) (k : Nat) : Int := (foldB mx R k).b
def fbC (mx : Bool) (R : List BR) (k : Nat) : Int := (foldB mx R k).c
def fbD (mx : Bool) (R : List BR) (k : Nat) : Int := (foldB mx R k).d
noncomputable def S46f (mx : Bool) (R : List BR) (n k : Nat) : AS := ⟨regs Tryz.f46.ntmps [(4, .box 4 0), (12, .d (.con (.func (.func (if mx then 95 else 94)) #[] #[]))), (13, .box 13 0), (141, .d (.slc 4 n (bdF R))), (142, vi n), (143, vi k)], [(13, [vi (fbA mx R k), vi (fbB mx R k), vi (fbC mx R k), vi (fbD mx R k)]), (4, [vi 0, vi 0, vi 0, vi 0])]⟩
section
variable {k : Int} {R : List BR}
theorem bnC_5 (h : k = 5) : bnC k R = (cnB subF ⟨0, 1, 0, 1⟩ (R.getD 0 (bd0, true)).1, !cnBad subF ⟨0, 1, 0, 1⟩ (R.getD 0 (bd0, true)).1) := by subst h; rfl
theorem bnC_6 (h : k = 6) : bnC k R = (betB (addF (R.getD 0 (bd0, true)).1.a (R.getD 0 (bd0, true)).1.b (R.getD 1 (bd0, true)).1.a (R.getD 1 (bd0, true)).1.b) (addF (R.getD 0 (bd0, true)).1.c (R.getD 0 (bd0, true)).1.d (R.getD 1 (bd0, true)).1.c (R.getD 1 (bd0, true)).1.d), betO (addF (R.getD 0 (bd0, true)).1.a (R.getD 0 (bd0, true)).1.b (R.getD 1 (bd0, true)).1.a (R.getD 1 (bd0, true)).1.b) (addF (R.getD 0 (bd0, true)).1.c (R.getD 0 (bd0, true)).1.d (R.getD 1 (bd0, true)).1.c (R.getD 1 (bd0, true)).1.d)) := by subst h; rfl
theorem bnC_7 (h : k = 7) : bnC k R = (betB (subF (R.getD 0 (bd0, true)).1.a (R.getD 0 (bd0, true)).1.b (R.getD 1 (bd0, true)).1.c (R.getD 1 (bd0, true)).1.d) (subF (R.getD 0 (bd0, true)).1.c (R.getD 0 (bd0, true)).1.d (R.getD 1 (bd0, true)).1.a (R.getD 1 (bd0, true)).1.b), betO (subF (R.getD 0 (bd0, true)).1.a (R.getD 0 (bd0, true)).1.b (R.getD 1 (bd0, true)).1.c (R.getD 1 (bd0, true)).1.d) (subF (R.getD 0 (bd0, true)).1.c (R.getD 0 (bd0, true)).1.d (R.getD 1 (bd0, true)).1.a (R.getD 1 (bd0, true)).1.b)) := by subst h; rfl
theorem bnC_8 (h : k = 8) : bnC k R = (cnB mulF (R.getD 0 (bd0, true)).1 (R.getD 1 (bd0, true)).1, !cnBad mulF (R.getD 0 (bd0, true)).1 (R.getD 1 (bd0, true)).1) := by subst h; rfl
theorem bnC_9 (h : k = 9) : bnC k R = if sgnI (R.getD 1 (bd0, true)).1.a (R.getD 1 (bd0, true)).1.c = 0 then (bd0, false) else (cnB divF (R.getD 0 (bd0, true)).1 (R.getD 1 (bd0, true)).1, !cnBad divF (R.getD 0 (bd0, true)).1 (R.getD 1 (bd0, true)).1) := by subst h; rfl
theorem bnC_z (h : k = 10 ∨ k = 11) : bnC k R = (foldB (decide (k = 11)) R R.length, true) := by rcases h with rfl | rfl <;> rfl
end
theorem f46 (l : List Fc) (ws : List ByteArray) (m : Nat) : ∀ (x : Ex), ht x ≤ m → Sm x → sndE x = true → numE x = true → FnOK Tryz.prog G 46 [wrD l ws, exD m x] (.tup [bdD (bnE l x).1, db (bnE l x).2]) := by
  induction m using Nat.strongRecOn with
  | _ m ih =>
  intro x hx hs hsn hnu
  have hlen := hs.len.1
  have h46 : ∀ i, i < x.kids.length → FnOK Tryz.prog G 46 [wrD l ws, kidA m x i] (.tup [bdD (bnE l (x.kids.getD i ex0)).1, db (bnE l (x.kids.getD i ex0)).2]) := fun i hi =>
    kidOK (Q := fun d => FnOK Tryz.prog G 46 [wrD l ws, d] _) hx hi fun m' h1 h2 => ih m' h1 _ h2 (hs.kid hi) (snd_kid hsn hi) (numE_kid hnu hi)
  have eb := bnE_eq l x
  refine FnOK.walk (orc := orcBn l) (keep := []) follows Tryz.func46 rfl Tryz.call46 ?_
  refine of_tr (fun ZT ZW ZQ _ => (fun Za => ((((x.k == 1) = true) → (((.tup [(.agg [(di x.n), (di x.d), (di x.n), (di x.d)]), (db true)]) : DV) = (.tup [(bdD (bnE l x).fst), (db (bnE l x).snd)]))) ∧ (((x.k == 1) = false) → ((((x.k == 2) = true) → (((((fH l (Value.string x.s)) = false) → Za) ∧ (((fH l (Value.string x.s)) = false) → Za)) ∧ ((.tup [(.agg [(di (fM l (Value.string x.s)).ln), (di (fM l (Value.string x.s)).ld), (di (fM l (Value.string x.s)).hn), (di (fM l (Value.string x.s)).hd)]), (db true)]) : DV) = (.tup [(bdD (bnE l x).fst), (db (bnE l x).snd)]))) ∧ (((x.k == 2) = false) → ZW [cd Tryz.f46 [1, 1, 1, 0, 1, 0], (.blk 1), cd Tryz.f46 [1, 1, 1, 1]] (stS ZT [1, 1]) ZQ))))) ((DV.agg (List.map DV.con [Value.string (ByteArray.mk #[]), Value.int IntKind.i64 0, Value.int IntKind.i64 0, Value.int IntKind.i64 0, Value.int IntKind.i64 0, Value.int IntKind.i64 0, Value.slice none 0 0])).imp (fV l (Value.string x.s)))) (by kernel_rfl) ?_
  simp only [beq_iff_eq, beq_eq_false_iff_ne, ne_eq]
  refine ⟨fun k1' => ?_, fun k1' => ⟨fun k2' => ⟨⟨fun h => zd_imp h, fun h => zd_imp h⟩, ?_⟩, fun k2' => ?_⟩⟩
  · rw [eb, if_pos k1']
  · rw [eb, if_neg k1', if_pos k2']
  rw [if_neg k1', if_neg k2'] at eb
  refine AWP.pre (.nilRow _ 6 900 4 bdK (rowB4 l x 0) (by kernel_rfl) (by kernel_rfl)) ?_
  refine AWP.loop (c := cAt (bodyOf Tryz.f46) [1, 1, 1, 0, 1, 0, 0]) (by kernel_rfl) (S46 l ws m x) (fun k => k ≤ x.kids.length ∧ ∀ i, i < k → (bnE l (x.kids.getD i ex0)).2 = true) (fun k => x.kids.length - k) 0 ?_ ⟨Nat.zero_le _, fun i hi => absurd hi (Nat.not_lt_zero _)⟩ ?_
  · exact AS.leA (by kernel_rfl)
  · rintro k ⟨hk, hkd⟩
    refine walk (orc := orcBn l) (keep := []) (cuts := []) (n := 1000) follows ?_
    refine of_eqH5 (bnE l (rdE (ndA m (x.kids.getD (↑k : Int).toNat ex0)))) (x.kids.getD (↑k : Int).toNat ex0) ((.ptr [(.mp none (fV l) (fH l)), (.mp none (wV ws) (wL ws))]) : DV) ((.d (.slc 6 x.kids.length (lay (exG m) x.kids))) : AV) (decide ((↑k : Int) < ↑x.kids.length)) (fun Za Zb Zc Zd Ze => (((Ze = true) → (((0 ≤ (↑k : Int)) ∧ ((↑k : Int) < ↑x.kids.length)) ∧ FnOK Tryz.prog G 46 [Zc, (ndA m Zb)] (.tup [(bdD Za.fst), (db Za.snd)]) ∧ (((!Za.snd) = true) → (((.tup [(.agg [(di 0), (di 0), (di 0), (di 0)]), (db false)]) : DV) = (.tup [(bdD (bnE l x).fst), (db (bnE l x).snd)]))) ∧ (((!Za.snd) = false) → (((((k + 1) * 32 ≤ 1099511627776) ∧ (k + 1 ≤ 1099511627776)) ∧ (∀ (i : Nat), i < 1 → elemOK true 4 (elemF true 4 [DV.con (Value.int IntKind.i64 Za.fst.a), DV.con (Value.int IntKind.i64 Za.fst.b), DV.con (Value.int IntKind.i64 Za.fst.c), DV.con (Value.int IntKind.i64 Za.fst.d)] i) = true)) ∧ (I64 (↑k + 1)) ∧ Again (S46 l ws m x) (fun k => k ≤ x.kids.length ∧ ∀ (i : Nat), i < k → (bnE l (x.kids.getD i ex0)).snd = true) (fun k => x.kids.length - k) k ⟨regs 162 [(0, (.d Zc)), (3, (.box 3 0)), (4, (.box 4 0)), (6, (.vec 63 4 0 (k + 1))), (8, (.box 8 0)), (9, (.box 9 0)), (10, (vb Za.snd)), (45, Zd), (46, (vi (↑x.kids.length))), (47, (vi (↑k + 1))), (48, (vb Ze)), (49, (.d (.ptr [(di Zb.k), (ds Zb.s), (di Zb.n), (di Zb.d), (di Zb.pos), (.slc 6 Zb.kids.length (exG m Zb.kids))]))), (50, (.d (ndA m Zb))), (51, (.d (.tup [(bdD Za.fst), (db Za.snd)]))), (52, (.d Zc)), (53, (.d (ndA m Zb))), (54, (.d (.tup [(bdD Za.fst), (db Za.snd)]))), (55, (.d (bdD Za.fst))), (56, (vb Za.snd)), (57, (vb Za.snd)), (58, (vb (!Za.snd))), (60, (.vec 900 4 0 k)), (61, (.d (bdD Za.fst))), (62, (.d (.slc 4 1 (elemF true 4 [(di Za.fst.a), (di Za.fst.b), (di Za.fst.c), (di Za.fst.d)])))), (63, (.vec 63 4 0 (k + 1))), (64, (vi (↑k + 1)))], [(63, [(.arr ⟨true, 84, false, none⟩ 4 (fun i => bif i.blt k then rowB4 l x k i else elemF true 4 [DV.con (Value.int IntKind.i64 Za.fst.a), DV.con (Value.int IntKind.i64 Za.fst.b), DV.con (Value.int IntKind.i64 Za.fst.c), DV.con (Value.int IntKind.i64 Za.fst.d)] (i - k)))]), (9, [(vi Za.fst.a), (vi Za.fst.b), (vi Za.fst.c), (vi Za.fst.d)]), (8, [(vi Zb.k), (vs Zb.s), (vi Zb.n), (vi Zb.d), (vi Zb.pos), (.d (.slc 6 Zb.kids.length (exG m Zb.kids)))]), (3, [(vi x.k), (vs x.s), (vi x.n), (vi x.d), (vi x.pos), Zd]), (4, [(vi 0), (vi 0), (vi 0), (vi 0)]), (900, [.dead])]⟩)))) ∧ ((Ze = false) → AWP Tryz.prog G [cd Tryz.f46 [1, 1, 1, 1]] ⟨regs 162 [(0, (.d Zc)), (3, (.box 3 0)), (4, (.box 4 0)), (6, (.vec 900 4 0 k)), (45, Zd), (46, (vi (↑x.kids.length))), (47, (vi (↑k))), (48, (vb Ze))], [(3, [(vi x.k), (vs x.s), (vi x.n), (vi x.d), (vi x.pos), Zd]), (4, [(vi 0), (vi 0), (vi 0), (vi 0)]), (900, [(.arr ⟨true, 84, false, none⟩ 4 (rowB4 l x k))])]⟩ (Ret Tryz.prog Tryz.f46 (DV.tup [bdD (bnE l x).fst, db (bnE l x).snd]))))) (by kernel_rfl) ?_
    simp only [Int.toNat_natCast]
    refine ⟨fun h => ?_, fun h => ?_⟩
    · have hk2 : k < x.kids.length := by have := of_decide_eq_true h; omega
      have er : rdE (kidA m x k) = x.kids.getD k ex0 := kid_rd hx hk2
      have hh := h46 k hk2
      simp only [er]
      refine ⟨⟨by omega, by omega⟩, hh, fun h2 => ?_, fun h2 => ⟨⟨⟨by omega, by omega⟩, fun i hi => (by obtain rfl : i = 0 := (by omega); rfl)⟩, ⟨by omega, by omega⟩, Again.mkR [(63, 900)] rfl (k + 1) ?_ ⟨hk2, fun i hi => ?_⟩ (by omega)⟩⟩
      · rw [Bool.not_eq_true'] at h2
        have : ((bnL l x.kids).any fun r => !r.2) = true := by
          rw [List.any_eq_true, bnL_map]
          refine ⟨bnE l (x.kids.getD k ex0), List.mem_map.2 ⟨_, ?_, rfl⟩, by rw [h2]; rfl⟩
          rw [List.getD, List.getElem?_eq_getElem hk2]
          exact List.getElem_mem hk2
        rw [eb, if_pos this]
      · refine of_eq1 ((.d (.slc 6 x.kids.length (lay (exG m) x.kids))) : AV) (fun Za => ((((.d (.ptr [(.mp none (fV l) (fH l)), (.mp none (wV ws) (wL ws))])) : AV) = (.d (.ptr [(.mp none (fV l) (fH l)), (.mp none (wV ws) (wL ws))])) ∧ ((.box 3 0) : AV) = (.box 3 0) ∧ ((.box 4 0) : AV) = (.box 4 0) ∧ ((.vec 900 4 0 (k + 1)) : AV) = (.vec 900 4 0 (k + 1)) ∧ (Za : AV) = Za ∧ ((vi (↑x.kids.length)) : AV) = (vi (↑x.kids.length)) ∧ ((vi (↑k + 1)) : AV) = (vi (↑(k + 1))) ∧ True) ∧ ((some [(vi x.k), (vs x.s), (vi x.n), (vi x.d), (vi x.pos), Za]) : (Option (List AV))) = (some [(vi x.k), (vs x.s), (vi x.n), (vi x.d), (vi x.pos), Za]) ∧ ((some [(vi 0), (vi 0), (vi 0), (vi 0)]) : (Option (List AV))) = (some [(vi 0), (vi 0), (vi 0), (vi 0)]) ∧ ((some [(.arr ⟨true, 84, false, none⟩ 4 (fun i => bif i.blt k then rowB4 l x k i else elemF true 4 [DV.con (Value.int IntKind.i64 (bnE l (x.kids.getD k ex0)).fst.a), DV.con (Value.int IntKind.i64 (bnE l (x.kids.getD k ex0)).fst.b), DV.con (Value.int IntKind.i64 (bnE l (x.kids.getD k ex0)).fst.c), DV.con (Value.int IntKind.i64 (bnE l (x.kids.getD k ex0)).fst.d)] (i - k)))]) : (Option (List AV))) = (some [(.arr ⟨true, 84, false, none⟩ 4 (rowB4 l x (k + 1)))]) ∧ True)) (by kernel_rfl) ?_
        refine ⟨⟨rfl, rfl, rfl, rfl, rfl, rfl, rfl, trivial⟩, rfl, rfl, ?_, trivial⟩
        exact congrArg (fun f => some [AV.arr bdK 4 f]) (rowB_next k rfl rfl rfl rfl)
      · rcases Nat.lt_or_ge i k with h4 | h4
        · exact hkd i h4
        · obtain rfl : i = k := by omega
          simpa using h2
    · simp only [decide_eq_false_iff_not] at h
      obtain rfl : k = x.kids.length := by omega
      have hany : ((bnL l x.kids).any fun r => !r.2) = false := by
        rw [List.any_eq_false, bnL_map]
        intro r hr
        obtain ⟨y, hy, rfl⟩ := List.mem_map.1 hr
        obtain ⟨i, hi, rfl⟩ := List.getElem_of_mem hy
        have := hkd i hi
        rw [List.getD, List.getElem?_eq_getElem hi] at this
        rw [show (bnE l x.kids[i]).2 = true from this]; decide
      rw [hany, if_neg (by decide)] at eb
      rw [eb]
      have hRl : (bnL l x.kids).length = x.kids.length := by rw [bnL_map, List.length_map]
      refine AWP.freeze (agg := bdK) (sz := 4) (f := rowB4 l x x.kids.length) 900 (by kernel_rfl) ?_
      refine AWP.pre (.reg _ 6 (.d (.slc 4 x.kids.length (bdF (bnL l x.kids)))) fun β h v hv => DV.rel_slc_congr (f := fun i => rowB4 l x x.kids.length (0 + i)) (fun i hi => ?_) hv) ?_
      · rw [Nat.zero_add]
        unfold rowB4 bdF
        rw [rowRec_get hi, bnL_get hi]; rfl
      have hone := @snd_one x hsn
      have htwo := @snd_two x hsn
      have hmany := @snd_many x hsn
      have hkn := numE_k hnu
      generalize bnL l x.kids = R at *
      have hc : 5 ≤ x.k ∧ x.k ≤ 11 := by omega
      have k1 : x.k = 5 → 1 ≤ x.kids.length := fun h => by have := hone (.inl h); omega
      have k2 : x.k = 6 ∨ x.k = 7 ∨ x.k = 8 ∨ x.k = 9 → 2 ≤ x.kids.length := fun h => by have := (htwo (by omega)).1; omega
      have k10 : x.k = 10 ∨ x.k = 11 → 1 ≤ x.kids.length := hmany
      have t0 : Int.toNat 0 = 0 := rfl
      have t1 : Int.toNat 1 = 1 := rfl
      clear eb hany hkd h46 ih hk h hkn k1' k2' hsn hnu hs hone htwo hmany
      generalize hxl : x.kids.length = xl at *
      refine walkK (orc := orcBn2 l) (keep := []) (cuts := []) (n := 1000) follows ?_
      refine of_tr (fun ZT ZW ZQ ZK => (fun Za Zb Zc => ((((x.k == 5) = true) → (((((0 : Int) ≤ (0 : Int)) ∧ (0 < (↑xl : Int))) ∧ ZK 88 [(.agg [(di 0), (di 1), (di 0), (di 1)]), (bdD Za.fst), (.con (.func (.func 89) ⟨[]⟩ ⟨[]⟩))] (.tup [(bdD (cnB subF (Bd.mk 0 1 0 1) (Bd.mk Za.fst.a Za.fst.b Za.fst.c Za.fst.d))), (db (!cnBad subF (Bd.mk 0 1 0 1) (Bd.mk Za.fst.a Za.fst.b Za.fst.c Za.fst.d)))])) ∧ ((.tup [(bdD (cnB subF (Bd.mk 0 1 0 1) (Bd.mk Za.fst.a Za.fst.b Za.fst.c Za.fst.d))), (db (!cnBad subF (Bd.mk 0 1 0 1) (Bd.mk Za.fst.a Za.fst.b Za.fst.c Za.fst.d)))]) : DV) = Zc)) ∧ (((x.k == 5) = false) → ((((x.k == 6) = true) → (((((0 : Int) ≤ (0 : Int)) ∧ (0 < (↑xl : Int))) ∧ (((0 : Int) ≤ (1 : Int)) ∧ (1 < (↑xl : Int))) ∧ ZK 90 [(bdD Za.fst), (bdD Zb.fst), (.con (.func (.func 91) ⟨[]⟩ ⟨[]⟩))] (.tup [(.agg [(di (addF Za.fst.a Za.fst.b Zb.fst.a Zb.fst.b).fst), (di (addF Za.fst.a Za.fst.b Zb.fst.a Zb.fst.b).snd.fst), (di (addF Za.fst.c Za.fst.d Zb.fst.c Zb.fst.d).fst), (di (addF Za.fst.c Za.fst.d Zb.fst.c Zb.fst.d).snd.fst)]), (db (betO (addF Za.fst.a Za.fst.b Zb.fst.a Zb.fst.b) (addF Za.fst.c Za.fst.d Zb.fst.c Zb.fst.d)))])) ∧ ((.tup [(.agg [(di (addF Za.fst.a Za.fst.b Zb.fst.a Zb.fst.b).fst), (di (addF Za.fst.a Za.fst.b Zb.fst.a Zb.fst.b).snd.fst), (di (addF Za.fst.c Za.fst.d Zb.fst.c Zb.fst.d).fst), (di (addF Za.fst.c Za.fst.d Zb.fst.c Zb.fst.d).snd.fst)]), (db (betO (addF Za.fst.a Za.fst.b Zb.fst.a Zb.fst.b) (addF Za.fst.c Za.fst.d Zb.fst.c Zb.fst.d)))]) : DV) = Zc)) ∧ (((x.k == 6) = false) → ((((x.k == 7) = true) → (((((0 : Int) ≤ (0 : Int)) ∧ (0 < (↑xl : Int))) ∧ (((0 : Int) ≤ (1 : Int)) ∧ (1 < (↑xl : Int))) ∧ (((0 : Int) ≤ (1 : Int)) ∧ (1 < (↑xl : Int))) ∧ ZK 90 [(bdD Za.fst), (.agg [(di Zb.fst.c), (di Zb.fst.d), (di Zb.fst.a), (di Zb.fst.b)]), (.con (.func (.func 89) ⟨[]⟩ ⟨[]⟩))] (.tup [(.agg [(di (subF Za.fst.a Za.fst.b Zb.fst.c Zb.fst.d).fst), (di (subF Za.fst.a Za.fst.b Zb.fst.c Zb.fst.d).snd.fst), (di (subF Za.fst.c Za.fst.d Zb.fst.a Zb.fst.b).fst), (di (subF Za.fst.c Za.fst.d Zb.fst.a Zb.fst.b).snd.fst)]), (db (betO (subF Za.fst.a Za.fst.b Zb.fst.c Zb.fst.d) (subF Za.fst.c Za.fst.d Zb.fst.a Zb.fst.b)))])) ∧ ((.tup [(.agg [(di (subF Za.fst.a Za.fst.b Zb.fst.c Zb.fst.d).fst), (di (subF Za.fst.a Za.fst.b Zb.fst.c Zb.fst.d).snd.fst), (di (subF Za.fst.c Za.fst.d Zb.fst.a Zb.fst.b).fst), (di (subF Za.fst.c Za.fst.d Zb.fst.a Zb.fst.b).snd.fst)]), (db (betO (subF Za.fst.a Za.fst.b Zb.fst.c Zb.fst.d) (subF Za.fst.c Za.fst.d Zb.fst.a Zb.fst.b)))]) : DV) = Zc)) ∧ (((x.k == 7) = false) → ((((x.k == 8) = true) → (((((0 : Int) ≤ (0 : Int)) ∧ (0 < (↑xl : Int))) ∧ (((0 : Int) ≤ (1 : Int)) ∧ (1 < (↑xl : Int))) ∧ ZK 88 [(bdD Za.fst), (bdD Zb.fst), (.con (.func (.func 92) ⟨[]⟩ ⟨[]⟩))] (.tup [(bdD (cnB mulF (Bd.mk Za.fst.a Za.fst.b Za.fst.c Za.fst.d) (Bd.mk Zb.fst.a Zb.fst.b Zb.fst.c Zb.fst.d))), (db (!cnBad mulF (Bd.mk Za.fst.a Za.fst.b Za.fst.c Za.fst.d) (Bd.mk Zb.fst.a Zb.fst.b Zb.fst.c Zb.fst.d)))])) ∧ ((.tup [(bdD (cnB mulF (Bd.mk Za.fst.a Za.fst.b Za.fst.c Za.fst.d) (Bd.mk Zb.fst.a Zb.fst.b Zb.fst.c Zb.fst.d))), (db (!cnBad mulF (Bd.mk Za.fst.a Za.fst.b Za.fst.c Za.fst.d) (Bd.mk Zb.fst.a Zb.fst.b Zb.fst.c Zb.fst.d)))]) : DV) = Zc)) ∧ (((x.k == 8) = false) → ((((x.k == 9) = true) → (((((0 : Int) ≤ (1 : Int)) ∧ (1 < (↑xl : Int))) ∧ ZK 87 [(bdD Zb.fst)] (di (sgnI Zb.fst.a Zb.fst.c))) ∧ (((sgnI Zb.fst.a Zb.fst.c == 0) = true) → (((.tup [(.agg [(di 0), (di 0), (di 0), (di 0)]), (db false)]) : DV) = Zc)) ∧ (((sgnI Zb.fst.a Zb.fst.c == 0) = false) → (((((0 : Int) ≤ (0 : Int)) ∧ (0 < (↑xl : Int))) ∧ (((0 : Int) ≤ (1 : Int)) ∧ (1 < (↑xl : Int))) ∧ ZK 88 [(bdD Za.fst), (bdD Zb.fst), (.con (.func (.func 93) ⟨[]⟩ ⟨[]⟩))] (.tup [(bdD (cnB divF (Bd.mk Za.fst.a Za.fst.b Za.fst.c Za.fst.d) (Bd.mk Zb.fst.a Zb.fst.b Zb.fst.c Zb.fst.d))), (db (!cnBad divF (Bd.mk Za.fst.a Za.fst.b Za.fst.c Za.fst.d) (Bd.mk Zb.fst.a Zb.fst.b Zb.fst.c Zb.fst.d)))])) ∧ ((.tup [(bdD (cnB divF (Bd.mk Za.fst.a Za.fst.b Za.fst.c Za.fst.d) (Bd.mk Zb.fst.a Zb.fst.b Zb.fst.c Zb.fst.d))), (db (!cnBad divF (Bd.mk Za.fst.a Za.fst.b Za.fst.c Za.fst.d) (Bd.mk Zb.fst.a Zb.fst.b Zb.fst.c Zb.fst.d)))]) : DV) = Zc)))) ∧ (((x.k == 9) = false) → ((((x.k == 11) = true) → ((((0 : Int) ≤ (0 : Int)) ∧ (0 < (↑xl : Int))) ∧ ZW [cd Tryz.f46 [1, 1, 1, 1, 1, 1, 1, 1, 1, 0, 1, 0], (.blk 4), cd Tryz.f46 [1, 1, 1, 1, 1, 1, 1, 1, 1, 1]] (stS ZT [1, 1, 1, 1, 1, 0]) ZQ)) ∧ (((x.k == 11) = false) → ((((0 : Int) ≤ (0 : Int)) ∧ (0 < (↑xl : Int))) ∧ ZW [cd Tryz.f46 [1, 1, 1, 1, 1, 1, 1, 1, 1, 0, 1, 0], (.blk 4), cd Tryz.f46 [1, 1, 1, 1, 1, 1, 1, 1, 1, 1]] (stS ZT [1, 1, 1, 1, 1, 1]) ZQ)))))))))))))) (R.getD (Int.toNat 0) (bd0, true)) (R.getD (Int.toNat 1) (bd0, true)) ((.tup [(bdD (bnC x.k R).fst), (db (bnC x.k R).snd)]) : DV)) (by kernel_rfl) ?_
      simp only [beq_iff_eq, beq_eq_false_iff_ne, ne_eq, t0, t1]
      repeat' (first | (with_reducible refine And.intro ?_ ?_) | (with_reducible intro _))
      all_goals first
        | contradiction
        | (exfalso; omega)
        | (show (0:Int) ≤ _; omega)
        | (show (1:Int) < _; omega)
        | (show (0:Int) < _; omega)
        | exact f88s ⟨0, 1, 0, 1⟩ _
        | exact f88m _ _
        | exact f88d _ _
        | exact f90a _ _
        | exact f90s ⟨_, _, _, _⟩ ⟨_, _, _, _⟩
        | exact f87 _ _ _ _
        | rw [bnC_5 (by assumption)]
        | (rw [bnC_6 (by assumption)]; rfl)
        | (rw [bnC_7 (by assumption)]; rfl)
        | rw [bnC_8 (by assumption)]
        | (rw [bnC_9 (by assumption), if_pos (by assumption)])
        | (rw [bnC_9 (by assumption), if_neg (by assumption)])
        | skip
      · refine AWP.loop (c := cAt (bodyOf Tryz.f46) [1, 1, 1, 1, 1, 1, 1, 1, 1, 0, 1, 0, 0]) (by kernel_rfl) (S46f true R xl) (fun k => k ≤ xl) (fun k => xl - k) 0 ?_ (Nat.zero_le _) ?_
        · refine AS.leZ [1] [0] (b := ((T0 ∧ ((.d (.con (.func (.func 95) ⟨[]⟩ ⟨[]⟩))) : AV) = (.d (.con (.func (.func (if true = true then 95 else 94)) ⟨[]⟩ ⟨[]⟩))) ∧ T0 ∧ T0 ∧ T0 ∧ T0 ∧ True) ∧ ((some [(vi (R.getD (Int.toNat 0) (bd0, true)).fst.a), (vi (R.getD (Int.toNat 0) (bd0, true)).fst.b), (vi (R.getD (Int.toNat 0) (bd0, true)).fst.c), (vi (R.getD (Int.toNat 0) (bd0, true)).fst.d)]) : (Option (List AV))) = (some [(vi (fbA true R 0)), (vi (fbB true R 0)), (vi (fbC true R 0)), (vi (fbD true R 0))]) ∧ T0 ∧ True)) (by kernel_rfl) (by kernel_rfl) ?_
          exact ⟨⟨rfl, rfl, rfl, rfl, rfl, rfl, trivial⟩, rfl, rfl, trivial⟩
        · intro k hk
          refine walkK (orc := orcBn2 l) (keep := []) (cuts := []) (n := 1000) follows ?_
          refine of_rd (fun ZT ZW ZQ ZK ZA _ => (fun Za => ((((decide ((↑k : Int) < ↑xl)) = true) → (((0 ≤ (↑k : Int)) ∧ ((↑k : Int) < ↑xl)) ∧ (ZK 95 [(.agg [(di (fbA true R k)), (di (fbB true R k))]), (.agg [(di Za.fst.a), (di Za.fst.b)])] (.agg [(di (grN (fbA true R k) (fbB true R k) Za.fst.a Za.fst.b)), (di (grD (fbA true R k) (fbB true R k) Za.fst.a Za.fst.b))]) ∧ ZK 95 [(.agg [(di (fbC true R k)), (di (fbD true R k))]), (.agg [(di Za.fst.c), (di Za.fst.d)])] (.agg [(di (grN (fbC true R k) (fbD true R k) Za.fst.c Za.fst.d)), (di (grD (fbC true R k) (fbD true R k) Za.fst.c Za.fst.d))])) ∧ (I64 (↑k + 1)) ∧ (ZA (stS ZT [0])))) ∧ (((decide ((↑k : Int) < ↑xl)) = false) → ZW [cd Tryz.f46 [1, 1, 1, 1, 1, 1, 1, 1, 1, 1]] (stS ZT [1]) ZQ))) (R.getD (↑k : Int).toNat (bd0, true))) (by kernel_rfl) ?_
          simp only [Int.toNat_natCast]
          refine ⟨fun h => ?_, fun h => ?_⟩
          · have hk2 : k < xl := by have := of_decide_eq_true h; omega
            refine ⟨⟨by omega, by omega⟩, ⟨f95 _ _ _ _, f95 _ _ _ _⟩, ⟨by omega, by omega⟩, Again.mk (k + 1) ?_ hk2 (by omega)⟩
            refine AS.leZ [] [0] (b := ((T0 ∧ T0 ∧ T0 ∧ T0 ∧ T0 ∧ T0 ∧ True) ∧ ((some [(vi (grN (fbA true R k) (fbB true R k) (R.getD (↑k : Int).toNat (bd0, true)).fst.a (R.getD (↑k : Int).toNat (bd0, true)).fst.b)), (vi (grD (fbA true R k) (fbB true R k) (R.getD (↑k : Int).toNat (bd0, true)).fst.a (R.getD (↑k : Int).toNat (bd0, true)).fst.b)), (vi (grN (fbC true R k) (fbD true R k) (R.getD (↑k : Int).toNat (bd0, true)).fst.c (R.getD (↑k : Int).toNat (bd0, true)).fst.d)), (vi (grD (fbC true R k) (fbD true R k) (R.getD (↑k : Int).toNat (bd0, true)).fst.c (R.getD (↑k : Int).toNat (bd0, true)).fst.d))]) : (Option (List AV))) = (some [(vi (fbA true R (k + 1))), (vi (fbB true R (k + 1))), (vi (fbC true R (k + 1))), (vi (fbD true R (k + 1)))]) ∧ T0 ∧ True)) (by kernel_rfl) (by kernel_rfl) ?_
            exact ⟨⟨rfl, rfl, rfl, rfl, rfl, rfl, trivial⟩, rfl, rfl, trivial⟩
          · have h := of_decide_eq_false h
            obtain rfl : k = xl := by omega
            refine walkK (orc := orcBn2 l) (keep := []) (cuts := []) (n := 1000) follows ?_
            refine of_tr (fun _ _ _ _ => (((.tup [(.agg [(di (fbA true R k)), (di (fbB true R k)), (di (fbC true R k)), (di (fbD true R k))]), (db true)]) : DV) = (.tup [(bdD (bnC x.k R).fst), (db (bnC x.k R).snd)]))) (by kernel_rfl) ?_
            rw [bnC_z (by omega), decide_eq_true (by omega), hRl]
            rfl
      · refine AWP.loop (c := cAt (bodyOf Tryz.f46) [1, 1, 1, 1, 1, 1, 1, 1, 1, 0, 1, 0, 0]) (by kernel_rfl) (S46f false R xl) (fun k => k ≤ xl) (fun k => xl - k) 0 ?_ (Nat.zero_le _) ?_
        · refine AS.leZ [1] [0] (b := ((T0 ∧ ((.d (.con (.func (.func 94) ⟨[]⟩ ⟨[]⟩))) : AV) = (.d (.con (.func (.func (if false = true then 95 else 94)) ⟨[]⟩ ⟨[]⟩))) ∧ T0 ∧ T0 ∧ T0 ∧ T0 ∧ True) ∧ ((some [(vi (R.getD (Int.toNat 0) (bd0, true)).fst.a), (vi (R.getD (Int.toNat 0) (bd0, true)).fst.b), (vi (R.getD (Int.toNat 0) (bd0, true)).fst.c), (vi (R.getD (Int.toNat 0) (bd0, true)).fst.d)]) : (Option (List AV))) = (some [(vi (fbA false R 0)), (vi (fbB false R 0)), (vi (fbC false R 0)), (vi (fbD false R 0))]) ∧ T0 ∧ True)) (by kernel_rfl) (by kernel_rfl) ?_
          exact ⟨⟨rfl, rfl, rfl, rfl, rfl, rfl, trivial⟩, rfl, rfl, trivial⟩
        · intro k hk
          refine walkK (orc := orcBn2 l) (keep := []) (cuts := []) (n := 1000) follows ?_
          refine of_rd (fun ZT ZW ZQ ZK ZA _ => (fun Za => ((((decide ((↑k : Int) < ↑xl)) = true) → (((0 ≤ (↑k : Int)) ∧ ((↑k : Int) < ↑xl)) ∧ (ZK 94 [(.agg [(di (fbA false R k)), (di (fbB false R k))]), (.agg [(di Za.fst.a), (di Za.fst.b)])] (.agg [(di (leN (fbA false R k) (fbB false R k) Za.fst.a Za.fst.b)), (di (leD (fbA false R k) (fbB false R k) Za.fst.a Za.fst.b))]) ∧ ZK 94 [(.agg [(di (fbC false R k)), (di (fbD false R k))]), (.agg [(di Za.fst.c), (di Za.fst.d)])] (.agg [(di (leN (fbC false R k) (fbD false R k) Za.fst.c Za.fst.d)), (di (leD (fbC false R k) (fbD false R k) Za.fst.c Za.fst.d))])) ∧ (I64 (↑k + 1)) ∧ (ZA (stS ZT [0])))) ∧ (((decide ((↑k : Int) < ↑xl)) = false) → ZW [cd Tryz.f46 [1, 1, 1, 1, 1, 1, 1, 1, 1, 1]] (stS ZT [1]) ZQ))) (R.getD (↑k : Int).toNat (bd0, true))) (by kernel_rfl) ?_
          simp only [Int.toNat_natCast]
          refine ⟨fun h => ?_, fun h => ?_⟩
          · have hk2 : k < xl := by have := of_decide_eq_true h; omega
            refine ⟨⟨by omega, by omega⟩, ⟨f94 _ _ _ _, f94 _ _ _ _⟩, ⟨by omega, by omega⟩, Again.mk (k + 1) ?_ hk2 (by omega)⟩
            refine AS.leZ [] [0] (b := ((T0 ∧ T0 ∧ T0 ∧ T0 ∧ T0 ∧ T0 ∧ True) ∧ ((some [(vi (leN (fbA false R k) (fbB false R k) (R.getD (↑k : Int).toNat (bd0, true)).fst.a (R.getD (↑k : Int).toNat (bd0, true)).fst.b)), (vi (leD (fbA false R k) (fbB false R k) (R.getD (↑k : Int).toNat (bd0, true)).fst.a (R.getD (↑k : Int).toNat (bd0, true)).fst.b)), (vi (leN (fbC false R k) (fbD false R k) (R.getD (↑k : Int).toNat (bd0, true)).fst.c (R.getD (↑k : Int).toNat (bd0, true)).fst.d)), (vi (leD (fbC false R k) (fbD false R k) (R.getD (↑k : Int).toNat (bd0, true)).fst.c (R.getD (↑k : Int).toNat (bd0, true)).fst.d))]) : (Option (List AV))) = (some [(vi (fbA false R (k + 1))), (vi (fbB false R (k + 1))), (vi (fbC false R (k + 1))), (vi (fbD false R (k + 1)))]) ∧ T0 ∧ True)) (by kernel_rfl) (by kernel_rfl) ?_
            exact ⟨⟨rfl, rfl, rfl, rfl, rfl, rfl, trivial⟩, rfl, rfl, trivial⟩
          · have h := of_decide_eq_false h
            obtain rfl : k = xl := by omega
            refine walkK (orc := orcBn2 l) (keep := []) (cuts := []) (n := 1000) follows ?_
            refine of_tr (fun _ _ _ _ => (((.tup [(.agg [(di (fbA false R k)), (di (fbB false R k)), (di (fbC false R k)), (di (fbD false R k))]), (db true)]) : DV) = (.tup [(bdD (bnC x.k R).fst), (db (bnC x.k R).snd)]))) (by kernel_rfl) ?_
            rw [bnC_z (by omega), decide_eq_false (by omega), hRl]
            rfl
end Go.Proofs
set_option autoImplicit false
namespace Go.Proofs
open Go Go.Ab Go.RowKit
set_option maxHeartbeats 4000000
set_option maxRecDepth 100000
variable {G : IH}
/-! A trend, seen with the sign of an expression. -/
def seeB (b : BR) (t : Int) : Int := if (b.2 && decide (b.1.a ≥ 0)) = true then t else if (b.2 && decide (b.1.c ≤ 0)) = true then oppI t else if t = 0 then t else 3
noncomputable def orcSe (l : List Fc) : Oracle := fun f a => match f, a with
  | 46, [_, e] => some (.tup [bdD (bnE l (rdE e)).1, db (bnE l (rdE e)).2])
  | 84, [.con (.int .i64 t)] => some (di (oppI t))
  | _, _ => none
theorem f86 (l : List Fc) (ws : List ByteArray) (m : Nat) (x : Ex) (t : Int) (hx : ht x ≤ m) (hs : Sm x) (hsn : sndE x = true) (hnu : numE x = true) : FnOK Tryz.prog G 86 [wrD l ws, di t, exD m x] (di (seeB (bnE l x) t)) := by
  have e : rdE (exV x.k x.s x.n x.d x.pos x.kids.length (lay (exG m) x.kids)) = x := rdE_eq hx
  refine FnOK.walk (orc := orcSe l) (keep := []) follows Tryz.func86 rfl Tryz.call86 ?_
  refine of_tr (fun _ _ _ ZK => (fun Za Zb => (ZK 46 [(.ptr [(.mp none (fV l) (fH l)), (.mp none (wV ws) (wL ws))]), (ndX m x)] (.tup [(bdD (bnE l (rdE (ndX m x))).fst), (db (bnE l (rdE (ndX m x))).snd)]) ∧ ((Za = true) → (((di t) : DV) = (di (seeB (bnE l x) t)))) ∧ ((Za = false) → (((Zb = true) → (ZK 84 [(di t)] (di (oppI t)) ∧ ((di (oppI t)) : DV) = (di (seeB (bnE l x) t)))) ∧ ((Zb = false) → ((((t == 0) = true) → (((di t) : DV) = (di (seeB (bnE l x) t)))) ∧ (((t == 0) = false) → (((di 3) : DV) = (di (seeB (bnE l x) t)))))))))) ((bnE l (rdE (ndX m x))).snd && decide ((bnE l (rdE (ndX m x))).fst.a ≥ 0)) ((bnE l (rdE (ndX m x))).snd && decide ((bnE l (rdE (ndX m x))).fst.c ≤ 0))) (by kernel_rfl) ?_
  simp only [e]
  unfold seeB
  refine ⟨f46 l ws m x hx hs hsn hnu, fun h => ?_, fun h => ⟨fun h2 => ⟨f84 _, ?_⟩, fun h2 => ⟨fun h3 => ?_, fun h3 => ?_⟩⟩⟩
  · rw [if_pos h]
  · rw [if_neg (by rw [h]; decide), if_pos h2]
  · rw [if_neg (by rw [h]; decide), if_neg (by rw [h2]; decide), if_pos (by simpa using h3)]
  · rw [if_neg (by rw [h]; decide), if_neg (by rw [h2]; decide), if_neg (by simpa using h3)]
/-! Bounds. -/
def bdsR (L : List Fc) (x : Ex) : BR := if ((typR L x).2.2 != 0 || (typR L x).1 != 0) = true then (bd0, false) else if (bnE (revF L L.length) x).2 = true then bnE (revF L L.length) x else (bd0, false)
noncomputable def orcBs (L : List Fc) : Oracle := fun f a => match f, a with
  | 13, [e, _] => some (.tup [di (typR L (rdE e)).1, di (typR L (rdE e)).2.1, di (typR L (rdE e)).2.2])
  | 41, [_] => some (wrL L)
  | 46, [_, e] => some (.tup [bdD (bnE (revF L L.length) (rdE e)).1, db (bnE (revF L L.length) (rdE e)).2])
  | _, _ => none
theorem typ_ok {L : List Fc} {x : Ex} (h : (typR L x).2.2 = 0) : vfB L = true ∧ fitE x = true ∧ sndE x = true ∧ (tyW L x).2.2 = 0 ∧ typR L x = ((tyW L x).1, 0, 0) := by
  unfold typR at h ⊢
  split at h
  · simp at h
  · rename_i h1
    split at h
    · exact absurd h (by assumption)
    · rename_i h2
      simp only [Bool.or_eq_true, Bool.not_eq_true', decide_eq_true_eq, not_or] at h1
      have hf : fitE x = true := by
        have h3 := h1.2
        unfold fmtX at h3
        cases hh : fitE x with
        | true => rfl
        | false => rw [hh] at h3; exact absurd rfl h3
      refine ⟨by simpa using h1.1, hf, ?_, by omega, ?_⟩
      · unfold fitE at hf
        simp only [Bool.and_eq_true] at hf
        first | exact hf.1.1 | exact hf.1
      · rw [if_neg (by simp only [Bool.or_eq_true, Bool.not_eq_true', decide_eq_true_eq, not_or]; exact h1), if_neg h2]
theorem f16 (hT : Tab G) (m : Nat) (x : Ex) (L : List Fc) (hx : ht x ≤ m) (hs : Sm x) (h : ∀ i, i < L.length → FcS (L.getD i fc0)) (hl : L.length ≤ 1000) : FnOK Tryz.prog G 16 [exD m x, fcsD L] (.tup [fr (bdsR L x).1.a (bdsR L x).1.b, fr (bdsR L x).1.c (bdsR L x).1.d, db (bdsR L x).2]) := by
  have e : rdE (exV x.k x.s x.n x.d x.pos x.kids.length (lay (exG m) x.kids)) = x := rdE_eq hx
  have hwd := fun i (hi : i < L.length) => (h i hi).ln
  refine FnOK.walk (orc := orcBs L) (keep := []) follows Tryz.func16 rfl Tryz.call16 ?_
  refine of_tr (fun _ _ _ ZK => (fun Za Zb Zc Zd Ze => (ZK 13 [(ndX m x), (.slc 7 L.length (fcF L))] (.tup [(di (typR L (rdE (ndX m x))).fst), (di (typR L (rdE (ndX m x))).snd.fst), (di (typR L (rdE (ndX m x))).snd.snd)]) ∧ ((Zd = true) → (Ze = Zb)) ∧ ((Zd = false) → ((ZK 41 [(.slc 7 L.length (fcF L))] Zc ∧ ZK 46 [Zc, (ndX m x)] (.tup [(bdD Za.fst), (db Za.snd)])) ∧ (((!Za.snd) = true) → (Ze = Zb)) ∧ (((!Za.snd) = false) → (((.tup [(.agg [(di Za.fst.a), (di Za.fst.b)]), (.agg [(di Za.fst.c), (di Za.fst.d)]), (db true)]) : DV) = Zb)))))) (bnE (revF L L.length) (rdE (ndX m x))) ((.tup [(fr (bdsR L x).fst.a (bdsR L x).fst.b), (fr (bdsR L x).fst.c (bdsR L x).fst.d), (db (bdsR L x).snd)]) : DV) ((.ptr [(.mp none (fV (revF L L.length)) (fH (revF L L.length))), (.mp none (wV (revW L L.length)) (wL (revW L L.length)))]) : DV) ((typR L (rdE (ndX m x))).snd.snd != 0 || (typR L (rdE (ndX m x))).fst != 0) ((.tup [(.agg [(di 0), (di 0)]), (.agg [(di 0), (di 0)]), (db false)]) : DV)) (by kernel_rfl) ?_
  simp only [e]
  refine ⟨f13 hT m x L hx hs h hl, fun h1 => ?_, fun h1 => ⟨⟨f41 L (by omega) (fun i hi => by have := hwd i hi; omega), ?_⟩, fun h2 => ?_, fun h2 => ?_⟩⟩
  · unfold bdsR; rw [if_pos h1]
  · have h1 := h1
    simp only [Bool.or_eq_false_iff, bne_eq_false_iff_eq] at h1
    obtain ⟨_, _, hsn, ht2, ht3⟩ := typ_ok h1.1
    rw [ht3] at h1
    exact f46 _ _ m x hx hs hsn (num_of m x hx hsn ht2 h1.2)
  · unfold bdsR; rw [if_neg (by rw [h1]; decide), if_neg (by simpa using h2)]
  · unfold bdsR; rw [if_neg (by rw [h1]; decide), if_pos (by simpa using h2)]; simp at h2; rw [h2]
end Go.Proofs
