import Derived.Test.YtpognhmelecaoaaGreatDoorAcC
import Derived.Test.YtpognhmelecaoaaGreatDoorEJ
import Derived.Test.YtpognhmelecaoaaGreatDoorEI
import Derived.Test.YtpognhmelecaoaaGreatDoorAcD
set_option autoImplicit false
namespace Go.Proofs
open Go Go.Ab Go.RowKit
set_option maxHeartbeats 4000000
set_option maxRecDepth 100000
variable {G : IH}
/-! The bounds of an expression. -/
abbrev BR := Bd × Bool
abbrev bd0 : Bd := ⟨0, 0, 0, 0⟩
def foldB (mx : Bool) (R : List BR) : Nat → Bd
  | 0 => (R.getD 0 (bd0, true)).1
  | n + 1 => if mx then ⟨grN (foldB mx R n).a (foldB mx R n).b (R.getD n (bd0, true)).1.a (R.getD n (bd0, true)).1.b, grD (foldB mx R n).a (foldB mx R n).b (R.getD n (bd0, true)).1.a (R.getD n (bd0, true)).1.b, grN (foldB mx R n).c (foldB mx R n).d (R.getD n (bd0, true)).1.c (R.getD n (bd0, true)).1.d, grD (foldB mx R n).c (foldB mx R n).d (R.getD n (bd0, true)).1.c (R.getD n (bd0, true)).1.d⟩
    else ⟨leN (foldB mx R n).a (foldB mx R n).b (R.getD n (bd0, true)).1.a (R.getD n (bd0, true)).1.b, leD (foldB mx R n).a (foldB mx R n).b (R.getD n (bd0, true)).1.a (R.getD n (bd0, true)).1.b, leN (foldB mx R n).c (foldB mx R n).d (R.getD n (bd0, true)).1.c (R.getD n (bd0, true)).1.d, leD (foldB mx R n).c (foldB mx R n).d (R.getD n (bd0, true)).1.c (R.getD n (bd0, true)).1.d⟩
def bnC (k : Int) (R : List BR) : BR :=
  let p := (R.getD 0 (bd0, true)).1
  let q := (R.getD 1 (bd0, true)).1
  if k = 5 then (cnB subF ⟨0, 1, 0, 1⟩ p, !cnBad subF ⟨0, 1, 0, 1⟩ p)
  else if k = 6 then (betB (addF p.a p.b q.a q.b) (addF p.c p.d q.c q.d), betO (addF p.a p.b q.a q.b) (addF p.c p.d q.c q.d))
  else if k = 7 then (betB (subF p.a p.b q.c q.d) (subF p.c p.d q.a q.b), betO (subF p.a p.b q.c q.d) (subF p.c p.d q.a q.b))
  else if k = 8 then (cnB mulF p q, !cnBad mulF p q)
  else if k = 9 then (if sgnI q.a q.c = 0 then (bd0, false) else (cnB divF p q, !cnBad divF p q))
  else (foldB (decide (k = 11)) R R.length, true)
mutual
def bnE (l : List Fc) : Ex → BR
  | .mk k s n d _ kids => if k = 1 then (⟨n, d, n, d⟩, true) else if k = 2 then (⟨(fM l (.string s)).ln, (fM l (.string s)).ld, (fM l (.string s)).hn, (fM l (.string s)).hd⟩, true)
    else if (bnL l kids).any (fun r => !r.2) then (bd0, false) else bnC k (bnL l kids)
def bnL (l : List Fc) : List Ex → List BR
  | [] => []
  | x :: r => bnE l x :: bnL l r
end
theorem bnL_map (l : List Fc) : ∀ r : List Ex, bnL l r = r.map (bnE l)
  | [] => rfl
  | x :: r => by simp only [bnL, List.map_cons, bnL_map l r]
theorem bnL_get {l : List Fc} {r : List Ex} {i : Nat} (hi : i < r.length) : (bnL l r).getD i (bd0, true) = bnE l (r.getD i ex0) := by
  rw [bnL_map, List.getD, List.getElem?_map, List.getElem?_eq_getElem hi, List.getD, List.getElem?_eq_getElem hi]; rfl
theorem bnE_eq (l : List Fc) (x : Ex) : bnE l x = if x.k = 1 then (⟨x.n, x.d, x.n, x.d⟩, true) else if x.k = 2 then (⟨(fM l (.string x.s)).ln, (fM l (.string x.s)).ld, (fM l (.string x.s)).hn, (fM l (.string x.s)).hd⟩, true)
    else if (bnL l x.kids).any (fun r => !r.2) then (bd0, false) else bnC x.k (bnL l x.kids) := by cases x; simp only [bnE, Ex.k, Ex.s, Ex.n, Ex.d, Ex.kids]; rfl
noncomputable def orcBn (l : List Fc) : Oracle := fun f a => match f, a with
  | 46, [_, e] => some (.tup [bdD (bnE l (rdE e)).1, db (bnE l (rdE e)).2])
  | 87, [.agg [.con (.int .i64 a), _, .con (.int .i64 c), _]] => some (di (sgnI a c))
  | 94, [fr a b, fr c d] => some (fr (leN a b c d) (leD a b c d))
  | 95, [fr a b, fr c d] => some (fr (grN a b c d) (grD a b c d))
  | _, _ => none
noncomputable def orcBn2 (l : List Fc) : Oracle := fun f a => match f, a with
  | 88, [.agg [.con (.int .i64 a), .con (.int .i64 b), .con (.int .i64 c), .con (.int .i64 d)], .agg [.con (.int .i64 e), .con (.int .i64 f), .con (.int .i64 g), .con (.int .i64 h)], .con (.func (.func 89) #[] #[])] => some (.tup [bdD (cnB subF ⟨a, b, c, d⟩ ⟨e, f, g, h⟩), db (!cnBad subF ⟨a, b, c, d⟩ ⟨e, f, g, h⟩)])
  | 88, [.agg [.con (.int .i64 a), .con (.int .i64 b), .con (.int .i64 c), .con (.int .i64 d)], .agg [.con (.int .i64 e), .con (.int .i64 f), .con (.int .i64 g), .con (.int .i64 h)], .con (.func (.func 92) #[] #[])] => some (.tup [bdD (cnB mulF ⟨a, b, c, d⟩ ⟨e, f, g, h⟩), db (!cnBad mulF ⟨a, b, c, d⟩ ⟨e, f, g, h⟩)])
  | 88, [.agg [.con (.int .i64 a), .con (.int .i64 b), .con (.int .i64 c), .con (.int .i64 d)], .agg [.con (.int .i64 e), .con (.int .i64 f), .con (.int .i64 g), .con (.int .i64 h)], .con (.func (.func 93) #[] #[])] => some (.tup [bdD (cnB divF ⟨a, b, c, d⟩ ⟨e, f, g, h⟩), db (!cnBad divF ⟨a, b, c, d⟩ ⟨e, f, g, h⟩)])
  | 90, [.agg [.con (.int .i64 a), .con (.int .i64 b), .con (.int .i64 c), .con (.int .i64 d)], .agg [.con (.int .i64 e), .con (.int .i64 f), .con (.int .i64 g), .con (.int .i64 h)], .con (.func (.func 91) #[] #[])] => some (.tup [bdD (betB (addF a b e f) (addF c d g h)), db (betO (addF a b e f) (addF c d g h))])
  | 90, [.agg [.con (.int .i64 a), .con (.int .i64 b), .con (.int .i64 c), .con (.int .i64 d)], .agg [.con (.int .i64 e), .con (.int .i64 f), .con (.int .i64 g), .con (.int .i64 h)], .con (.func (.func 89) #[] #[])] => some (.tup [bdD (betB (subF a b e f) (subF c d g h)), db (betO (subF a b e f) (subF c d g h))])
  | 87, [.agg [.con (.int .i64 a), _, .con (.int .i64 c), _]] => some (di (sgnI a c))
  | 94, [fr a b, fr c d] => some (fr (leN a b c d) (leD a b c d))
  | 95, [fr a b, fr c d] => some (fr (grN a b c d) (grD a b c d))
  | _, _ => none
abbrev bdK : RK := ⟨true, 84, false, none⟩
def rowB4 (l : List Fc) (x : Ex) : Nat → Nat → DV := rowRec (fun _ => DV.con undef) true 4 fun j => [di (bnE l (x.kids.getD j ex0)).1.a, di (bnE l (x.kids.getD j ex0)).1.b, di (bnE l (x.kids.getD j ex0)).1.c, di (bnE l (x.kids.getD j ex0)).1.d]
theorem rowB_next {l : List Fc} {x : Ex} (k : Nat) {p q r t : Int} (hp : p = (bnE l (x.kids.getD k ex0)).1.a) (hq : q = (bnE l (x.kids.getD k ex0)).1.b) (hr : r = (bnE l (x.kids.getD k ex0)).1.c) (ht : t = (bnE l (x.kids.getD k ex0)).1.d) : (fun i => bif Nat.blt i k then rowB4 l x k i else elemF true 4 [di p, di q, di r, di t] (i - k)) = rowB4 l x (k + 1) := by
  subst hp; subst hq; subst hr; subst ht; rfl
noncomputable def S46 (l : List Fc) (ws : List ByteArray) (m : Nat) (x : Ex) (k : Nat) : AS := ⟨regs Tryz.f46.ntmps [(0, .d (wrD l ws)), (3, .box 3 0), (4, .box 4 0), (6, .vec 900 4 0 k), (45, .d (.slc 6 x.kids.length (lay (exG m) x.kids))), (46, vi x.kids.length), (47, vi k)], [(3, exC m x), (4, [vi 0, vi 0, vi 0, vi 0]), (900, [.arr bdK 4 (rowB4 l x k)])]⟩
def bdF (R : List BR) (i : Nat) : DV := bdD (R.getD i (bd0, true)).1
def fbA (mx : Bool) (R : List BR) (k : Nat) : Int := (foldB mx R k).a
def fbB (mx : Bool) (R : List BR) (k : Nat) : Int := (foldB mx R k).b
def fbC (mx : Bool) (R : List BR) (k : Nat) : Int := (foldB mx R k).c
def fbD (mx : Bool) (R : List BR) (k : Nat) : Int := (foldB mx R k).d
noncomputable def S46f (mx : Bool) (R : List BR) (n k : Nat) : AS := ⟨regs Tryz.f46.ntmps [(4, .box 4 0), (12, .d (.con (.func (.func (if mx then 95 else 94)) #[] #[]))), (13, .box 13 0), (141, .d (.slc 4 n (bdF R))), (142, vi n), (143, vi k)], [(13, [vi (fbA mx R k), vi (fbB mx R k), vi (fbC mx R k), vi (fbD mx R k)]), (4, [vi 0, vi 0, vi 0, vi 0])]⟩
section
variable {k : Int} {R : List BR}
theorem bnC_5 (h : k = 5) : bnC k R = (cnB subF ⟨0, 1, 0, 1⟩ (R.getD 0 (bd0, true)).1, !cnBad subF ⟨0, 1, 0, 1⟩ (R.getD 0 (bd0, true)).1) := by subst h; rfl
theorem bnC_6 (h : k = 6) : bnC k R = (betB (addF (R.getD 0 (bd0, true)).1.a (R.getD 0 (bd0, true)).1.b (R.getD 1 (bd0, true)).1.a (R.getD 1 (bd0, true)).1.b) (addF (R.getD 0 (bd0, true)).1.c (R.getD 0 (bd0, true)).1.d (R.getD 1 (bd0, true)).1.c (R.getD 1 (bd0, true)).1.d), betO (addF (R.getD 0 (bd0, true)).1.a (R.getD 0 (bd0, true)).1.b (R.getD 1 (bd0, true)).1.a (R.getD 1 (bd0, true)).1.b) (addF (R.getD 0 (bd0, true)).1.c (R.getD 0 (bd0, true)).1.d (R.getD 1 (bd0, true)).1.c (R.getD 1 (bd0, true)).1.d)) := by subst h; rfl
theorem bnC_7 (h : k = 7) : bnC k R = (betB (subF (R.getD 0 (bd0, true)).1.a (R.getD 0 (bd0, true)).1.b (R.getD 1 (bd0, true)).1.c (R.getD 1 (bd0, true)).1.d) (subF (R.getD 0 (bd0, true)).1.c (R.getD 0 (bd0, true)).1.d (R.getD 1 (bd0, true)).1.a (R.getD 1 (bd0, true)).1.b), betO (subF (R.getD 0 (bd0, true)).1.a (R.getD 0 (bd0, true)).1.b (R.getD 1 (bd0, true)).1.c (R.getD 1 (bd0, true)).1.d) (subF (R.getD 0 (bd0, true)).1.c (R.getD 0 (bd0, true)).1.d (R.getD 1 (bd0, true)).1.a (R.getD 1 (bd0, true)).1.b)) := by subst h; rfl
theorem bnC_8 (h : k = 8) : bnC k R = (cnB mulF (R.getD 0 (bd0, true)).1 (R.getD 1 (bd0, true)).1, !cnBad mulF (R.getD 0 (bd0, true)).1 (R.getD 1 (bd0, true)).1) := by subst h; rfl
theorem bnC_9 (h : k = 9) : bnC k R = if sgnI (R.getD 1 (bd0, true)).1.a (R.getD 1 (bd0, true)).1.c = 0 then (bd0, false) else (cnB divF (R.getD 0 (bd0, true)).1 (R.getD 1 (bd0, true)).1, !cnBad divF (R.getD 0 (bd0, true)).1 (R.getD 1 (bd0, true)).1) := by subst h; rfl
theorem bnC_z (h : k = 10 ∨ k = 11) : bnC k R = (foldB (decide (k = 11)) R R.length, true) := by rcases h with rfl | rfl <;> rfl
end
theorem f46 (l : List Fc) (ws : List ByteArray) (m : Nat) : ∀ (x : Ex), ht x ≤ m → Sm x → sndE x = true → numE x = true → FnOK Tryz.prog G 46 [wrD l ws, exD m x] (.tup [bdD (bnE l x).1, db (bnE l x).2]) := by
  induction m using Nat.strongRecOn with
  | _ m ih =>
  intro x hx hs hsn hnu
  have hlen := hs.len.1
  have h46 : ∀ i, i < x.kids.length → FnOK Tryz.prog G 46 [wrD l ws, kidA m x i] (.tup [bdD (bnE l (x.kids.getD i ex0)).1, db (bnE l (x.kids.getD i ex0)).2]) := fun i hi =>
    kidOK (Q := fun d => FnOK Tryz.prog G 46 [wrD l ws, d] _) hx hi fun m' h1 h2 => ih m' h1 _ h2 (hs.kid hi) (snd_kid hsn hi) (numE_kid hnu hi)
  have eb := bnE_eq l x
  refine FnOK.walk (orc := orcBn l) (keep := []) follows Tryz.func46 rfl Tryz.call46 ?_
  refine of_eqH1 (fM l (Value.string (Ex.s x))) (fun Za => ((((Ex.k x == (1 : Int)) = true) → (((.tup [(.agg [(di (Ex.n x)), (di (Ex.d x)), (di (Ex.n x)), (di (Ex.d x))]), (db true)]) : DV) = (.tup [(bdD (Prod.fst (bnE l x))), (db (Prod.snd (bnE l x)))]))) ∧ (((Ex.k x == (1 : Int)) = false) → ((((Ex.k x == (2 : Int)) = true) → (((((fH l (Value.string (Ex.s x))) = false) → (DV.imp (DV.agg (List.map DV.con [Value.string { data := #[] }, Value.int IntKind.i64 (0 : Int), Value.int IntKind.i64 (0 : Int), Value.int IntKind.i64 (0 : Int), Value.int IntKind.i64 (0 : Int), Value.int IntKind.i64 (0 : Int), Value.slice none (0 : Nat) (0 : Nat)])) (fV l (Value.string (Ex.s x))))) ∧ (((fH l (Value.string (Ex.s x))) = false) → (DV.imp (DV.agg (List.map DV.con [Value.string { data := #[] }, Value.int IntKind.i64 (0 : Int), Value.int IntKind.i64 (0 : Int), Value.int IntKind.i64 (0 : Int), Value.int IntKind.i64 (0 : Int), Value.int IntKind.i64 (0 : Int), Value.slice none (0 : Nat) (0 : Nat)])) (fV l (Value.string (Ex.s x)))))) ∧ (((.tup [(.agg [(di (Fc.ln Za)), (di (Fc.ld Za)), (di (Fc.hn Za)), (di (Fc.hd Za))]), (db true)]) : DV) = (.tup [(bdD (Prod.fst (bnE l x))), (db (Prod.snd (bnE l x)))])))) ∧ (((Ex.k x == (2 : Int)) = false) → AWP Tryz.prog G [.code (cAt (bodyOf Tryz.f46) [1, 1, 1, 0, 1, 0]), (.blk 1), .code (cAt (bodyOf Tryz.f46) [1, 1, 1, 1])] ⟨regs 162 [(0, (.d (.ptr [(.mp none (fV l) (fH l)), (.mp none (wV ws) (wL ws))]))), (1, (.d (ndX m x))), (3, (.box 3 0)), (4, (.box 4 0)), (5, (vb false)), (6, (.d (.con (.slice none 0 0)))), (16, (.box 3 0)), (17, (vi (Ex.k x))), (18, (vb (Ex.k x == (1 : Int)))), (19, (vb (Ex.k x == (1 : Int)))), (25, (vb (Ex.k x == (2 : Int)))), (26, (vb (Ex.k x == (2 : Int)))), (44, (.box 3 5)), (45, (.d (.slc 6 (List.length (Ex.kids x)) (lay (exG m) (Ex.kids x))))), (46, (vi ((↑(List.length (Ex.kids x)) : Int)))), (47, (vi 0))], [(4, [(vi 0), (vi 0), (vi 0), (vi 0)]), (3, [(vi (Ex.k x)), (vs (Ex.s x)), (vi (Ex.n x)), (vi (Ex.d x)), (vi (Ex.pos x)), (.d (.slc 6 (List.length (Ex.kids x)) (lay (exG m) (Ex.kids x))))])]⟩ (Ret Tryz.prog Tryz.f46 (DV.tup [bdD (Prod.fst (bnE l x)), db (Prod.snd (bnE l x))]))))))) (by kernel_rfl) ?_
  simp only [beq_iff_eq, beq_eq_false_iff_ne, ne_eq]
  refine ⟨fun k1' => ?_, fun k1' => ⟨fun k2' => ⟨⟨fun h => zd_imp h, fun h => zd_imp h⟩, ?_⟩, fun k2' => ?_⟩⟩
  · rw [eb, if_pos k1']
  · rw [eb, if_neg k1', if_pos k2']
  rw [if_neg k1', if_neg k2'] at eb
  refine AWP.pre (.nilRow _ 6 900 4 bdK (rowB4 l x 0) (by kernel_rfl) (by kernel_rfl)) ?_
  refine AWP.loop (c := cAt (bodyOf Tryz.f46) [1, 1, 1, 0, 1, 0, 0]) (by kernel_rfl) (S46 l ws m x) (fun k => k ≤ x.kids.length ∧ ∀ i, i < k → (bnE l (x.kids.getD i ex0)).2 = true) (fun k => x.kids.length - k) 0 ?_ ⟨Nat.zero_le _, fun i hi => absurd hi (Nat.not_lt_zero _)⟩ ?_
  · refine of_eq1 ((.d (.slc 6 (List.length (Ex.kids x)) (lay (exG m) (Ex.kids x)))) : AV) (fun Za => (((((.d (.ptr [(.mp none (fV l) (fH l)), (.mp none (wV ws) (wL ws))])) : AV) = (.d (.ptr [(.mp none (fV l) (fH l)), (.mp none (wV ws) (wL ws))]))) ∧ ((((.box 3 0) : AV) = (.box 3 0)) ∧ ((((.box 4 0) : AV) = (.box 4 0)) ∧ ((((.vec 900 4 0 0) : AV) = (.vec 900 4 0 0)) ∧ (((Za : AV) = Za) ∧ ((((vi ((↑(List.length (Ex.kids x)) : Int))) : AV) = (vi ((↑(List.length (Ex.kids x)) : Int)))) ∧ ((((vi 0) : AV) = (vi 0)) ∧ True))))))) ∧ ((((some [(vi (Ex.k x)), (vs (Ex.s x)), (vi (Ex.n x)), (vi (Ex.d x)), (vi (Ex.pos x)), Za]) : (Option (List AV))) = (some [(vi (Ex.k x)), (vs (Ex.s x)), (vi (Ex.n x)), (vi (Ex.d x)), (vi (Ex.pos x)), Za])) ∧ ((((some [(vi 0), (vi 0), (vi 0), (vi 0)]) : (Option (List AV))) = (some [(vi 0), (vi 0), (vi 0), (vi 0)])) ∧ ((((some [(.arr ⟨true, 84, false, none⟩ 4 (rowB4 l x (0 : Nat)))]) : (Option (List AV))) = (some [(.arr ⟨true, 84, false, none⟩ 4 (rowB4 l x (0 : Nat)))])) ∧ True))))) (by kernel_rfl) ?_
    exact ⟨⟨rfl, rfl, rfl, rfl, rfl, rfl, rfl, trivial⟩, rfl, rfl, rfl, trivial⟩
  · rintro k ⟨hk, hkd⟩
    refine walk (orc := orcBn l) (keep := []) (cuts := []) (n := 1000) follows ?_
    refine of_eqH5 (bnE l (rdE (ndA m (List.getD (Ex.kids x) (Int.toNat (↑k : Int)) ex0)))) (List.getD (Ex.kids x) (Int.toNat (↑k : Int)) ex0) (↑(List.length (Ex.kids x)) : Int) ((.d (.slc 6 (List.length (Ex.kids x)) (lay (exG m) (Ex.kids x)))) : AV) ((.ptr [(.mp none (fV l) (fH l)), (.mp none (wV ws) (wL ws))]) : DV) (fun Za Zb Zc Zd Ze => ((((decide ((↑k : Int) < Zc)) = true) → ((((0 : Int) ≤ (↑k : Int)) ∧ ((↑k : Int) < Zc)) ∧ (FnOK Tryz.prog G 46 [Ze, (ndA m Zb)] (.tup [(.agg [(di (Bd.a (Prod.fst Za))), (di (Bd.b (Prod.fst Za))), (di (Bd.c (Prod.fst Za))), (di (Bd.d (Prod.fst Za)))]), (db (Prod.snd Za))]) ∧ ((((!Prod.snd Za) = true) → (((.tup [(.agg [(di 0), (di 0), (di 0), (di 0)]), (db false)]) : DV) = (.tup [(bdD (Prod.fst (bnE l x))), (db (Prod.snd (bnE l x)))]))) ∧ (((!Prod.snd Za) = false) → (((((k + (1 : Nat)) * (32 : Nat) ≤ (1099511627776 : Nat)) ∧ (k + (1 : Nat) ≤ (1099511627776 : Nat))) ∧ (∀ (i : Nat), i < (1 : Nat) → elemOK true (4 : Nat) (elemF true (4 : Nat) [DV.con (Value.int IntKind.i64 (Bd.a (Prod.fst Za))), DV.con (Value.int IntKind.i64 (Bd.b (Prod.fst Za))), DV.con (Value.int IntKind.i64 (Bd.c (Prod.fst Za))), DV.con (Value.int IntKind.i64 (Bd.d (Prod.fst Za)))] i) = true)) ∧ ((I64 ((↑k : Int) + (1 : Int))) ∧ Again (S46 l ws m x) (fun k => k ≤ List.length (Ex.kids x) ∧ ∀ (i : Nat), i < k → Prod.snd (bnE l (List.getD (Ex.kids x) i ex0)) = true) (fun k => List.length (Ex.kids x) - k) k ⟨regs 162 [(0, (.d Ze)), (3, (.box 3 0)), (4, (.box 4 0)), (6, (.vec 63 4 0 (k + (1 : Nat)))), (8, (.box 8 0)), (9, (.box 9 0)), (10, (vb (Prod.snd Za))), (45, Zd), (46, (vi (Zc))), (47, (vi ((↑k : Int) + (1 : Int)))), (48, (vb (decide ((↑k : Int) < Zc)))), (49, (.d (.ptr [(di (Ex.k Zb)), (ds (Ex.s Zb)), (di (Ex.n Zb)), (di (Ex.d Zb)), (di (Ex.pos Zb)), (.slc 6 (List.length (Ex.kids Zb)) (exG m (Ex.kids Zb)))]))), (50, (.d (ndA m Zb))), (51, (.d (.tup [(.agg [(di (Bd.a (Prod.fst Za))), (di (Bd.b (Prod.fst Za))), (di (Bd.c (Prod.fst Za))), (di (Bd.d (Prod.fst Za)))]), (db (Prod.snd Za))]))), (52, (.d Ze)), (53, (.d (ndA m Zb))), (54, (.d (.tup [(.agg [(di (Bd.a (Prod.fst Za))), (di (Bd.b (Prod.fst Za))), (di (Bd.c (Prod.fst Za))), (di (Bd.d (Prod.fst Za)))]), (db (Prod.snd Za))]))), (55, (.d (.agg [(di (Bd.a (Prod.fst Za))), (di (Bd.b (Prod.fst Za))), (di (Bd.c (Prod.fst Za))), (di (Bd.d (Prod.fst Za)))]))), (56, (vb (Prod.snd Za))), (57, (vb (Prod.snd Za))), (58, (vb (!Prod.snd Za))), (60, (.vec 900 4 0 k)), (61, (.d (.agg [(di (Bd.a (Prod.fst Za))), (di (Bd.b (Prod.fst Za))), (di (Bd.c (Prod.fst Za))), (di (Bd.d (Prod.fst Za)))]))), (62, (.d (.slc 4 1 (elemF true 4 [(di (Bd.a (Prod.fst Za))), (di (Bd.b (Prod.fst Za))), (di (Bd.c (Prod.fst Za))), (di (Bd.d (Prod.fst Za)))])))), (63, (.vec 63 4 0 (k + (1 : Nat)))), (64, (vi ((↑k : Int) + (1 : Int))))], [(63, [(.arr ⟨true, 84, false, none⟩ 4 (fun i => bif Nat.blt i k then rowB4 l x k i else elemF true (4 : Nat) [DV.con (Value.int IntKind.i64 (Bd.a (Prod.fst Za))), DV.con (Value.int IntKind.i64 (Bd.b (Prod.fst Za))), DV.con (Value.int IntKind.i64 (Bd.c (Prod.fst Za))), DV.con (Value.int IntKind.i64 (Bd.d (Prod.fst Za)))] (i - k)))]), (9, [(vi (Bd.a (Prod.fst Za))), (vi (Bd.b (Prod.fst Za))), (vi (Bd.c (Prod.fst Za))), (vi (Bd.d (Prod.fst Za)))]), (8, [(vi (Ex.k Zb)), (vs (Ex.s Zb)), (vi (Ex.n Zb)), (vi (Ex.d Zb)), (vi (Ex.pos Zb)), (.d (.slc 6 (List.length (Ex.kids Zb)) (exG m (Ex.kids Zb))))]), (3, [(vi (Ex.k x)), (vs (Ex.s x)), (vi (Ex.n x)), (vi (Ex.d x)), (vi (Ex.pos x)), Zd]), (4, [(vi 0), (vi 0), (vi 0), (vi 0)]), (900, [.dead])]⟩))))))) ∧ (((decide ((↑k : Int) < Zc)) = false) → AWP Tryz.prog G [.code (cAt (bodyOf Tryz.f46) [1, 1, 1, 1])] ⟨regs 162 [(0, (.d Ze)), (3, (.box 3 0)), (4, (.box 4 0)), (6, (.vec 900 4 0 k)), (45, Zd), (46, (vi (Zc))), (47, (vi ((↑k : Int)))), (48, (vb (decide ((↑k : Int) < Zc))))], [(3, [(vi (Ex.k x)), (vs (Ex.s x)), (vi (Ex.n x)), (vi (Ex.d x)), (vi (Ex.pos x)), Zd]), (4, [(vi 0), (vi 0), (vi 0), (vi 0)]), (900, [(.arr ⟨true, 84, false, none⟩ 4 (rowB4 l x k))])]⟩ (Ret Tryz.prog Tryz.f46 (DV.tup [bdD (Prod.fst (bnE l x)), db (Prod.snd (bnE l x))]))))) (by kernel_rfl) ?_
    simp only [Int.toNat_natCast]
    refine ⟨fun h => ?_, fun h => ?_⟩
    · have hk2 : k < x.kids.length := by have := of_decide_eq_true h; omega
      have er : rdE (kidA m x k) = x.kids.getD k ex0 := kid_rd hx hk2
      have hh := h46 k hk2
      simp only [er]
      refine ⟨⟨by omega, by omega⟩, hh, fun h2 => ?_, fun h2 => ⟨⟨⟨by omega, by omega⟩, fun i hi => (by obtain rfl : i = 0 := (by omega); rfl)⟩, ⟨by omega, by omega⟩, Again.mkR [(63, 900)] rfl (k + 1) ?_ ⟨hk2, fun i hi => ?_⟩ (by omega)⟩⟩
      · rw [Bool.not_eq_true'] at h2
        have : ((bnL l x.kids).any fun r => !r.2) = true := by
          rw [List.any_eq_true, bnL_map]
          refine ⟨bnE l (x.kids.getD k ex0), List.mem_map.2 ⟨_, ?_, rfl⟩, by rw [h2]; rfl⟩
          rw [List.getD, List.getElem?_eq_getElem hk2]
          exact List.getElem_mem hk2
        rw [eb, if_pos this]
      · refine of_eq2 ((.d (.slc 6 (List.length (Ex.kids x)) (lay (exG m) (Ex.kids x)))) : AV) (Prod.fst (bnE l (List.getD (Ex.kids x) k ex0))) (fun Za Zb => (((((.d (.ptr [(.mp none (fV l) (fH l)), (.mp none (wV ws) (wL ws))])) : AV) = (.d (.ptr [(.mp none (fV l) (fH l)), (.mp none (wV ws) (wL ws))]))) ∧ ((((.box 3 0) : AV) = (.box 3 0)) ∧ ((((.box 4 0) : AV) = (.box 4 0)) ∧ ((((.vec 900 4 0 (k + (1 : Nat))) : AV) = (.vec 900 4 0 (k + (1 : Nat)))) ∧ (((Za : AV) = Za) ∧ ((((vi ((↑(List.length (Ex.kids x)) : Int))) : AV) = (vi ((↑(List.length (Ex.kids x)) : Int)))) ∧ ((((vi ((↑k : Int) + (1 : Int))) : AV) = (vi ((↑(k + (1 : Nat)) : Int)))) ∧ True))))))) ∧ ((((some [(vi (Ex.k x)), (vs (Ex.s x)), (vi (Ex.n x)), (vi (Ex.d x)), (vi (Ex.pos x)), Za]) : (Option (List AV))) = (some [(vi (Ex.k x)), (vs (Ex.s x)), (vi (Ex.n x)), (vi (Ex.d x)), (vi (Ex.pos x)), Za])) ∧ ((((some [(vi 0), (vi 0), (vi 0), (vi 0)]) : (Option (List AV))) = (some [(vi 0), (vi 0), (vi 0), (vi 0)])) ∧ ((((some [(.arr ⟨true, 84, false, none⟩ 4 (fun i => bif Nat.blt i k then rowB4 l x k i else elemF true (4 : Nat) [DV.con (Value.int IntKind.i64 (Bd.a Zb)), DV.con (Value.int IntKind.i64 (Bd.b Zb)), DV.con (Value.int IntKind.i64 (Bd.c Zb)), DV.con (Value.int IntKind.i64 (Bd.d Zb))] (i - k)))]) : (Option (List AV))) = (some [(.arr ⟨true, 84, false, none⟩ 4 (rowB4 l x (k + (1 : Nat))))])) ∧ True))))) (by kernel_rfl) ?_
        refine ⟨⟨rfl, rfl, rfl, rfl, rfl, rfl, rfl, trivial⟩, rfl, rfl, ?_, trivial⟩
        exact congrArg (fun f => some [AV.arr bdK 4 f]) (rowB_next k rfl rfl rfl rfl)
      · rcases Nat.lt_or_ge i k with h4 | h4
        · exact hkd i h4
        · obtain rfl : i = k := by omega
          simpa using h2
    · simp only [decide_eq_false_iff_not] at h
      obtain rfl : k = x.kids.length := by omega
      have hany : ((bnL l x.kids).any fun r => !r.2) = false := by
        rw [List.any_eq_false, bnL_map]
        intro r hr
        obtain ⟨y, hy, rfl⟩ := List.mem_map.1 hr
        obtain ⟨i, hi, rfl⟩ := List.getElem_of_mem hy
        have := hkd i hi
        rw [List.getD, List.getElem?_eq_getElem hi] at this
        rw [show (bnE l x.kids[i]).2 = true from this]; decide
      rw [hany, if_neg (by decide)] at eb
      rw [eb]
      have hRl : (bnL l x.kids).length = x.kids.length := by rw [bnL_map, List.length_map]
      refine AWP.freeze (agg := bdK) (sz := 4) (f := rowB4 l x x.kids.length) 900 (by kernel_rfl) ?_
      refine AWP.pre (.reg _ 6 (.d (.slc 4 x.kids.length (bdF (bnL l x.kids)))) fun β h v hv => DV.rel_slc_congr (f := fun i => rowB4 l x x.kids.length (0 + i)) (fun i hi => ?_) hv) ?_
      · rw [Nat.zero_add]
        unfold rowB4 bdF
        rw [rowRec_get hi, bnL_get hi]; rfl
      have hone := @snd_one x hsn
      have htwo := @snd_two x hsn
      have hmany := @snd_many x hsn
      have hkn := numE_k hnu
      generalize bnL l x.kids = R at *
      have hc : 5 ≤ x.k ∧ x.k ≤ 11 := by omega
      have k1 : x.k = 5 → 1 ≤ x.kids.length := fun h => by have := hone (.inl h); omega
      have k2 : x.k = 6 ∨ x.k = 7 ∨ x.k = 8 ∨ x.k = 9 → 2 ≤ x.kids.length := fun h => by have := (htwo (by omega)).1; omega
      have k10 : x.k = 10 ∨ x.k = 11 → 1 ≤ x.kids.length := hmany
      have t0 : Int.toNat 0 = 0 := rfl
      have t1 : Int.toNat 1 = 1 := rfl
      clear eb hany hkd h46 ih hk h hkn k1' k2' hsn hnu hs hone htwo hmany
      generalize hxl : x.kids.length = xl at *
      refine walkK (orc := orcBn2 l) (keep := []) (cuts := []) (n := 1000) follows ?_
      refine of_eqH6 (Prod.fst (List.getD R (Int.toNat (0 : Int)) (bd0, true))) (Prod.fst (List.getD R (Int.toNat (1 : Int)) (bd0, true))) ((.tup [(bdD (Prod.fst (bnC (Ex.k x) R))), (db (Prod.snd (bnC (Ex.k x) R)))]) : DV) ((.d (.slc 6 xl (lay (exG m) (Ex.kids x)))) : AV) (Ret Tryz.prog Tryz.f46 (DV.tup [bdD (Prod.fst (bnC (Ex.k x) R)), db (Prod.snd (bnC (Ex.k x) R))])) ((.agg [(di 0), (di 1), (di 0), (di 1)]) : DV) (fun Za Zb Zc Zd Ze Zf => ((((Ex.k x == (5 : Int)) = true) → (((((0 : Int) ≤ (0 : Int)) ∧ ((0 : Int) < (↑xl : Int))) ∧ FnOK Tryz.prog G 88 [Zf, (.agg [(di (Bd.a Za)), (di (Bd.b Za)), (di (Bd.c Za)), (di (Bd.d Za))]), (.con (.func (.func 89) ⟨[]⟩ ⟨[]⟩))] (.tup [(.agg [(di (Bd.a (cnB subF { a := (0 : Int), b := (1 : Int), c := (0 : Int), d := (1 : Int) } { a := Bd.a Za, b := Bd.b Za, c := Bd.c Za, d := Bd.d Za }))), (di (Bd.b (cnB subF { a := (0 : Int), b := (1 : Int), c := (0 : Int), d := (1 : Int) } { a := Bd.a Za, b := Bd.b Za, c := Bd.c Za, d := Bd.d Za }))), (di (Bd.c (cnB subF { a := (0 : Int), b := (1 : Int), c := (0 : Int), d := (1 : Int) } { a := Bd.a Za, b := Bd.b Za, c := Bd.c Za, d := Bd.d Za }))), (di (Bd.d (cnB subF { a := (0 : Int), b := (1 : Int), c := (0 : Int), d := (1 : Int) } { a := Bd.a Za, b := Bd.b Za, c := Bd.c Za, d := Bd.d Za })))]), (db (!cnBad subF { a := (0 : Int), b := (1 : Int), c := (0 : Int), d := (1 : Int) } { a := Bd.a Za, b := Bd.b Za, c := Bd.c Za, d := Bd.d Za }))])) ∧ (((.tup [(.agg [(di (Bd.a (cnB subF { a := (0 : Int), b := (1 : Int), c := (0 : Int), d := (1 : Int) } { a := Bd.a Za, b := Bd.b Za, c := Bd.c Za, d := Bd.d Za }))), (di (Bd.b (cnB subF { a := (0 : Int), b := (1 : Int), c := (0 : Int), d := (1 : Int) } { a := Bd.a Za, b := Bd.b Za, c := Bd.c Za, d := Bd.d Za }))), (di (Bd.c (cnB subF { a := (0 : Int), b := (1 : Int), c := (0 : Int), d := (1 : Int) } { a := Bd.a Za, b := Bd.b Za, c := Bd.c Za, d := Bd.d Za }))), (di (Bd.d (cnB subF { a := (0 : Int), b := (1 : Int), c := (0 : Int), d := (1 : Int) } { a := Bd.a Za, b := Bd.b Za, c := Bd.c Za, d := Bd.d Za })))]), (db (!cnBad subF { a := (0 : Int), b := (1 : Int), c := (0 : Int), d := (1 : Int) } { a := Bd.a Za, b := Bd.b Za, c := Bd.c Za, d := Bd.d Za }))]) : DV) = Zc))) ∧ (((Ex.k x == (5 : Int)) = false) → ((((Ex.k x == (6 : Int)) = true) → (((((0 : Int) ≤ (0 : Int)) ∧ ((0 : Int) < (↑xl : Int))) ∧ ((((0 : Int) ≤ (1 : Int)) ∧ ((1 : Int) < (↑xl : Int))) ∧ FnOK Tryz.prog G 90 [(.agg [(di (Bd.a Za)), (di (Bd.b Za)), (di (Bd.c Za)), (di (Bd.d Za))]), (.agg [(di (Bd.a Zb)), (di (Bd.b Zb)), (di (Bd.c Zb)), (di (Bd.d Zb))]), (.con (.func (.func 91) ⟨[]⟩ ⟨[]⟩))] (.tup [(.agg [(di (Prod.fst (addF (Bd.a Za) (Bd.b Za) (Bd.a Zb) (Bd.b Zb)))), (di (Prod.fst (Prod.snd (addF (Bd.a Za) (Bd.b Za) (Bd.a Zb) (Bd.b Zb))))), (di (Prod.fst (addF (Bd.c Za) (Bd.d Za) (Bd.c Zb) (Bd.d Zb)))), (di (Prod.fst (Prod.snd (addF (Bd.c Za) (Bd.d Za) (Bd.c Zb) (Bd.d Zb)))))]), (db (betO (addF (Bd.a Za) (Bd.b Za) (Bd.a Zb) (Bd.b Zb)) (addF (Bd.c Za) (Bd.d Za) (Bd.c Zb) (Bd.d Zb))))]))) ∧ (((.tup [(.agg [(di (Prod.fst (addF (Bd.a Za) (Bd.b Za) (Bd.a Zb) (Bd.b Zb)))), (di (Prod.fst (Prod.snd (addF (Bd.a Za) (Bd.b Za) (Bd.a Zb) (Bd.b Zb))))), (di (Prod.fst (addF (Bd.c Za) (Bd.d Za) (Bd.c Zb) (Bd.d Zb)))), (di (Prod.fst (Prod.snd (addF (Bd.c Za) (Bd.d Za) (Bd.c Zb) (Bd.d Zb)))))]), (db (betO (addF (Bd.a Za) (Bd.b Za) (Bd.a Zb) (Bd.b Zb)) (addF (Bd.c Za) (Bd.d Za) (Bd.c Zb) (Bd.d Zb))))]) : DV) = Zc))) ∧ (((Ex.k x == (6 : Int)) = false) → ((((Ex.k x == (7 : Int)) = true) → (((((0 : Int) ≤ (0 : Int)) ∧ ((0 : Int) < (↑xl : Int))) ∧ ((((0 : Int) ≤ (1 : Int)) ∧ ((1 : Int) < (↑xl : Int))) ∧ ((((0 : Int) ≤ (1 : Int)) ∧ ((1 : Int) < (↑xl : Int))) ∧ FnOK Tryz.prog G 90 [(.agg [(di (Bd.a Za)), (di (Bd.b Za)), (di (Bd.c Za)), (di (Bd.d Za))]), (.agg [(di (Bd.c Zb)), (di (Bd.d Zb)), (di (Bd.a Zb)), (di (Bd.b Zb))]), (.con (.func (.func 89) ⟨[]⟩ ⟨[]⟩))] (.tup [(.agg [(di (Prod.fst (subF (Bd.a Za) (Bd.b Za) (Bd.c Zb) (Bd.d Zb)))), (di (Prod.fst (Prod.snd (subF (Bd.a Za) (Bd.b Za) (Bd.c Zb) (Bd.d Zb))))), (di (Prod.fst (subF (Bd.c Za) (Bd.d Za) (Bd.a Zb) (Bd.b Zb)))), (di (Prod.fst (Prod.snd (subF (Bd.c Za) (Bd.d Za) (Bd.a Zb) (Bd.b Zb)))))]), (db (betO (subF (Bd.a Za) (Bd.b Za) (Bd.c Zb) (Bd.d Zb)) (subF (Bd.c Za) (Bd.d Za) (Bd.a Zb) (Bd.b Zb))))])))) ∧ (((.tup [(.agg [(di (Prod.fst (subF (Bd.a Za) (Bd.b Za) (Bd.c Zb) (Bd.d Zb)))), (di (Prod.fst (Prod.snd (subF (Bd.a Za) (Bd.b Za) (Bd.c Zb) (Bd.d Zb))))), (di (Prod.fst (subF (Bd.c Za) (Bd.d Za) (Bd.a Zb) (Bd.b Zb)))), (di (Prod.fst (Prod.snd (subF (Bd.c Za) (Bd.d Za) (Bd.a Zb) (Bd.b Zb)))))]), (db (betO (subF (Bd.a Za) (Bd.b Za) (Bd.c Zb) (Bd.d Zb)) (subF (Bd.c Za) (Bd.d Za) (Bd.a Zb) (Bd.b Zb))))]) : DV) = Zc))) ∧ (((Ex.k x == (7 : Int)) = false) → ((((Ex.k x == (8 : Int)) = true) → (((((0 : Int) ≤ (0 : Int)) ∧ ((0 : Int) < (↑xl : Int))) ∧ ((((0 : Int) ≤ (1 : Int)) ∧ ((1 : Int) < (↑xl : Int))) ∧ FnOK Tryz.prog G 88 [(.agg [(di (Bd.a Za)), (di (Bd.b Za)), (di (Bd.c Za)), (di (Bd.d Za))]), (.agg [(di (Bd.a Zb)), (di (Bd.b Zb)), (di (Bd.c Zb)), (di (Bd.d Zb))]), (.con (.func (.func 92) ⟨[]⟩ ⟨[]⟩))] (.tup [(.agg [(di (Bd.a (cnB mulF { a := Bd.a Za, b := Bd.b Za, c := Bd.c Za, d := Bd.d Za } { a := Bd.a Zb, b := Bd.b Zb, c := Bd.c Zb, d := Bd.d Zb }))), (di (Bd.b (cnB mulF { a := Bd.a Za, b := Bd.b Za, c := Bd.c Za, d := Bd.d Za } { a := Bd.a Zb, b := Bd.b Zb, c := Bd.c Zb, d := Bd.d Zb }))), (di (Bd.c (cnB mulF { a := Bd.a Za, b := Bd.b Za, c := Bd.c Za, d := Bd.d Za } { a := Bd.a Zb, b := Bd.b Zb, c := Bd.c Zb, d := Bd.d Zb }))), (di (Bd.d (cnB mulF { a := Bd.a Za, b := Bd.b Za, c := Bd.c Za, d := Bd.d Za } { a := Bd.a Zb, b := Bd.b Zb, c := Bd.c Zb, d := Bd.d Zb })))]), (db (!cnBad mulF { a := Bd.a Za, b := Bd.b Za, c := Bd.c Za, d := Bd.d Za } { a := Bd.a Zb, b := Bd.b Zb, c := Bd.c Zb, d := Bd.d Zb }))]))) ∧ (((.tup [(.agg [(di (Bd.a (cnB mulF { a := Bd.a Za, b := Bd.b Za, c := Bd.c Za, d := Bd.d Za } { a := Bd.a Zb, b := Bd.b Zb, c := Bd.c Zb, d := Bd.d Zb }))), (di (Bd.b (cnB mulF { a := Bd.a Za, b := Bd.b Za, c := Bd.c Za, d := Bd.d Za } { a := Bd.a Zb, b := Bd.b Zb, c := Bd.c Zb, d := Bd.d Zb }))), (di (Bd.c (cnB mulF { a := Bd.a Za, b := Bd.b Za, c := Bd.c Za, d := Bd.d Za } { a := Bd.a Zb, b := Bd.b Zb, c := Bd.c Zb, d := Bd.d Zb }))), (di (Bd.d (cnB mulF { a := Bd.a Za, b := Bd.b Za, c := Bd.c Za, d := Bd.d Za } { a := Bd.a Zb, b := Bd.b Zb, c := Bd.c Zb, d := Bd.d Zb })))]), (db (!cnBad mulF { a := Bd.a Za, b := Bd.b Za, c := Bd.c Za, d := Bd.d Za } { a := Bd.a Zb, b := Bd.b Zb, c := Bd.c Zb, d := Bd.d Zb }))]) : DV) = Zc))) ∧ (((Ex.k x == (8 : Int)) = false) → ((((Ex.k x == (9 : Int)) = true) → (((((0 : Int) ≤ (1 : Int)) ∧ ((1 : Int) < (↑xl : Int))) ∧ FnOK Tryz.prog G 87 [(.agg [(di (Bd.a Zb)), (di (Bd.b Zb)), (di (Bd.c Zb)), (di (Bd.d Zb))])] (di (sgnI (Bd.a Zb) (Bd.c Zb)))) ∧ ((((sgnI (Bd.a Zb) (Bd.c Zb) == (0 : Int)) = true) → (((.tup [(.agg [(di 0), (di 0), (di 0), (di 0)]), (db false)]) : DV) = Zc)) ∧ (((sgnI (Bd.a Zb) (Bd.c Zb) == (0 : Int)) = false) → (((((0 : Int) ≤ (0 : Int)) ∧ ((0 : Int) < (↑xl : Int))) ∧ ((((0 : Int) ≤ (1 : Int)) ∧ ((1 : Int) < (↑xl : Int))) ∧ FnOK Tryz.prog G 88 [(.agg [(di (Bd.a Za)), (di (Bd.b Za)), (di (Bd.c Za)), (di (Bd.d Za))]), (.agg [(di (Bd.a Zb)), (di (Bd.b Zb)), (di (Bd.c Zb)), (di (Bd.d Zb))]), (.con (.func (.func 93) ⟨[]⟩ ⟨[]⟩))] (.tup [(.agg [(di (Bd.a (cnB divF { a := Bd.a Za, b := Bd.b Za, c := Bd.c Za, d := Bd.d Za } { a := Bd.a Zb, b := Bd.b Zb, c := Bd.c Zb, d := Bd.d Zb }))), (di (Bd.b (cnB divF { a := Bd.a Za, b := Bd.b Za, c := Bd.c Za, d := Bd.d Za } { a := Bd.a Zb, b := Bd.b Zb, c := Bd.c Zb, d := Bd.d Zb }))), (di (Bd.c (cnB divF { a := Bd.a Za, b := Bd.b Za, c := Bd.c Za, d := Bd.d Za } { a := Bd.a Zb, b := Bd.b Zb, c := Bd.c Zb, d := Bd.d Zb }))), (di (Bd.d (cnB divF { a := Bd.a Za, b := Bd.b Za, c := Bd.c Za, d := Bd.d Za } { a := Bd.a Zb, b := Bd.b Zb, c := Bd.c Zb, d := Bd.d Zb })))]), (db (!cnBad divF { a := Bd.a Za, b := Bd.b Za, c := Bd.c Za, d := Bd.d Za } { a := Bd.a Zb, b := Bd.b Zb, c := Bd.c Zb, d := Bd.d Zb }))]))) ∧ (((.tup [(.agg [(di (Bd.a (cnB divF { a := Bd.a Za, b := Bd.b Za, c := Bd.c Za, d := Bd.d Za } { a := Bd.a Zb, b := Bd.b Zb, c := Bd.c Zb, d := Bd.d Zb }))), (di (Bd.b (cnB divF { a := Bd.a Za, b := Bd.b Za, c := Bd.c Za, d := Bd.d Za } { a := Bd.a Zb, b := Bd.b Zb, c := Bd.c Zb, d := Bd.d Zb }))), (di (Bd.c (cnB divF { a := Bd.a Za, b := Bd.b Za, c := Bd.c Za, d := Bd.d Za } { a := Bd.a Zb, b := Bd.b Zb, c := Bd.c Zb, d := Bd.d Zb }))), (di (Bd.d (cnB divF { a := Bd.a Za, b := Bd.b Za, c := Bd.c Za, d := Bd.d Za } { a := Bd.a Zb, b := Bd.b Zb, c := Bd.c Zb, d := Bd.d Zb })))]), (db (!cnBad divF { a := Bd.a Za, b := Bd.b Za, c := Bd.c Za, d := Bd.d Za } { a := Bd.a Zb, b := Bd.b Zb, c := Bd.c Zb, d := Bd.d Zb }))]) : DV) = Zc)))))) ∧ (((Ex.k x == (9 : Int)) = false) → ((((Ex.k x == (11 : Int)) = true) → ((((0 : Int) ≤ (0 : Int)) ∧ ((0 : Int) < (↑xl : Int))) ∧ AWP Tryz.prog G [.code (cAt (bodyOf Tryz.f46) [1, 1, 1, 1, 1, 1, 1, 1, 1, 0, 1, 0]), (.blk 4), .code (cAt (bodyOf Tryz.f46) [1, 1, 1, 1, 1, 1, 1, 1, 1, 1])] ⟨regs 162 [(0, (.d (.ptr [(.mp none (fV l) (fH l)), (.mp none (wV ws) (wL ws))]))), (3, (.box 3 0)), (4, (.box 4 0)), (6, (.d (.slc 4 xl (bdF R)))), (11, (.box 11 0)), (12, (.d (.con (.func (.func 95) ⟨[]⟩ ⟨[]⟩)))), (13, (.box 13 0)), (45, Zd), (46, (vi ((↑xl : Int)))), (47, (vi ((↑xl : Int)))), (48, (vb (decide ((↑xl : Int) < (↑xl : Int))))), (65, (.d (.agg [(di 0), (di 1)]))), (66, (.d (.agg [(di 0), (di 1)]))), (67, (.d Zf)), (68, (.box 3 0)), (69, (vi (Ex.k x))), (70, (vb false)), (71, (vb (Ex.k x == (5 : Int)))), (79, (vb false)), (80, (vb (Ex.k x == (6 : Int)))), (90, (vb false)), (91, (vb (Ex.k x == (7 : Int)))), (107, (vb false)), (108, (vb (Ex.k x == (8 : Int)))), (118, (vb false)), (119, (vb (Ex.k x == (9 : Int)))), (135, (.box 3 0)), (136, (vi (Ex.k x))), (137, (vb true)), (138, (.d (.slc 4 xl (bdF R)))), (139, (.d (.ptr [(di (Bd.a Za)), (di (Bd.b Za)), (di (Bd.c Za)), (di (Bd.d Za))]))), (140, (.d (.agg [(di (Bd.a Za)), (di (Bd.b Za)), (di (Bd.c Za)), (di (Bd.d Za))]))), (141, (.d (.slc 4 xl (bdF R)))), (142, (vi ((↑xl : Int)))), (143, (vi 0))], [(13, [(vi (Bd.a Za)), (vi (Bd.b Za)), (vi (Bd.c Za)), (vi (Bd.d Za))]), (11, [(vi 0), (vi 1), (vi 0), (vi 1)]), (3, [(vi (Ex.k x)), (vs (Ex.s x)), (vi (Ex.n x)), (vi (Ex.d x)), (vi (Ex.pos x)), Zd]), (4, [(vi 0), (vi 0), (vi 0), (vi 0)])]⟩ Ze)) ∧ (((Ex.k x == (11 : Int)) = false) → ((((0 : Int) ≤ (0 : Int)) ∧ ((0 : Int) < (↑xl : Int))) ∧ AWP Tryz.prog G [.code (cAt (bodyOf Tryz.f46) [1, 1, 1, 1, 1, 1, 1, 1, 1, 0, 1, 0]), (.blk 4), .code (cAt (bodyOf Tryz.f46) [1, 1, 1, 1, 1, 1, 1, 1, 1, 1])] ⟨regs 162 [(0, (.d (.ptr [(.mp none (fV l) (fH l)), (.mp none (wV ws) (wL ws))]))), (3, (.box 3 0)), (4, (.box 4 0)), (6, (.d (.slc 4 xl (bdF R)))), (11, (.box 11 0)), (12, (.d (.con (.func (.func 94) ⟨[]⟩ ⟨[]⟩)))), (13, (.box 13 0)), (45, Zd), (46, (vi ((↑xl : Int)))), (47, (vi ((↑xl : Int)))), (48, (vb (decide ((↑xl : Int) < (↑xl : Int))))), (65, (.d (.agg [(di 0), (di 1)]))), (66, (.d (.agg [(di 0), (di 1)]))), (67, (.d Zf)), (68, (.box 3 0)), (69, (vi (Ex.k x))), (70, (vb false)), (71, (vb (Ex.k x == (5 : Int)))), (79, (vb false)), (80, (vb (Ex.k x == (6 : Int)))), (90, (vb false)), (91, (vb (Ex.k x == (7 : Int)))), (107, (vb false)), (108, (vb (Ex.k x == (8 : Int)))), (118, (vb false)), (119, (vb (Ex.k x == (9 : Int)))), (135, (.box 3 0)), (136, (vi (Ex.k x))), (137, (vb false)), (138, (.d (.slc 4 xl (bdF R)))), (139, (.d (.ptr [(di (Bd.a Za)), (di (Bd.b Za)), (di (Bd.c Za)), (di (Bd.d Za))]))), (140, (.d (.agg [(di (Bd.a Za)), (di (Bd.b Za)), (di (Bd.c Za)), (di (Bd.d Za))]))), (141, (.d (.slc 4 xl (bdF R)))), (142, (vi ((↑xl : Int)))), (143, (vi 0))], [(13, [(vi (Bd.a Za)), (vi (Bd.b Za)), (vi (Bd.c Za)), (vi (Bd.d Za))]), (11, [(vi 0), (vi 1), (vi 0), (vi 1)]), (3, [(vi (Ex.k x)), (vs (Ex.s x)), (vi (Ex.n x)), (vi (Ex.d x)), (vi (Ex.pos x)), Zd]), (4, [(vi 0), (vi 0), (vi 0), (vi 0)])]⟩ Ze)))))))))))))) (by kernel_rfl) ?_
      simp only [beq_iff_eq, beq_eq_false_iff_ne, ne_eq, t0, t1]
      repeat' (first | (with_reducible refine And.intro ?_ ?_) | (with_reducible intro _))
      all_goals first
        | contradiction
        | (exfalso; omega)
        | (show (0:Int) ≤ _; omega)
        | (show (1:Int) < _; omega)
        | (show (0:Int) < _; omega)
        | exact f88s ⟨0, 1, 0, 1⟩ _
        | exact f88m _ _
        | exact f88d _ _
        | exact f90a _ _
        | exact f90s ⟨_, _, _, _⟩ ⟨_, _, _, _⟩
        | exact f87 _ _ _ _
        | rw [bnC_5 (by assumption)]
        | (rw [bnC_6 (by assumption)]; rfl)
        | (rw [bnC_7 (by assumption)]; rfl)
        | rw [bnC_8 (by assumption)]
        | (rw [bnC_9 (by assumption), if_pos (by assumption)])
        | (rw [bnC_9 (by assumption), if_neg (by assumption)])
        | skip
      · refine AWP.loop (c := cAt (bodyOf Tryz.f46) [1, 1, 1, 1, 1, 1, 1, 1, 1, 0, 1, 0, 0]) (by kernel_rfl) (S46f true R xl) (fun k => k ≤ xl) (fun k => xl - k) 0 ?_ (Nat.zero_le _) ?_
        · refine of_eq1 (Prod.fst (List.getD R (0 : Nat) (bd0, true))) (fun Za => (((((.box 4 0) : AV) = (.box 4 0)) ∧ ((((.d (.con (.func (.func 95) ⟨[]⟩ ⟨[]⟩))) : AV) = (.d (.con (.func (.func (if true = true then (95 : FuncId) else (94 : FuncId))) ⟨[]⟩ ⟨[]⟩)))) ∧ ((((.box 13 0) : AV) = (.box 13 0)) ∧ ((((.d (.slc 4 xl (bdF R))) : AV) = (.d (.slc 4 xl (bdF R)))) ∧ ((((vi ((↑xl : Int))) : AV) = (vi ((↑xl : Int)))) ∧ ((((vi 0) : AV) = (vi 0)) ∧ True)))))) ∧ ((((some [(vi (Bd.a Za)), (vi (Bd.b Za)), (vi (Bd.c Za)), (vi (Bd.d Za))]) : (Option (List AV))) = (some [(vi (fbA true R (0 : Nat))), (vi (fbB true R (0 : Nat))), (vi (fbC true R (0 : Nat))), (vi (fbD true R (0 : Nat)))])) ∧ ((((some [(vi 0), (vi 0), (vi 0), (vi 0)]) : (Option (List AV))) = (some [(vi 0), (vi 0), (vi 0), (vi 0)])) ∧ True)))) (by kernel_rfl) ?_
          exact ⟨⟨rfl, rfl, rfl, rfl, rfl, rfl, trivial⟩, rfl, rfl, trivial⟩
        · intro k hk
          refine walkK (orc := orcBn2 l) (keep := []) (cuts := []) (n := 1000) follows ?_
          refine of_eqH1 (Prod.fst (List.getD R (Int.toNat (↑k : Int)) (bd0, true))) (fun Za => ((((decide ((↑k : Int) < (↑xl : Int))) = true) → ((((0 : Int) ≤ (↑k : Int)) ∧ ((↑k : Int) < (↑xl : Int))) ∧ ((FnOK Tryz.prog G 95 [(.agg [(di (fbA true R k)), (di (fbB true R k))]), (.agg [(di (Bd.a Za)), (di (Bd.b Za))])] (.agg [(di (grN (fbA true R k) (fbB true R k) (Bd.a Za) (Bd.b Za))), (di (grD (fbA true R k) (fbB true R k) (Bd.a Za) (Bd.b Za)))]) ∧ FnOK Tryz.prog G 95 [(.agg [(di (fbC true R k)), (di (fbD true R k))]), (.agg [(di (Bd.c Za)), (di (Bd.d Za))])] (.agg [(di (grN (fbC true R k) (fbD true R k) (Bd.c Za) (Bd.d Za))), (di (grD (fbC true R k) (fbD true R k) (Bd.c Za) (Bd.d Za)))])) ∧ ((I64 ((↑k : Int) + (1 : Int))) ∧ Again (S46f true R xl) (fun k => k ≤ xl) (fun k => xl - k) k ⟨regs 162 [(4, (.box 4 0)), (12, (.d (.con (.func (.func (if true = true then (95 : FuncId) else (94 : FuncId))) ⟨[]⟩ ⟨[]⟩)))), (13, (.box 13 0)), (15, (.box 15 0)), (141, (.d (.slc 4 xl (bdF R)))), (142, (vi ((↑xl : Int)))), (143, (vi ((↑k : Int) + (1 : Int)))), (144, (vb true)), (145, (.d (.ptr [(di (Bd.a Za)), (di (Bd.b Za)), (di (Bd.c Za)), (di (Bd.d Za))]))), (146, (.d (.agg [(di (Bd.a Za)), (di (Bd.b Za)), (di (Bd.c Za)), (di (Bd.d Za))]))), (147, (.d (.con (.func (.func (if true = true then (95 : FuncId) else (94 : FuncId))) ⟨[]⟩ ⟨[]⟩)))), (148, (.box 13 0)), (149, (.d (.agg [(di (fbA true R k)), (di (fbB true R k))]))), (150, (.box 15 0)), (151, (.d (.agg [(di (Bd.a Za)), (di (Bd.b Za))]))), (152, (.d (.agg [(di (grN (fbA true R k) (fbB true R k) (Bd.a Za) (Bd.b Za))), (di (grD (fbA true R k) (fbB true R k) (Bd.a Za) (Bd.b Za)))]))), (153, (.d (.con (.func (.func (if true = true then (95 : FuncId) else (94 : FuncId))) ⟨[]⟩ ⟨[]⟩)))), (154, (.box 13 2)), (155, (.d (.agg [(di (fbC true R k)), (di (fbD true R k))]))), (156, (.box 15 2)), (157, (.d (.agg [(di (Bd.c Za)), (di (Bd.d Za))]))), (158, (.d (.agg [(di (grN (fbC true R k) (fbD true R k) (Bd.c Za) (Bd.d Za))), (di (grD (fbC true R k) (fbD true R k) (Bd.c Za) (Bd.d Za)))]))), (159, (.d (.agg [(di (grN (fbA true R k) (fbB true R k) (Bd.a Za) (Bd.b Za))), (di (grD (fbA true R k) (fbB true R k) (Bd.a Za) (Bd.b Za))), (di (grN (fbC true R k) (fbD true R k) (Bd.c Za) (Bd.d Za))), (di (grD (fbC true R k) (fbD true R k) (Bd.c Za) (Bd.d Za)))]))), (160, (vi ((↑k : Int) + (1 : Int))))], [(15, [(vi (Bd.a Za)), (vi (Bd.b Za)), (vi (Bd.c Za)), (vi (Bd.d Za))]), (13, [(vi (grN (fbA true R k) (fbB true R k) (Bd.a Za) (Bd.b Za))), (vi (grD (fbA true R k) (fbB true R k) (Bd.a Za) (Bd.b Za))), (vi (grN (fbC true R k) (fbD true R k) (Bd.c Za) (Bd.d Za))), (vi (grD (fbC true R k) (fbD true R k) (Bd.c Za) (Bd.d Za)))]), (4, [(vi 0), (vi 0), (vi 0), (vi 0)])]⟩)))) ∧ (((decide ((↑k : Int) < (↑xl : Int))) = false) → AWP Tryz.prog G [.code (cAt (bodyOf Tryz.f46) [1, 1, 1, 1, 1, 1, 1, 1, 1, 1])] ⟨regs 162 [(4, (.box 4 0)), (12, (.d (.con (.func (.func (if true = true then (95 : FuncId) else (94 : FuncId))) ⟨[]⟩ ⟨[]⟩)))), (13, (.box 13 0)), (141, (.d (.slc 4 xl (bdF R)))), (142, (vi ((↑xl : Int)))), (143, (vi ((↑k : Int)))), (144, (vb false))], [(13, [(vi (fbA true R k)), (vi (fbB true R k)), (vi (fbC true R k)), (vi (fbD true R k))]), (4, [(vi 0), (vi 0), (vi 0), (vi 0)])]⟩ (Ret Tryz.prog Tryz.f46 (DV.tup [bdD (Prod.fst (bnC (Ex.k x) R)), db (Prod.snd (bnC (Ex.k x) R))]))))) (by kernel_rfl) ?_
          simp only [Int.toNat_natCast]
          refine ⟨fun h => ?_, fun h => ?_⟩
          · have hk2 : k < xl := by have := of_decide_eq_true h; omega
            refine ⟨⟨by omega, by omega⟩, ⟨f95 _ _ _ _, f95 _ _ _ _⟩, ⟨by omega, by omega⟩, Again.mk (k + 1) ?_ hk2 (by omega)⟩
            refine of_eq1 (Prod.fst (List.getD R k (bd0, true))) (fun Za => (((((.box 4 0) : AV) = (.box 4 0)) ∧ ((((.d (.con (.func (.func (if True then (95 : FuncId) else (94 : FuncId))) ⟨[]⟩ ⟨[]⟩))) : AV) = (.d (.con (.func (.func (if true = true then (95 : FuncId) else (94 : FuncId))) ⟨[]⟩ ⟨[]⟩)))) ∧ ((((.box 13 0) : AV) = (.box 13 0)) ∧ ((((.d (.slc 4 xl (bdF R))) : AV) = (.d (.slc 4 xl (bdF R)))) ∧ ((((vi ((↑xl : Int))) : AV) = (vi ((↑xl : Int)))) ∧ ((((vi ((↑k : Int) + (1 : Int))) : AV) = (vi ((↑(k + (1 : Nat)) : Int)))) ∧ True)))))) ∧ ((((some [(vi (grN (fbA true R k) (fbB true R k) (Bd.a Za) (Bd.b Za))), (vi (grD (fbA true R k) (fbB true R k) (Bd.a Za) (Bd.b Za))), (vi (grN (fbC true R k) (fbD true R k) (Bd.c Za) (Bd.d Za))), (vi (grD (fbC true R k) (fbD true R k) (Bd.c Za) (Bd.d Za)))]) : (Option (List AV))) = (some [(vi (fbA true R (k + (1 : Nat)))), (vi (fbB true R (k + (1 : Nat)))), (vi (fbC true R (k + (1 : Nat)))), (vi (fbD true R (k + (1 : Nat))))])) ∧ ((((some [(vi 0), (vi 0), (vi 0), (vi 0)]) : (Option (List AV))) = (some [(vi 0), (vi 0), (vi 0), (vi 0)])) ∧ True)))) (by kernel_rfl) ?_
            exact ⟨⟨rfl, rfl, rfl, rfl, rfl, rfl, trivial⟩, rfl, rfl, trivial⟩
          · have h := of_decide_eq_false h
            obtain rfl : k = xl := by omega
            refine walkK (orc := orcBn2 l) (keep := []) (cuts := []) (n := 1000) follows ?_
            refine of_eqH (b := (((.tup [(.agg [(di (fbA true R k)), (di (fbB true R k)), (di (fbC true R k)), (di (fbD true R k))]), (db true)]) : DV) = (.tup [(bdD (Prod.fst (bnC (Ex.k x) R))), (db (Prod.snd (bnC (Ex.k x) R)))]))) (by kernel_rfl) ?_
            rw [bnC_z (by omega), decide_eq_true (by omega), hRl]
            rfl
      · refine AWP.loop (c := cAt (bodyOf Tryz.f46) [1, 1, 1, 1, 1, 1, 1, 1, 1, 0, 1, 0, 0]) (by kernel_rfl) (S46f false R xl) (fun k => k ≤ xl) (fun k => xl - k) 0 ?_ (Nat.zero_le _) ?_
        · refine of_eq1 (Prod.fst (List.getD R (0 : Nat) (bd0, true))) (fun Za => (((((.box 4 0) : AV) = (.box 4 0)) ∧ ((((.d (.con (.func (.func 94) ⟨[]⟩ ⟨[]⟩))) : AV) = (.d (.con (.func (.func (if false = true then (95 : FuncId) else (94 : FuncId))) ⟨[]⟩ ⟨[]⟩)))) ∧ ((((.box 13 0) : AV) = (.box 13 0)) ∧ ((((.d (.slc 4 xl (bdF R))) : AV) = (.d (.slc 4 xl (bdF R)))) ∧ ((((vi ((↑xl : Int))) : AV) = (vi ((↑xl : Int)))) ∧ ((((vi 0) : AV) = (vi 0)) ∧ True)))))) ∧ ((((some [(vi (Bd.a Za)), (vi (Bd.b Za)), (vi (Bd.c Za)), (vi (Bd.d Za))]) : (Option (List AV))) = (some [(vi (fbA false R (0 : Nat))), (vi (fbB false R (0 : Nat))), (vi (fbC false R (0 : Nat))), (vi (fbD false R (0 : Nat)))])) ∧ ((((some [(vi 0), (vi 0), (vi 0), (vi 0)]) : (Option (List AV))) = (some [(vi 0), (vi 0), (vi 0), (vi 0)])) ∧ True)))) (by kernel_rfl) ?_
          exact ⟨⟨rfl, rfl, rfl, rfl, rfl, rfl, trivial⟩, rfl, rfl, trivial⟩
        · intro k hk
          refine walkK (orc := orcBn2 l) (keep := []) (cuts := []) (n := 1000) follows ?_
          refine of_eqH1 (Prod.fst (List.getD R (Int.toNat (↑k : Int)) (bd0, true))) (fun Za => ((((decide ((↑k : Int) < (↑xl : Int))) = true) → ((((0 : Int) ≤ (↑k : Int)) ∧ ((↑k : Int) < (↑xl : Int))) ∧ ((FnOK Tryz.prog G 94 [(.agg [(di (fbA false R k)), (di (fbB false R k))]), (.agg [(di (Bd.a Za)), (di (Bd.b Za))])] (.agg [(di (leN (fbA false R k) (fbB false R k) (Bd.a Za) (Bd.b Za))), (di (leD (fbA false R k) (fbB false R k) (Bd.a Za) (Bd.b Za)))]) ∧ FnOK Tryz.prog G 94 [(.agg [(di (fbC false R k)), (di (fbD false R k))]), (.agg [(di (Bd.c Za)), (di (Bd.d Za))])] (.agg [(di (leN (fbC false R k) (fbD false R k) (Bd.c Za) (Bd.d Za))), (di (leD (fbC false R k) (fbD false R k) (Bd.c Za) (Bd.d Za)))])) ∧ ((I64 ((↑k : Int) + (1 : Int))) ∧ Again (S46f false R xl) (fun k => k ≤ xl) (fun k => xl - k) k ⟨regs 162 [(4, (.box 4 0)), (12, (.d (.con (.func (.func (if false = true then (95 : FuncId) else (94 : FuncId))) ⟨[]⟩ ⟨[]⟩)))), (13, (.box 13 0)), (15, (.box 15 0)), (141, (.d (.slc 4 xl (bdF R)))), (142, (vi ((↑xl : Int)))), (143, (vi ((↑k : Int) + (1 : Int)))), (144, (vb true)), (145, (.d (.ptr [(di (Bd.a Za)), (di (Bd.b Za)), (di (Bd.c Za)), (di (Bd.d Za))]))), (146, (.d (.agg [(di (Bd.a Za)), (di (Bd.b Za)), (di (Bd.c Za)), (di (Bd.d Za))]))), (147, (.d (.con (.func (.func (if false = true then (95 : FuncId) else (94 : FuncId))) ⟨[]⟩ ⟨[]⟩)))), (148, (.box 13 0)), (149, (.d (.agg [(di (fbA false R k)), (di (fbB false R k))]))), (150, (.box 15 0)), (151, (.d (.agg [(di (Bd.a Za)), (di (Bd.b Za))]))), (152, (.d (.agg [(di (leN (fbA false R k) (fbB false R k) (Bd.a Za) (Bd.b Za))), (di (leD (fbA false R k) (fbB false R k) (Bd.a Za) (Bd.b Za)))]))), (153, (.d (.con (.func (.func (if false = true then (95 : FuncId) else (94 : FuncId))) ⟨[]⟩ ⟨[]⟩)))), (154, (.box 13 2)), (155, (.d (.agg [(di (fbC false R k)), (di (fbD false R k))]))), (156, (.box 15 2)), (157, (.d (.agg [(di (Bd.c Za)), (di (Bd.d Za))]))), (158, (.d (.agg [(di (leN (fbC false R k) (fbD false R k) (Bd.c Za) (Bd.d Za))), (di (leD (fbC false R k) (fbD false R k) (Bd.c Za) (Bd.d Za)))]))), (159, (.d (.agg [(di (leN (fbA false R k) (fbB false R k) (Bd.a Za) (Bd.b Za))), (di (leD (fbA false R k) (fbB false R k) (Bd.a Za) (Bd.b Za))), (di (leN (fbC false R k) (fbD false R k) (Bd.c Za) (Bd.d Za))), (di (leD (fbC false R k) (fbD false R k) (Bd.c Za) (Bd.d Za)))]))), (160, (vi ((↑k : Int) + (1 : Int))))], [(15, [(vi (Bd.a Za)), (vi (Bd.b Za)), (vi (Bd.c Za)), (vi (Bd.d Za))]), (13, [(vi (leN (fbA false R k) (fbB false R k) (Bd.a Za) (Bd.b Za))), (vi (leD (fbA false R k) (fbB false R k) (Bd.a Za) (Bd.b Za))), (vi (leN (fbC false R k) (fbD false R k) (Bd.c Za) (Bd.d Za))), (vi (leD (fbC false R k) (fbD false R k) (Bd.c Za) (Bd.d Za)))]), (4, [(vi 0), (vi 0), (vi 0), (vi 0)])]⟩)))) ∧ (((decide ((↑k : Int) < (↑xl : Int))) = false) → AWP Tryz.prog G [.code (cAt (bodyOf Tryz.f46) [1, 1, 1, 1, 1, 1, 1, 1, 1, 1])] ⟨regs 162 [(4, (.box 4 0)), (12, (.d (.con (.func (.func (if false = true then (95 : FuncId) else (94 : FuncId))) ⟨[]⟩ ⟨[]⟩)))), (13, (.box 13 0)), (141, (.d (.slc 4 xl (bdF R)))), (142, (vi ((↑xl : Int)))), (143, (vi ((↑k : Int)))), (144, (vb false))], [(13, [(vi (fbA false R k)), (vi (fbB false R k)), (vi (fbC false R k)), (vi (fbD false R k))]), (4, [(vi 0), (vi 0), (vi 0), (vi 0)])]⟩ (Ret Tryz.prog Tryz.f46 (DV.tup [bdD (Prod.fst (bnC (Ex.k x) R)), db (Prod.snd (bnC (Ex.k x) R))]))))) (by kernel_rfl) ?_
          simp only [Int.toNat_natCast]
          refine ⟨fun h => ?_, fun h => ?_⟩
          · have hk2 : k < xl := by have := of_decide_eq_true h; omega
            refine ⟨⟨by omega, by omega⟩, ⟨f94 _ _ _ _, f94 _ _ _ _⟩, ⟨by omega, by omega⟩, Again.mk (k + 1) ?_ hk2 (by omega)⟩
            refine of_eq1 (Prod.fst (List.getD R k (bd0, true))) (fun Za => (((((.box 4 0) : AV) = (.box 4 0)) ∧ ((((.d (.con (.func (.func (if false = true then (95 : FuncId) else (94 : FuncId))) ⟨[]⟩ ⟨[]⟩))) : AV) = (.d (.con (.func (.func (if false = true then (95 : FuncId) else (94 : FuncId))) ⟨[]⟩ ⟨[]⟩)))) ∧ ((((.box 13 0) : AV) = (.box 13 0)) ∧ ((((.d (.slc 4 xl (bdF R))) : AV) = (.d (.slc 4 xl (bdF R)))) ∧ ((((vi ((↑xl : Int))) : AV) = (vi ((↑xl : Int)))) ∧ ((((vi ((↑k : Int) + (1 : Int))) : AV) = (vi ((↑(k + (1 : Nat)) : Int)))) ∧ True)))))) ∧ ((((some [(vi (leN (fbA false R k) (fbB false R k) (Bd.a Za) (Bd.b Za))), (vi (leD (fbA false R k) (fbB false R k) (Bd.a Za) (Bd.b Za))), (vi (leN (fbC false R k) (fbD false R k) (Bd.c Za) (Bd.d Za))), (vi (leD (fbC false R k) (fbD false R k) (Bd.c Za) (Bd.d Za)))]) : (Option (List AV))) = (some [(vi (fbA false R (k + (1 : Nat)))), (vi (fbB false R (k + (1 : Nat)))), (vi (fbC false R (k + (1 : Nat)))), (vi (fbD false R (k + (1 : Nat))))])) ∧ ((((some [(vi 0), (vi 0), (vi 0), (vi 0)]) : (Option (List AV))) = (some [(vi 0), (vi 0), (vi 0), (vi 0)])) ∧ True)))) (by kernel_rfl) ?_
            exact ⟨⟨rfl, rfl, rfl, rfl, rfl, rfl, trivial⟩, rfl, rfl, trivial⟩
          · have h := of_decide_eq_false h
            obtain rfl : k = xl := by omega
            refine walkK (orc := orcBn2 l) (keep := []) (cuts := []) (n := 1000) follows ?_
            refine of_eqH (b := (((.tup [(.agg [(di (fbA false R k)), (di (fbB false R k)), (di (fbC false R k)), (di (fbD false R k))]), (db true)]) : DV) = (.tup [(bdD (Prod.fst (bnC (Ex.k x) R))), (db (Prod.snd (bnC (Ex.k x) R)))]))) (by kernel_rfl) ?_
            rw [bnC_z (by omega), decide_eq_false (by omega), hRl]
            rfl
end Go.Proofs
set_option autoImplicit false
namespace Go.Proofs
open Go Go.Ab Go.RowKit
set_option maxHeartbeats 4000000
set_option maxRecDepth 100000
variable {G : IH}
/-! A trend, seen with the sign of an expression. -/
def seeB (b : BR) (t : Int) : Int := if (b.2 && decide (b.1.a ≥ 0)) = true then t else if (b.2 && decide (b.1.c ≤ 0)) = true then oppI t else if t = 0 then t else 3
noncomputable def orcSe (l : List Fc) : Oracle := fun f a => match f, a with
  | 46, [_, e] => some (.tup [bdD (bnE l (rdE e)).1, db (bnE l (rdE e)).2])
  | 84, [.con (.int .i64 t)] => some (di (oppI t))
  | _, _ => none
theorem f86 (l : List Fc) (ws : List ByteArray) (m : Nat) (x : Ex) (t : Int) (hx : ht x ≤ m) (hs : Sm x) (hsn : sndE x = true) (hnu : numE x = true) : FnOK Tryz.prog G 86 [wrD l ws, di t, exD m x] (di (seeB (bnE l x) t)) := by
  have e : rdE (exV x.k x.s x.n x.d x.pos x.kids.length (lay (exG m) x.kids)) = x := rdE_eq hx
  refine FnOK.walk (orc := orcSe l) (keep := []) follows Tryz.func86 rfl Tryz.call86 ?_
  refine of_eqH1 (Prod.fst (bnE l (rdE (ndX m x)))) (fun Za => (FnOK Tryz.prog G 46 [(.ptr [(.mp none (fV l) (fH l)), (.mp none (wV ws) (wL ws))]), (ndX m x)] (.tup [(.agg [(di (Bd.a Za)), (di (Bd.b Za)), (di (Bd.c Za)), (di (Bd.d Za))]), (db (Prod.snd (bnE l (rdE (ndX m x)))))]) ∧ ((((Prod.snd (bnE l (rdE (ndX m x))) && decide (Bd.a Za ≥ (0 : Int))) = true) → (((di t) : DV) = (di (seeB (bnE l x) t)))) ∧ (((Prod.snd (bnE l (rdE (ndX m x))) && decide (Bd.a Za ≥ (0 : Int))) = false) → ((((Prod.snd (bnE l (rdE (ndX m x))) && decide (Bd.c Za ≤ (0 : Int))) = true) → (FnOK Tryz.prog G 84 [(di t)] (di (oppI t)) ∧ (((di (oppI t)) : DV) = (di (seeB (bnE l x) t))))) ∧ (((Prod.snd (bnE l (rdE (ndX m x))) && decide (Bd.c Za ≤ (0 : Int))) = false) → ((((t == (0 : Int)) = true) → (((di t) : DV) = (di (seeB (bnE l x) t)))) ∧ (((t == (0 : Int)) = false) → (((di 3) : DV) = (di (seeB (bnE l x) t))))))))))) (by kernel_rfl) ?_
  simp only [e]
  unfold seeB
  refine ⟨f46 l ws m x hx hs hsn hnu, fun h => ?_, fun h => ⟨fun h2 => ⟨f84 _, ?_⟩, fun h2 => ⟨fun h3 => ?_, fun h3 => ?_⟩⟩⟩
  · rw [if_pos h]
  · rw [if_neg (by rw [h]; decide), if_pos h2]
  · rw [if_neg (by rw [h]; decide), if_neg (by rw [h2]; decide), if_pos (by simpa using h3)]
  · rw [if_neg (by rw [h]; decide), if_neg (by rw [h2]; decide), if_neg (by simpa using h3)]
/-! Bounds. -/
def bdsR (L : List Fc) (x : Ex) : BR := if ((typR L x).2.2 != 0 || (typR L x).1 != 0) = true then (bd0, false) else if (bnE (revF L L.length) x).2 = true then bnE (revF L L.length) x else (bd0, false)
noncomputable def orcBs (L : List Fc) : Oracle := fun f a => match f, a with
  | 13, [e, _] => some (.tup [di (typR L (rdE e)).1, di (typR L (rdE e)).2.1, di (typR L (rdE e)).2.2])
  | 41, [_] => some (wrL L)
  | 46, [_, e] => some (.tup [bdD (bnE (revF L L.length) (rdE e)).1, db (bnE (revF L L.length) (rdE e)).2])
  | _, _ => none
theorem typ_ok {L : List Fc} {x : Ex} (h : (typR L x).2.2 = 0) : vfB L = true ∧ fitE x = true ∧ sndE x = true ∧ (tyW L x).2.2 = 0 ∧ typR L x = ((tyW L x).1, 0, 0) := by
  unfold typR at h ⊢
  split at h
  · simp at h
  · rename_i h1
    split at h
    · exact absurd h (by assumption)
    · rename_i h2
      simp only [Bool.or_eq_true, Bool.not_eq_true', decide_eq_true_eq, not_or] at h1
      have hf : fitE x = true := by
        have h3 := h1.2
        unfold fmtX at h3
        cases hh : fitE x with
        | true => rfl
        | false => rw [hh] at h3; exact absurd rfl h3
      refine ⟨by simpa using h1.1, hf, ?_, by omega, ?_⟩
      · unfold fitE at hf
        simp only [Bool.and_eq_true] at hf
        first | exact hf.1.1 | exact hf.1
      · rw [if_neg (by simp only [Bool.or_eq_true, Bool.not_eq_true', decide_eq_true_eq, not_or]; exact h1), if_neg h2]
theorem f16 (hT : Tab G) (m : Nat) (x : Ex) (L : List Fc) (hx : ht x ≤ m) (hs : Sm x) (h : ∀ i, i < L.length → FcS (L.getD i fc0)) (hl : L.length ≤ 1000) : FnOK Tryz.prog G 16 [exD m x, fcsD L] (.tup [fr (bdsR L x).1.a (bdsR L x).1.b, fr (bdsR L x).1.c (bdsR L x).1.d, db (bdsR L x).2]) := by
  have e : rdE (exV x.k x.s x.n x.d x.pos x.kids.length (lay (exG m) x.kids)) = x := rdE_eq hx
  have hwd := fun i (hi : i < L.length) => (h i hi).ln
  refine FnOK.walk (orc := orcBs L) (keep := []) follows Tryz.func16 rfl Tryz.call16 ?_
  refine of_eqH5 (bnE (revF L (List.length L)) (rdE (ndX m x))) ((.tup [(fr (Bd.a (Prod.fst (bdsR L x))) (Bd.b (Prod.fst (bdsR L x)))), (fr (Bd.c (Prod.fst (bdsR L x))) (Bd.d (Prod.fst (bdsR L x)))), (db (Prod.snd (bdsR L x)))]) : DV) ((.ptr [(.mp none (fV (revF L (List.length L))) (fH (revF L (List.length L)))), (.mp none (wV (revW L (List.length L))) (wL (revW L (List.length L))))]) : DV) (Prod.snd (Prod.snd (typR L (rdE (ndX m x)))) != (0 : Int) || Prod.fst (typR L (rdE (ndX m x))) != (0 : Int)) ((.tup [(.agg [(di 0), (di 0)]), (.agg [(di 0), (di 0)]), (db false)]) : DV) (fun Za Zb Zc Zd Ze => (FnOK Tryz.prog G 13 [(ndX m x), (.slc 7 (List.length L) (fcF L))] (.tup [(di (Prod.fst (typR L (rdE (ndX m x))))), (di (Prod.fst (Prod.snd (typR L (rdE (ndX m x)))))), (di (Prod.snd (Prod.snd (typR L (rdE (ndX m x))))))]) ∧ (((Zd = true) → (Ze = Zb)) ∧ ((Zd = false) → ((FnOK Tryz.prog G 41 [(.slc 7 (List.length L) (fcF L))] Zc ∧ FnOK Tryz.prog G 46 [Zc, (ndX m x)] (.tup [(.agg [(di (Bd.a (Prod.fst Za))), (di (Bd.b (Prod.fst Za))), (di (Bd.c (Prod.fst Za))), (di (Bd.d (Prod.fst Za)))]), (db (Prod.snd Za))])) ∧ ((((!Prod.snd Za) = true) → (Ze = Zb)) ∧ (((!Prod.snd Za) = false) → (((.tup [(.agg [(di (Bd.a (Prod.fst Za))), (di (Bd.b (Prod.fst Za)))]), (.agg [(di (Bd.c (Prod.fst Za))), (di (Bd.d (Prod.fst Za)))]), (db true)]) : DV) = Zb)))))))) (by kernel_rfl) ?_
  simp only [e]
  refine ⟨f13 hT m x L hx hs h hl, fun h1 => ?_, fun h1 => ⟨⟨f41 L (by omega) (fun i hi => by have := hwd i hi; omega), ?_⟩, fun h2 => ?_, fun h2 => ?_⟩⟩
  · unfold bdsR; rw [if_pos h1]
  · have h1 := h1
    simp only [Bool.or_eq_false_iff, bne_eq_false_iff_eq] at h1
    obtain ⟨_, _, hsn, ht2, ht3⟩ := typ_ok h1.1
    rw [ht3] at h1
    exact f46 _ _ m x hx hs hsn (num_of m x hx hsn ht2 h1.2)
  · unfold bdsR; rw [if_neg (by rw [h1]; decide), if_neg (by simpa using h2)]
  · unfold bdsR; rw [if_neg (by rw [h1]; decide), if_pos (by simpa using h2)]; simp at h2; rw [h2]
end Go.Proofs
