import Derived.Test.YtellpkieoccljaaGreatDoorAcD
import Derived.Test.YtellpkieoccljaaGreatDoorG9
import Derived.Test.YtellpkieoccljaaGreatDoorG7
import Derived.Test.YtellpkieoccljaaGreatDoorG6
set_option autoImplicit false
namespace Go.Proofs
open Go Go.Ab Go.RowKit
set_option maxHeartbeats 4000000
set_option maxRecDepth 100000
variable {G:IH}
/-! The text of rules. -/
def rl0:Rl:=⟨0,.empty,.empty,ak,ak,0,0,0⟩
def agV (R:List Rl):Nat→ByteArray
 | 0=>.empty
 | k+1=>agV R k++lnB (R.getD k rl0)
/-! Checked rules. -/
/-! What an expression must be. -/
def xpC (want:Int) (r:KR):Int:=if r.2.2=0∧r.1≠want then 5 else r.2.2
/-! Check. -/
/-! The reference's rules. -/
def rfB (r:Rl):Bool:=decide (r.kind≥0)&&decide (r.kind≤3)&&nameB r.nm&&(decide (r.gr.size=0)||nameB r.gr)&&kK r.am&&(ahq r.wh||kK r.wh)
/-! The two ways in which rules are valid are one. -/
/-! The reference's Check. -/
/-! When rules are right. -/
def okR (L:List Fc) (r:Rl):Prop:=(r.gr.size=0∨r.kind=0)∧xpC 0 (dA L r.am)=0∧(r.wh.k=0∨xpC 1 (dA L r.wh)=0)
structure Good (L:List Fc) (R:List Rl):Prop where
 vf:jk L=true
 len:R.length≤32
 rf:∀r∈R,rfB r=true
 sz:(agV R R.length).size≤16384
 nm:R.Pairwise fun a b=>a.nm≠b.nm
 gr:∀r∈R,∀q∈R,q.gr≠r.nm
 ok:∀r∈R,okR L r
/-! Score,by the program. -/
end Go.Proofs
/- Rules one by one,plain: each is right alone,and with its condition negated. -/
namespace Go.Proofs
open Go Go.Ab Go.RowKit
set_option maxHeartbeats 1000000
end Go.Proofs
/- The deciding atoms decide,plain. -/
namespace Go.Proofs
open Go Go.Ab Go.RowKit
set_option maxHeartbeats 1000000
theorem agn {k n d:Int} {s:ByteArray} {len:Nat} {all:Bool} (hk:k=18∨k=19∨k=20) (h:qO k n d s len all=true):all=true∧qO k 0 0 .empty len true=true:=by
 unfold qO zJ at h⊢
 rcases hk with rfl|rfl|rfl
 ·rw[if_neg (by decide),if_neg (by decide),if_neg (by decide),if_pos (by decide)] at h⊢
  simp only[aT,decide_eq_true_eq] at h⊢
  exact⟨h.2,⟨⟨⟨rfl,rfl,rfl⟩,h.1.1.2⟩,h.1.2⟩,trivial⟩
 ·rw[if_neg (by decide),if_neg (by decide),if_neg (by decide),if_neg (by decide),if_neg (by decide)] at h⊢
  simp only[aT,decide_eq_true_eq] at h⊢
  exact⟨h.2.2,h.1,⟨⟨⟨rfl,rfl,rfl⟩,h.2.1.1.2⟩,h.2.1.2⟩,trivial⟩
 ·rw[if_neg (by decide),if_neg (by decide),if_neg (by decide),if_neg (by decide),if_neg (by decide)] at h⊢
  simp only[aT,decide_eq_true_eq] at h⊢
  exact⟨h.2.2,h.1,⟨⟨⟨rfl,rfl,rfl⟩,h.2.1.1.2⟩,h.2.1.2⟩,trivial⟩
theorem agW (b:Bool):aV (tfE b)=true:=by cases b<;>decide
mutual
theorem afJ (B:Nat→Bool):∀(x:Ex) (a:Nat),aV x=true→aV (yx B x a)=true
 | .mk k s n d p kids,a,h=>by
  rw[yx]
  split
  ·rename_i hk
   simp only[aV] at h⊢
   obtain ⟨h1,h2⟩:=agn hk h
   rw[TQ,aew B kids a h1];exact h2
  ·exact agW _
theorem aew (B:Nat→Bool):∀(l:List Ex) (a:Nat),qH l=true→qH (DZ B l a)=true
 | [],_,_=>rfl
 | x :: l,a,h=>by
  simp only[qH,aT] at h
  rw[DZ]
  simp only[qH,aT]
  exact⟨afJ B x a h.1,aew B l _ h.2⟩
end
theorem af6 (F:List Ft) (b:Bool):dI F (tfE b)=some b:=by
 rw[lX]
 cases b
 ·show sV F 4 .empty [] (ED F [])=_
  unfold sV;rw[if_neg (by decide),if_pos rfl]
 ·show sV F 3 .empty [] (ED F [])=_
  unfold sV;rw[if_pos rfl]
theorem ag6 (l:List Fc) (ws:List ByteArray) (b:Bool):(bZ l ws (tfE b)).1=1∧(bZ l ws (tfE b)).2.2=0:=by
 rw[EM]
 cases b
 ·show (EP l ws 4 .empty 0 [] _ _).1=1∧(EP l ws 4 .empty 0 [] _ _).2.2=0
  unfold EP badR fO
  simp
 ·show (EP l ws 3 .empty 0 [] _ _).1=1∧(EP l ws 3 .empty 0 [] _ _).2.2=0
  unfold EP badR fO
  simp
theorem agR {l:List Int} {v:Int} (h:∀i,i<l.length→l.getD i 0=v):lT l v=true:=by
 unfold lT
 rw[Bool.not_eq_true',List.any_eq_false]
 intro y hy
 obtain ⟨i,hi,rfl⟩:=List.getElem_of_mem hy
 have:=h i hi
 rw[List.getD,bQ hi] at this
 have this:l[i]=v:=this
 rw[this];simp
theorem agY {l:List Fc} {ws:List ByteArray} {x:Ex} (hk:18≤x.k) (h:∀i,i<x.kids.length→(bZ l ws (x.kids.getD i ak)).1=1∧(bZ l ws (x.kids.getD i ak)).2.2=0):(bZ l ws x).1=1∧(bZ l ws x).2.2=0:=by
 have hb:badR (jJ l ws x.kids)=none:=KD (r0:=bZ l ws ak) fun i hi=>by
  rw[lg,List.length_map] at hi
  rw[lg,List.getD,List.getElem?_map,bQ hi]
  have:=(h i hi).2
  rw[List.getD,bQ hi] at this
  exact this
 have ha:lT ((jJ l ws x.kids).map (·.1)) 1=true:=agR fun i hi=>by
  rw[OI] at hi
  rw[yU hi];exact(h i hi).1
 rw[EM]
 unfold EP
 rw[hb]
 obtain ⟨_,_,a3,_⟩:=@F8 l ws x.k x.s ((jJ l ws x.kids).map (·.1)) (x.kids.getD 0 ak).s (x.kids.getD 1 ak).s
 simp only[a3 hk]
 unfold iW ji
 rw[if_pos ha,if_pos ha]
 exact⟨rfl,rfl⟩
theorem ag9 {l:List Fc} {ws:List ByteArray} (B:Nat→Bool) (m:Nat):∀(x:Ex) (a:Nat),ht x≤m→(bZ l ws x).2.2=0→(bZ l ws (yx B x a)).1=1∧(bZ l ws (yx B x a)).2.2=0:=by
 induction m using Nat.strongRecOn with
 | _ m ih=>
 intro x a hm ht2
 cases hsp:jU x with
 | false=>rw[aaS _ hsp];exact ag6 _ _ _
 | true=>
  have hk:=(ql x).1 hsp
  rw[afe _ hsp]
  refine agY (by show 18≤x.k;omega) fun i hi=>?_
  have hi:i<(DZ B x.kids a).length:=hi
  rw[TQ] at hi
  show (bZ l ws ((DZ B x.kids a).getD i ak)).1=1∧(bZ l ws ((DZ B x.kids a).getD i ak)).2.2=0
  rw[TV _ _ _ _ hi]
  have hh:=iC hi
  exact ih (ht (x.kids.getD i ak)) (by omega) _ _ (Nat.le_refl _) ((ig ht2).1 i hi)
theorem adq {x:Ex} (hl:x.kids.length=2):x.kids=[x.kids.getD 0 ak,x.kids.getD 1 ak]:=by
 cases x with|mk k s n d p kids=>
 match kids,hl with
 | [a,b],_=>rfl
theorem afW {x:Ex} (hl:x.kids.length=1):x.kids=[x.kids.getD 0 ak]:=by
 cases x with|mk k s n d p kids=>
 match kids,hl with
 | [a],_=>rfl
theorem aeu {x:Ex} (hk:x.k=18) (hl:x.kids.length=1):bM x=bM (x.kids.getD 0 ak):=by
 rw[OM,if_pos (.inl hk),afW hl]
 simp[iP]
theorem aes {x:Ex} (hk:x.k=19∨x.k=20) (hl:x.kids.length=2):bM x=bM (x.kids.getD 0 ak)++bM (x.kids.getD 1 ak):=by
 rw[OM,if_pos (.inr hk)]
 rw[show iP x.kids=iP [x.kids.getD 0 ak,x.kids.getD 1 ak] from congrArg iP (adq hl)]
 simp[iP]
theorem aft (F:List Ft) (B:Nat→Bool) {x:Ex} (hk:x.k=18) (hl:x.kids.length=1) (a:Nat) {b:Bool} (h:dI F (yx B (x.kids.getD 0 ak) a)=some b):dI F (yx B x a)=some (!b):=by
 rw[abp,if_pos (.inl hk),lX]
 show sV F x.k .empty (DZ B x.kids a) (ED F (DZ B x.kids a))=_
 unfold sV
 rw[if_neg (by omega),if_neg (by omega),if_neg (by omega),if_pos hk,iH F _ 0 (by rw[TQ];omega),TV _ _ _ _ (by omega),List.take_zero]
 show (match dI F (yx B (x.kids.getD 0 ak) (a+0)) with|none=>none|some p=>some (!p))=_
 rw[Nat.add_zero,h]
theorem ae5 (F:List Ft) (B:Nat→Bool) {x:Ex} (hk:x.k=19∨x.k=20) (hl:x.kids.length=2) (a:Nat) {b c:Bool} (h:dI F (yx B (x.kids.getD 0 ak) a)=some b) (h1:dI F (yx B (x.kids.getD 1 ak) (a+(bM (x.kids.getD 0 ak)).length))=some c):dI F (yx B x a)=some (if b=(x.k==20) then b else c):=by
 rw[abp,if_pos (.inr hk),lX]
 show sV F x.k .empty (DZ B x.kids a) (ED F (DZ B x.kids a))=_
 have e0:(ED F (DZ B x.kids a)).getD 0 none=some b:=by
  rw[iH F _ 0 (by rw[TQ];omega),TV _ _ _ _ (by omega),List.take_zero];exact h
 have e1:(ED F (DZ B x.kids a)).getD 1 none=some c:=by
  rw[iH F _ 1 (by rw[TQ];omega),TV _ _ _ _ (by omega)]
  have:iP (x.kids.take 1)=bM (x.kids.getD 0 ak):=by
   rw[show x.kids.take 1=[x.kids.getD 0 ak] from by
    have:=adq hl
    generalize x.kids.getD 0 ak=y at this
    generalize x.kids.getD 1 ak=z at this
    rw[this];rfl]
   simp[iP]
  rw[this];exact h1
 unfold sV
 rw[if_neg (by omega),if_neg (by omega),if_neg (by omega),if_neg (by omega),e0,e1]
 rcases hk with hk|hk
 ·rw[if_pos hk,hk];cases b<;>rfl
 ·rw[if_neg (by omega),if_pos hk,hk];cases b<;>rfl
theorem aey (F:List Ft) (B:Nat→Bool) (m:Nat):∀(x:Ex) (a:Nat),ht x≤m→aV x=true→∃b,dI F (yx B x a)=some b:=by
 induction m using Nat.strongRecOn with
 | _ m ih=>
 intro x a hm hsn
 cases hsp:jU x with
 | false=>rw[aaS _ hsp];exact⟨_,af6 _ _⟩
 | true=>
  rcases (ql x).1 hsp with h|h
  ·have hl:=kG (x:=x) hsn (.inr h)
   have hh:=iC (x:=x) (i:=0) (by omega)
   obtain ⟨b,hb⟩:=ih (ht (x.kids.getD 0 ak)) (by omega) _ a (Nat.le_refl _) (dO hsn (by omega))
   exact⟨_,aft F B h hl a hb⟩
  ·have hl:=(kH (x:=x) hsn (by omega)).1
   have h0:=iC (x:=x) (i:=0) (by omega)
   have h1:=iC (x:=x) (i:=1) (by omega)
   obtain ⟨b,hb⟩:=ih (ht (x.kids.getD 0 ak)) (by omega) _ a (Nat.le_refl _) (dO hsn (by omega))
   obtain ⟨c,hc⟩:=ih (ht (x.kids.getD 1 ak)) (by omega) _ (a+(bM (x.kids.getD 0 ak)).length) (Nat.le_refl _) (dO hsn (by omega))
   exact⟨_,ae5 F B h hl a hb hc⟩
theorem agr (F:List Ft) (m:Nat):∀(x:Ex) (v:Bool) (a:Nat) (l:List Int),ht x≤m→aV x=true→dI F x=some v→rsE F x a=some l→
  l≠[]∧(∀n∈l,(a:Int)≤n∧n<a+(bM x).length∧∃b,dI F ((bM x).getD (n.toNat-a) ak)=some b)∧l.Pairwise (· < ·)∧
  ∀B:Nat→Bool,(∀n∈l,dI F ((bM x).getD (n.toNat-a) ak)=some (B n.toNat))→dI F (yx B x a)=some v:=by
 induction m using Nat.strongRecOn with
 | _ m ih=>
 intro x v a l hm hsn hv hl
 cases hsp:jU x with
 | false=>
  rw[FI hsp,aH] at hl
  subst hl
  rw[P8 hsp]
  have e:(a:Int).toNat-a=0:=by omega
  refine⟨by simp,fun n hn=>?_,List.pairwise_singleton _ _,fun B h=>?_⟩
  ·obtain rfl:=List.mem_singleton.1 hn
   refine⟨Int.le_refl _,by simp;omega,v,?_⟩
   rw[e];exact hv
  ·have:=h (a:Int) (List.mem_singleton.2 rfl)
   rw[e] at this
   have h2:dI F x=some (B (a:Int).toNat):=this
   rw[hv,Int.toNat_natCast] at h2
   rw[aaS _ hsp,af6];exact h2.symm
 | true=>
  rcases (ql x).1 hsp with h|h
  ·have hkl:=kG (x:=x) hsn (.inr h)
   have hh:=iC (x:=x) (i:=0) (by omega)
   rw[Yy h (by omega)] at hl
   obtain ⟨i1,i2,i3,i4⟩:=ih (ht (x.kids.getD 0 ak)) (by omega) _ (!v) a l (Nat.le_refl _) (dO hsn (by omega)) (afN h (by omega) hv) hl
   rw[aeu h hkl]
   exact⟨i1,i2,i3,fun B hB=>by have:=aft F B h hkl a (i4 B hB);rwa [Bool.not_not] at this⟩
  ·have hkl:=(kH (x:=x) hsn (by omega)).1
   have h0:=iC (x:=x) (i:=0) (by omega)
   have h1:=iC (x:=x) (i:=1) (by omega)
   obtain ⟨b,hb,hc⟩:=ac8 h (by omega) hv
   rw[Yg h (by omega),hv,hb] at hl
   rw[aes h hkl]
   generalize hy0:x.kids.getD 0 ak=y0 at *
   generalize hy1:x.kids.getD 1 ak=y1 at *
   have s0:aV y0=true:=hy0▸dO hsn (by omega)
   have s1:aV y1=true:=hy1▸dO hsn (by omega)
   have key:∀B:Nat→Bool,∀p q,dI F (yx B y0 a)=some p→dI F (yx B y1 (a+(bM y0).length))=some q→dI F (yx B x a)=some (if p=(x.k==20) then p else q):=fun B p q hp hq=>by
    subst hy0 hy1
    exact ae5 F B h hkl a hp hq
   have J0:=ih (ht y0) (by omega) y0 b a
   have J1:=ih (ht y1) (by omega) y1 v (a+(bM y0).length)
   have in0:∀n:Int,(a:Int)≤n→n<a+(bM y0).length→(bM y0++bM y1).getD (n.toNat-a) ak=(bM y0).getD (n.toNat-a) ak:=fun n g1 g2=>J8 (by omega)
   have in1:∀n:Int,((a+(bM y0).length:Nat):Int)≤n→(bM y0++bM y1).getD (n.toNat-a) ak=(bM y1).getD (n.toNat-(a+(bM y0).length)) ak:=fun n g1=>by
    rw[JQ (by omega)]
    congr 1;omega
   rw[List.length_append]
   unfold WR at hl
   rw[if_neg (by omega)] at hl
   have hl:(if v≠(x.k==20) then apO (rsE F y0 a) (rsE F y1 (a+(bM y0).length)) else if b=(x.k==20) then rsE F y0 a else rsE F y1 (a+(bM y0).length))=some l:=hl
   by_cases hvk:v=(x.k==20)
   ·rw[if_neg (fun hh=>hh hvk)] at hl
    rcases hc with ⟨hbk,hvb⟩|⟨hbk,hv1⟩
    ·rw[if_pos hbk] at hl
     obtain ⟨i1,i2,i3,i4⟩:=J0 l (Nat.le_refl _) s0 hb hl
     refine⟨i1,fun n hn=>?_,i3,fun B hB=>?_⟩
     ·obtain ⟨g1,g2,c,g3⟩:=i2 n hn
      exact⟨g1,by omega,c,by rw[in0 n g1 g2];exact g3⟩
     ·have e0:=i4 B fun n hn=>by
       obtain ⟨g1,g2,_⟩:=i2 n hn
       rw[←in0 n g1 g2];exact hB n hn
      obtain ⟨q,hq⟩:=aey F B _ y1 (a+(bM y0).length) (Nat.le_refl _) s1
      rw[key B b q e0 hq,if_pos hbk,hvb]
    ·rw[if_neg hbk] at hl
     have e2:rsE F y1 (a+(bM y0).length)=rsE F y1 ((a+(bM y0).length:Nat):Int):=by congr 1
     rw[e2] at hl
     obtain ⟨i1,i2,i3,i4⟩:=J1 l (Nat.le_refl _) s1 hv1 hl
     refine⟨i1,fun n hn=>?_,i3,fun B hB=>?_⟩
     ·obtain ⟨g1,g2,c,g3⟩:=i2 n hn
      exact⟨by omega,by omega,c,by rw[in1 n g1];exact g3⟩
     ·have e1:=i4 B fun n hn=>by
       obtain ⟨g1,g2,_⟩:=i2 n hn
       rw[←in1 n g1];exact hB n hn
      obtain ⟨p,hp⟩:=aey F B _ y0 a (Nat.le_refl _) s0
      rw[key B p v hp e1]
      split
      ·rename_i hh;rw[hh,hvk]
      ·rfl
   ·rw[if_pos hvk] at hl
    rcases hc with ⟨hbk,hvb⟩|⟨hbk,hv1⟩
    ·exact absurd (hvb.trans hbk) hvk
    have e2:rsE F y1 (a+(bM y0).length)=rsE F y1 ((a+(bM y0).length:Nat):Int):=by congr 1
    rw[e2] at hl
    cases hr0:rsE F y0 a with
    | none=>rw[hr0] at hl;cases hl
    | some l0=>
     cases hr1:rsE F y1 ((a+(bM y0).length:Nat):Int) with
     | none=>rw[hr0,hr1] at hl;cases hl
     | some l1=>
      rw[hr0,hr1] at hl
      have hl:l0++l1=l:=Option.some.inj hl
      subst hl
      obtain ⟨i1,i2,i3,i4⟩:=J0 l0 (Nat.le_refl _) s0 hb hr0
      obtain ⟨j1,j2,j3,j4⟩:=J1 l1 (Nat.le_refl _) s1 hv1 hr1
      refine⟨by simp[i1],fun n hn=>?_,List.pairwise_append.2 ⟨i3,j3,fun p hp q hq=>?_⟩,fun B hB=>?_⟩
      ·rcases List.mem_append.1 hn with hn|hn
       ·obtain ⟨g1,g2,c,g3⟩:=i2 n hn
        exact⟨g1,by omega,c,by rw[in0 n g1 g2];exact g3⟩
       ·obtain ⟨g1,g2,c,g3⟩:=j2 n hn
        exact⟨by omega,by omega,c,by rw[in1 n g1];exact g3⟩
      ·have:=(i2 p hp).2.1
       have:=(j2 q hq).1
       omega
      ·have e0:=i4 B fun n hn=>by
        obtain ⟨g1,g2,_⟩:=i2 n hn
        rw[←in0 n g1 g2];exact hB n (List.mem_append_left _ hn)
       have e1:=j4 B fun n hn=>by
        obtain ⟨g1,g2,_⟩:=j2 n hn
        rw[←in1 n g1];exact hB n (List.mem_append_right _ hn)
       rw[key B b v e0 e1,if_neg hbk]
end Go.Proofs
/- ahp atoms: what Evaluate answers of them,and of the expression with Rw in it. -/
namespace Go.Proofs
open Go Go.Ab Go.RowKit
set_option maxHeartbeats 1000000
theorem afQ {F:List Ft} {L:List Fc} {x:Ex} (h1:gJ F L=true) (h:aP L x=(1,0,0)) {b:Bool} (hb:dI (bC F F.length) x=some b):dU F L x=({ eY 1 with tr:=b },0):=by
 unfold dU
 rw[if_pos h1,if_pos (by rw[h]),h]
 unfold zl
 rw[if_neg (by decide),if_pos rfl,hb];rfl
theorem aeR {L:List Fc} {x:Ex} (hv:jk L=true) (hs:aV x=true) (hh:ht x+1≤32) (hn:jV x≤30) (t1:(dA L x).1=1) (t2:(dA L x).2.2=0):aP L x=(1,0,0):=by
 have hsz:=afM _ _ (Nat.le_refl _) hs
 have hfit:kK x=true:=by
  unfold kK
  simp only[aT,decide_eq_true_eq]
  exact⟨⟨hs,by omega⟩,by omega⟩
 have hpos:=VG hfit
 unfold aP
 rw[if_neg (by
  unfold oh
  rw[if_pos hfit,hv]
  simp only[Bool.not_true,Bool.false_or,decide_eq_true_eq]
  omega),if_neg (by rw[t2];simp),t1]
theorem agA {l:List Fc} {ws:List ByteArray} (m:Nat):∀(x:Ex),ht x≤m→aV x=true→(bZ l ws x).1=1→(bZ l ws x).2.2=0→∀y∈bM x,aV y=true∧(bZ l ws y).1=1∧(bZ l ws y).2.2=0:=by
 induction m using Nat.strongRecOn with
 | _ m ih=>
 intro x hm hsn t1 t2 y hy
 cases hsp:jU x with
 | false=>
  rw[P8 hsp] at hy
  obtain rfl:=List.mem_singleton.1 hy
  exact⟨hsn,t1,t2⟩
 | true=>
  have hk:=(ql x).1 hsp
  have kid:∀i,i<x.kids.length→y∈bM (x.kids.getD i ak)→aV y=true∧(bZ l ws y).1=1∧(bZ l ws y).2.2=0:=fun i hi hy=>by
   have hh:=iC hi
   exact ih (ht (x.kids.getD i ak)) (by omega) _ (Nat.le_refl _) (dO hsn hi) ((iw t2).2 (by omega) i hi) ((ig t2).1 i hi) y hy
  rcases hk with h|h
  ·have hl:=kG (x:=x) hsn (.inr h)
   rw[aeu h hl] at hy
   exact kid 0 (by omega) hy
  ·have hl:=(kH (x:=x) hsn (by omega)).1
   rw[aes h hl] at hy
   rcases List.mem_append.1 hy with hy|hy
   ·exact kid 0 (by omega) hy
   ·exact kid 1 (by omega) hy
def stB (V:Nat→Bool) (B:List Bool) (l:List Int):List Bool:=l.foldl (fun B n=>B.set n.toNat (V n.toNat)) B
theorem afT (V:Nat→Bool) (B:List Bool) (l:List Int) (n:Int):stB V B (l++[n])=(stB V B l).set n.toNat (V n.toNat):=by unfold stB;rw[List.foldl_append];rfl
theorem acA (V:Nat→Bool):∀(l:List Int) (B:List Bool),(stB V B l).length=B.length
 | [],_=>rfl
 | n :: l,B=>by
  have:=acA V l (B.set n.toNat (V n.toNat))
  rw[List.length_set] at this
  exact this
theorem adY (V:Nat→Bool) (i:Nat):∀(l:List Int) (B:List Bool),B.getD i false=V i→i<B.length→(stB V B l).getD i false=V i
 | [],_,h,_=>h
 | n :: l,B,h,hi=>by
  refine adY V i l (B.set n.toNat (V n.toNat)) ?_ (by rw[List.length_set];exact hi)
  by_cases hn:n.toNat=i
  ·rw[hn,List.getD,List.getElem?_set_self hi];rfl
  ·rw[List.getD,List.getElem?_set_ne hn];exact h
theorem aer (V:Nat→Bool) {n:Int}:∀(l:List Int) (B:List Bool),n∈l→n.toNat<B.length→(stB V B l).getD n.toNat false=V n.toNat
 | a :: l,B,h,hi=>by
  rcases List.mem_cons.1 h with rfl|h
  ·exact adY V _ l _ (by rw[List.getD,List.getElem?_set_self hi];rfl) (by rw[List.length_set];exact hi)
  ·exact aer V l (B.set a.toNat (V a.toNat)) h (by rw[List.length_set];exact hi)
def TJ (F:List Ft) (x:Ex) (n:Nat):Bool:=(dI F ((bM x).getD n ak)).getD false
structure Dec (x:Ex) (F:List Ft) (L:List Fc) (l:List Int) (v:Bool):Prop where
 va:gJ F L=true
 rn:Gz F L x=(l,0)
 at_:atR L x=bM x
 ev:dU F L x=({ eY 1 with tr:=v },0)
 ne:l≠[]
 rng:∀n∈l,0≤n∧n<(bM x).length∧dU F L ((bM x).getD n.toNat ak)=({ eY 1 with tr:=TJ (bC F F.length) x n.toNat },0)
 up:l.Pairwise (· < ·)
 dec:∀B:Nat→Bool,(∀n∈l,B n.toNat=TJ (bC F F.length) x n.toNat)→dU F L (yx B x 0)=({ eY 1 with tr:=v },0)
theorem agX {x:Ex} {F:List Ft} {L:List Fc} (hn:jV x≤30) (h:(Gz F L x).2=0):∃l v,Dec x F L l v:=by
 have h0:=h
 unfold Gz at h
 split at h
 case isFalse=>cases h
 rename_i h1
 split at h
 case isFalse h2=>exact absurd h h2
 rename_i h2
 split at h
 case isFalse=>cases h
 rename_i h3
 unfold rzE at h
 cases hv:dI (bC F F.length) x with
 | none=>rw[hv] at h;cases h
 | some v=>
  cases hl:rsE (bC F F.length) x 0 with
  | none=>rw[hv] at h;simp only[hl] at h;cases h
  | some l=>
   obtain ⟨hvf,hsn,hty,etyp⟩:=rO h2
   have ek:(dA L x).1=1:=by rw[etyp] at h3;exact h3
   have hht:ht x+1≤32:=by
    have hx:kK x=true:=by
     refine Classical.byContradiction fun hh=>?_
     unfold aP oh at h2
     rw[if_neg hh,if_pos (by simp)] at h2
     cases h2
    unfold kK at hx
    simp only[aT,decide_eq_true_eq] at hx
    have:=hx.1.2
    omega
   have htr:aP L x=(1,0,0):=aeR hvf hsn hht hn ek hty
   obtain ⟨r1,r2,r3,r4⟩:=agr (bC F F.length) _ x v 0 l (Nat.le_refl _) hsn hv hl
   have hv2:∀n∈l,dI (bC F F.length) ((bM x).getD n.toNat ak)=some (TJ (bC F F.length) x n.toNat):=fun n hn=>by
    obtain ⟨_,_,b,hb⟩:=r2 n hn
    rw[Nat.sub_zero] at hb
    unfold TJ;rw[hb];rfl
   refine⟨l,v,h1,?_,?_,afQ h1 htr hv,r1,fun n hn2=>?_,r3,fun B hB=>?_⟩
   ·unfold Gz rzE
    rw[if_pos h1,if_pos h2,if_pos h3,hv];simp only[hl]
   ·unfold atR;rw[if_pos ⟨h2,h3⟩]
   ·obtain ⟨g1,g2,_⟩:=r2 n hn2
    have hm:(bM x).getD n.toNat ak∈bM x:=getD_mem (x0:=ak) (by omega)
    obtain ⟨a1,a2,a3⟩:=agA _ x (Nat.le_refl _) hsn ek hty _ hm
    have a4:=abY x _ hm
    refine⟨by omega,by omega,afQ h1 (aeR hvf a1 (by omega) (by omega) a2 a3) (hv2 n hn2)⟩
   ·have b1:=abH B x 0
    obtain ⟨b2,b3⟩:=ag9 (l:=aW L L.length) (ws:=dW L L.length) B _ x 0 (Nat.le_refl _) hty
    refine afQ h1 (aeR hvf (afJ B x 0 hsn) (by omega) (by omega) b2 b3) (r4 B fun n hn2=>?_)
    rw[Nat.sub_zero,hB n hn2];exact hv2 n hn2
end Go.Proofs
