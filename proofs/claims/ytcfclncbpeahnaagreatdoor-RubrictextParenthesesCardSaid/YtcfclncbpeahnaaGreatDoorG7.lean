import Derived.Test.YtcfclncbpeahnaaGreatDoorG6
import Derived.Test.YtcfclncbpeahnaaGreatDoorG2
import Derived.Test.YtcfclncbpeahnaaGreatDoorAcD
import Derived.Test.YtcfclncbpeahnaaGreatDoorG0
import Derived.Test.YtcfclncbpeahnaaGreatDoorG4
import Derived.Lay
import Derived.Test.YtcfclncbpeahnaaGreatDoorRows
import Derived.Lib.LaidTab
import Derived.ProofKit
import Derived.LaidMore
import Derived.OpenShut
import Derived.Stop.Joined
/- What is read is no larger than its words. -/
set_option autoImplicit false
namespace Go.Proofs
open Go Go.Ab
def mdN:Md→Nat
 | .loop _ x=>nds x
 | .args x=>nds x
 | _=>0
def mdT:Md→Prop
 | .loop _ x=>txE x
 | .args x=>txE x
 | _=>True
def RsN (b:Nat) (t:List Tk):Rs→Prop
 | .ok y r=>nds y+r.length≤b+t.length∧txE y∧r <:+ t
 | .bad _=>True
def tkM (t:List Tk):Prop:=∀w∈t,w.1.size≤1000
theorem tkM.suf {t r:List Tk} (h:tkM t) (hs:r <:+ t):tkM r:=fun w hw=>h w (hs.subset hw)
theorem tkM.tail {t:List Tk} (h:tkM t):tkM t.tail:=h.suf (List.tail_suffix t)
theorem tkM.hd {t:List Tk} (h:tkM t):(hdS t).size≤1000:=by
 cases t with
 | nil=>exact Nat.zero_le _
 | cons w t=>exact h w (by simp)
theorem nds_leaf (k:Int) (s:ByteArray) (n d a:Int):nds (.mk k s n d a [])=1:=by simp[nds,ndsL]
theorem tx_leaf {k:Int} {s:ByteArray} {n d a:Int} (h:s.size≤1000):txE (.mk k s n d a []):=by simp only[txE,txL];exact⟨h,trivial⟩
theorem sz_empty:ByteArray.empty.size≤1000:=by decide
theorem digs_ne {s:ByteArray} (h:digB (byteAt s 0)=true):s≠.empty:=by
 rintro rfl;exact absurd h (by decide)
theorem names_ne {s:ByteArray} (h:nameB s=true):s≠.empty:=by
 rintro rfl;exact absurd h (by decide +kernel)
theorem leafX_n {t:List Tk} (h:tkM t):RsN 0 t (leafX t):=by
 have hs:=List.tail_suffix t
 unfold leafX
 split
 ·rename_i hh
  have:=tail_len (t:=t) (by rw[hh];decide)
  exact⟨by rw[nds_leaf];omega,tx_leaf sz_empty,hs⟩
 split
 ·rename_i hh
  have:=tail_len (t:=t) (by rw[hh];decide)
  exact⟨by rw[nds_leaf];omega,tx_leaf sz_empty,hs⟩
 split
 ·rename_i hh
  have:=tail_len (digs_ne hh)
  exact⟨by rw[nds_leaf];omega,tx_leaf sz_empty,hs⟩
 split
 ·rename_i hh
  have:=tail_len (names_ne hh)
  exact⟨by rw[nds_leaf];omega,tx_leaf h.hd,hs⟩
 ·trivial
theorem RsN.up {b b':Nat} {t t':List Tk} (hl:b'+t'.length≤b+t.length) (hs:t' <:+ t):∀{R:Rs},RsN b' t' R→RsN b t R
 | .ok _ _,h=>⟨by have:=h.1;omega,h.2.1,h.2.2.trans hs⟩
 | .bad _,_=>trivial
theorem nds_one (k:Int) (a:Int) (x:Ex):nds (.mk k .empty 0 0 a [x])=nds x+1:=by simp[nds,ndsL];omega
theorem nds_two (k:Int) (a:Int) (x y:Ex):nds (.mk k .empty 0 0 a [x,y])=nds x+nds y+1:=by simp[nds,ndsL];omega
theorem tx_one {k:Int} {a:Int} {x:Ex} (h:txE x):txE (.mk k .empty 0 0 a [x]):=by simp only[txE,txL];exact⟨sz_empty,h,trivial⟩
theorem tx_two {k:Int} {a:Int} {x y:Ex} (h:txE x) (h2:txE y):txE (.mk k .empty 0 0 a [x,y]):=by simp only[txE,txL];exact⟨sz_empty,h,h2,trivial⟩
theorem ndsL_app (l m:List Ex):ndsL (l++m)=ndsL l+ndsL m:=by
 induction l with
 | nil=>simp[ndsL]
 | cons x l ih=>simp only[List.cons_append,ndsL,ih];omega
theorem txL_app {l:List Ex} {y:Ex} (h:txL l) (hy:txE y):txL (l++[y]):=by
 induction l with
 | nil=>simp only[List.nil_append,txL];exact⟨hy,trivial⟩
 | cons x l ih=>
  simp only[txL] at h
  simp only[List.cons_append,txL]
  exact⟨h.1,ih h.2⟩
theorem nds_addK (x y:Ex):nds (addK x y)=nds x+nds y:=by
 cases x;simp only[addK,nds,Ex.kids,ndsL_app,ndsL];omega
theorem tx_addK {x y:Ex} (h:txE x) (hy:txE y):txE (addK x y):=by
 cases x
 simp only[txE] at h
 simp only[addK,txE,Ex.s,Ex.kids]
 exact⟨h.1,txL_app h.2 hy⟩
theorem rd_n:∀(k:Nat) (md:Md) (t:List Tk),tkM t→mdT md→RsN (mdN md) t (rd k md t):=by
 intro k
 induction k with
 | zero=>intro md t _ _;trivial
 | succ k ih=>
  intro md t ht hm
  have ts:=List.tail_suffix t
  have tl:=tail_le t
  cases md with
  | lvl n=>
   simp only[rd]
   split
   ·split
    ·rename_i hh
     have hl:=tail_len (t:=t) (by rw[hh];decide)
     have:=ih (.lvl 2) t.tail ht.tail trivial
     cases e:rd k (.lvl 2) t.tail with
     | ok x r=>
      rw[e] at this
      refine⟨?_,tx_one this.2.1,this.2.2.trans ts⟩
      rw[nds_one]
      have:=this.1
      simp only[mdN] at this⊢;omega
     | bad r=>trivial
    ·exact ih (.lvl 3) t ht trivial
   split
   ·split
    ·rename_i hh
     have hl:=tail_len (t:=t) (by rw[hh];decide)
     have:=ih (.lvl 6) t.tail ht.tail trivial
     cases e:rd k (.lvl 6) t.tail with
     | ok x r=>
      rw[e] at this
      refine⟨?_,tx_one this.2.1,this.2.2.trans ts⟩
      rw[nds_one]
      have:=this.1
      simp only[mdN] at this⊢;omega
     | bad r=>trivial
    ·exact ih (.lvl 7) t ht trivial
   split
   ·exact ih .prim t ht trivial
   ·have:=ih (.lvl (n+1)) t ht trivial
    cases e:rd k (.lvl (n+1)) t with
    | ok x r=>
     rw[e] at this
     exact RsN.up (b':=nds x) (by have:=this.1;simp only[mdN] at this⊢;omega) this.2.2 (ih (.loop n x) r (ht.suf this.2.2) this.2.1)
    | bad r=>trivial
  | loop n x=>
   simp only[rd]
   split
   ·rename_i ho
    have hl:=tail_len (opAt_ne ho)
    have:=ih (.lvl (n+1)) t.tail ht.tail trivial
    cases e:rd k (.lvl (n+1)) t.tail with
    | ok y r=>
     rw[e] at this
     have h1:=this.1
     simp only[mdN] at h1
     have hs:=tx_two (k:=opK (hdS t)) (a:=hdA 0 t) (show txE x from hm) this.2.1
     have hn:=nds_two (opK (hdS t)) (hdA 0 t) x y
     try dsimp only
     split
     ·exact⟨by simp only[mdN];omega,hs,this.2.2.trans ts⟩
     ·exact RsN.up (b':=nds (.mk (opK (hdS t)) .empty 0 0 (hdA 0 t) [x,y])) (by simp only[mdN];omega) (this.2.2.trans ts) (ih _ _ ((ht.tail).suf this.2.2) hs)
    | bad r=>trivial
   ·exact⟨Nat.le_refl _,hm,List.suffix_refl _⟩
  | args x=>
   simp only[rd]
   have:=ih (.lvl 0) t ht trivial
   cases e:rd k (.lvl 0) t with
   | ok y r=>
    rw[e] at this
    have h1:=this.1
    simp only[mdN] at h1
    have hs:=tx_addK (show txE x from hm) this.2.1
    have hn:=nds_addK x y
    have tr:=List.tail_suffix r
    have trl:=tail_le r
    try dsimp only
    split
    ·exact RsN.up (b':=nds (addK x y)) (by simp only[mdN];omega) (tr.trans this.2.2) (ih (.args (addK x y)) r.tail ((ht.suf this.2.2).tail) hs)
    split
    ·exact⟨by simp only[mdN];omega,hs,tr.trans this.2.2⟩
    ·trivial
   | bad r=>trivial
  | prim=>
   simp only[rd]
   split
   ·have:=ih (.lvl 0) t.tail ht.tail trivial
    cases e:rd k (.lvl 0) t.tail with
    | ok x r=>
     rw[e] at this
     have h1:=this.1
     simp only[mdN] at h1
     have trl:=tail_le r
     try dsimp only
     split
     ·exact⟨by simp only[mdN];omega,this.2.1,(List.tail_suffix r).trans (this.2.2.trans ts)⟩
     ·trivial
    | bad r=>trivial
   split
   ·rename_i hh
    have hl:=tail_len (t:=t) (by rcases hh with hh|hh<;>rw[hh]<;>decide)
    have tl2:=tail_le t.tail
    split
    ·refine RsN.up (b':=nds (.mk (if hdS t=maxS then 11 else 10) .empty 0 0 (hdA 0 t) [])) ?_ ((List.tail_suffix _).trans ts) (ih (.args (.mk (if hdS t=maxS then 11 else 10) .empty 0 0 (hdA 0 t) [])) t.tail.tail ht.tail.tail (show txE (.mk (if hdS t=maxS then 11 else 10) .empty 0 0 (hdA 0 t) []) from tx_leaf sz_empty))
     rw[nds_leaf];simp only[mdN];omega
    ·trivial
   ·exact leafX_n ht
theorem pr_sm {n:Nat} {t:List Tk} (ht:tkM t) {x:Ex} {r:List Tk} (e:pr (.lvl n) t=.ok x r):nds x+r.length≤t.length∧txE x:=by
 have:=rd_n (10*t.length+11) (.lvl n) t ht trivial
 unfold pr at e
 rw[e] at this
 have h1:=this.1
 simp only[mdN] at h1
 exact⟨by omega,this.2.1⟩
def RuN (kd:Int) (nm gr:ByteArray) (n:Nat) (R:Rr):Prop:=∀x r,R=.ok x r→x.nm=nm∧x.gr=gr∧ht x.am≤x.ma∧ht x.wh≤x.mw∧txE x.am∧txE x.wh∧nds x.am≤n∧nds x.wh≤n
theorem ruD_n {kd:Int} {nm gr:ByteArray} {pos:Int} {am wh:Ex} {t:List Tk} {n:Nat} (h1:txE am) (h2:txE wh) (h3:nds am≤n) (h4:nds wh≤n):RuN kd nm gr n (ruD kd nm gr pos am wh t):=by
 intro x r e
 unfold ruD at e
 split at e
 ·injection e with e _
  subst e
  exact⟨rfl,rfl,Nat.le_refl _,Nat.le_refl _,h1,h2,h3,h4⟩
 ·cases e
theorem tx_ex0:txE ex0:=tx_leaf sz_empty
theorem ruC_n {kd:Int} {nm gr:ByteArray} {pos:Int} {am:Ex} {t:List Tk} {n:Nat} (ht:tkM t) (hn:t.length≤n) (h0:1≤n) (h1:txE am) (h3:nds am≤n):RuN kd nm gr n (ruC kd nm gr pos am t):=by
 have tl:=tail_le t
 unfold ruC
 split
 ·cases e:pr (.lvl 0) t.tail with
  | ok wh r=>
   have:=pr_sm ht.tail e
   exact ruD_n h1 this.2 h3 (by omega)
  | bad r=>intro x q e;cases e
 ·exact ruD_n h1 tx_ex0 h3 (by show nds (.mk 0 .empty 0 0 0 [])≤n;rw[nds_leaf];exact h0)
theorem ruG_n {kd:Int} {nm gr:ByteArray} {pos:Int} {t:List Tk} {n:Nat} (ht:tkM t) (hn:t.length≤n) (h0:1≤n):RuN kd nm gr n (ruG kd nm gr pos t):=by
 have tl:=tail_le t
 unfold ruG
 split
 ·cases e:pr (.lvl 0) t.tail with
  | ok am r=>
   have:=pr_sm ht.tail e
   have hs:r <:+ t.tail:=by have:=pr_suf (.lvl 0) t.tail;rw[e] at this;exact this
   have hsl:=hs.length_le
   exact ruC_n ((ht.tail).suf hs) (by omega) h0 this.2 (by omega)
  | bad r=>intro x q e;cases e
 ·intro x q e;cases e
theorem ruP_n {t:List Tk} {n:Nat} (hM:tkM t) (hn:t.length≤n) (h0:1≤n) {x:Rl} {r:List Tk} (e:ruP t=.ok x r):x.nm.size≤1000∧x.gr.size≤1000∧ht x.am≤x.ma∧ht x.wh≤x.mw∧txE x.am∧txE x.wh∧nds x.am≤n∧nds x.wh≤n:=by
 have tl:=tail_le t
 have tl2:=tail_le t.tail
 have tl3:=tail_le t.tail.tail
 unfold ruP at e
 split at e
 ·split at e
  ·unfold ruN at e
   split at e
   ·split at e
    ·have tl4:=tail_le t.tail.tail.tail
     obtain ⟨rfl',h2,h3⟩:=ruG_n hM.tail.tail.tail.tail (by omega) h0 _ _ e
     exact⟨by rw[rfl'];exact hM.tail.hd,by rw[h2];exact hM.tail.tail.tail.hd,h3⟩
    ·cases e
   ·obtain ⟨h1,h2,h3⟩:=ruG_n hM.tail.tail (by omega) h0 _ _ e
    exact⟨by rw[h1];exact hM.tail.hd,by rw[h2];decide,h3⟩
  ·cases e
 ·cases e
theorem ruP_sm {t:List Tk} (ht:tkM t) (hn:t.length≤1000) {x:Rl} {r:List Tk} (e:ruP t=.ok x r):RlS x:=by
 obtain ⟨h1,h2,h3,h4,h5,h6,h7,h8⟩:=ruP_n ht hn (by decide) e
 exact⟨h1,h2,h3,⟨h7,h5⟩,h4,⟨h8,h6⟩⟩
theorem prR_sm:∀(n:Nat) (t:List Tk) (R:List Rl),t.length≤n→n≤1000→tkM t→prR t=.ok R→∀r∈R,RlS r
 | 0,t,R,hn,_,_,h=>by
  have:t=[]:=List.eq_nil_of_length_eq_zero (by omega)
  subst this
  injection h with h;subst h
  intro r hr;cases hr
 | n+1,t,R,hn,h1,ht,h=>by
  by_cases hne:t=[]
  ·subst hne;injection h with h;subst h
   intro r hr;cases hr
  ·cases e:ruP t with
   | ok x q=>
    rw[prR_ok e] at h
    have hlt:=ruP_lt e
    have hs:=ruP_suf t
    rw[e] at hs
    cases e2:prR q with
    | ok l=>
     rw[e2] at h
     injection h with h
     subst h
     intro r hr
     rcases List.mem_cons.1 hr with rfl|hr
     ·exact ruP_sm ht (by omega) e
     ·exact prR_sm n q l (by omega) (by omega) (ht.suf hs) e2 r hr
    | bad r2=>rw[e2] at h;cases h
   | bad q=>rw[prR_bad hne e] at h;cases h
theorem smP_of {s:ByteArray} (hs:s.size≤1000):∀r∈(prsP s).1,RlS r:=by
 unfold prsP
 by_cases he:(wrdL s).2.2=0
 ·obtain ⟨T,a,e,hW⟩:∃T a e,wrdL s=(T,a,e):=⟨_,_,_,rfl⟩
  rw[hW] at he
  have he:e=0:=he
  subst he
  obtain ⟨rfl,hO⟩:=wrdL_ok hW
  have hln:=hO.len
  rw[hW,if_neg (by simp)]
  try dsimp only
  cases hq:prR T with
  | ok R=>exact prR_sm 1000 T R (by omega) (by omega) (fun w hw=>by have:=hO.wd w hw;omega) hq
  | bad r=>intro x hx;cases hx
 ·rw[if_pos he]
  intro x hx;cases hx
theorem sm_ex0:Sm ex0:=⟨by show nds (.mk 0 .empty 0 0 0 [])≤1000;rw[nds_leaf];decide,tx_ex0⟩
theorem smX_of {s:ByteArray} (hs:s.size≤1000):Sm (prsX s).1:=by
 unfold prsX
 by_cases he:(wrdL s).2.2=0
 ·obtain ⟨T,a,e,hW⟩:∃T a e,wrdL s=(T,a,e):=⟨_,_,_,rfl⟩
  rw[hW] at he
  have he:e=0:=he
  subst he
  obtain ⟨rfl,hO⟩:=wrdL_ok hW
  have hln:=hO.len
  rw[hW,if_neg (by simp)]
  try dsimp only
  cases hq:pr (.lvl 0) T with
  | ok x r=>
   have:=pr_sm (n:=0) (fun w hw=>by have:=hO.wd w hw;omega) hq
   cases r with
   | nil=>exact⟨(by omega:nds x≤1000),this.2⟩
   | cons w r=>exact sm_ex0
  | bad r=>exact sm_ex0
 ·rw[if_pos he];exact sm_ex0
end Go.Proofs
/- The laws' sentinel. -/
namespace Go.Proofs
open Go Go.Ab Go.RowKit
set_option maxHeartbeats 4000000
set_option maxRecDepth 100000
variable {G:IH}
abbrev awA:ByteArray:=⟨#[112,111,105,110,116,115,32,97,32,105,110,32,103,32,58,32,50,46,53,48,42,120,32,105,102,32,120,62,61,49,32,97,110,100,32,110,111,116,32,121,59]⟩
abbrev awB:ByteArray:=⟨#[97,45,40,98,45,99,41]⟩
abbrev awC:ByteArray:=⟨#[40,97,45,98,41,45,99]⟩
abbrev awD:ByteArray:=⟨#[112,111,105,110,116,115,32,97,32,105,110,32,103,58,32,50,46,53,32,42,32,120,32,105,102,32,120,32,62,61,32,49,32,97,110,100,32,110,111,116,32,121,59,10]⟩
abbrev awE:ByteArray:=⟨#[97,32,45,32,40,98,32,45,32,99,41]⟩
abbrev awF:ByteArray:=⟨#[97,32,45,32,98,32,45,32,99]⟩
theorem aw_A:(parP awA).2.1=0∧(parP awA).2.2=0∧(parP awA).1.length=1:=by decide +kernel
theorem aw_D:fmtR (parP awA).1=awD:=by decide +kernel
theorem aw_B:(parX awB).2.1=0∧(parX awB).2.2=0:=by decide +kernel
theorem aw_E:fmtX (parX awB).1=awE:=by decide +kernel
theorem aw_C:(parX awC).2.1=0∧(parX awC).2.2=0:=by decide +kernel
theorem aw_F:fmtX (parX awC).1=awF:=by decide +kernel
noncomputable def orcAw (R:List Rl) (f:ByteArray→Ex):Oracle:=fun g a=>match g,a with
 | 13,[_]=>some (.tup [rlsD R,di 0,di 0])
 | 15,[.con (.string s)]=>some (.tup [exW (f s),di 0,di 0])
 | 24,[_]=>some (ds (fmtR R))
 | 21,[e]=>some (ds (fmtX (rdE e)))
 | _,_=>none
theorem f10' (R:List Rl) (f:ByteArray→Ex) (h13:FnOK Tryz.prog G 13 [ds awA] (.tup [rlsD R,di 0,di 0])) (hb:FnOK Tryz.prog G 15 [ds awB] (.tup [exW (f awB),di 0,di 0])) (hc:FnOK Tryz.prog G 15 [ds awC] (.tup [exW (f awC),di 0,di 0]))
  (h24:FnOK Tryz.prog G 24 [rlsD R] (ds (fmtR R))) (hx:∀x,x=f awB∨x=f awC→FnOK Tryz.prog G 21 [exW x] (ds (fmtX x))) (h1:R.length=1) (hD:fmtR R=awD) (hE:fmtX (f awB)=awE) (hF:fmtX (f awC)=awF) :
  FnOK Tryz.prog G 10 [] (db true):=by
 refine FnOK.walk (orc:=orcAw R f) (keep:=[]) follows Tryz.func10 rfl Tryz.call10 ?_
 refine of_tr (fun _ _ _ ZK=>(fun Za Zb=>(ZK 13 [(ds (ByteArray.mk #[112,111,105,110,116,115,32,97,32,105,110,32,103,32,58,32,50,46,53,48,42,120,32,105,102,32,120,62,61,49,32,97,110,100,32,110,111,116,32,121,59]))] (.tup [(.slc 16 R.length (rlF R)),(di 0),(di 0)])∧ZK 15 [(ds Za)] (.tup [(ndX (ht (f Za)) (f Za)),(di 0),(di 0)])∧ZK 15 [(ds Zb)] (.tup [(ndX (ht (f Zb)) (f Zb)),(di 0),(di 0)])∧(((((0:Int)==(0:Int)&&(0:Int)==(0:Int)&&(↑(List.length R):Int)==(1:Int))=true)→ZK 24 [(.slc 16 R.length (rlF R))] (ds (fmtR R)))∧((((0:Int)==(0:Int)&&(0:Int)==(0:Int)&&(↑(List.length R):Int)==(1:Int)&&ByteArray.toList (fmtR R)==ByteArray.toList { data:=#[(112:UInt8),(111:UInt8),(105:UInt8),(110:UInt8),(116:UInt8),(115:UInt8),(32:UInt8),(97:UInt8),(32:UInt8),(105:UInt8),(110:UInt8),(32:UInt8),(103:UInt8),(58:UInt8),(32:UInt8),(50:UInt8),(46:UInt8),(53:UInt8),(32:UInt8),(42:UInt8),(32:UInt8),(120:UInt8),(32:UInt8),(105:UInt8),(102:UInt8),(32:UInt8),(120:UInt8),(32:UInt8),(62:UInt8),(61:UInt8),(32:UInt8),(49:UInt8),(32:UInt8),(97:UInt8),(110:UInt8),(100:UInt8),(32:UInt8),(110:UInt8),(111:UInt8),(116:UInt8),(32:UInt8),(121:UInt8),(59:UInt8),(10:UInt8)] }&&(0:Int)==(0:Int))=true)→ZK 21 [(ndX (ht (f Za)) (f Za))] (ds (fmtX (rdE (ndX (ht (f Za)) (f Za))))))∧((((0:Int)==(0:Int)&&(0:Int)==(0:Int)&&(↑(List.length R):Int)==(1:Int)&&ByteArray.toList (fmtR R)==ByteArray.toList { data:=#[(112:UInt8),(111:UInt8),(105:UInt8),(110:UInt8),(116:UInt8),(115:UInt8),(32:UInt8),(97:UInt8),(32:UInt8),(105:UInt8),(110:UInt8),(32:UInt8),(103:UInt8),(58:UInt8),(32:UInt8),(50:UInt8),(46:UInt8),(53:UInt8),(32:UInt8),(42:UInt8),(32:UInt8),(120:UInt8),(32:UInt8),(105:UInt8),(102:UInt8),(32:UInt8),(120:UInt8),(32:UInt8),(62:UInt8),(61:UInt8),(32:UInt8),(49:UInt8),(32:UInt8),(97:UInt8),(110:UInt8),(100:UInt8),(32:UInt8),(110:UInt8),(111:UInt8),(116:UInt8),(32:UInt8),(121:UInt8),(59:UInt8),(10:UInt8)] }&&(0:Int)==(0:Int)&&ByteArray.toList (fmtX (rdE (ndX (ht (f { data:=#[(97:UInt8),(45:UInt8),(40:UInt8),(98:UInt8),(45:UInt8),(99:UInt8),(41:UInt8)] })) (f { data:=#[(97:UInt8),(45:UInt8),(40:UInt8),(98:UInt8),(45:UInt8),(99:UInt8),(41:UInt8)] }))))==ByteArray.toList { data:=#[(97:UInt8),(32:UInt8),(45:UInt8),(32:UInt8),(40:UInt8),(98:UInt8),(32:UInt8),(45:UInt8),(32:UInt8),(99:UInt8),(41:UInt8)] }&&(0:Int)==(0:Int))=true)→ZK 21 [(ndX (ht (f Zb)) (f Zb))] (ds (fmtX (rdE (ndX (ht (f Zb)) (f Zb)))))))∧((db ((0:Int)==(0:Int)&&(0:Int)==(0:Int)&&(↑(List.length R):Int)==(1:Int)&&ByteArray.toList (fmtR R)==ByteArray.toList { data:=#[(112:UInt8),(111:UInt8),(105:UInt8),(110:UInt8),(116:UInt8),(115:UInt8),(32:UInt8),(97:UInt8),(32:UInt8),(105:UInt8),(110:UInt8),(32:UInt8),(103:UInt8),(58:UInt8),(32:UInt8),(50:UInt8),(46:UInt8),(53:UInt8),(32:UInt8),(42:UInt8),(32:UInt8),(120:UInt8),(32:UInt8),(105:UInt8),(102:UInt8),(32:UInt8),(120:UInt8),(32:UInt8),(62:UInt8),(61:UInt8),(32:UInt8),(49:UInt8),(32:UInt8),(97:UInt8),(110:UInt8),(100:UInt8),(32:UInt8),(110:UInt8),(111:UInt8),(116:UInt8),(32:UInt8),(121:UInt8),(59:UInt8),(10:UInt8)] }&&(0:Int)==(0:Int)&&ByteArray.toList (fmtX (rdE (ndX (ht (f { data:=#[(97:UInt8),(45:UInt8),(40:UInt8),(98:UInt8),(45:UInt8),(99:UInt8),(41:UInt8)] })) (f { data:=#[(97:UInt8),(45:UInt8),(40:UInt8),(98:UInt8),(45:UInt8),(99:UInt8),(41:UInt8)] }))))==ByteArray.toList { data:=#[(97:UInt8),(32:UInt8),(45:UInt8),(32:UInt8),(40:UInt8),(98:UInt8),(32:UInt8),(45:UInt8),(32:UInt8),(99:UInt8),(41:UInt8)] }&&(0:Int)==(0:Int)&&ByteArray.toList (fmtX (rdE (ndX (ht (f { data:=#[(40:UInt8),(97:UInt8),(45:UInt8),(98:UInt8),(41:UInt8),(45:UInt8),(99:UInt8)] })) (f { data:=#[(40:UInt8),(97:UInt8),(45:UInt8),(98:UInt8),(41:UInt8),(45:UInt8),(99:UInt8)] }))))==ByteArray.toList { data:=#[(97:UInt8),(32:UInt8),(45:UInt8),(32:UInt8),(98:UInt8),(32:UInt8),(45:UInt8),(32:UInt8),(99:UInt8)] })):DV)=(db true))) (ByteArray.mk #[97,45,40,98,45,99,41]) (ByteArray.mk #[40,97,45,98,41,45,99])) (by kernel_rfl) ?_
 try dsimp only
 have eb:rdE (ndX (ht (f awB)) (f awB))=f awB:=rdE_eq (Nat.le_refl _)
 have ec:rdE (ndX (ht (f awC)) (f awC))=f awC:=rdE_eq (Nat.le_refl _)
 rw[eb,ec]
 refine⟨h13,hb,hc,⟨fun _=>h24,fun _=>hx _ (.inl rfl),fun _=>hx _ (.inr rfl)⟩,congrArg db ?_⟩
 rw[hD,hE,hF,h1]
 simp
theorem f10 (hT:Tab G):FnOK Tryz.prog G 10 [] (db true):=by
 have hA:=f13 (G:=G) awA (by decide) (smP_of (by decide))
 have hB:=f15 (G:=G) awB (by decide) (smX_of (by decide))
 have hC:=f15 (G:=G) awC (by decide) (smX_of (by decide))
 rw[aw_A.1,aw_A.2.1] at hA
 rw[aw_B.1,aw_B.2] at hB
 rw[aw_C.1,aw_C.2] at hC
 have hs:∀s:ByteArray,s.size≤1000→∀r∈(parP s).1,RlS r:=fun s hs=>by
  unfold parP
  split
  ·exact smP_of hs
  split
  ·intro r hr;cases hr
  ·exact smP_of hs
 have hxs:∀s:ByteArray,s.size≤1000→Sm (parX s).1:=fun s hs=>by
  unfold parX
  split
  ·exact smX_of hs
  split
  ·exact sm_ex0
  ·exact smX_of hs
 refine f10' (parP awA).1 (fun s=>(parX s).1) hA hB hC (f24 hT _ (fun i hi=>hs _ (by decide) _ (getD_in hi)) (by rw[aw_A.2.2];decide)) (fun x hx=>?_) aw_A.2.2 aw_D aw_E aw_F
 rcases hx with rfl|rfl
 ·exact f21 hT _ _ (Nat.le_refl _) (hxs _ (by decide))
 ·exact f21 hT _ _ (Nat.le_refl _) (hxs _ (by decide))
end Go.Proofs
/- Expressions that are read from memory. -/
namespace Go.Proofs
open Go Go.Ab Go.RowKit Go.ChangeShapes
set_option maxRecDepth 100000
theorem lift_rel:∀(m m':Nat) (x:Ex),ht x≤m→ht x≤m'→∀(k:IH) (v:Value),DV.rel k (exD m x) v→DV.rel k (exD m' x) v:=by
 intro m
 induction m with
 | zero=>
  intro m' x h1 h2 k v h
  have hk:x.kids=[]:=by
   refine Classical.byContradiction fun hh=>?_
   have:0<x.kids.length:=List.length_pos_iff.2 hh
   have:=ht_kid this
   omega
  unfold exD exV at h⊢
  rw[hk] at h⊢
  obtain ⟨us,rfl,x1,u1,rfl,h1,x2,u2,rfl,h2,x3,u3,rfl,h3,x4,u4,rfl,h4,x5,u5,rfl,h5,x6,u6,rfl,h6,h0⟩:=h
  exact⟨_,rfl,x1,_,rfl,h1,x2,_,rfl,h2,x3,_,rfl,h3,x4,_,rfl,h4,x5,_,rfl,h5,x6,_,rfl,DV.rel_slc_congr (fun i hi=>absurd hi (by simp)) h6,h0⟩
 | succ m ih=>
  intro m' x h1 h2 k v h
  obtain ⟨us,rfl,x1,u1,rfl,g1,x2,u2,rfl,g2,x3,u3,rfl,g3,x4,u4,rfl,g4,x5,u5,rfl,g5,x6,u6,rfl,g6,h0⟩:=h
  refine⟨_,rfl,x1,_,rfl,g1,x2,_,rfl,g2,x3,_,rfl,g3,x4,_,rfl,g4,x5,_,rfl,g5,x6,_,rfl,?_,h0⟩
  obtain ⟨p,cap,e,hc,r⟩:=g6
  refine⟨p,cap,e,hc,r.imp id fun ⟨b,off,hp,r⟩=>⟨b,off,hp,fun i hi=>?_⟩⟩
  obtain ⟨v,hv,hs,hj⟩:=r i hi
  have hki:=ht_kid (x:=x) hi
  obtain ⟨m2,rfl⟩:∃m2,m'=m2+1:=⟨m' - 1,by omega⟩
  exact⟨v,ih m2 (x.kids.getD i ex0) (by omega) (by omega) k v hv,hs,hj⟩
theorem htL_le {l:List Ex} {n:Nat} (h:∀i,i<l.length→ht (l.getD i ex0)+1≤n):htL l≤n:=by
 induction l with
 | nil=>simp[htL]
 | cons x l ih=>
  simp only[htL]
  have h0:=h 0 (by simp)
  have:=ih fun i hi=>by simpa using h (i+1) (by simpa using hi)
  have h0:ht x+1≤n:=h0
  omega
theorem wfL_of {l:List Ex} (h:∀i,i<l.length→wfE (l.getD i ex0)):wfL l:=by
 induction l with
 | nil=>trivial
 | cons x l ih=>exact⟨h 0 (by simp),ih fun i hi=>by simpa using h (i+1) (by simpa using hi)⟩
theorem max_of (f:Nat→Nat):∀n:Nat,∃M,∀i,i<n→f i≤M
 | 0=>⟨0,fun i hi=>by omega⟩
 | n+1=>by
  obtain ⟨M,h⟩:=max_of f n
  refine⟨max M (f n),fun i hi=>?_⟩
  rcases Nat.lt_or_ge i n with h1|h1
  ·have:=h i h1;omega
  ·obtain rfl:i=n:=by omega
   omega
theorem cells34:Tryz.prog.cellsOf 34=6:=by kernel_rfl
theorem bytes34:Tryz.prog.bytesOf 34=72:=by kernel_rfl
theorem cells31:Tryz.prog.cellsOf 31=2:=by kernel_rfl
theorem cells3:Tryz.prog.cellsOf 3=1:=by kernel_rfl
theorem cells9:Tryz.prog.cellsOf 9=1:=by kernel_rfl
theorem cells32:Tryz.prog.cellsOf 32=1:=by kernel_rfl
def kidsP (d:DV):Prop:=∃(l:List Ex) (k:Nat),htL l≤k∧wfL l∧l.length≤8796093022208∧d=.slc 6 l.length (lay (exG k) l)
section
variable {H:Type} {enc:TypeId×Value→H} {W:World} {base:Nat} {sp:Nat→Bool} {held:Bool}
theorem open_node {n:Nat} {cs:List Value} {x:DataW H×List MemPlace} (h:DataW.trod enc Tryz.prog W base sp held n 34 cs=some x) (hf:AbW.Fine Tryz.prog 34 x.1) :
  ∃(k n d a:Int) (s:ByteArray) (v:Value) (n':Nat) (y:DataW H×List MemPlace),s.size≤maxLen∧cs=[.int .i64 k,.string s,.int .i64 n,.int .i64 d,.int .i64 a,v]∧
   DataW.trod enc Tryz.prog W base sp held n' 32 [v]=some y∧AbW.Fine Tryz.prog 32 y.1∧SizeOf.sizeOf y.1<SizeOf.sizeOf x.1:=by
 obtain ⟨xs,n',rfl,rfl,hl,hxl,hfl⟩:=DataW.trod_struct Tryz.underlying34 h
 have hxl:xs.length=5:=hxl
 match xs,hxl with
 | [y0,y1,y2,y3,y4],_=>
  have e0:=hfl 0 _ rfl
  have e1:=hfl 1 _ rfl
  have e2:=hfl 2 _ rfl
  have e3:=hfl 3 _ rfl
  have e4:=hfl 4 _ rfl
  simp only[List.getElem?_cons_zero,List.getElem?_cons_succ] at e0 e1 e2 e3 e4
  rw[cells34] at hl
  erw [cells3] at e0 e3
  erw [cells9] at e1
  erw [cells31] at e2
  erw [cells32] at e4
  match cs,hl with
  | [c0,c1,c2,c3,c4,c5],_=>
   have e0:DataW.trod enc Tryz.prog W base sp held n' 3 [c0]=some y0:=e0
   have e1:DataW.trod enc Tryz.prog W base sp held n' 9 [c1]=some y1:=e1
   have e2:DataW.trod enc Tryz.prog W base sp held n' 31 [c2,c3]=some y2:=e2
   have e3:DataW.trod enc Tryz.prog W base sp held n' 3 [c4]=some y3:=e3
   have e4:DataW.trod enc Tryz.prog W base sp held n' 32 [c5]=some y4:=e4
   obtain ⟨k,h0,_,_⟩:=DataW.trod_int Tryz.underlying3 e0
   obtain ⟨s,h1,_,hs⟩:=DataW.trod_string Tryz.underlying9 e1
   obtain ⟨z0,z1,m2,_,_,f0,f1⟩:=trod_struct2 Tryz.underlying31 e2
   erw [cells3] at f0 f1
   have f0:DataW.trod enc Tryz.prog W base sp held m2 3 [c2]=some z0:=f0
   have f1:DataW.trod enc Tryz.prog W base sp held m2 3 [c3]=some z1:=f1
   obtain ⟨a,g0,_,_⟩:=DataW.trod_int Tryz.underlying3 f0
   obtain ⟨b,g1,_,_⟩:=DataW.trod_int Tryz.underlying3 f1
   obtain ⟨c,h3,_,_⟩:=DataW.trod_int Tryz.underlying3 e3
   simp only[List.cons.injEq,and_true] at h0 h1 g0 g1 h3
   subst h0;subst h1;subst g0;subst g1;subst h3
   refine⟨k,a,b,c,s,c5,n',y4,hs,rfl,e4,?_,?_⟩
   ·have hf':∀w∈DataW.weights Tryz.prog 34 (.agg ([y0,y1,y2,y3,y4].map (·.1))),w≤reachBytes:=hf
    simp only[DataW.weights,Tryz.underlying34] at hf'
    exact AbW.fine_each hf' 4 32 y4.1 rfl rfl
   ·have:y4.1∈[y0,y1,y2,y3,y4].map (·.1):=by simp
    have h2:=List.sizeOf_lt_of_mem this
    show SizeOf.sizeOf y4.1<SizeOf.sizeOf (DataW.agg ([y0,y1,y2,y3,y4].map (·.1)))
    simp only[DataW.agg.sizeOf_spec]
    omega
theorem open_kids (N:Nat):∀(m:Nat) (cs:List Value) (x:DataW H×List MemPlace),SizeOf.sizeOf x.1≤N→DataW.trod enc Tryz.prog W base sp held m 32 cs=some x→AbW.Fine Tryz.prog 32 x.1→∃d,kidsP d∧DV.rels (allOf W) [d] cs:=by
 induction N using Nat.strongRecOn with
 | _ N ih=>
 intro m cs x hN hx hfi
 rcases Go.Deep.open_slice Tryz.underlying32 hx with ⟨rfl,rfl⟩|⟨a,len,cap,mm,n',D,Pl,rfl,hb,hlc,hcap,hmm,rfl,hel⟩
 ·exact⟨_,⟨[],0,by simp[htL],trivial,by simp,rfl⟩,⟨_,_,rfl,⟨none,0,rfl,Nat.le_refl _,.inl rfl⟩,rfl⟩⟩
 have hlm:len≤mm:=by rw[hmm];split<;>omega
 have hfi':∀w∈DataW.weights Tryz.prog 32 (.slice ((List.range len).map D) ((List.range (mm-len)).map fun j=>D (len+j))),w≤reachBytes:=hfi
 simp only[DataW.weights,Tryz.underlying32,List.mem_cons,List.mem_append] at hfi'
 have helf:∀i,i<len→AbW.Fine Tryz.prog 34 (D i):=fun i hi=>
  AbW.fine_all (fun w hw=>hfi' w (.inr (.inl hw))) _ (List.mem_map.2 ⟨i,List.mem_range.2 hi,rfl⟩)
 have hlen:len≤8796093022208:=by
  have:=hfi' _ (.inl rfl)
  rw[bytes34] at this
  simp only[List.length_map,List.length_range,reachBytes] at this
  omega
 have hspot:0<len→a.spot=none:=by
  intro hpos
  obtain ⟨cs',h1,_⟩:=hel 0 (by omega)
  obtain ⟨_,h5,h6⟩:=World.cells?_some h1
  have c26:=cells34
  have:=h6 0 (by show 0<Tryz.prog.cellsOf 34;omega)
  rw[Nat.zero_mul,gEe (by rw[h5,cells34];omega)] at this
  simp only[World.cell?,Addr.add,if_true] at this
  split at this
  ·split at this
   ·cases this
   ·rename_i hsp;simpa using hsp
  ·cases this
 have hadd:0<len→∀k,a.add k=⟨a.block,a.off+k,none⟩:=by
  intro hpos k
  have:=hspot hpos
  unfold Addr.add
  split
  ·rename_i hk;subst hk;cases a;simp_all
  ·rfl
 have each:∀i,i<len→∃(x:Ex) (k:Nat),ht x≤k∧wfE x∧∃v,DV.rel (allOf W) (exD k x) v∧v.cells.size=6∧∀j,j<6→W.cell? ⟨a.block,a.off+i*6+j,none⟩=v.cells[j]?:=by
  intro i hi
  obtain ⟨cs',h1,h2⟩:=hel i (by omega)
  obtain ⟨k,n,d,at',s,v,n2,y,hs,rfl,h3,h4,h5⟩:=open_node h2 (helf i hi)
  have hsz:SizeOf.sizeOf y.1<N:=by
   have hm:D i∈(List.range len).map D:=List.mem_map.2 ⟨i,List.mem_range.2 hi,rfl⟩
   have h6:=List.sizeOf_lt_of_mem hm
   have h7:SizeOf.sizeOf (DataW.slice ((List.range len).map D) ((List.range (mm-len)).map fun j=>D (len+j)))≤N:=hN
   simp only[DataW.slice.sizeOf_spec] at h7
   have h5:SizeOf.sizeOf y.1<SizeOf.sizeOf (D i):=h5
   omega
  obtain ⟨dk,⟨l,kk,hh,hw,hll,rfl⟩,hr⟩:=ih _ hsz n2 [v] y (Nat.le_refl _) h3 h4
  obtain ⟨u,us,e1,r1,r2⟩:=hr
  simp only[List.cons.injEq] at e1
  obtain ⟨rfl,rfl⟩:=e1
  obtain ⟨_,h8,h9⟩:=World.cells?_some h1
  rw[cells34] at h9 h1
  refine⟨.mk k s n d at' l,kk,by rw[ht_eq];exact hh,⟨hs,hll,hw⟩,.agg #[.int .i64 k,.string s,.int .i64 n,.int .i64 d,.int .i64 at',v],?_,rfl,fun j hj=>?_⟩
  ·exact⟨_,rfl,_,_,rfl,rfl,_,_,rfl,rfl,_,_,rfl,rfl,_,_,rfl,rfl,_,_,rfl,rfl,v,_,rfl,r1,rfl⟩
  ·have:=h9 j (by simpa using hj)
   rw[hadd (by omega)] at this
   have e:(⟨a.block,a.off+i*6,none⟩:Addr).add j=⟨a.block,a.off+i*6+j,none⟩:=by
    unfold Addr.add
    split
    ·rename_i hk;subst hk;rfl
    ·rfl
   rw[e] at this
   rw[this]
   simp[Value.cells]
 classical
 let X:Nat→Ex:=fun i=>if h:i<len then Classical.choose (each i h) else ex0
 let K:Nat→Nat:=fun i=>if h:i<len then Classical.choose (Classical.choose_spec (each i h)) else 0
 have hX:∀i,i<len→ht (X i)≤K i∧wfE (X i)∧∃v,DV.rel (allOf W) (exD (K i) (X i)) v∧v.cells.size=6∧∀j,j<6→W.cell? ⟨a.block,a.off+i*6+j,none⟩=v.cells[j]?:=fun i hi=>by
  simp only[X,K,dif_pos hi]
  exact Classical.choose_spec (Classical.choose_spec (each i hi))
 obtain ⟨M,hM⟩:=max_of K len
 have hlenl:((List.range len).map X).length=len:=by simp
 have hget:∀i,i<len→((List.range len).map X).getD i ex0=X i:=fun i hi=>by
  simp[List.getD,List.getElem?_map,List.getElem?_range hi]
 refine⟨.slc 6 ((List.range len).map X).length (lay (exG (M+1)) ((List.range len).map X)),⟨_,M+1,htL_le fun i hi=>?_,wfL_of fun i hi=>?_,by rw[hlenl];exact hlen,rfl⟩,⟨_,_,rfl,⟨some a,cap,by rw[hlenl],by rw[hlenl];exact hlc,?_⟩,rfl⟩⟩
 ·rw[hlenl] at hi
  rw[hget i hi]
  have:=(hX i hi).1
  have:=hM i hi
  omega
 ·rw[hlenl] at hi
  rw[hget i hi]
  exact(hX i hi).2.1
 ·rw[hlenl]
  by_cases hz:len=0
  ·exact .inl hz
  right
  refine⟨a.block,a.off,by have:=hspot (by omega);cases a;simp_all,fun i hi=>?_⟩
  obtain ⟨h1,_,v,hv,hs,hc⟩:=hX i hi
  refine⟨v,?_,hs,fun j hj=>hc j hj⟩
  show DV.rel (allOf W) (exD M (((List.range len).map X).getD i ex0)) v
  rw[hget i hi]
  exact lift_rel _ _ _ h1 (Nat.le_trans h1 (hM i hi)) _ _ hv
def ow32 (t:TypeId):Option (DV→Prop):=match Nat.beq t 32 with|true=>some kidsP|false=>none
theorem how32:AbW.How ow32 enc Tryz.prog W base sp held:=by
 intro t p m cs x hp hx hf
 unfold ow32 at hp
 split at hp
 ·rename_i h
  obtain rfl:=Nat.eq_of_beq_eq_true h
  obtain rfl:=Option.some.inj hp
  obtain ⟨d,h1,h2⟩:=open_kids _ m cs x (Nat.le_refl _) hx hf
  obtain ⟨l,k,a,b,c,rfl⟩:=h1
  exact⟨_,⟨⟨l,k,a,b,c,rfl⟩,_,_,_,rfl⟩,h2⟩
 ·cases hp
end
open Go Go.Ab Go.RowKit
abbrev exShW:List AbW.Sh:=[.int .i64,.str,.int .i64,.int .i64,.int .i64,.own kidsP]
theorem ex_ofW {es:List DV} (h:AbW.Shs.dv exShW es):∃(x:Ex) (m:Nat),ht x≤m∧wfE x∧DV.agg es=exD m x:=by
 obtain ⟨_,_,rfl,⟨k,_,rfl⟩,_,_,rfl,⟨s,hs,rfl⟩,_,_,rfl,⟨n,_,rfl⟩,_,_,rfl,⟨d,_,rfl⟩,_,_,rfl,⟨a,_,rfl⟩,_,_,rfl,⟨⟨l,m,hm,hw,hl,rfl⟩,_⟩,rfl⟩:=h
 exact⟨.mk k s n d a l,m,by rw[ht_eq];exact hm,⟨hs,hl,hw⟩,rfl⟩
/-! Rules that are read. -/
end Go.Proofs
/- Formats. -/
namespace Go.Proofs
open Go Go.Ab Go.RowKit
set_option maxHeartbeats 4000000
set_option maxRecDepth 100000
variable {G:IH}
end Go.Proofs
/- Same rules. -/
namespace Go.Proofs
open Go Go.Ab Go.RowKit
set_option maxHeartbeats 4000000
set_option maxRecDepth 100000
variable {G:IH}
end Go.Proofs
/- The words of written rules. -/
set_option maxRecDepth 100000
namespace Go.Proofs
open Go Go.Ab
end Go.Proofs
/- What depends on no offset;written rules are read again. -/
namespace Go.Proofs
open Go Go.Ab
theorem noAL_len:∀l:List Ex,(noAL l).length=l.length
 | []=>rfl
 | x :: l=>by simp only[noAL,List.length_cons,noAL_len l]
mutual
theorem ht_noA:∀x:Ex,ht (noA x)=ht x
 | .mk k s n d a l=>by simp only[noA,ht,htL_noA l]
theorem htL_noA:∀l:List Ex,htL (noAL l)=htL l
 | []=>by simp only[noAL]
 | x :: l=>by simp only[noAL,htL,ht_noA x,htL_noA l]
end
mutual
theorem nds_noA:∀x:Ex,nds (noA x)=nds x
 | .mk k s n d a l=>by simp only[noA,nds,ndsL_noA l]
theorem ndsL_noA:∀l:List Ex,ndsL (noAL l)=ndsL l
 | []=>by simp only[noAL]
 | x :: l=>by simp only[noAL,ndsL,nds_noA x,ndsL_noA l]
end
mutual
theorem tx_noA:∀x:Ex,txE (noA x)↔txE x
 | .mk k s n d a l=>by simp only[noA,txE,txL_noA l]
theorem txL_noA:∀l:List Ex,txL (noAL l)↔txL l
 | []=>by simp only[noAL]
 | x :: l=>by simp only[noAL,txL,tx_noA x,txL_noA l]
end
mutual
theorem eq_noA:∀x y:Ex,eqE x y=true↔noA x=noA y
 | .mk k s n d a l,.mk k' s' n' d' a' l'=>by
  simp only[eqE,noA,bAt,decide_eq_true_eq,Ex.mk.injEq,true_and]
  constructor
  ·rintro ⟨⟨⟨⟨rfl,rfl⟩,rfl,rfl⟩,h1⟩,h2⟩
   exact⟨rfl,rfl,rfl,rfl,(eqL_noA l l' h1).1 h2⟩
  ·rintro ⟨rfl,rfl,rfl,rfl,h⟩
   have h1:l.length=l'.length:=by rw[←noAL_len l,←noAL_len l',h]
   exact⟨⟨⟨⟨rfl,rfl⟩,rfl,rfl⟩,h1⟩,(eqL_noA l l' h1).2 h⟩
theorem eqL_noA:∀l l':List Ex,l.length=l'.length→(eqL l l'=true↔noAL l=noAL l')
 | [],[],_=>by simp[eqL,noAL]
 | [],_ :: _,h=>by simp at h
 | _ :: _,[],h=>by simp at h
 | x :: l,y :: l',h=>by
  simp only[eqL,noAL,bAt,List.cons.injEq,eq_noA x y,eqL_noA l l' (by simpa using h)]
end
theorem sm_same {x y:Ex} (h:noA x=noA y) (hy:Sm y):Sm x:=
 ⟨by rw[←nds_noA,h,nds_noA];exact hy.nd,(tx_noA x).1 (h▸(tx_noA y).2 hy.tx)⟩
theorem ht_same {x y:Ex} (h:noA x=noA y):ht x=ht y:=by rw[←ht_noA x,h,ht_noA]
theorem SameL.len {l m:List Rl} (h:SameL l m):l.length=m.length:=by
 induction h with
 | nil=>rfl
 | cons h hl ih=>simp only[List.length_cons,ih]
theorem SameL.at {l m:List Rl} (h:SameL l m):∀i,i<l.length→sameR (l.getD i rl0) (m.getD i rl0):=by
 induction h with
 | nil=>intro i hi;exact absurd hi (Nat.not_lt_zero _)
 | cons h hl ih=>
  intro i hi
  cases i with
  | zero=>exact h
  | succ i=>exact ih i (by simpa using hi)
end Go.Proofs
/- Texts of several rules. -/
namespace Go.Proofs
open Go Go.Ab
theorem lex_nil:Lex [] []:=.nil rfl
theorem wrd_of_lex {s:ByteArray} {T:List ByteArray} (h:Lex s.data.toList T) (hs:s.size≤16384):∃ts,wrdL s=(ts,0,0)∧ts.map (·.1)=T:=by
 obtain ⟨ts,h1,h2⟩:=h.toks (s.size+1) 0 (by rw[Array.length_toList];exact Nat.lt_succ_self _)
 refine⟨ts,?_,h2⟩
 unfold wrdL
 rw[if_neg (by omega),h1]
theorem parX_ok {s:ByteArray} {y:Ex} (h:prsX s=(y,0,0)) (hd:(ht y:Int)+1≤32):parX s=(y,0,0):=by
 unfold parX
 rw[h,if_neg (by simp),if_neg (by dsimp only;omega)]
end Go.Proofs
/- Returns. -/
namespace Go.Proofs
open Go Go.Ab Go.RowKit
set_option maxHeartbeats 4000000
set_option maxRecDepth 100000
variable {G:IH}
theorem fit_ne {x:Ex} (h:fmtX x≠.empty):fitE x=true:=by
 unfold fmtX at h
 split at h
 ·assumption
 ·exact absurd rfl h
end Go.Proofs
/- What is read from a short text is valid: its text is not long. -/
namespace Go.Proofs
open Go Go.Ab
theorem num16 {n d:Int} (h:numB n d=true):(numT n d).size≤16:=by
 obtain ⟨D,T,hD,hT,hD1,h9,h6,he⟩:=(num_look h).dec
 have hl:(numT n d).size=(numT n d).data.toList.length:=(Array.length_toList).symm
 rw[hl,he]
 split<;>simp<;>omega
theorem fmtK_20 (k:Int) (s:ByteArray) (n d:Int) (fl:List (Int×ByteArray)) (hs:s.size≤16) (hn:k=1→(numT n d).size≤16):(fmtK k s n d fl).size≤16+totL fl:=by
 have t1:=tot_get fl
 have t0:=tot_get0 fl
 have j:=joinS_size fl
 have o:=opS_size k
 have w1:=wth_size 6 (g0 fl 0)
 have w2:=wth_size 2 (g0 fl 0)
 have w3:=wth_size (fstL k) (g0 fl 0)
 have w4:=wth_size (lvI k+1) (g0 fl 1)
 unfold fmtK
 repeat' split
 all_goals (try simp only[ByteArray.size_append])
 ·rename_i hk;have:=hn hk;omega
 ·omega
 ·show 4≤_;omega
 ·show 5≤_;omega
 ·show 1+_≤_;omega
 ·show 4+_≤_;omega
 ·show 4+_+1≤_;omega
 ·show 4+_+1≤_;omega
 ·show _+1+_+1+_≤_;omega
theorem tot20:∀{l:List Ex},(∀i,i<l.length→(fmtE (l.getD i ex0)).size+4≤20*nds (l.getD i ex0))→totL (fmtL l)≤20*ndsL l
 | [],_=>by simp[fmtL,totL]
 | x :: l,h=>by
  have h1:=h 0 (by simp)
  have h2:=tot20 fun i hi=>by simpa using h (i+1) (by simpa using hi)
  have h1:(fmtE x).size+4≤20*nds x:=h1
  simp only[fmtL,ndsL]
  have e:totL ((lvI x.k,fmtE x) :: fmtL l)=(fmtE x).size+4+totL (fmtL l):=by simp[totL]
  omega
theorem fmt20 (n:Nat):∀x:Ex,ht x≤n→sndE x=true→(fmtE x).size+4≤20*nds x:=by
 induction n using Nat.strongRecOn with
 | _ n ih=>
 intro x hx hs
 have h2:=tot20 (l:=x.kids) fun i hi=>by
  have:=ht_kid hi
  exact ih (n-1) (by omega) _ (by omega) (snd_kid hs hi)
 have h1:=fmtK_20 x.k x.s x.n x.d (fmtL x.kids) (snd_size hs) (fun hk=>num16 (snd_num hs hk))
 rw[fmtE_eq,nds_eq]
 omega
end Go.Proofs
/- Parentheses,plain. -/
namespace Go.Proofs
open Go Go.Ab
theorem rd_par {T:List ByteArray} {x:Ex} (h:Rd 0 T x) {n:Nat} (hn:n≤7):Rd n (opnS :: (T++[clsS])) x:=by
 intro t R e hs
 have h1:hdS t=opnS:=by rw[hd_map,e];rfl
 obtain ⟨y,r,e1,e2,e3⟩:=h t.tail (clsS :: R) (by rw[tl_map,e];simp) stop_cls
 have e4:pr (.lvl 7) t=.ok y r.tail:=by
  rw[pr_seven,pr_prim,if_pos h1,e1]
  try dsimp only
  rw[if_pos (by rw[hd_map,e3];rfl)]
 have e5:r.tail.map (·.1)=R:=by rw[tl_map,e3];rfl
 exact⟨y,r.tail,pr_up (Nat.le_refl 7) e4 n hn (fun _ _=>by rw[h1];decide) (fun _ _=>by rw[h1];decide) (by rw[hd_map,e5];exact hs),e2,e5⟩
theorem stop_end (n:Nat):stop n .empty:=fun m _ _=>by simp[opAt]
theorem rdp_two {A B:List ByteArray} {a b:Ex} {k:Int} (hk:opB k=true) (hA:Rd 0 A a) (hB:Rd 0 B b) {t:List Tk} (e:t.map (·.1)=opnS :: (A++[clsS])++opS k :: (opnS :: (B++[clsS]))) :
  ∃y z p,pr (.lvl 0) t=.ok (.mk k .empty 0 0 p [y,z]) []∧noA y=noA a∧noA z=noA b:=by
 obtain ⟨n,F⟩:=op_facts hk
 have n5:n≤5:=by have:=F.bin;unfold binL at this;omega
 have h1:hdS t=opnS:=by rw[hd_map,e];rfl
 obtain ⟨y,r,e1,e2,e3⟩:=rd_par hA (n:=n+1) (by omega) t (opS k :: (opnS :: (B++[clsS]))) e F.st
 obtain ⟨z,r',f1,f2,f3⟩:=rd_par hB (n:=n+1) (by omega) r.tail [] (by rw[tl_map,e3];simp) (stop_end _)
 have hr':r'=[]:=by simpa using f3
 subst hr'
 have hh:hdS r=opS k:=by rw[hd_map,e3];rfl
 have g:pr (.lvl n) t=.ok (.mk k .empty 0 0 (hdA 0 r) [y,z]) []:=by
  rw[pr_bin F.bin,e1]
  try dsimp only
  rw[pr_go n5 (by rw[hh];exact F.at_),f1]
  try dsimp only
  rw[hh,F.kd]
  split
  ·rfl
  ·exact pr_stop (by simp[opAt,hdS])
 refine⟨y,z,hdA 0 r,pr_up (by omega) g 0 (by omega) (fun _ _=>by rw[h1];decide) (fun _ _=>by rw[h1];decide) ?_,e2,f2⟩
 exact stop_end _
theorem op_par {k:Int} (h:opB k=true) {l:List UInt8} {T:List ByteArray} (hL:Lex (40 :: l) T):Lex ((opS k).data.toList++40 :: l) (opS k :: T):=by
 have hk:k=6∨k=7∨k=8∨k=9∨k=12∨k=13∨k=14∨k=15∨k=16∨k=17∨k=19∨k=20:=by
  unfold opB at h;simp only[decide_eq_true_eq] at h;omega
 have hw:wordAt (opS k).data.toList (40 :: l):=by
  by_cases h19:k=19∨k=20
  ·refine wordAt_id ?_ (hd_id (by decide))
   rcases h19 with rfl|rfl<;>decide +kernel
  ·refine wordAt_sym ?_ fun _=>by simp
   rcases hk with rfl|rfl|rfl|rfl|rfl|rfl|rfl|rfl|rfl|rfl|rfl|rfl<;>first|decide +kernel|omega
 have:=Lex.word hw hL
 rwa [toList_bsL] at this
def parT (s:ByteArray):ByteArray:=(⟨#[40,40]⟩:ByteArray)++s++(⟨#[41,32,41]⟩:ByteArray)
def twoT (s:ByteArray) (k:Int) (u:ByteArray):ByteArray:=(⟨#[40]⟩:ByteArray)++s++(⟨#[41]⟩:ByteArray)++opS k++(⟨#[40]⟩:ByteArray)++u++(⟨#[41]⟩:ByteArray)
theorem prsX_of {s:ByteArray} {ts:List Tk} {y:Ex} (h1:wrdL s=(ts,0,0)) (h2:pr (.lvl 0) ts=.ok y []):prsX s=(y,0,0):=by
 unfold prsX
 rw[h1,if_neg (by simp)]
 simp only[h2]
theorem rd0 {x:Ex} (h:sndE x=true):Rd 0 (tkE x) x:=by
 have hA:=reads _ x (Nat.le_refl _) h
 obtain ⟨m,_,hm⟩:=hA.lv
 exact(hA.rd 0 (by omega)).1
theorem prs_par {x:Ex} (h:sndE x=true) (hs:(fmtE x).size≤16000):∃y,prsX (parT (fmtE x))=(y,0,0)∧noA y=noA x:=by
 have hL:Lex (parT (fmtE x)).data.toList (opnS :: (opnS :: (tkE x++[clsS])++[clsS])):=by
  have e:(parT (fmtE x)).data.toList=[40]++([40]++((fmtE x).data.toList++([41]++([32]++([41]++[]))))):=by
   unfold parT;rw[app_toList,app_toList];simp
  rw[e]
  refine lex_s (w:=[40]) (by decide) (by decide) (lex_s (w:=[40]) (by decide) (by decide) ?_)
  show Lex _ (tkE x++[clsS]++[clsS])
  rw[List.append_assoc (tkE x)]
  refine lex_fmt _ x (Nat.le_refl _) h _ _ (hdE_cons _ (by simp)) ?_
  exact lex_s (w:=[41]) (by decide) (by decide) (Lex.blank blank_sp (lex_s (w:=[41]) (by decide) (by decide) lex_nil))
 have hz:(parT (fmtE x)).size≤16384:=by
  unfold parT
  simp only[ByteArray.size_append]
  show 2+_+3≤_;omega
 obtain ⟨ts,h1,h2⟩:=wrd_of_lex hL hz
 obtain ⟨y,r,e1,e2,e3⟩:=rd_par (rd_par (rd0 h) (n:=0) (by omega)) (n:=0) (by omega) ts [] (by rw[h2];simp) (stop_end _)
 have hr:r=[]:=by simpa using e3
 subst hr
 exact⟨y,prsX_of h1 e1,e2⟩
theorem prs_two {k:Int} {a b:Ex} (hk:opB k=true) (ha:sndE a=true) (hb:sndE b=true) (hs:(fmtE a).size+(fmtE b).size≤16000):∃y,prsX (twoT (fmtE a) k (fmtE b))=(y,0,0)∧noA y=noA (.mk k .empty 0 0 0 [a,b]):=by
 have hL:Lex (twoT (fmtE a) k (fmtE b)).data.toList (opnS :: (tkE a++[clsS])++opS k :: (opnS :: (tkE b++[clsS]))):=by
  have e:(twoT (fmtE a) k (fmtE b)).data.toList=[40]++((fmtE a).data.toList++([41]++((opS k).data.toList++40 :: ((fmtE b).data.toList++([41]++[]))))):=by
   unfold twoT;simp only[app_toList];simp
  rw[e]
  refine lex_s (w:=[40]) (by decide) (by decide) ?_
  show Lex _ (tkE a++[clsS]++_)
  rw[List.append_assoc (tkE a)]
  refine lex_fmt _ a (Nat.le_refl _) ha _ _ (hdE_cons _ (by simp)) ?_
  refine lex_s (w:=[41]) (by decide) (by decide) (op_par hk ?_)
  refine lex_s (w:=[40]) (by decide) (by decide) ?_
  exact lex_fmt _ b (Nat.le_refl _) hb _ _ (hdE_cons _ (by simp)) (lex_s (w:=[41]) (by decide) (by decide) lex_nil)
 have hz:(twoT (fmtE a) k (fmtE b)).size≤16384:=by
  have:=opS_size k
  unfold twoT
  simp only[ByteArray.size_append]
  show 1+_+1+_+1+_+1≤_;omega
 obtain ⟨ts,h1,h2⟩:=wrd_of_lex hL hz
 obtain ⟨y,z,p,e1,e2,e3⟩:=rdp_two hk (rd0 ha) (rd0 hb) h2
 refine⟨_,prsX_of h1 e1,?_⟩
 simp only[noA,noAL,e2,e3]
end Go.Proofs
/- Parentheses. -/
namespace Go.Proofs
open Go Go.Ab Go.RowKit
set_option maxHeartbeats 4000000
set_option maxRecDepth 100000
variable {G:IH}
noncomputable def orcL4:Oracle:=fun g a=>match g,a with
 | 10,[]=>some (db true)
 | 20,[e,.con (.int _ M)]=>some (db (fewE M (rdE e)))
 | 21,[e]=>some (ds (fmtX (rdE e)))
 | 15,[.con (.string t)]=>some (.tup [ndX (ht (prsX t).1) (prsX t).1,di 0,di 0])
 | 22,[_,_]=>some (db true)
 | 23,[.con (.int .i64 v)]=>some (opsD v)
 | _,_=>none
def opW (k v:Int) (j:Nat):ByteArray:=if rkI k<v then opS k else if rkI k=v then oT k j else .empty
theorem oT_zero (k:Int):oT k 0=.empty:=by simp[oT]
theorem opW_next {k:Int} (h:opB k=true) (v:Int):opW k v (opsI v).length=opW k (v+1) 0:=by
 unfold opW
 by_cases h1:rkI k<v
 ·rw[if_pos h1,if_pos (by omega)]
 by_cases h2:rkI k=v
 ·rw[if_neg h1,if_pos h2,if_pos (by omega),←h2,oT_all h]
 ·rw[if_neg h1,if_neg h2,if_neg (by omega),oT_zero,ite_self]
theorem opW_hit {k v:Int} {j:Nat} (hv:1≤v∧v≤6) (hj:j<(opsI v).length) (h:(opsI v).getD j 0=k):opW k v (j+1)=(opsT v).getD j .empty:=by
 have hm:k∈opsI v:=by
  rw[←h,List.getD,gEe hj]
  exact List.getElem_mem hj
 have hr:=rk_hit hv hm
 subst hr
 unfold opW
 rw[if_neg (Int.lt_irrefl _),if_pos rfl,oT_hit hj h]
theorem opW_miss {k v:Int} {j:Nat} (hj:j<(opsI v).length) (h:¬(opsI v).getD j 0=k):opW k v (j+1)=opW k v j:=by
 unfold opW
 by_cases h2:rkI k=v
 ·subst h2
  rw[if_neg (Int.lt_irrefl _),if_pos rfl,if_neg (Int.lt_irrefl _),if_pos rfl,oT_miss hj h]
 ·rw[if_neg h2,if_neg h2]
theorem rk_op {k:Int} (h:opB k=true):1≤rkI k∧rkI k≤6:=by
 unfold opB at h
 have h:=of_decide_eq_true h
 unfold rkI
 repeat' split
 all_goals omega
noncomputable def S4o (m:Nat) (x y:Ex) (v:Nat):AS:=⟨regs Tryz.f4.ntmps [(1,.box 1 0),(3,.box 3 0),(6,.d (ds (opW x.k v 0))),(7,vi v)],[(1,exC m x),(3,exC (ht y) y)]⟩
noncomputable def S4i (m:Nat) (x y:Ex) (v j:Nat):AS:=⟨regs Tryz.f4.ntmps [(1,.box 1 0),(3,.box 3 0),(6,.d (ds (opW x.k v j))),(7,vi v),(8,.d (.slc 1 (opsT v).length (stF (opsT v)))),(62,.d (.slc 1 (opsI v).length (inF (opsI v)))),(63,vi (opsI v).length),(64,vi j)],[(1,exC m x),(3,exC (ht y) y)]⟩
noncomputable def S4t (m:Nat) (x y:Ex):AS:=⟨regs Tryz.f4.ntmps [(1,.box 1 0),(3,.box 3 0),(6,.d (ds (opS x.k)))],[(1,exC m x),(3,exC (ht y) y)]⟩
theorem k15 {T:ByteArray} {x y:Ex} (h1:prsX T=(y,0,0)) (h2:noA y=noA x) (hd:(ht x:Int)+1≤32) (hs:Sm x) (hz:T.size≤900000):FnOK Tryz.prog G 15 [ds T] (.tup [ndX (ht (prsX T).1) (prsX T).1,di 0,di 0]):=by
 have hh:=ht_same h2
 have h:=f15 (G:=G) T hz (show Sm (prsX T).1 by rw[h1];exact sm_same h2 hs)
 rw[parX_ok h1 (by omega)] at h
 rw[h1]
 exact h
theorem k22 {T:ByteArray} {m:Nat} {x y:Ex} (h1:prsX T=(y,0,0)) (h2:noA y=noA x) (hx:ht x≤m) (hs:Sm x):FnOK Tryz.prog G 22 [ndX m x,ndX (ht (prsX T).1) (prsX T).1] (db true):=by
 have h:=f22 (G:=G) m (ht (prsX T).1) x (prsX T).1 hx (Nat.le_refl _) hs (by rw[h1];exact sm_same h2 hs)
 rwa [show eqE x (prsX T).1=true from (eq_noA _ _).2 (by rw[h1];exact h2.symm)] at h
theorem fit_small {x:Ex} (hn:nds x≤40) (hd:(ht x:Int)+1≤32) (hs:sndE x=true):fitE x=true∧(fmtE x).size≤800:=by
 have:=fmt20 _ x (Nat.le_refl _) hs
 unfold fitE
 rw[hs,decide_eq_true hd,decide_eq_true (by omega)]
 exact⟨rfl,by omega⟩
theorem f4_tail (hT:Tab G) (m:Nat) (x y:Ex) (hx:ht x≤m) (hn:nds x≤40) (hs:Sm x) (hfit:fitE x=true) (h2:x.kids.length=2) (hk:x.k≠10∧x.k≠11):AWP Tryz.prog G [.code (cAt (bodyOf Tryz.f4) [1,1,1,1,1,1,1,1])] (S4t m x y) (Ret Tryz.prog Tryz.f4 (db true)):=by
 refine walkK (orc:=orcL4) (keep:=[]) (cuts:=[]) (n:=1000) follows ?_
 refine of_tr (fun _ _ _ ZK=>(fun Za Zb Zc=>(((((0:Int)≤(0:Int))∧(0<(↑x.kids.length:Int)))∧ZK 21 [Zb] (ds (fmtX (rdE Zb)))∧((ByteArray.mk #[40]).size+(fmtX (rdE Zb)).size≤9223372036854775807)∧((ByteArray.mk #[40]++fmtX (rdE Zb)).size+(ByteArray.mk #[41]).size≤9223372036854775807)∧((ByteArray.mk #[40]++fmtX (rdE Zb)++ByteArray.mk #[41]).size+(opS x.k).size≤9223372036854775807)∧((ByteArray.mk #[40]++fmtX (rdE Zb)++ByteArray.mk #[41]++opS x.k).size+(ByteArray.mk #[40]).size≤9223372036854775807)∧(((0:Int)≤(1:Int))∧(1<(↑x.kids.length:Int)))∧ZK 21 [Zc] (ds (fmtX (rdE Zc)))∧((ByteArray.mk #[40]++fmtX (rdE Zb)++ByteArray.mk #[41]++opS x.k++ByteArray.mk #[40]).size+(fmtX (rdE Zc)).size≤9223372036854775807)∧((ByteArray.mk #[40]++fmtX (rdE Zb)++ByteArray.mk #[41]++opS x.k++ByteArray.mk #[40]++fmtX (rdE Zc)).size+(ByteArray.mk #[41]).size≤9223372036854775807)∧ZK 15 [(ds Za)] (.tup [(ndX (ht (prsX Za).fst) (prsX Za).fst),(di 0),(di 0)]))∧((true=true)→ZK 22 [(ndX m x),(ndX (ht (prsX Za).fst) (prsX Za).fst)] (db true))∧(ZS ((db true):DV)))) (ByteArray.mk #[40]++fmtX (rdE (ndA m (x.kids.getD (Int.toNat 0) ex0)))++ByteArray.mk #[41]++opS x.k++ByteArray.mk #[40]++fmtX (rdE (ndA m (x.kids.getD (Int.toNat 1) ex0)))++ByteArray.mk #[41]) (ndA m (x.kids.getD (Int.toNat 0) ex0)) (ndA m (x.kids.getD (Int.toNat 1) ex0))) (by kernel_rfl) ?_
 try dsimp only
 have hi0:0<x.kids.length:=by omega
 have hi1:1<x.kids.length:=by omega
 unfold fitE at hfit
 simp only[bAt,decide_eq_true_eq] at hfit
 have rr0:rdE (ndA m (x.kids.getD (Int.toNat 0) ex0))=x.kids.getD 0 ex0:=kid_rd hx hi0
 have rr1:rdE (ndA m (x.kids.getD (Int.toNat 1) ex0))=x.kids.getD 1 ex0:=kid_rd hx hi1
 simp only[rr0,rr1]
 obtain ⟨a,b,hl⟩:=len_two h2
 have hsa:=snd_kid hfit.1.1 hi0
 have hsb:=snd_kid hfit.1.1 hi1
 have hna:=nds_kid hi0
 have hnb:=nds_kid hi1
 have hta:=ht_kid hi0
 have htb:=ht_kid hi1
 have ka:=hs.kid hi0
 have kb:=hs.kid hi1
 have c0:FnOK Tryz.prog G 21 [ndA m (x.kids.getD (Int.toNat 0) ex0)] (ds (fmtX (x.kids.getD 0 ex0))):=kidOK (Q:=fun d=>FnOK Tryz.prog G 21 [d] (ds (fmtX (x.kids.getD 0 ex0)))) hx hi0 fun m' _ h=>f21 hT m' _ h ka
 have c1:FnOK Tryz.prog G 21 [ndA m (x.kids.getD (Int.toNat 1) ex0)] (ds (fmtX (x.kids.getD 1 ex0))):=kidOK (Q:=fun d=>FnOK Tryz.prog G 21 [d] (ds (fmtX (x.kids.getD 1 ex0)))) hx hi1 fun m' _ h=>f21 hT m' _ h kb
 have e0:x.kids.getD 0 ex0=a:=by rw[hl];rfl
 have e1:x.kids.getD 1 ex0=b:=by rw[hl];rfl
 rw[e0] at hsa hna hta ka c0
 rw[e1] at hsb hnb htb kb c1
 simp only[e0,e1]
 obtain ⟨fa,za⟩:=fit_small (x:=a) (by omega) (by omega) hsa
 obtain ⟨fb,zb⟩:=fit_small (x:=b) (by omega) (by omega) hsb
 have xa:fmtX a=fmtE a:=by unfold fmtX;rw[if_pos fa]
 have xb:fmtX b=fmtE b:=by unfold fmtX;rw[if_pos fb]
 rw[xa] at c0
 rw[xb] at c1
 simp only[xa,xb]
 have hB:opB x.k=true∧x.s=.empty∧x.n=0∧x.d=0:=by
  rcases snd_cases hfit.1.1 with ⟨_,_,_,h⟩|⟨_,_,_,_,h⟩|⟨_,_,_,_,h⟩|⟨_,_,_,_,a,h,_⟩|⟨h,_,_,_,_,_⟩|⟨h,q1,q2,q3,_⟩
  ·rw[h] at h2;cases h2
  ·rw[h] at h2;cases h2
  ·rw[h] at h2;cases h2
  ·rw[h] at h2;cases h2
  ·omega
  ·exact⟨h,q1,q2,q3⟩
 obtain ⟨hB,q1,q2,q3⟩:=hB
 obtain ⟨z,p1,p2⟩:=prs_two hB hsa hsb (by omega)
 have p2:noA z=noA x:=by rw[p2,noA_eq x,q1,q2,q3,hl];simp only[noA]
 have ho:=opS_size x.k
 have eT:ByteArray.mk #[40]++fmtE a++ByteArray.mk #[41]++opS x.k++ByteArray.mk #[40]++fmtE b++ByteArray.mk #[41]=twoT (fmtE a) x.k (fmtE b):=rfl
 have hz:(twoT (fmtE a) x.k (fmtE b)).size≤900000:=by
  unfold twoT
  simp only[ByteArray.size_append]
  show 1+_+1+_+1+_+1≤_;omega
 rw[eT]
 refine⟨⟨⟨by omega,by omega⟩,c0,by (show 1+_≤_);omega,?_,?_,?_,⟨by omega,by omega⟩,c1,?_,?_,k15 p1 p2 (by omega) hs hz⟩,fun _=>k22 p1 p2 hx hs,(by first|trivial|rfl)⟩
 ·simp only[ByteArray.size_append];show 1+_+1≤_;omega
 ·simp only[ByteArray.size_append];show 1+_+1+_≤_;omega
 ·simp only[ByteArray.size_append];show 1+_+1+_+1≤_;omega
 ·simp only[ByteArray.size_append];show 1+_+1+_+1+_≤_;omega
 ·simp only[ByteArray.size_append];show 1+_+1+_+1+_+1≤_;omega
theorem f4_loop (m:Nat) (x y:Ex) (hB:opB x.k=true) (ht':AWP Tryz.prog G [.code (cAt (bodyOf Tryz.f4) [1,1,1,1,1,1,1,1])] (S4t m x y) (Ret Tryz.prog Tryz.f4 (db true))) :
  AWP Tryz.prog G [.code (cAt (bodyOf Tryz.f4) [1,1,1,1,1,1,1,0,1,0]),.blk 0,.code (cAt (bodyOf Tryz.f4) [1,1,1,1,1,1,1,1])] (S4o m x y 1) (Ret Tryz.prog Tryz.f4 (db true)):=by
 have hrk:=rk_op hB
 refine AWP.loop (c:=cAt (bodyOf Tryz.f4) [1,1,1,1,1,1,1,0,1,0,0]) (by kernel_rfl) (S4o m x y) (fun v=>1≤v∧v≤7) (fun v=>7-v) 1 ?_ ⟨by omega,by omega⟩ ?_
 ·exact AS.leA (by kernel_rfl)
 ·rintro v ⟨h1,h2⟩
  refine walk (orc:=orcL4) (keep:=[]) (cuts:=[]) (n:=1000) follows ?_
  refine of_rd (fun ZT ZW ZQ ZK _ ZR=>((((decide ((↑v:Int)≤6))=true)→(ZK 23 [(di (↑v))] (.tup [(.slc 1 (opsT ↑v).length (stF (opsT ↑v))),(.slc 1 (opsI ↑v).length (inF (opsI ↑v)))])∧ZW [cd Tryz.f4 [1,1,1,1,1,1,1,0,1,0,0,1,0,0,1,1,0],(.blk 2),(.blk 1),cd Tryz.f4 [1,1,1,1,1,1,1,0,1,0,0,1,1]] (stS ZT [0]) ZR))∧(((decide ((↑v:Int)≤6))=false)→ZW [cd Tryz.f4 [1,1,1,1,1,1,1,1]] (stS ZT [1]) ZQ))) (by kernel_rfl) ?_
  refine⟨fun h=>⟨f23 _,?_⟩,fun h=>?_⟩
  ·have hv6:v≤6:=by have:=of_decide_eq_true h;omega
   have hl6:=opsI_len (v:Int)
   have htl:(opsT v).length=(opsI v).length:=by unfold opsT;rw[List.length_map]
   refine AWP.loop (c:=cAt (bodyOf Tryz.f4) [1,1,1,1,1,1,1,0,1,0,0,1,0,0,1,1,0,0]) (by kernel_rfl) (S4i m x y v) (fun j=>j≤(opsI v).length) (fun j=>(opsI v).length-j) 0 ?_ (Nat.zero_le _) ?_
   ·exact AS.leA (by kernel_rfl)
   ·intro j hj
    refine walk (orc:=orcL4) (keep:=[]) (cuts:=[]) (n:=1000) follows ?_
    refine of_rd (fun ZT ZW ZQ _ ZA _=>((((decide ((↑j:Int)<↑(opsI ↑v).length))=true)→(((0≤(↑j:Int))∧((↑j:Int)<↑(opsI ↑v).length))∧((((opsI ↑v).getD (↑j:Int).toNat 0==x.k)=true)→(((0≤(↑j:Int))∧((↑j:Int)<↑(opsT ↑v).length))∧(I64 (↑j+1))∧(ZA (stS ZT [0,0]))))∧((((opsI ↑v).getD (↑j:Int).toNat 0==x.k)=false)→((I64 (↑j+1))∧(ZA (stS ZT [0,1]))))))∧(((decide ((↑j:Int)<↑(opsI ↑v).length))=false)→ZW [(.blk 1),cd Tryz.f4 [1,1,1,1,1,1,1,0,1,0,0,1,1]] (stS ZT [1]) ZQ))) (by kernel_rfl) ?_
    simp only[Int.toNat_natCast]
    refine⟨fun h3=>?_,fun h3=>?_⟩
    ·have hj2:j<(opsI v).length:=by have:=of_decide_eq_true h3;omega
     refine⟨⟨by omega,by omega⟩,fun h4=>⟨⟨by omega,by omega⟩,⟨by omega,by omega⟩,Again.mk (j+1) ?_ hj2 (by omega)⟩,fun h4=>⟨⟨by omega,by omega⟩,Again.mk (j+1) ?_ hj2 (by omega)⟩⟩
     ·refine AS.leZ [2] [] (b:=((T0∧T0∧((vs ((opsT ↑v).getD (↑j:Int).toNat ByteArray.empty)):AV)=(vs (opW x.k (↑v) (j+1)))∧T0∧T0∧T0∧T0∧T0∧True)∧T0∧T0∧True)) (by kernel_rfl) (by kernel_rfl) ?_
      refine⟨⟨rfl,rfl,?_,rfl,rfl,rfl,rfl,rfl,trivial⟩,rfl,rfl,trivial⟩
      rw[opW_hit (by omega) hj2 (by simpa using h4)]
      rfl
     ·refine AS.leZ [2] [] (b:=((T0∧T0∧((vs (opW x.k (↑v) j)):AV)=(vs (opW x.k (↑v) (j+1)))∧T0∧T0∧T0∧T0∧T0∧True)∧T0∧T0∧True)) (by kernel_rfl) (by kernel_rfl) ?_
      refine⟨⟨rfl,rfl,?_,rfl,rfl,rfl,rfl,rfl,trivial⟩,rfl,rfl,trivial⟩
      rw[opW_miss hj2 (by simpa using h4)]
    ·simp only[decide_eq_false_iff_not] at h3
     obtain rfl:j=(opsI v).length:=by omega
     refine walk (orc:=orcL4) (keep:=[]) (cuts:=[]) (n:=1000) follows ?_
     refine of_rd (fun ZT _ _ _ ZA _=>((I64 (↑v+1))∧(ZA (stS ZT [])))) (by kernel_rfl) ?_
     refine⟨⟨by omega,by omega⟩,Again.mk (v+1) ?_ ⟨by omega,by omega⟩ (by omega)⟩
     refine AS.leZ [2] [] (b:=((T0∧T0∧((vs (opW x.k (↑v) (opsI ↑v).length)):AV)=(vs (opW x.k (↑(v+1)) 0))∧T0∧True)∧T0∧T0∧True)) (by kernel_rfl) (by kernel_rfl) ?_
     refine⟨⟨rfl,rfl,?_,rfl,trivial⟩,rfl,rfl,trivial⟩
     rw[opW_next hB];rfl
  ·simp only[decide_eq_false_iff_not] at h
   refine AWP.weaken (st':=S4t m x y) ?_ ht'
   refine AS.leZ [2] [] (b:=((T0∧T0∧((vs (opW x.k (↑v) 0)):AV)=(vs (opS x.k))∧True)∧T0∧T0∧True)) (by kernel_rfl) (by kernel_rfl) ?_
   refine⟨⟨rfl,rfl,?_,trivial⟩,rfl,rfl,trivial⟩
   unfold opW
   rw[if_pos (by omega)]
theorem f4 (hT:Tab G) (m:Nat) (x:Ex) (hx:ht x≤m) (hwx:wfE x):FnOK Tryz.prog G 4 [exD m x] (db true):=by
 refine FnOK.walkK (orc:=orcL4) (keep:=[]) follows Tryz.func4 rfl Tryz.call4 ?_
 refine of_tr (fun ZT ZW ZQ ZK=>(fun Za Zb=>(ZK 10 [] (db true)∧((false=true)→(((db false):DV)=(db true)))∧((false=false)→((ZK 20 [(ndX m x),(di 40)] (db (fewE 40 (rdE (ndX m x))))∧(((!!fewE 40 (rdE (ndX m x)))=true)→ZK 21 [(ndX m x)] (ds (fmtX (rdE (ndX m x))))))∧((Zb=true)→(ZS ((db true):DV)))∧((Zb=false)→((ZK 21 [(ndX m x)] (ds (fmtX (rdE (ndX m x))))∧((ByteArray.mk #[40,40]).size+(fmtX (rdE (ndX m x))).size≤9223372036854775807)∧((ByteArray.mk #[40,40]++fmtX (rdE (ndX m x))).size+(ByteArray.mk #[41,32,41]).size≤9223372036854775807)∧ZK 15 [(ds Za)] (.tup [(ndX (ht (prsX Za).fst) (prsX Za).fst),(di 0),(di 0)]))∧((true=true)→ZK 22 [(ndX m x),(ndX (ht (prsX Za).fst) (prsX Za).fst)] (db true))∧((false=true)→(((db false):DV)=(db true)))∧((false=false)→(((((↑x.kids.length:Int) != 2||x.k==10||x.k==11)=true)→(ZS ((db true):DV)))∧((((↑x.kids.length:Int) != 2||x.k==10||x.k==11)=false)→ZW [cd Tryz.f4 [1,1,1,1,1,1,1,0,1,0],(.blk 0),cd Tryz.f4 [1,1,1,1,1,1,1,1]] (stS ZT [1,1,1,1]) ZQ))))))))) (ByteArray.mk #[40,40]++fmtX (rdE (ndX m x))++ByteArray.mk #[41,32,41]) (!fewE 40 (rdE (ndX m x))||(fmtX (rdE (ndX m x))).toList==(ByteArray.mk #[]).toList)) (by kernel_rfl) ?_
 try dsimp only
 have ex:rdE (ndX m x)=x:=rdE_eq hx
 simp only[ex]
 refine⟨f10 hT,fun c=>(by cases c),fun _=>⟨⟨f20 40 m x hx hwx,fun c=>?_⟩,fun _=>(by first|trivial|rfl),fun c=>?_⟩⟩
 ·rw[Bool.not_not] at c
  exact f21 hT m x hx (few_sm (by decide) hwx c)
 rw[Bool.or_eq_false_iff,Bool.not_eq_false',emp_beq,decide_eq_false_iff_not] at c
 obtain ⟨hf,hne⟩:=c
 have hne:fmtX x≠.empty:=fun e=>hne (by rw[e];rfl)
 have hfit:=fit_ne hne
 have hs:=few_sm (M:=40) (by decide) hwx hf
 have hn:nds x≤40:=by have:=few_nds (M:=40) (by decide) x hwx hf;omega
 have q:=hfit
 unfold fitE at q
 simp only[bAt,decide_eq_true_eq] at q
 have hz:=(fit_small hn q.1.2 q.1.1).2
 have xe:fmtX x=fmtE x:=by unfold fmtX;rw[if_pos hfit]
 have k21:=f21 hT m x hx hs
 rw[xe] at k21
 simp only[xe]
 obtain ⟨z,p1,p2⟩:=prs_par q.1.1 (by omega)
 have eT:ByteArray.mk #[40,40]++fmtE x++ByteArray.mk #[41,32,41]=parT (fmtE x):=rfl
 have hzT:(parT (fmtE x)).size≤900000:=by
  unfold parT
  simp only[ByteArray.size_append]
  show 2+_+3≤_;omega
 rw[eT]
 refine⟨⟨k21,by (show 2+_≤_);omega,by rw[ByteArray.size_append];(show 2+_+3≤_);omega,k15 p1 p2 q.1.2 hs hzT⟩,fun _=>k22 p1 p2 hx hs,fun c=>(by cases c),fun _=>⟨fun _=>(by first|trivial|rfl),fun c=>?_⟩⟩
 simp only[Bool.or_eq_false_iff,bne_eq_false_iff_eq,beq_eq_false_iff_ne,ne_eq] at c
 have h2:x.kids.length=2:=by omega
 have hB:opB x.k=true:=by
  rcases snd_cases q.1.1 with ⟨_,_,_,h⟩|⟨_,_,_,_,h⟩|⟨_,_,_,_,h⟩|⟨_,_,_,_,a,h,_⟩|⟨h,_,_,_,_,_⟩|⟨h,_,_,_,_⟩
  ·rw[h] at h2;cases h2
  ·rw[h] at h2;cases h2
  ·rw[h] at h2;cases h2
  ·rw[h] at h2;cases h2
  ·omega
  ·exact h
 refine AWP.weaken (st':=S4o m x (prsX (ByteArray.mk #[40,40]++fmtX (rdE (ndX m x))++ByteArray.mk #[41,32,41])).1 1) ?_ (f4_loop m x _ hB (f4_tail hT m x _ hx hn hs hfit h2 ⟨c.1.2,c.2⟩))
 refine AS.leZ [2] [] (b:=((T0∧T0∧((vs (ByteArray.mk #[])):AV)=(vs (opW x.k (↑1) 0))∧T0∧True)∧T0∧T0∧True)) (by kernel_rfl) (by kernel_rfl) ?_
 refine⟨⟨rfl,rfl,?_,rfl,trivial⟩,rfl,rfl,trivial⟩
 have hrk:=rk_op hB
 unfold opW
 rw[if_neg (by omega),oT_zero,ite_self]
 rfl
end Go.Proofs
namespace Go.Proofs.YtcfclncbpeahnaaGreatDoor
open Go Go.Ab Go.ChangeShapes Go.WideShapes Go.ChangeAt Go.RowKit
set_option maxRecDepth 100000
theorem own:ownKnob Tryz.prog.godebug=none:=by kernel_rfl
theorem laidOut:laidOutB Tryz.prog=true:=by kernel_rfl
theorem gPow : Tryz.prog.globalNamed "internal/strconv.uint64pow10" = some 1 := by kernel_rfl
theorem tPow:(Tryz.prog.globals[1]?).map (·.type)=some 181:=by kernel_rfl
theorem laidVars_get {P:Program} {W:World}:∀{l:List (String×DataW Unit)} {ps:List MemPlace},DataW.LaidVars P W l ps→
  ∀{i:Nat} {n:String} {d:DataW Unit},l[i]?=some (n,d)→∃g t cs fuel p,P.globalNamed n=some g∧(P.globals[g]?).map (·.type)=some t∧W.var? P n=some cs∧DataW.trod (fun _=>()) P W 0 (fun _=>true) false fuel t cs.toList=some (d,p)
 | [],ps,h,i,n,d,h1=>by simp at h1
 | (m,e) :: l,ps,⟨g,t,cs,fuel,p,q,a1,a2,a3,a4,a5,a6⟩,i,n,d,h1=>by
  cases i with
  | zero=>
   simp at h1;obtain ⟨rfl,rfl⟩:=h1
   exact⟨g,t,cs,fuel,p,a1,a2,a3,a4⟩
  | succ i=>exact laidVars_get a5 (i:=i) (by simpa using h1)
theorem tab_of_laid {laid : List (String × DataW Unit)} {W : World} (h : laidMetH Tryz.prog laid W) (hm : laidMetH Tryz.prog laid W = laidMet Tryz.prog laid W) {i : Nat} (hi : laid[i]? = some ("internal/strconv.uint64pow10", Rows.laid_internal_strconv_uint64pow10)) : Tab (allOf W) := by
 rw[hm] at h
 obtain ⟨ps,h,_⟩:=h
 obtain ⟨g2,t2,cs2,f2,p2,hg2,ht2,hv2,hd2⟩:=laidVars_get h hi
 obtain rfl:=Option.some.inj (gPow.symm.trans hg2)
 obtain rfl:=Option.some.inj (tPow.symm.trans ht2)
 have hT : Lib.TabIs Tryz.prog W "internal/strconv.uint64pow10" .u64 Lib.pow10Tab := by
  unfold Lib.TabIs
  rw[hv2,←Lib.cells_of_tab Tryz.underlying181 (by kernel_rfl) (by kernel_rfl) (by kernel_rfl) (k:=.u64) (zs:=Lib.pow10Tab) hd2]
 intro w hw
 unfold Lib.TabIs at hT⊢
 rw[←hT]
 unfold World.var? at hT⊢
 rw[gPow] at hT⊢
 simp only[Option.bind_some] at hT⊢
 cases ho:W.heap[1]? with
 | none=>rw[ho] at hT;cases hT
 | some o=>rw[hw.2 1 o ho]
end Go.Proofs.YtcfclncbpeahnaaGreatDoor
