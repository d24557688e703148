import Derived.Test.YtcfclncbpeahnaaGreatDoorG6
import Derived.Test.YtcfclncbpeahnaaGreatDoorG2
import Derived.Test.YtcfclncbpeahnaaGreatDoorAcD
import Derived.Test.YtcfclncbpeahnaaGreatDoorG0
import Derived.Test.YtcfclncbpeahnaaGreatDoorG4
import Derived.Lay
import Derived.Test.YtcfclncbpeahnaaGreatDoorRows
import Derived.Lib.LaidTab
import Derived.ProofKit
import Derived.LaidMore
import Derived.OpenShut
import Derived.Stop.Joined
/- What is read is no larger than its words. -/
set_option autoImplicit false
namespace Go.Proofs
open Go Go.Ab
def mdN:Md→Nat
 | .loop _ x=>nds x
 | .args x=>nds x
 | _=>0
def mdT:Md→Prop
 | .loop _ x=>txE x
 | .args x=>txE x
 | _=>True
def RsN (b:Nat) (t:List Tk):Rs→Prop
 | .ok y r=>nds y+r.length≤b+t.length∧txE y∧r <:+ t
 | .bad _=>True
def tkM (t:List Tk):Prop:=∀w∈t,w.1.size≤1000
theorem tkM.suf {t r:List Tk} (h:tkM t) (hs:r <:+ t):tkM r:=fun w hw=>h w (hs.subset hw)
theorem tkM.tail {t:List Tk} (h:tkM t):tkM t.tail:=h.suf (List.tail_suffix t)
theorem tkM.hd {t:List Tk} (h:tkM t):(hdS t).size≤1000:=by
 cases t with
 | nil=>exact Nat.zero_le _
 | cons w t=>exact h w (by simp)
theorem nds_leaf (k:Int) (s:ByteArray) (n d a:Int):nds (.mk k s n d a [])=1:=by simp[nds,ndsL]
theorem tx_leaf {k:Int} {s:ByteArray} {n d a:Int} (h:s.size≤1000):txE (.mk k s n d a []):=by simp only[txE,txL];exact⟨h,trivial⟩
theorem sz_empty:ByteArray.empty.size≤1000:=by decide
theorem digs_ne {s:ByteArray} (h:digB (byteAt s 0)=true):s≠.empty:=by
 rintro rfl;exact absurd h (by decide)
theorem names_ne {s:ByteArray} (h:nameB s=true):s≠.empty:=by
 rintro rfl;exact absurd h (by decide +kernel)
theorem leafX_n {t:List Tk} (h:tkM t):RsN 0 t (leafX t):=by
 have hs:=List.tail_suffix t
 unfold leafX
 split
 ·rename_i hh
  have:=tail_len (t:=t) (by rw[hh];decide)
  exact⟨by rw[nds_leaf];omega,tx_leaf sz_empty,hs⟩
 split
 ·rename_i hh
  have:=tail_len (t:=t) (by rw[hh];decide)
  exact⟨by rw[nds_leaf];omega,tx_leaf sz_empty,hs⟩
 split
 ·rename_i hh
  have:=tail_len (digs_ne hh)
  exact⟨by rw[nds_leaf];omega,tx_leaf sz_empty,hs⟩
 split
 ·rename_i hh
  have:=tail_len (names_ne hh)
  exact⟨by rw[nds_leaf];omega,tx_leaf h.hd,hs⟩
 ·trivial
theorem RsN.up {b b':Nat} {t t':List Tk} (hl:b'+t'.length≤b+t.length) (hs:t' <:+ t):∀{R:Rs},RsN b' t' R→RsN b t R
 | .ok _ _,h=>⟨by have:=h.1;omega,h.2.1,h.2.2.trans hs⟩
 | .bad _,_=>trivial
theorem nds_one (k:Int) (a:Int) (x:Ex):nds (.mk k .empty 0 0 a [x])=nds x+1:=by simp[nds,ndsL];omega
theorem nds_two (k:Int) (a:Int) (x y:Ex):nds (.mk k .empty 0 0 a [x,y])=nds x+nds y+1:=by simp[nds,ndsL];omega
theorem tx_one {k:Int} {a:Int} {x:Ex} (h:txE x):txE (.mk k .empty 0 0 a [x]):=by simp only[txE,txL];exact⟨sz_empty,h,trivial⟩
theorem tx_two {k:Int} {a:Int} {x y:Ex} (h:txE x) (h2:txE y):txE (.mk k .empty 0 0 a [x,y]):=by simp only[txE,txL];exact⟨sz_empty,h,h2,trivial⟩
theorem ndsL_app (l m:List Ex):ndsL (l++m)=ndsL l+ndsL m:=by
 induction l with
 | nil=>simp[ndsL]
 | cons x l ih=>simp only[List.cons_append,ndsL,ih];omega
theorem txL_app {l:List Ex} {y:Ex} (h:txL l) (hy:txE y):txL (l++[y]):=by
 induction l with
 | nil=>simp only[List.nil_append,txL];exact⟨hy,trivial⟩
 | cons x l ih=>
  simp only[txL] at h
  simp only[List.cons_append,txL]
  exact⟨h.1,ih h.2⟩
theorem nds_addK (x y:Ex):nds (addK x y)=nds x+nds y:=by
 cases x;simp only[addK,nds,Ex.kids,ndsL_app,ndsL];omega
theorem tx_addK {x y:Ex} (h:txE x) (hy:txE y):txE (addK x y):=by
 cases x
 simp only[txE] at h
 simp only[addK,txE,Ex.s,Ex.kids]
 exact⟨h.1,txL_app h.2 hy⟩
theorem rd_n:∀(k:Nat) (md:Md) (t:List Tk),tkM t→mdT md→RsN (mdN md) t (rd k md t):=by
 intro k
 induction k with
 | zero=>intro md t _ _;trivial
 | succ k ih=>
  intro md t ht hm
  have ts:=List.tail_suffix t
  have tl:=tail_le t
  cases md with
  | lvl n=>
   simp only[rd]
   split
   ·split
    ·rename_i hh
     have hl:=tail_len (t:=t) (by rw[hh];decide)
     have:=ih (.lvl 2) t.tail ht.tail trivial
     cases e:rd k (.lvl 2) t.tail with
     | ok x r=>
      rw[e] at this
      refine⟨?_,tx_one this.2.1,this.2.2.trans ts⟩
      rw[nds_one]
      have:=this.1
      simp only[mdN] at this⊢;omega
     | bad r=>trivial
    ·exact ih (.lvl 3) t ht trivial
   split
   ·split
    ·rename_i hh
     have hl:=tail_len (t:=t) (by rw[hh];decide)
     have:=ih (.lvl 6) t.tail ht.tail trivial
     cases e:rd k (.lvl 6) t.tail with
     | ok x r=>
      rw[e] at this
      refine⟨?_,tx_one this.2.1,this.2.2.trans ts⟩
      rw[nds_one]
      have:=this.1
      simp only[mdN] at this⊢;omega
     | bad r=>trivial
    ·exact ih (.lvl 7) t ht trivial
   split
   ·exact ih .prim t ht trivial
   ·have:=ih (.lvl (n+1)) t ht trivial
    cases e:rd k (.lvl (n+1)) t with
    | ok x r=>
     rw[e] at this
     exact RsN.up (b':=nds x) (by have:=this.1;simp only[mdN] at this⊢;omega) this.2.2 (ih (.loop n x) r (ht.suf this.2.2) this.2.1)
    | bad r=>trivial
  | loop n x=>
   simp only[rd]
   split
   ·rename_i ho
    have hl:=tail_len (opAt_ne ho)
    have:=ih (.lvl (n+1)) t.tail ht.tail trivial
    cases e:rd k (.lvl (n+1)) t.tail with
    | ok y r=>
     rw[e] at this
     have h1:=this.1
     simp only[mdN] at h1
     have hs:=tx_two (k:=opK (hdS t)) (a:=hdA 0 t) (show txE x from hm) this.2.1
     have hn:=nds_two (opK (hdS t)) (hdA 0 t) x y
     try dsimp only
     split
     ·exact⟨by simp only[mdN];omega,hs,this.2.2.trans ts⟩
     ·exact RsN.up (b':=nds (.mk (opK (hdS t)) .empty 0 0 (hdA 0 t) [x,y])) (by simp only[mdN];omega) (this.2.2.trans ts) (ih _ _ ((ht.tail).suf this.2.2) hs)
    | bad r=>trivial
   ·exact⟨Nat.le_refl _,hm,List.suffix_refl _⟩
  | args x=>
   simp only[rd]
   have:=ih (.lvl 0) t ht trivial
   cases e:rd k (.lvl 0) t with
   | ok y r=>
    rw[e] at this
    have h1:=this.1
    simp only[mdN] at h1
    have hs:=tx_addK (show txE x from hm) this.2.1
    have hn:=nds_addK x y
    have tr:=List.tail_suffix r
    have trl:=tail_le r
    try dsimp only
    split
    ·exact RsN.up (b':=nds (addK x y)) (by simp only[mdN];omega) (tr.trans this.2.2) (ih (.args (addK x y)) r.tail ((ht.suf this.2.2).tail) hs)
    split
    ·exact⟨by simp only[mdN];omega,hs,tr.trans this.2.2⟩
    ·trivial
   | bad r=>trivial
  | prim=>
   simp only[rd]
   split
   ·have:=ih (.lvl 0) t.tail ht.tail trivial
    cases e:rd k (.lvl 0) t.tail with
    | ok x r=>
     rw[e] at this
     have h1:=this.1
     simp only[mdN] at h1
     have trl:=tail_le r
     try dsimp only
     split
     ·exact⟨by simp only[mdN];omega,this.2.1,(List.tail_suffix r).trans (this.2.2.trans ts)⟩
     ·trivial
    | bad r=>trivial
   split
   ·rename_i hh
    have hl:=tail_len (t:=t) (by rcases hh with hh|hh<;>rw[hh]<;>decide)
    have tl2:=tail_le t.tail
    split
    ·refine RsN.up (b':=nds (.mk (if hdS t=maxS then 11 else 10) .empty 0 0 (hdA 0 t) [])) ?_ ((List.tail_suffix _).trans ts) (ih (.args (.mk (if hdS t=maxS then 11 else 10) .empty 0 0 (hdA 0 t) [])) t.tail.tail ht.tail.tail (show txE (.mk (if hdS t=maxS then 11 else 10) .empty 0 0 (hdA 0 t) []) from tx_leaf sz_empty))
     rw[nds_leaf];simp only[mdN];omega
    ·trivial
   ·exact leafX_n ht
theorem pr_sm {n:Nat} {t:List Tk} (ht:tkM t) {x:Ex} {r:List Tk} (e:pr (.lvl n) t=.ok x r):nds x+r.length≤t.length∧txE x:=by
 have:=rd_n (10*t.length+11) (.lvl n) t ht trivial
 unfold pr at e
 rw[e] at this
 have h1:=this.1
 simp only[mdN] at h1
 exact⟨by omega,this.2.1⟩
def RuN (kd:Int) (nm gr:ByteArray) (n:Nat) (R:Rr):Prop:=∀x r,R=.ok x r→x.nm=nm∧x.gr=gr∧ht x.am≤x.ma∧ht x.wh≤x.mw∧txE x.am∧txE x.wh∧nds x.am≤n∧nds x.wh≤n
theorem ruD_n {kd:Int} {nm gr:ByteArray} {pos:Int} {am wh:Ex} {t:List Tk} {n:Nat} (h1:txE am) (h2:txE wh) (h3:nds am≤n) (h4:nds wh≤n):RuN kd nm gr n (ruD kd nm gr pos am wh t):=by
 intro x r e
 unfold ruD at e
 split at e
 ·injection e with e _
  subst e
  exact⟨rfl,rfl,Nat.le_refl _,Nat.le_refl _,h1,h2,h3,h4⟩
 ·cases e
theorem tx_ex0:txE ex0:=tx_leaf sz_empty
theorem ruC_n {kd:Int} {nm gr:ByteArray} {pos:Int} {am:Ex} {t:List Tk} {n:Nat} (ht:tkM t) (hn:t.length≤n) (h0:1≤n) (h1:txE am) (h3:nds am≤n):RuN kd nm gr n (ruC kd nm gr pos am t):=by
 have tl:=tail_le t
 unfold ruC
 split
 ·cases e:pr (.lvl 0) t.tail with
  | ok wh r=>
   have:=pr_sm ht.tail e
   exact ruD_n h1 this.2 h3 (by omega)
  | bad r=>intro x q e;cases e
 ·exact ruD_n h1 tx_ex0 h3 (by show nds (.mk 0 .empty 0 0 0 [])≤n;rw[nds_leaf];exact h0)
theorem ruG_n {kd:Int} {nm gr:ByteArray} {pos:Int} {t:List Tk} {n:Nat} (ht:tkM t) (hn:t.length≤n) (h0:1≤n):RuN kd nm gr n (ruG kd nm gr pos t):=by
 have tl:=tail_le t
 unfold ruG
 split
 ·cases e:pr (.lvl 0) t.tail with
  | ok am r=>
   have:=pr_sm ht.tail e
   have hs:r <:+ t.tail:=by have:=pr_suf (.lvl 0) t.tail;rw[e] at this;exact this
   have hsl:=hs.length_le
   exact ruC_n ((ht.tail).suf hs) (by omega) h0 this.2 (by omega)
  | bad r=>intro x q e;cases e
 ·intro x q e;cases e
theorem ruP_n {t:List Tk} {n:Nat} (hM:tkM t) (hn:t.length≤n) (h0:1≤n) {x:Rl} {r:List Tk} (e:ruP t=.ok x r):x.nm.size≤1000∧x.gr.size≤1000∧ht x.am≤x.ma∧ht x.wh≤x.mw∧txE x.am∧txE x.wh∧nds x.am≤n∧nds x.wh≤n:=by
 have tl:=tail_le t
 have tl2:=tail_le t.tail
 have tl3:=tail_le t.tail.tail
 unfold ruP at e
 split at e
 ·split at e
  ·unfold ruN at e
   split at e
   ·split at e
    ·have tl4:=tail_le t.tail.tail.tail
     obtain ⟨rfl',h2,h3⟩:=ruG_n hM.tail.tail.tail.tail (by omega) h0 _ _ e
     exact⟨by rw[rfl'];exact hM.tail.hd,by rw[h2];exact hM.tail.tail.tail.hd,h3⟩
    ·cases e
   ·obtain ⟨h1,h2,h3⟩:=ruG_n hM.tail.tail (by omega) h0 _ _ e
    exact⟨by rw[h1];exact hM.tail.hd,by rw[h2];decide,h3⟩
  ·cases e
 ·cases e
theorem ruP_sm {t:List Tk} (ht:tkM t) (hn:t.length≤1000) {x:Rl} {r:List Tk} (e:ruP t=.ok x r):RlS x:=by
 obtain ⟨h1,h2,h3,h4,h5,h6,h7,h8⟩:=ruP_n ht hn (by decide) e
 exact⟨h1,h2,h3,⟨h7,h5⟩,h4,⟨h8,h6⟩⟩
theorem prR_sm:∀(n:Nat) (t:List Tk) (R:List Rl),t.length≤n→n≤1000→tkM t→prR t=.ok R→∀r∈R,RlS r
 | 0,t,R,hn,_,_,h=>by
  have:t=[]:=List.eq_nil_of_length_eq_zero (by omega)
  subst this
  injection h with h;subst h
  intro r hr;cases hr
 | n+1,t,R,hn,h1,ht,h=>by
  by_cases hne:t=[]
  ·subst hne;injection h with h;subst h
   intro r hr;cases hr
  ·cases e:ruP t with
   | ok x q=>
    rw[prR_ok e] at h
    have hlt:=ruP_lt e
    have hs:=ruP_suf t
    rw[e] at hs
    cases e2:prR q with
    | ok l=>
     rw[e2] at h
     injection h with h
     subst h
     intro r hr
     rcases List.mem_cons.1 hr with rfl|hr
     ·exact ruP_sm ht (by omega) e
     ·exact prR_sm n q l (by omega) (by omega) (ht.suf hs) e2 r hr
    | bad r2=>rw[e2] at h;cases h
   | bad q=>rw[prR_bad hne e] at h;cases h
theorem smP_of {s:ByteArray} (hs:s.size≤1000):∀r∈(prsP s).1,RlS r:=by
 unfold prsP
 by_cases he:(wrdL s).2.2=0
 ·obtain ⟨T,a,e,hW⟩:∃T a e,wrdL s=(T,a,e):=⟨_,_,_,rfl⟩
  rw[hW] at he
  have he:e=0:=he
  subst he
  obtain ⟨rfl,hO⟩:=wrdL_ok hW
  have hln:=hO.len
  rw[hW,if_neg (by simp)]
  try dsimp only
  cases hq:prR T with
  | ok R=>exact prR_sm 1000 T R (by omega) (by omega) (fun w hw=>by have:=hO.wd w hw;omega) hq
  | bad r=>intro x hx;cases hx
 ·rw[if_pos he]
  intro x hx;cases hx
theorem sm_ex0:Sm ex0:=⟨by show nds (.mk 0 .empty 0 0 0 [])≤1000;rw[nds_leaf];decide,tx_ex0⟩
theorem smX_of {s:ByteArray} (hs:s.size≤1000):Sm (prsX s).1:=by
 unfold prsX
 by_cases he:(wrdL s).2.2=0
 ·obtain ⟨T,a,e,hW⟩:∃T a e,wrdL s=(T,a,e):=⟨_,_,_,rfl⟩
  rw[hW] at he
  have he:e=0:=he
  subst he
  obtain ⟨rfl,hO⟩:=wrdL_ok hW
  have hln:=hO.len
  rw[hW,if_neg (by simp)]
  try dsimp only
  cases hq:pr (.lvl 0) T with
  | ok x r=>
   have:=pr_sm (n:=0) (fun w hw=>by have:=hO.wd w hw;omega) hq
   cases r with
   | nil=>exact⟨(by omega:nds x≤1000),this.2⟩
   | cons w r=>exact sm_ex0
  | bad r=>exact sm_ex0
 ·rw[if_pos he];exact sm_ex0
end Go.Proofs
/- The laws' sentinel. -/
namespace Go.Proofs
open Go Go.Ab Go.RowKit
set_option maxHeartbeats 4000000
set_option maxRecDepth 100000
variable {G:IH}
abbrev awA:ByteArray:=⟨#[112,111,105,110,116,115,32,97,32,105,110,32,103,32,58,32,50,46,53,48,42,120,32,105,102,32,120,62,61,49,32,97,110,100,32,110,111,116,32,121,59]⟩
abbrev awB:ByteArray:=⟨#[97,45,40,98,45,99,41]⟩
abbrev awC:ByteArray:=⟨#[40,97,45,98,41,45,99]⟩
abbrev awD:ByteArray:=⟨#[112,111,105,110,116,115,32,97,32,105,110,32,103,58,32,50,46,53,32,42,32,120,32,105,102,32,120,32,62,61,32,49,32,97,110,100,32,110,111,116,32,121,59,10]⟩
abbrev awE:ByteArray:=⟨#[97,32,45,32,40,98,32,45,32,99,41]⟩
abbrev awF:ByteArray:=⟨#[97,32,45,32,98,32,45,32,99]⟩
theorem aw_A:(parP awA).2.1=0∧(parP awA).2.2=0∧(parP awA).1.length=1:=by decide +kernel
theorem aw_D:fmtR (parP awA).1=awD:=by decide +kernel
theorem aw_B:(parX awB).2.1=0∧(parX awB).2.2=0:=by decide +kernel
theorem aw_E:fmtX (parX awB).1=awE:=by decide +kernel
theorem aw_C:(parX awC).2.1=0∧(parX awC).2.2=0:=by decide +kernel
theorem aw_F:fmtX (parX awC).1=awF:=by decide +kernel
noncomputable def orcAw (R:List Rl) (f:ByteArray→Ex):Oracle:=fun g a=>match g,a with
 | 13,[_]=>some (.tup [rlsD R,di 0,di 0])
 | 15,[.con (.string s)]=>some (.tup [exW (f s),di 0,di 0])
 | 24,[_]=>some (ds (fmtR R))
 | 21,[e]=>some (ds (fmtX (rdE e)))
 | _,_=>none
theorem f10' (R:List Rl) (f:ByteArray→Ex) (h13:FnOK Tryz.prog G 13 [ds awA] (.tup [rlsD R,di 0,di 0])) (hb:FnOK Tryz.prog G 15 [ds awB] (.tup [exW (f awB),di 0,di 0])) (hc:FnOK Tryz.prog G 15 [ds awC] (.tup [exW (f awC),di 0,di 0]))
  (h24:FnOK Tryz.prog G 24 [rlsD R] (ds (fmtR R))) (hx:∀x,x=f awB∨x=f awC→FnOK Tryz.prog G 21 [exW x] (ds (fmtX x))) (h1:R.length=1) (hD:fmtR R=awD) (hE:fmtX (f awB)=awE) (hF:fmtX (f awC)=awF) :
  FnOK Tryz.prog G 10 [] (db true):=by
 refine FnOK.walk (orc:=orcAw R f) (keep:=[]) follows Tryz.func10 rfl Tryz.call10 ?_
 refine of_tr (fun _ _ _ ZK=>(fun Za Zb=>(ZK 13 [(ds (ByteArray.mk #[112,111,105,110,116,115,32,97,32,105,110,32,103,32,58,32,50,46,53,48,42,120,32,105,102,32,120,62,61,49,32,97,110,100,32,110,111,116,32,121,59]))] (.tup [(.slc 16 R.length (rlF R)),(di 0),(di 0)])∧ZK 15 [(ds Za)] (.tup [(ndX (ht (f Za)) (f Za)),(di 0),(di 0)])∧ZK 15 [(ds Zb)] (.tup [(ndX (ht (f Zb)) (f Zb)),(di 0),(di 0)])∧(((((0:Int)==(0:Int)&&(0:Int)==(0:Int)&&(↑(List.length R):Int)==(1:Int))=true)→ZK 24 [(.slc 16 R.length (rlF R))] (ds (fmtR R)))∧((((0:Int)==(0:Int)&&(0:Int)==(0:Int)&&(↑(List.length R):Int)==(1:Int)&&ByteArray.toList (fmtR R)==ByteArray.toList { data:=#[(112:UInt8),(111:UInt8),(105:UInt8),(110:UInt8),(116:UInt8),(115:UInt8),(32:UInt8),(97:UInt8),(32:UInt8),(105:UInt8),(110:UInt8),(32:UInt8),(103:UInt8),(58:UInt8),(32:UInt8),(50:UInt8),(46:UInt8),(53:UInt8),(32:UInt8),(42:UInt8),(32:UInt8),(120:UInt8),(32:UInt8),(105:UInt8),(102:UInt8),(32:UInt8),(120:UInt8),(32:UInt8),(62:UInt8),(61:UInt8),(32:UInt8),(49:UInt8),(32:UInt8),(97:UInt8),(110:UInt8),(100:UInt8),(32:UInt8),(110:UInt8),(111:UInt8),(116:UInt8),(32:UInt8),(121:UInt8),(59:UInt8),(10:UInt8)] }&&(0:Int)==(0:Int))=true)→ZK 21 [(ndX (ht (f Za)) (f Za))] (ds (fmtX (rdE (ndX (ht (f Za)) (f Za))))))∧((((0:Int)==(0:Int)&&(0:Int)==(0:Int)&&(↑(List.length R):Int)==(1:Int)&&ByteArray.toList (fmtR R)==ByteArray.toList { data:=#[(112:UInt8),(111:UInt8),(105:UInt8),(110:UInt8),(116:UInt8),(115:UInt8),(32:UInt8),(97:UInt8),(32:UInt8),(105:UInt8),(110:UInt8),(32:UInt8),(103:UInt8),(58:UInt8),(32:UInt8),(50:UInt8),(46:UInt8),(53:UInt8),(32:UInt8),(42:UInt8),(32:UInt8),(120:UInt8),(32:UInt8),(105:UInt8),(102:UInt8),(32:UInt8),(120:UInt8),(32:UInt8),(62:UInt8),(61:UInt8),(32:UInt8),(49:UInt8),(32:UInt8),(97:UInt8),(110:UInt8),(100:UInt8),(32:UInt8),(110:UInt8),(111:UInt8),(116:UInt8),(32:UInt8),(121:UInt8),(59:UInt8),(10:UInt8)] }&&(0:Int)==(0:Int)&&ByteArray.toList (fmtX (rdE (ndX (ht (f { data:=#[(97:UInt8),(45:UInt8),(40:UInt8),(98:UInt8),(45:UInt8),(99:UInt8),(41:UInt8)] })) (f { data:=#[(97:UInt8),(45:UInt8),(40:UInt8),(98:UInt8),(45:UInt8),(99:UInt8),(41:UInt8)] }))))==ByteArray.toList { data:=#[(97:UInt8),(32:UInt8),(45:UInt8),(32:UInt8),(40:UInt8),(98:UInt8),(32:UInt8),(45:UInt8),(32:UInt8),(99:UInt8),(41:UInt8)] }&&(0:Int)==(0:Int))=true)→ZK 21 [(ndX (ht (f Zb)) (f Zb))] (ds (fmtX (rdE (ndX (ht (f Zb)) (f Zb)))))))∧((db ((0:Int)==(0:Int)&&(0:Int)==(0:Int)&&(↑(List.length R):Int)==(1:Int)&&ByteArray.toList (fmtR R)==ByteArray.toList { data:=#[(112:UInt8),(111:UInt8),(105:UInt8),(110:UInt8),(116:UInt8),(115:UInt8),(32:UInt8),(97:UInt8),(32:UInt8),(105:UInt8),(110:UInt8),(32:UInt8),(103:UInt8),(58:UInt8),(32:UInt8),(50:UInt8),(46:UInt8),(53:UInt8),(32:UInt8),(42:UInt8),(32:UInt8),(120:UInt8),(32:UInt8),(105:UInt8),(102:UInt8),(32:UInt8),(120:UInt8),(32:UInt8),(62:UInt8),(61:UInt8),(32:UInt8),(49:UInt8),(32:UInt8),(97:UInt8),(110:UInt8),(100:UInt8),(32:UInt8),(110:UInt8),(111:UInt8),(116:UInt8),(32:UInt8),(121:UInt8),(59:UInt8),(10:UInt8)] }&&(0:Int)==(0:Int)&&ByteArray.toList (fmtX (rdE (ndX (ht (f { data:=#[(97:UInt8),(45:UInt8),(40:UInt8),(98:UInt8),(45:UInt8),(99:UInt8),(41:UInt8)] })) (f { data:=#[(97:UInt8),(45:UInt8),(40:UInt8),(98:UInt8),(45:UInt8),(99:UInt8),(41:UInt8)] }))))==ByteArray.toList { data:=#[(97:UInt8),(32:UInt8),(45:UInt8),(32:UInt8),(40:UInt8),(98:UInt8),(32:UInt8),(45:UInt8),(32:UInt8),(99:UInt8),(41:UInt8)] }&&(0:Int)==(0:Int)&&ByteArray.toList (fmtX (rdE (ndX (ht (f { data:=#[(40:UInt8),(97:UInt8),(45:UInt8),(98:UInt8),(41:UInt8),(45:UInt8),(99:UInt8)] })) (f { data:=#[(40:UInt8),(97:UInt8),(45:UInt8),(98:UInt8),(41:UInt8),(45:UInt8),(99:UInt8)] }))))==ByteArray.toList { data:=#[(97:UInt8),(32:UInt8),(45:UInt8),(32:UInt8),(98:UInt8),(32:UInt8),(45:UInt8),(32:UInt8),(99:UInt8)] })):DV)=(db true))) (ByteArray.mk #[97,45,40,98,45,99,41]) (ByteArray.mk #[40,97,45,98,41,45,99])) (by kernel_rfl) ?_
 try dsimp only
 have eb:rdE (ndX (ht (f awB)) (f awB))=f awB:=rdE_eq (Nat.le_refl _)
 have ec:rdE (ndX (ht (f awC)) (f awC))=f awC:=rdE_eq (Nat.le_refl _)
 rw[eb,ec]
 refine⟨h13,hb,hc,⟨fun _=>h24,fun _=>hx _ (.inl rfl),fun _=>hx _ (.inr rfl)⟩,congrArg db ?_⟩
 rw[hD,hE,hF,h1]
 simp
theorem f10 (hT:Tab G):FnOK Tryz.prog G 10 [] (db true):=by
 have hA:=f13 (G:=G) awA (by decide) (smP_of (by decide))
 have hB:=f15 (G:=G) awB (by decide) (smX_of (by decide))
 have hC:=f15 (G:=G) awC (by decide) (smX_of (by decide))
 rw[aw_A.1,aw_A.2.1] at hA
 rw[aw_B.1,aw_B.2] at hB
 rw[aw_C.1,aw_C.2] at hC
 have hs:∀s:ByteArray,s.size≤1000→∀r∈(parP s).1,RlS r:=fun s hs=>by
  unfold parP
  split
  ·exact smP_of hs
  split
  ·intro r hr;cases hr
  ·exact smP_of hs
 have hxs:∀s:ByteArray,s.size≤1000→Sm (parX s).1:=fun s hs=>by
  unfold parX
  split
  ·exact smX_of hs
  split
  ·exact sm_ex0
  ·exact smX_of hs
 refine f10' (parP awA).1 (fun s=>(parX s).1) hA hB hC (f24 hT _ (fun i hi=>hs _ (by decide) _ (getD_in hi)) (by rw[aw_A.2.2];decide)) (fun x hx=>?_) aw_A.2.2 aw_D aw_E aw_F
 rcases hx with rfl|rfl
 ·exact f21 hT _ _ (Nat.le_refl _) (hxs _ (by decide))
 ·exact f21 hT _ _ (Nat.le_refl _) (hxs _ (by decide))
end Go.Proofs
/- Expressions that are read from memory. -/
namespace Go.Proofs
open Go Go.Ab Go.RowKit Go.ChangeShapes
set_option maxRecDepth 100000
theorem lift_rel:∀(m m':Nat) (x:Ex),ht x≤m→ht x≤m'→∀(k:IH) (v:Value),DV.rel k (exD m x) v→DV.rel k (exD m' x) v:=by
 intro m
 induction m with
 | zero=>
  intro m' x h1 h2 k v h
  have hk:x.kids=[]:=by
   refine Classical.byContradiction fun hh=>?_
   have:0<x.kids.length:=List.length_pos_iff.2 hh
   have:=ht_kid this
   omega
  unfold exD exV at h⊢
  rw[hk] at h⊢
  obtain ⟨us,rfl,x1,u1,rfl,h1,x2,u2,rfl,h2,x3,u3,rfl,h3,x4,u4,rfl,h4,x5,u5,rfl,h5,x6,u6,rfl,h6,h0⟩:=h
  exact⟨_,rfl,x1,_,rfl,h1,x2,_,rfl,h2,x3,_,rfl,h3,x4,_,rfl,h4,x5,_,rfl,h5,x6,_,rfl,DV.rel_slc_congr (fun i hi=>absurd hi (by simp)) h6,h0⟩
 | succ m ih=>
  intro m' x h1 h2 k v h
  obtain ⟨us,rfl,x1,u1,rfl,g1,x2,u2,rfl,g2,x3,u3,rfl,g3,x4,u4,rfl,g4,x5,u5,rfl,g5,x6,u6,rfl,g6,h0⟩:=h
  refine⟨_,rfl,x1,_,rfl,g1,x2,_,rfl,g2,x3,_,rfl,g3,x4,_,rfl,g4,x5,_,rfl,g5,x6,_,rfl,?_,h0⟩
  obtain ⟨p,cap,e,hc,r⟩:=g6
  refine⟨p,cap,e,hc,r.imp id fun ⟨b,off,hp,r⟩=>⟨b,off,hp,fun i hi=>?_⟩⟩
  obtain ⟨v,hv,hs,hj⟩:=r i hi
  have hki:=ht_kid (x:=x) hi
  obtain ⟨m2,rfl⟩:∃m2,m'=m2+1:=⟨m' - 1,by omega⟩
  exact⟨v,ih m2 (x.kids.getD i ex0) (by omega) (by omega) k v hv,hs,hj⟩
theorem htL_le {l:List Ex} {n:Nat} (h:∀i,i<l.length→ht (l.getD i ex0)+1≤n):htL l≤n:=by
 induction l with
 | nil=>simp[htL]
 | cons x l ih=>
  simp only[htL]
  have h0:=h 0 (by simp)
  have:=ih fun i hi=>by simpa using h (i+1) (by simpa using hi)
  have h0:ht x+1≤n:=h0
  omega
theorem wfL_of {l:List Ex} (h:∀i,i<l.length→wfE (l.getD i ex0)):wfL l:=by
 induction l with
 | nil=>trivial
 | cons x l ih=>exact⟨h 0 (by simp),ih fun i hi=>by simpa using h (i+1) (by simpa using hi)⟩
theorem max_of (f:Nat→Nat):∀n:Nat,∃M,∀i,i<n→f i≤M
 | 0=>⟨0,fun i hi=>by omega⟩
 | n+1=>by
  obtain ⟨M,h⟩:=max_of f n
  refine⟨max M (f n),fun i hi=>?_⟩
  rcases Nat.lt_or_ge i n with h1|h1
  ·have:=h i h1;omega
  ·obtain rfl:i=n:=by omega
   omega
theorem cells34:Tryz.prog.cellsOf 34=6:=by kernel_rfl
theorem bytes34:Tryz.prog.bytesOf 34=72:=by kernel_rfl
theorem cells31:Tryz.prog.cellsOf 31=2:=by kernel_rfl
theorem cells3:Tryz.prog.cellsOf 3=1:=by kernel_rfl
theorem cells9:Tryz.prog.cellsOf 9=1:=by kernel_rfl
theorem cells32:Tryz.prog.cellsOf 32=1:=by kernel_rfl
def kidsP (d:DV):Prop:=∃(l:List Ex) (k:Nat),htL l≤k∧wfL l∧l.length≤8796093022208∧d=.slc 6 l.length (lay (exG k) l)
section
variable {H:Type} {enc:TypeId×Value→H} {W:World} {base:Nat} {sp:Nat→Bool} {held:Bool}
theorem open_node {n:Nat} {cs:List Value} {x:DataW H×List MemPlace} (h:DataW.trod enc Tryz.prog W base sp held n 34 cs=some x) (hf:AbW.Fine Tryz.prog 34 x.1) :
  ∃(k n d a:Int) (s:ByteArray) (v:Value) (n':Nat) (y:DataW H×List MemPlace),s.size≤maxLen∧cs=[.int .i64 k,.string s,.int .i64 n,.int .i64 d,.int .i64 a,v]∧
   DataW.trod enc Tryz.prog W base sp held n' 32 [v]=some y∧AbW.Fine Tryz.prog 32 y.1∧SizeOf.sizeOf y.1<SizeOf.sizeOf x.1:=by
 obtain ⟨xs,n',rfl,rfl,hl,hxl,hfl⟩:=DataW.trod_struct Tryz.underlying34 h
 have hxl:xs.length=5:=hxl
 match xs,hxl with
 | [y0,y1,y2,y3,y4],_=>
  have e0:=hfl 0 _ rfl
  have e1:=hfl 1 _ rfl
  have e2:=hfl 2 _ rfl
  have e3:=hfl 3 _ rfl
  have e4:=hfl 4 _ rfl
  simp only[List.getElem?_cons_zero,List.getElem?_cons_succ] at e0 e1 e2 e3 e4
  rw[cells34] at hl
  erw [cells3] at e0 e3
  erw [cells9] at e1
  erw [cells31] at e2
  erw [cells32] at e4
  match cs,hl with
  | [c0,c1,c2,c3,c4,c5],_=>
   have e0:DataW.trod enc Tryz.prog W base sp held n' 3 [c0]=some y0:=e0
   have e1:DataW.trod enc Tryz.prog W base sp held n' 9 [c1]=some y1:=e1
   have e2:DataW.trod enc Tryz.prog W base sp held n' 31 [c2,c3]=some y2:=e2
   have e3:DataW.trod enc Tryz.prog W base sp held n' 3 [c4]=some y3:=e3
   have e4:DataW.trod enc Tryz.prog W base sp held n' 32 [c5]=some y4:=e4
   obtain ⟨k,h0,_,_⟩:=DataW.trod_int Tryz.underlying3 e0
   obtain ⟨s,h1,_,hs⟩:=DataW.trod_string Tryz.underlying9 e1
   obtain ⟨z0,z1,m2,_,_,f0,f1⟩:=trod_struct2 Tryz.underlying31 e2
   erw [cells3] at f0 f1
   have f0:DataW.trod enc Tryz.prog W base sp held m2 3 [c2]=some z0:=f0
   have f1:DataW.trod enc Tryz.prog W base sp held m2 3 [c3]=some z1:=f1
   obtain ⟨a,g0,_,_⟩:=DataW.trod_int Tryz.underlying3 f0
   obtain ⟨b,g1,_,_⟩:=DataW.trod_int Tryz.underlying3 f1
   obtain ⟨c,h3,_,_⟩:=DataW.trod_int Tryz.underlying3 e3
   simp only[List.cons.injEq,and_true] at h0 h1 g0 g1 h3
   subst h0;subst h1;subst g0;subst g1;subst h3
   refine⟨k,a,b,c,s,c5,n',y4,hs,rfl,e4,?_,?_⟩
   ·have hf':∀w∈DataW.weights Tryz.prog 34 (.agg ([y0,y1,y2,y3,y4].map (·.1))),w≤reachBytes:=hf
    simp only[DataW.weights,Tryz.underlying34] at hf'
    exact AbW.fine_each hf' 4 32 y4.1 rfl rfl
   ·have:y4.1∈[y0,y1,y2,y3,y4].map (·.1):=by simp
    have h2:=List.sizeOf_lt_of_mem this
    show SizeOf.sizeOf y4.1<SizeOf.sizeOf (DataW.agg ([y0,y1,y2,y3,y4].map (·.1)))
    simp only[DataW.agg.sizeOf_spec]
    omega
theorem open_kids (N:Nat):∀(m:Nat) (cs:List Value) (x:DataW H×List MemPlace),SizeOf.sizeOf x.1≤N→DataW.trod enc Tryz.prog W base sp held m 32 cs=some x→AbW.Fine Tryz.prog 32 x.1→∃d,kidsP d∧DV.rels (allOf W) [d] cs:=by
 induction N using Nat.strongRecOn with
 | _ N ih=>
 intro m cs x hN hx hfi
 rcases Go.Deep.open_slice Tryz.underlying32 hx with ⟨rfl,rfl⟩|⟨a,len,cap,mm,n',D,Pl,rfl,hb,hlc,hcap,hmm,rfl,hel⟩
 ·exact⟨_,⟨[],0,by simp[htL],trivial,by simp,rfl⟩,⟨_,_,rfl,⟨none,0,rfl,Nat.le_refl _,.inl rfl⟩,rfl⟩⟩
 have hlm:len≤mm:=by rw[hmm];split<;>omega
 have hfi':∀w∈DataW.weights Tryz.prog 32 (.slice ((List.range len).map D) ((List.range (mm-len)).map fun j=>D (len+j))),w≤reachBytes:=hfi
 simp only[DataW.weights,Tryz.underlying32,List.mem_cons,List.mem_append] at hfi'
 have helf:∀i,i<len→AbW.Fine Tryz.prog 34 (D i):=fun i hi=>
  AbW.fine_all (fun w hw=>hfi' w (.inr (.inl hw))) _ (List.mem_map.2 ⟨i,List.mem_range.2 hi,rfl⟩)
 have hlen:len≤8796093022208:=by
  have:=hfi' _ (.inl rfl)
  rw[bytes34] at this
  simp only[List.length_map,List.length_range,reachBytes] at this
  omega
 have hspot:0<len→a.spot=none:=by
  intro hpos
  obtain ⟨cs',h1,_⟩:=hel 0 (by omega)
  obtain ⟨_,h5,h6⟩:=World.cells?_some h1
  have c26:=cells34
  have:=h6 0 (by show 0<Tryz.prog.cellsOf 34;omega)
  rw[Nat.zero_mul,gEe (by rw[h5,cells34];omega)] at this
  simp only[World.cell?,Addr.add,if_true] at this
  split at this
  ·split at this
   ·cases this
   ·rename_i hsp;simpa using hsp
  ·cases this
 have hadd:0<len→∀k,a.add k=⟨a.block,a.off+k,none⟩:=by
  intro hpos k
  have:=hspot hpos
  unfold Addr.add
  split
  ·rename_i hk;subst hk;cases a;simp_all
  ·rfl
 have each:∀i,i<len→∃(x:Ex) (k:Nat),ht x≤k∧wfE x∧∃v,DV.rel (allOf W) (exD k x) v∧v.cells.size=6∧∀j,j<6→W.cell? ⟨a.block,a.off+i*6+j,none⟩=v.cells[j]?:=by
  intro i hi
  obtain ⟨cs',h1,h2⟩:=hel i (by omega)
  obtain ⟨k,n,d,at',s,v,n2,y,hs,rfl,h3,h4,h5⟩:=open_node h2 (helf i hi)
  have hsz:SizeOf.sizeOf y.1<N:=by
   have hm:D i∈(List.range len).map D:=List.mem_map.2 ⟨i,List.mem_range.2 hi,rfl⟩
   have h6:=List.sizeOf_lt_of_mem hm
   have h7:SizeOf.sizeOf (DataW.slice ((List.range len).map D) ((List.range (mm-len)).map fun j=>D (len+j)))≤N:=hN
   simp only[DataW.slice.sizeOf_spec] at h7
   have h5:SizeOf.sizeOf y.1<SizeOf.sizeOf (D i):=h5
   omega
  obtain ⟨dk,⟨l,kk,hh,hw,hll,rfl⟩,hr⟩:=ih _ hsz n2 [v] y (Nat.le_refl _) h3 h4
  obtain ⟨u,us,e1,r1,r2⟩:=hr
  simp only[List.cons.injEq] at e1
  obtain ⟨rfl,rfl⟩:=e1
  obtain ⟨_,h8,h9⟩:=World.cells?_some h1
  rw[cells34] at h9 h1
  refine⟨.mk k s n d at' l,kk,by rw[ht_eq];exact hh,⟨hs,hll,hw⟩,.agg #[.int .i64 k,.string s,.int .i64 n,.int .i64 d,.int .i64 at',v],?_,rfl,fun j hj=>?_⟩
  ·exact⟨_,rfl,_,_,rfl,rfl,_,_,rfl,rfl,_,_,rfl,rfl,_,_,rfl,rfl,_,_,rfl,rfl,v,_,rfl,r1,rfl⟩
  ·have:=h9 j (by simpa using hj)
   rw[hadd (by omega)] at this
   have e:(⟨a.block,a.off+i*6,none⟩:Addr).add j=⟨a.block,a.off+i*6+j,none⟩:=by
    unfold Addr.add
    split
    ·rename_i hk;subst hk;rfl
    ·rfl
   rw[e] at this
   rw[this]
   simp[Value.cells]
 classical
 let X:Nat→Ex:=fun i=>if h:i<len then Classical.choose (each i h) else ex0
 let K:Nat→Nat:=fun i=>if h:i<len then Classical.choose (Classical.choose_spec (each i h)) else 0
 have hX:∀i,i<len→ht (X i)≤K i∧wfE (X i)∧∃v,DV.rel (allOf W) (exD (K i) (X i)) v∧v.cells.size=6∧∀j,j<6→W.cell? ⟨a.block,a.off+i*6+j,none⟩=v.cells[j]?:=fun i hi=>by
  simp only[X,K,dif_pos hi]
  exact Classical.choose_spec (Classical.choose_spec (each i hi))
 obtain ⟨M,hM⟩:=max_of K len
 have hlenl:((List.range len).map X).length=len:=by simp
 have hget:∀i,i<len→((List.range len).map X).getD i ex0=X i:=fun i hi=>by
  simp[List.getD,List.getElem?_map,List.getElem?_range hi]
 refine⟨.slc 6 ((List.range len).map X).length (lay (exG (M+1)) ((List.range len).map X)),⟨_,M+1,htL_le fun i hi=>?_,wfL_of fun i hi=>?_,by rw[hlenl];exact hlen,rfl⟩,⟨_,_,rfl,⟨some a,cap,by rw[hlenl],by rw[hlenl];exact hlc,?_⟩,rfl⟩⟩
 ·rw[hlenl] at hi
  rw[hget i hi]
  have:=(hX i hi).1
  have:=hM i hi
  omega
 ·rw[hlenl] at hi
  rw[hget i hi]
  exact(hX i hi).2.1
 ·rw[hlenl]
  by_cases hz:len=0
  ·exact .inl hz
  right
  refine⟨a.block,a.off,by have:=hspot (by omega);cases a;simp_all,fun i hi=>?_⟩
  obtain ⟨h1,_,v,hv,hs,hc⟩:=hX i hi
  refine⟨v,?_,hs,fun j hj=>hc j hj⟩
  show DV.rel (allOf W) (exD M (((List.range len).map X).getD i ex0)) v
  rw[hget i hi]
  exact lift_rel _ _ _ h1 (Nat.le_trans h1 (hM i hi)) _ _ hv
def ow32 (t:TypeId):Option (DV→Prop):=match Nat.beq t 32 with|true=>some kidsP|false=>none
theorem how32:AbW.How ow32 enc Tryz.prog W base sp held:=by
 intro t p m cs x hp hx hf
 unfold ow32 at hp
 split at hp
 ·rename_i h
  obtain rfl:=Nat.eq_of_beq_eq_true h
  obtain rfl:=Option.some.inj hp
  obtain ⟨d,h1,h2⟩:=open_kids _ m cs x (Nat.le_refl _) hx hf
  obtain ⟨l,k,a,b,c,rfl⟩:=h1
  exact⟨_,⟨⟨l,k,a,b,c,rfl⟩,_,_,_,rfl⟩,h2⟩
 ·cases hp
end
open Go Go.Ab Go.RowKit
/-! Rules that are read. -/
end Go.Proofs
/- Formats. -/
namespace Go.Proofs
open Go Go.Ab Go.RowKit
set_option maxHeartbeats 4000000
set_option maxRecDepth 100000
variable {G:IH}
end Go.Proofs
/- Same rules. -/
namespace Go.Proofs
open Go Go.Ab Go.RowKit
set_option maxHeartbeats 4000000
set_option maxRecDepth 100000
variable {G:IH}
end Go.Proofs
/- The words of written rules. -/
set_option maxRecDepth 100000
namespace Go.Proofs
open Go Go.Ab
end Go.Proofs
/- What depends on no offset;written rules are read again. -/
namespace Go.Proofs
open Go Go.Ab
theorem SameL.len {l m:List Rl} (h:SameL l m):l.length=m.length:=by
 induction h with
 | nil=>rfl
 | cons h hl ih=>simp only[List.length_cons,ih]
theorem SameL.at {l m:List Rl} (h:SameL l m):∀i,i<l.length→sameR (l.getD i rl0) (m.getD i rl0):=by
 induction h with
 | nil=>intro i hi;exact absurd hi (Nat.not_lt_zero _)
 | cons h hl ih=>
  intro i hi
  cases i with
  | zero=>exact h
  | succ i=>exact ih i (by simpa using hi)
end Go.Proofs
/- Texts of several rules. -/
namespace Go.Proofs
open Go Go.Ab
end Go.Proofs
/- Returns. -/
namespace Go.Proofs
open Go Go.Ab Go.RowKit
set_option maxHeartbeats 4000000
set_option maxRecDepth 100000
variable {G:IH}
end Go.Proofs
/- Precedence,plain: a finite look. -/
namespace Go.Proofs
open Go Go.Ab
def pcO:List ByteArray:=[⟨#[111,114]⟩,⟨#[97,110,100]⟩,⟨#[61,61]⟩,⟨#[60]⟩,⟨#[43]⟩,⟨#[45]⟩,⟨#[42]⟩,⟨#[47]⟩]
def pcL:List Int:=[1,2,4,4,5,5,6,6]
def pcT (i k:Nat):ByteArray:=(⟨#[97,32]⟩:ByteArray)++pcO.getD i .empty++(⟨#[32,98,32]⟩:ByteArray)++pcO.getD k .empty++(⟨#[32,99]⟩:ByteArray)
def pcB (i k:Nat):Bool:=
 bif decide (pcL.getD i 0=4)&&decide (pcL.getD k 0=4) then decide ((parX (pcT i k)).2.2=3)&&decide ((parX (pcT i k)).2.1=5+((pcO.getD i .empty).size:Int))
 else decide ((parX (pcT i k)).2.2=0)&&decide ((parX (pcT i k)).1.kids.length=2) &&
  bif decide (pcL.getD k 0>pcL.getD i 0) then decide ((parX (pcT i k)).1.pos=2)&&decide (((parX (pcT i k)).1.kids.getD 0 ex0).s=⟨#[97]⟩)&&decide (((parX (pcT i k)).1.kids.getD 1 ex0).kids.length=2)
  else decide ((parX (pcT i k)).1.pos=5+((pcO.getD i .empty).size:Int))&&decide (((parX (pcT i k)).1.kids.getD 1 ex0).s=⟨#[99]⟩)&&decide (((parX (pcT i k)).1.kids.getD 0 ex0).kids.length=2)
theorem pc_all:((List.range 8).all fun i=>(List.range 8).all fun k=>pcB i k)=true:=by decide +kernel
theorem pc_ok {i k:Nat} (hi:i<8) (hk:k<8):pcB i k=true:=List.all_eq_true.1 (List.all_eq_true.1 pc_all i (List.mem_range.2 hi)) k (List.mem_range.2 hk)
end Go.Proofs
/- Precedence. -/
namespace Go.Proofs
open Go Go.Ab Go.RowKit
set_option maxHeartbeats 4000000
set_option maxRecDepth 100000
variable {G:IH}
noncomputable def orcL5:Oracle:=fun g a=>match g,a with
 | 10,[]=>some (db true)
 | 15,[.con (.string t)]=>some (.tup [ndX (ht (parX t).1) (parX t).1,di (parX t).2.1,di (parX t).2.2])
 | _,_=>none
noncomputable def S5x (F H:Nat→DV) (a b:Int):AS:=⟨regs Tryz.f5.ntmps [(5,.d (.slc 1 8 F)),(6,.d (.slc 1 8 H)),(7,.d (di a)),(8,.d (di b))],[]⟩
theorem pcO_size (a:Nat):(pcO.getD a .empty).size≤3:=by
 match a with
 | 0|1|2|3|4|5|6|7=>decide
 | a+8=>show (0:Nat)≤3;omega
theorem pcT_size (a b:Nat):(pcT a b).size≤300:=by
 have h1:=pcO_size a
 have h2:=pcO_size b
 unfold pcT
 simp only[ByteArray.size_append]
 show 2+_+3+_+2≤_;omega
theorem pc_bytes {x y:ByteArray} (h:x=y):(x.toList==y.toList)=true:=by rw[h];simp
theorem f5_tail (a b:Nat) (ha:a<8) (hb:b<8):AWP Tryz.prog G [.code (cAt (bodyOf Tryz.f5) [1,1,1,1,1])] (S5x (stF pcO) (inF pcL) a b) (Ret Tryz.prog Tryz.f5 (db true)):=by
 refine walkK (orc:=orcL5) (keep:=[]) (cuts:=[]) (n:=1000) follows ?_
 refine of_tr (fun _ _ _ ZK=>(fun Za Zb Zc Zd=>((((0≤(↑a:Int))∧((↑a:Int)<↑8))∧((ByteArray.mk #[97,32]).size+Zc.size≤9223372036854775807)∧((ByteArray.mk #[97,32]++pcO.getD (↑a:Int).toNat ByteArray.empty).size+(ByteArray.mk #[32,98,32]).size≤9223372036854775807)∧((0≤(↑b:Int))∧((↑b:Int)<↑8))∧((ByteArray.mk #[97,32]++pcO.getD (↑a:Int).toNat ByteArray.empty++ByteArray.mk #[32,98,32]).size+(pcO.getD (↑b:Int).toNat ByteArray.empty).size≤9223372036854775807)∧((ByteArray.mk #[97,32]++pcO.getD (↑a:Int).toNat ByteArray.empty++ByteArray.mk #[32,98,32]++pcO.getD (↑b:Int).toNat ByteArray.empty).size+(ByteArray.mk #[32,99]).size≤9223372036854775807)∧ZK 15 [(ds Za)] (.tup [(ndX (ht (parX Za).fst) (parX Za).fst),(di (parX Za).snd.fst),(di (parX Za).snd.snd)]))∧(((0≤(↑a:Int))∧((↑a:Int)<↑8))∧(I64 (5 + ↑Zc.size)))∧(((0≤(↑a:Int))∧((↑a:Int)<↑8))∧(((pcL.getD (↑a:Int).toNat 0==4)=true)→((0≤(↑b:Int))∧((↑b:Int)<↑8))))∧((Zd=true)→(((db ((parX Za).snd.snd==3&&(parX Za).snd.fst==5 + ↑Zc.size)):DV)=(db true)))∧((Zd=false)→((((Zb.snd.snd != 0||(↑(parX Za).fst.kids.length:Int) != 2)=true)→(((db false):DV)=(db true)))∧(((Zb.snd.snd != 0||(↑(parX Za).fst.kids.length:Int) != 2)=false)→((((0≤(↑b:Int))∧((↑b:Int)<↑8))∧(0≤(↑a:Int))∧((↑a:Int)<↑8))∧(((decide (pcL.getD (↑b:Int).toNat 0>pcL.getD (↑a:Int).toNat 0))=true)→((((((parX Za).fst.pos==2)=true)→(((0:Int)≤(0:Int))∧(0<(↑(parX Za).fst.kids.length:Int))))∧((((parX Za).fst.pos==2&&((parX Za).fst.kids.getD (Int.toNat 0) ex0).s.toList==(ByteArray.mk #[97]).toList)=true)→(((0:Int)≤(1:Int))∧(1<(↑(parX Za).fst.kids.length:Int)))))∧((db (Zb.fst.pos==2&&(Zb.fst.kids.getD (Int.toNat 0) ex0).s.toList==(ByteArray.mk #[97]).toList&&(↑((parX Za).fst.kids.getD (Int.toNat 1) ex0).kids.length:Int)==2)):DV)=(db true)))∧(((decide (pcL.getD (↑b:Int).toNat 0>pcL.getD (↑a:Int).toNat 0))=false)→((((((parX Za).fst.pos==5 + ↑Zc.size)=true)→(((0:Int)≤(1:Int))∧(1<(↑(parX Za).fst.kids.length:Int))))∧((((parX Za).fst.pos==5 + ↑Zc.size&&((parX Za).fst.kids.getD (Int.toNat 1) ex0).s.toList==(ByteArray.mk #[99]).toList)=true)→(((0:Int)≤(0:Int))∧(0<(↑(parX Za).fst.kids.length:Int)))))∧((db (Zb.fst.pos==5+(↑Zc.size:Int)&&(Zb.fst.kids.getD (Int.toNat 1) ex0).s.toList==(ByteArray.mk #[99]).toList&&(↑((parX Za).fst.kids.getD (Int.toNat 0) ex0).kids.length:Int)==2)):DV)=(db true))))))))) (ByteArray.mk #[97,32]++pcO.getD (↑a:Int).toNat ByteArray.empty++ByteArray.mk #[32,98,32]++pcO.getD (↑b:Int).toNat ByteArray.empty++ByteArray.mk #[32,99]) (parX (ByteArray.mk #[97,32]++pcO.getD ((↑a:Int):Int).toNat ByteArray.empty++ByteArray.mk #[32,98,32]++pcO.getD ((↑b:Int):Int).toNat ByteArray.empty++ByteArray.mk #[32,99])) (pcO.getD (↑a:Int).toNat ByteArray.empty) (pcL.getD (↑a:Int).toNat 0==4&&pcL.getD (↑b:Int).toNat 0==4)) (by kernel_rfl) ?_
 try dsimp only
 simp only[Int.toNat_natCast]
 have eT:ByteArray.mk #[97,32]++pcO.getD a ByteArray.empty++ByteArray.mk #[32,98,32]++pcO.getD b ByteArray.empty++ByteArray.mk #[32,99]=pcT a b:=rfl
 have hc:=pc_ok ha hb
 have hz:=pcT_size a b
 have h1:=pcO_size a
 have h2:=pcO_size b
 have k15:=f15 (G:=G) (pcT a b) (by omega) (smX_of (by omega))
 rw[eT]
 refine⟨⟨⟨by omega,by omega⟩,by (show 2+_≤_);omega,?_,⟨by omega,by omega⟩,?_,?_,k15⟩,⟨⟨by omega,by omega⟩,?_⟩,⟨⟨by omega,by omega⟩,fun _=>⟨by omega,by omega⟩⟩,fun c=>?_,fun c=>⟨fun d=>?_,fun d=>?_⟩⟩
 ·simp only[ByteArray.size_append];show 2+_+3≤_;omega
 ·simp only[ByteArray.size_append];show 2+_+3+_≤_;omega
 ·simp only[ByteArray.size_append];show 2+_+3+_+2≤_;omega
 ·unfold I64;omega
 ·unfold pcB at hc
  simp only[bAt,beq_iff_eq] at c
  rw[decide_eq_true c.1,decide_eq_true c.2] at hc
  simp only[Bool.and_true,cond_true,bAt,decide_eq_true_eq] at hc
  rw[hc.1,hc.2]
  simp
 all_goals
  unfold pcB at hc
  have e4:(decide (pcL.getD a 0=4)&&decide (pcL.getD b 0=4))=false:=by
   rw[←c];rfl
  rw[e4,cond_false] at hc
  simp only[bAt,decide_eq_true_eq] at hc
  obtain ⟨⟨c1,c2⟩,c3⟩:=hc
  rw[c1,c2] at d
 ·exact absurd d (by decide)
 ·rw[c2]
  refine⟨⟨⟨by omega,by omega⟩,by omega,by omega⟩,fun g=>⟨⟨fun _=>⟨by omega,by omega⟩,fun _=>⟨by omega,by omega⟩⟩,?_⟩,fun g=>⟨⟨fun _=>⟨by omega,by omega⟩,fun _=>⟨by omega,by omega⟩⟩,?_⟩⟩
  ·rw[g,cond_true] at c3
   simp only[bAt,decide_eq_true_eq] at c3
   obtain ⟨⟨q1,q2⟩,q3⟩:=c3
   rw[q1]
   simp only[Int.toNat_zero,Int.toNat_one]
   rw[pc_bytes q2,q3]
   rfl
  ·rw[g,cond_false] at c3
   simp only[bAt,decide_eq_true_eq] at c3
   obtain ⟨⟨q1,q2⟩,q3⟩:=c3
   rw[q1]
   simp only[Int.toNat_zero,Int.toNat_one]
   rw[pc_bytes q2,q3]
   simp
theorem wrap8 {i:Int} (h:0≤i∧i<256):(IntKind.i64.wrap i).tmod 8=((i.toNat % 8:Nat):Int):=by
 obtain ⟨n,rfl⟩:=Int.eq_ofNat_of_zero_le h.1
 have hw:IntKind.i64.wrap (n:Int)=n:=by rw[IntKind.wrap_i64];omega
 rw[hw,Int.toNat_natCast]
 rw[Int.tmod_eq_emod_of_nonneg (by omega)]
 omega
theorem f5 (hT:Tab G) (i k:Int) (hi:0≤i∧i<256) (hk:0≤k∧k<256):FnOK Tryz.prog G 5 [.con (.int .u8 i),.con (.int .u8 k)] (db true):=by
 refine FnOK.of_body Tryz.func5 rfl Tryz.call5 ?_
 refine walk (orc:=orcL5) (keep:=[]) (cuts:=[6]) (n:=1000) follows ?_
 refine of_tr (fun ZT ZW ZQ ZK=>(ZK 10 [] (db true)∧((false=true)→(((db false):DV)=(db true)))∧((false=false)→((((↑8:Int)≠0)∧((↑8:Int)≠0))∧ZW [cd Tryz.f5 [1,1,1,1,1]] (stS ZT [1]) ZQ)))) (by kernel_rfl) ?_
 refine⟨f10 hT,fun c=>(by cases c),fun _=>⟨⟨by omega,by omega⟩,?_⟩⟩
 refine AWP.weaken (st':=S5x (elemF false 1 [ds ⟨#[111,114]⟩,ds ⟨#[97,110,100]⟩,ds ⟨#[61,61]⟩,ds ⟨#[60]⟩,ds ⟨#[43]⟩,ds ⟨#[45]⟩,ds ⟨#[42]⟩,ds ⟨#[47]⟩]) (elemF false 1 [di 1,di 2,di 4,di 4,di 5,di 5,di 6,di 6]) (i.toNat % 8:Nat) (k.toNat % 8:Nat)) ?_ ?_
 ·refine AS.leZ [2,3] [] (b:=((T0∧T0∧((vi ((IntKind.i64.wrap i).tmod ↑8)):AV)=(vi (↑(i.toNat % 8)))∧((vi ((IntKind.i64.wrap k).tmod ↑8)):AV)=(vi (↑(k.toNat % 8)))∧True)∧True)) (by kernel_rfl) (by kernel_rfl) ?_
  refine⟨⟨rfl,rfl,?_,?_,trivial⟩,trivial⟩
  ·rw[←wrap8 hi];try rfl
  ·rw[←wrap8 hk];try rfl
 ·refine AWP.pre ((leX_regE (t:=5) (x:=.d (.slc 1 8 (elemF false 1 [ds ⟨#[111,114]⟩,ds ⟨#[97,110,100]⟩,ds ⟨#[61,61]⟩,ds ⟨#[60]⟩,ds ⟨#[43]⟩,ds ⟨#[45]⟩,ds ⟨#[42]⟩,ds ⟨#[47]⟩]))) (y:=.d (.slc 1 8 (stF pcO))) (by kernel_rfl) (fun β h v hv=>DV.rel_slc_congr (fun j hj=>?_) hv)).trans (leX_regE (t:=6) (x:=.d (.slc 1 8 (elemF false 1 [di 1,di 2,di 4,di 4,di 5,di 5,di 6,di 6]))) (y:=.d (.slc 1 8 (inF pcL))) (by kernel_rfl) (fun β h v hv=>DV.rel_slc_congr (fun j hj=>?_) hv))) ?_
  ·rcases j with _|_|_|_|_|_|_|_|j<;>first|rfl|omega
  ·rcases j with _|_|_|_|_|_|_|_|j<;>first|rfl|omega
  ·exact f5_tail (i.toNat % 8) (k.toNat % 8) (by omega) (by omega)
end Go.Proofs
namespace Go.Proofs.YtcfclncbpeahnaaGreatDoor
open Go Go.Ab Go.ChangeShapes Go.WideShapes Go.ChangeAt Go.RowKit
set_option maxRecDepth 100000
theorem own:ownKnob Tryz.prog.godebug=none:=by kernel_rfl
theorem laidOut:laidOutB Tryz.prog=true:=by kernel_rfl
theorem gPow : Tryz.prog.globalNamed "internal/strconv.uint64pow10" = some 1 := by kernel_rfl
theorem tPow:(Tryz.prog.globals[1]?).map (·.type)=some 181:=by kernel_rfl
theorem laidVars_get {P:Program} {W:World}:∀{l:List (String×DataW Unit)} {ps:List MemPlace},DataW.LaidVars P W l ps→
  ∀{i:Nat} {n:String} {d:DataW Unit},l[i]?=some (n,d)→∃g t cs fuel p,P.globalNamed n=some g∧(P.globals[g]?).map (·.type)=some t∧W.var? P n=some cs∧DataW.trod (fun _=>()) P W 0 (fun _=>true) false fuel t cs.toList=some (d,p)
 | [],ps,h,i,n,d,h1=>by simp at h1
 | (m,e) :: l,ps,⟨g,t,cs,fuel,p,q,a1,a2,a3,a4,a5,a6⟩,i,n,d,h1=>by
  cases i with
  | zero=>
   simp at h1;obtain ⟨rfl,rfl⟩:=h1
   exact⟨g,t,cs,fuel,p,a1,a2,a3,a4⟩
  | succ i=>exact laidVars_get a5 (i:=i) (by simpa using h1)
theorem tab_of_laid {laid : List (String × DataW Unit)} {W : World} (h : laidMetH Tryz.prog laid W) (hm : laidMetH Tryz.prog laid W = laidMet Tryz.prog laid W) {i : Nat} (hi : laid[i]? = some ("internal/strconv.uint64pow10", Rows.laid_internal_strconv_uint64pow10)) : Tab (allOf W) := by
 rw[hm] at h
 obtain ⟨ps,h,_⟩:=h
 obtain ⟨g2,t2,cs2,f2,p2,hg2,ht2,hv2,hd2⟩:=laidVars_get h hi
 obtain rfl:=Option.some.inj (gPow.symm.trans hg2)
 obtain rfl:=Option.some.inj (tPow.symm.trans ht2)
 have hT : Lib.TabIs Tryz.prog W "internal/strconv.uint64pow10" .u64 Lib.pow10Tab := by
  unfold Lib.TabIs
  rw[hv2,←Lib.cells_of_tab Tryz.underlying181 (by kernel_rfl) (by kernel_rfl) (by kernel_rfl) (k:=.u64) (zs:=Lib.pow10Tab) hd2]
 intro w hw
 unfold Lib.TabIs at hT⊢
 rw[←hT]
 unfold World.var? at hT⊢
 rw[gPow] at hT⊢
 simp only[Option.bind_some] at hT⊢
 cases ho:W.heap[1]? with
 | none=>rw[ho] at hT;cases hT
 | some o=>rw[hw.2 1 o ho]
end Go.Proofs.YtcfclncbpeahnaaGreatDoor
