import Derived.Test.YtcfclncbpeahnaaGreatDoorG6
import Derived.Test.YtcfclncbpeahnaaGreatDoorG2
import Derived.Test.YtcfclncbpeahnaaGreatDoorAcD
import Derived.Test.YtcfclncbpeahnaaGreatDoorG0
import Derived.Test.YtcfclncbpeahnaaGreatDoorG4
import Derived.Lay
import Derived.Test.YtcfclncbpeahnaaGreatDoorRows
import Derived.Lib.LaidTab
import Derived.ProofKit
import Derived.LaidMore
import Derived.OpenShut
import Derived.Stop.Joined
/- What is read is no larger than its words. -/
set_option autoImplicit false
namespace Go.Proofs
open Go Go.Ab
def mdN:Md→Nat
 | .loop _ x=>nds x
 | .args x=>nds x
 | _=>0
def mdT:Md→Prop
 | .loop _ x=>txE x
 | .args x=>txE x
 | _=>True
def RsN (b:Nat) (t:List Tk):Rs→Prop
 | .ok y r=>nds y+r.length≤b+t.length∧txE y∧r <:+ t
 | .bad _=>True
def tkM (t:List Tk):Prop:=∀w∈t,w.1.size≤1000
theorem tkM.suf {t r:List Tk} (h:tkM t) (hs:r <:+ t):tkM r:=fun w hw=>h w (hs.subset hw)
theorem tkM.tail {t:List Tk} (h:tkM t):tkM t.tail:=h.suf (List.tail_suffix t)
theorem tkM.hd {t:List Tk} (h:tkM t):(hdS t).size≤1000:=by
 cases t with
 | nil=>exact Nat.zero_le _
 | cons w t=>exact h w (by simp)
theorem nds_leaf (k:Int) (s:ByteArray) (n d a:Int):nds (.mk k s n d a [])=1:=by simp[nds,ndsL]
theorem tx_leaf {k:Int} {s:ByteArray} {n d a:Int} (h:s.size≤1000):txE (.mk k s n d a []):=by simp only[txE,txL];exact⟨h,trivial⟩
theorem sz_empty:ByteArray.empty.size≤1000:=by decide
theorem digs_ne {s:ByteArray} (h:digB (byteAt s 0)=true):s≠.empty:=by
 rintro rfl;exact absurd h (by decide)
theorem names_ne {s:ByteArray} (h:nameB s=true):s≠.empty:=by
 rintro rfl;exact absurd h (by decide +kernel)
theorem leafX_n {t:List Tk} (h:tkM t):RsN 0 t (leafX t):=by
 have hs:=List.tail_suffix t
 unfold leafX
 split
 ·rename_i hh
  have:=tail_len (t:=t) (by rw[hh];decide)
  exact⟨by rw[nds_leaf];omega,tx_leaf sz_empty,hs⟩
 split
 ·rename_i hh
  have:=tail_len (t:=t) (by rw[hh];decide)
  exact⟨by rw[nds_leaf];omega,tx_leaf sz_empty,hs⟩
 split
 ·rename_i hh
  have:=tail_len (digs_ne hh)
  exact⟨by rw[nds_leaf];omega,tx_leaf sz_empty,hs⟩
 split
 ·rename_i hh
  have:=tail_len (names_ne hh)
  exact⟨by rw[nds_leaf];omega,tx_leaf h.hd,hs⟩
 ·trivial
theorem RsN.up {b b':Nat} {t t':List Tk} (hl:b'+t'.length≤b+t.length) (hs:t' <:+ t):∀{R:Rs},RsN b' t' R→RsN b t R
 | .ok _ _,h=>⟨by have:=h.1;omega,h.2.1,h.2.2.trans hs⟩
 | .bad _,_=>trivial
theorem nds_one (k:Int) (a:Int) (x:Ex):nds (.mk k .empty 0 0 a [x])=nds x+1:=by simp[nds,ndsL];omega
theorem nds_two (k:Int) (a:Int) (x y:Ex):nds (.mk k .empty 0 0 a [x,y])=nds x+nds y+1:=by simp[nds,ndsL];omega
theorem tx_one {k:Int} {a:Int} {x:Ex} (h:txE x):txE (.mk k .empty 0 0 a [x]):=by simp only[txE,txL];exact⟨sz_empty,h,trivial⟩
theorem tx_two {k:Int} {a:Int} {x y:Ex} (h:txE x) (h2:txE y):txE (.mk k .empty 0 0 a [x,y]):=by simp only[txE,txL];exact⟨sz_empty,h,h2,trivial⟩
theorem ndsL_app (l m:List Ex):ndsL (l++m)=ndsL l+ndsL m:=by
 induction l with
 | nil=>simp[ndsL]
 | cons x l ih=>simp only[List.cons_append,ndsL,ih];omega
theorem txL_app {l:List Ex} {y:Ex} (h:txL l) (hy:txE y):txL (l++[y]):=by
 induction l with
 | nil=>simp only[List.nil_append,txL];exact⟨hy,trivial⟩
 | cons x l ih=>
  simp only[txL] at h
  simp only[List.cons_append,txL]
  exact⟨h.1,ih h.2⟩
theorem nds_addK (x y:Ex):nds (addK x y)=nds x+nds y:=by
 cases x;simp only[addK,nds,Ex.kids,ndsL_app,ndsL];omega
theorem tx_addK {x y:Ex} (h:txE x) (hy:txE y):txE (addK x y):=by
 cases x
 simp only[txE] at h
 simp only[addK,txE,Ex.s,Ex.kids]
 exact⟨h.1,txL_app h.2 hy⟩
theorem rd_n:∀(k:Nat) (md:Md) (t:List Tk),tkM t→mdT md→RsN (mdN md) t (rd k md t):=by
 intro k
 induction k with
 | zero=>intro md t _ _;trivial
 | succ k ih=>
  intro md t ht hm
  have ts:=List.tail_suffix t
  have tl:=tail_le t
  cases md with
  | lvl n=>
   simp only[rd]
   split
   ·split
    ·rename_i hh
     have hl:=tail_len (t:=t) (by rw[hh];decide)
     have:=ih (.lvl 2) t.tail ht.tail trivial
     cases e:rd k (.lvl 2) t.tail with
     | ok x r=>
      rw[e] at this
      refine⟨?_,tx_one this.2.1,this.2.2.trans ts⟩
      rw[nds_one]
      have:=this.1
      simp only[mdN] at this⊢;omega
     | bad r=>trivial
    ·exact ih (.lvl 3) t ht trivial
   split
   ·split
    ·rename_i hh
     have hl:=tail_len (t:=t) (by rw[hh];decide)
     have:=ih (.lvl 6) t.tail ht.tail trivial
     cases e:rd k (.lvl 6) t.tail with
     | ok x r=>
      rw[e] at this
      refine⟨?_,tx_one this.2.1,this.2.2.trans ts⟩
      rw[nds_one]
      have:=this.1
      simp only[mdN] at this⊢;omega
     | bad r=>trivial
    ·exact ih (.lvl 7) t ht trivial
   split
   ·exact ih .prim t ht trivial
   ·have:=ih (.lvl (n+1)) t ht trivial
    cases e:rd k (.lvl (n+1)) t with
    | ok x r=>
     rw[e] at this
     exact RsN.up (b':=nds x) (by have:=this.1;simp only[mdN] at this⊢;omega) this.2.2 (ih (.loop n x) r (ht.suf this.2.2) this.2.1)
    | bad r=>trivial
  | loop n x=>
   simp only[rd]
   split
   ·rename_i ho
    have hl:=tail_len (opAt_ne ho)
    have:=ih (.lvl (n+1)) t.tail ht.tail trivial
    cases e:rd k (.lvl (n+1)) t.tail with
    | ok y r=>
     rw[e] at this
     have h1:=this.1
     simp only[mdN] at h1
     have hs:=tx_two (k:=opK (hdS t)) (a:=hdA 0 t) (show txE x from hm) this.2.1
     have hn:=nds_two (opK (hdS t)) (hdA 0 t) x y
     try dsimp only
     split
     ·exact⟨by simp only[mdN];omega,hs,this.2.2.trans ts⟩
     ·exact RsN.up (b':=nds (.mk (opK (hdS t)) .empty 0 0 (hdA 0 t) [x,y])) (by simp only[mdN];omega) (this.2.2.trans ts) (ih _ _ ((ht.tail).suf this.2.2) hs)
    | bad r=>trivial
   ·exact⟨Nat.le_refl _,hm,List.suffix_refl _⟩
  | args x=>
   simp only[rd]
   have:=ih (.lvl 0) t ht trivial
   cases e:rd k (.lvl 0) t with
   | ok y r=>
    rw[e] at this
    have h1:=this.1
    simp only[mdN] at h1
    have hs:=tx_addK (show txE x from hm) this.2.1
    have hn:=nds_addK x y
    have tr:=List.tail_suffix r
    have trl:=tail_le r
    try dsimp only
    split
    ·exact RsN.up (b':=nds (addK x y)) (by simp only[mdN];omega) (tr.trans this.2.2) (ih (.args (addK x y)) r.tail ((ht.suf this.2.2).tail) hs)
    split
    ·exact⟨by simp only[mdN];omega,hs,tr.trans this.2.2⟩
    ·trivial
   | bad r=>trivial
  | prim=>
   simp only[rd]
   split
   ·have:=ih (.lvl 0) t.tail ht.tail trivial
    cases e:rd k (.lvl 0) t.tail with
    | ok x r=>
     rw[e] at this
     have h1:=this.1
     simp only[mdN] at h1
     have trl:=tail_le r
     try dsimp only
     split
     ·exact⟨by simp only[mdN];omega,this.2.1,(List.tail_suffix r).trans (this.2.2.trans ts)⟩
     ·trivial
    | bad r=>trivial
   split
   ·rename_i hh
    have hl:=tail_len (t:=t) (by rcases hh with hh|hh<;>rw[hh]<;>decide)
    have tl2:=tail_le t.tail
    split
    ·refine RsN.up (b':=nds (.mk (if hdS t=maxS then 11 else 10) .empty 0 0 (hdA 0 t) [])) ?_ ((List.tail_suffix _).trans ts) (ih (.args (.mk (if hdS t=maxS then 11 else 10) .empty 0 0 (hdA 0 t) [])) t.tail.tail ht.tail.tail (show txE (.mk (if hdS t=maxS then 11 else 10) .empty 0 0 (hdA 0 t) []) from tx_leaf sz_empty))
     rw[nds_leaf];simp only[mdN];omega
    ·trivial
   ·exact leafX_n ht
theorem pr_sm {n:Nat} {t:List Tk} (ht:tkM t) {x:Ex} {r:List Tk} (e:pr (.lvl n) t=.ok x r):nds x+r.length≤t.length∧txE x:=by
 have:=rd_n (10*t.length+11) (.lvl n) t ht trivial
 unfold pr at e
 rw[e] at this
 have h1:=this.1
 simp only[mdN] at h1
 exact⟨by omega,this.2.1⟩
def RuN (kd:Int) (nm gr:ByteArray) (n:Nat) (R:Rr):Prop:=∀x r,R=.ok x r→x.nm=nm∧x.gr=gr∧ht x.am≤x.ma∧ht x.wh≤x.mw∧txE x.am∧txE x.wh∧nds x.am≤n∧nds x.wh≤n
theorem ruD_n {kd:Int} {nm gr:ByteArray} {pos:Int} {am wh:Ex} {t:List Tk} {n:Nat} (h1:txE am) (h2:txE wh) (h3:nds am≤n) (h4:nds wh≤n):RuN kd nm gr n (ruD kd nm gr pos am wh t):=by
 intro x r e
 unfold ruD at e
 split at e
 ·injection e with e _
  subst e
  exact⟨rfl,rfl,Nat.le_refl _,Nat.le_refl _,h1,h2,h3,h4⟩
 ·cases e
theorem tx_ex0:txE ex0:=tx_leaf sz_empty
theorem ruC_n {kd:Int} {nm gr:ByteArray} {pos:Int} {am:Ex} {t:List Tk} {n:Nat} (ht:tkM t) (hn:t.length≤n) (h0:1≤n) (h1:txE am) (h3:nds am≤n):RuN kd nm gr n (ruC kd nm gr pos am t):=by
 have tl:=tail_le t
 unfold ruC
 split
 ·cases e:pr (.lvl 0) t.tail with
  | ok wh r=>
   have:=pr_sm ht.tail e
   exact ruD_n h1 this.2 h3 (by omega)
  | bad r=>intro x q e;cases e
 ·exact ruD_n h1 tx_ex0 h3 (by show nds (.mk 0 .empty 0 0 0 [])≤n;rw[nds_leaf];exact h0)
theorem ruG_n {kd:Int} {nm gr:ByteArray} {pos:Int} {t:List Tk} {n:Nat} (ht:tkM t) (hn:t.length≤n) (h0:1≤n):RuN kd nm gr n (ruG kd nm gr pos t):=by
 have tl:=tail_le t
 unfold ruG
 split
 ·cases e:pr (.lvl 0) t.tail with
  | ok am r=>
   have:=pr_sm ht.tail e
   have hs:r <:+ t.tail:=by have:=pr_suf (.lvl 0) t.tail;rw[e] at this;exact this
   have hsl:=hs.length_le
   exact ruC_n ((ht.tail).suf hs) (by omega) h0 this.2 (by omega)
  | bad r=>intro x q e;cases e
 ·intro x q e;cases e
theorem ruP_n {t:List Tk} {n:Nat} (hM:tkM t) (hn:t.length≤n) (h0:1≤n) {x:Rl} {r:List Tk} (e:ruP t=.ok x r):x.nm.size≤1000∧x.gr.size≤1000∧ht x.am≤x.ma∧ht x.wh≤x.mw∧txE x.am∧txE x.wh∧nds x.am≤n∧nds x.wh≤n:=by
 have tl:=tail_le t
 have tl2:=tail_le t.tail
 have tl3:=tail_le t.tail.tail
 unfold ruP at e
 split at e
 ·split at e
  ·unfold ruN at e
   split at e
   ·split at e
    ·have tl4:=tail_le t.tail.tail.tail
     obtain ⟨rfl',h2,h3⟩:=ruG_n hM.tail.tail.tail.tail (by omega) h0 _ _ e
     exact⟨by rw[rfl'];exact hM.tail.hd,by rw[h2];exact hM.tail.tail.tail.hd,h3⟩
    ·cases e
   ·obtain ⟨h1,h2,h3⟩:=ruG_n hM.tail.tail (by omega) h0 _ _ e
    exact⟨by rw[h1];exact hM.tail.hd,by rw[h2];decide,h3⟩
  ·cases e
 ·cases e
theorem ruP_sm {t:List Tk} (ht:tkM t) (hn:t.length≤1000) {x:Rl} {r:List Tk} (e:ruP t=.ok x r):RlS x:=by
 obtain ⟨h1,h2,h3,h4,h5,h6,h7,h8⟩:=ruP_n ht hn (by decide) e
 exact⟨h1,h2,h3,⟨h7,h5⟩,h4,⟨h8,h6⟩⟩
theorem prR_sm:∀(n:Nat) (t:List Tk) (R:List Rl),t.length≤n→n≤1000→tkM t→prR t=.ok R→∀r∈R,RlS r
 | 0,t,R,hn,_,_,h=>by
  have:t=[]:=List.eq_nil_of_length_eq_zero (by omega)
  subst this
  injection h with h;subst h
  intro r hr;cases hr
 | n+1,t,R,hn,h1,ht,h=>by
  by_cases hne:t=[]
  ·subst hne;injection h with h;subst h
   intro r hr;cases hr
  ·cases e:ruP t with
   | ok x q=>
    rw[prR_ok e] at h
    have hlt:=ruP_lt e
    have hs:=ruP_suf t
    rw[e] at hs
    cases e2:prR q with
    | ok l=>
     rw[e2] at h
     injection h with h
     subst h
     intro r hr
     rcases List.mem_cons.1 hr with rfl|hr
     ·exact ruP_sm ht (by omega) e
     ·exact prR_sm n q l (by omega) (by omega) (ht.suf hs) e2 r hr
    | bad r2=>rw[e2] at h;cases h
   | bad q=>rw[prR_bad hne e] at h;cases h
theorem smP_of {s:ByteArray} (hs:s.size≤1000):∀r∈(prsP s).1,RlS r:=by
 unfold prsP
 by_cases he:(wrdL s).2.2=0
 ·obtain ⟨T,a,e,hW⟩:∃T a e,wrdL s=(T,a,e):=⟨_,_,_,rfl⟩
  rw[hW] at he
  have he:e=0:=he
  subst he
  obtain ⟨rfl,hO⟩:=wrdL_ok hW
  have hln:=hO.len
  rw[hW,if_neg (by simp)]
  try dsimp only
  cases hq:prR T with
  | ok R=>exact prR_sm 1000 T R (by omega) (by omega) (fun w hw=>by have:=hO.wd w hw;omega) hq
  | bad r=>intro x hx;cases hx
 ·rw[if_pos he]
  intro x hx;cases hx
theorem sm_ex0:Sm ex0:=⟨by show nds (.mk 0 .empty 0 0 0 [])≤1000;rw[nds_leaf];decide,tx_ex0⟩
theorem smX_of {s:ByteArray} (hs:s.size≤1000):Sm (prsX s).1:=by
 unfold prsX
 by_cases he:(wrdL s).2.2=0
 ·obtain ⟨T,a,e,hW⟩:∃T a e,wrdL s=(T,a,e):=⟨_,_,_,rfl⟩
  rw[hW] at he
  have he:e=0:=he
  subst he
  obtain ⟨rfl,hO⟩:=wrdL_ok hW
  have hln:=hO.len
  rw[hW,if_neg (by simp)]
  try dsimp only
  cases hq:pr (.lvl 0) T with
  | ok x r=>
   have:=pr_sm (n:=0) (fun w hw=>by have:=hO.wd w hw;omega) hq
   cases r with
   | nil=>exact⟨(by omega:nds x≤1000),this.2⟩
   | cons w r=>exact sm_ex0
  | bad r=>exact sm_ex0
 ·rw[if_pos he];exact sm_ex0
end Go.Proofs
/- The laws' sentinel. -/
namespace Go.Proofs
open Go Go.Ab Go.RowKit
set_option maxHeartbeats 4000000
set_option maxRecDepth 100000
variable {G:IH}
abbrev awA:ByteArray:=⟨#[112,111,105,110,116,115,32,97,32,105,110,32,103,32,58,32,50,46,53,48,42,120,32,105,102,32,120,62,61,49,32,97,110,100,32,110,111,116,32,121,59]⟩
abbrev awB:ByteArray:=⟨#[97,45,40,98,45,99,41]⟩
abbrev awC:ByteArray:=⟨#[40,97,45,98,41,45,99]⟩
abbrev awD:ByteArray:=⟨#[112,111,105,110,116,115,32,97,32,105,110,32,103,58,32,50,46,53,32,42,32,120,32,105,102,32,120,32,62,61,32,49,32,97,110,100,32,110,111,116,32,121,59,10]⟩
abbrev awE:ByteArray:=⟨#[97,32,45,32,40,98,32,45,32,99,41]⟩
abbrev awF:ByteArray:=⟨#[97,32,45,32,98,32,45,32,99]⟩
theorem aw_A:(parP awA).2.1=0∧(parP awA).2.2=0∧(parP awA).1.length=1:=by decide +kernel
theorem aw_D:fmtR (parP awA).1=awD:=by decide +kernel
theorem aw_B:(parX awB).2.1=0∧(parX awB).2.2=0:=by decide +kernel
theorem aw_E:fmtX (parX awB).1=awE:=by decide +kernel
theorem aw_C:(parX awC).2.1=0∧(parX awC).2.2=0:=by decide +kernel
theorem aw_F:fmtX (parX awC).1=awF:=by decide +kernel
noncomputable def orcAw (R:List Rl) (f:ByteArray→Ex):Oracle:=fun g a=>match g,a with
 | 13,[_]=>some (.tup [rlsD R,di 0,di 0])
 | 15,[.con (.string s)]=>some (.tup [exW (f s),di 0,di 0])
 | 24,[_]=>some (ds (fmtR R))
 | 21,[e]=>some (ds (fmtX (rdE e)))
 | _,_=>none
theorem f10' (R:List Rl) (f:ByteArray→Ex) (h13:FnOK Tryz.prog G 13 [ds awA] (.tup [rlsD R,di 0,di 0])) (hb:FnOK Tryz.prog G 15 [ds awB] (.tup [exW (f awB),di 0,di 0])) (hc:FnOK Tryz.prog G 15 [ds awC] (.tup [exW (f awC),di 0,di 0]))
  (h24:FnOK Tryz.prog G 24 [rlsD R] (ds (fmtR R))) (hx:∀x,x=f awB∨x=f awC→FnOK Tryz.prog G 21 [exW x] (ds (fmtX x))) (h1:R.length=1) (hD:fmtR R=awD) (hE:fmtX (f awB)=awE) (hF:fmtX (f awC)=awF) :
  FnOK Tryz.prog G 10 [] (db true):=by
 refine FnOK.walk (orc:=orcAw R f) (keep:=[]) follows Tryz.func10 rfl Tryz.call10 ?_
 refine of_tr (fun _ _ _ ZK=>(fun Za Zb=>(ZK 13 [(ds (ByteArray.mk #[112,111,105,110,116,115,32,97,32,105,110,32,103,32,58,32,50,46,53,48,42,120,32,105,102,32,120,62,61,49,32,97,110,100,32,110,111,116,32,121,59]))] (.tup [(.slc 16 R.length (rlF R)),(di 0),(di 0)])∧ZK 15 [(ds Za)] (.tup [(ndX (ht (f Za)) (f Za)),(di 0),(di 0)])∧ZK 15 [(ds Zb)] (.tup [(ndX (ht (f Zb)) (f Zb)),(di 0),(di 0)])∧(((((0:Int)==(0:Int)&&(0:Int)==(0:Int)&&(↑(List.length R):Int)==(1:Int))=true)→ZK 24 [(.slc 16 R.length (rlF R))] (ds (fmtR R)))∧((((0:Int)==(0:Int)&&(0:Int)==(0:Int)&&(↑(List.length R):Int)==(1:Int)&&ByteArray.toList (fmtR R)==ByteArray.toList { data:=#[(112:UInt8),(111:UInt8),(105:UInt8),(110:UInt8),(116:UInt8),(115:UInt8),(32:UInt8),(97:UInt8),(32:UInt8),(105:UInt8),(110:UInt8),(32:UInt8),(103:UInt8),(58:UInt8),(32:UInt8),(50:UInt8),(46:UInt8),(53:UInt8),(32:UInt8),(42:UInt8),(32:UInt8),(120:UInt8),(32:UInt8),(105:UInt8),(102:UInt8),(32:UInt8),(120:UInt8),(32:UInt8),(62:UInt8),(61:UInt8),(32:UInt8),(49:UInt8),(32:UInt8),(97:UInt8),(110:UInt8),(100:UInt8),(32:UInt8),(110:UInt8),(111:UInt8),(116:UInt8),(32:UInt8),(121:UInt8),(59:UInt8),(10:UInt8)] }&&(0:Int)==(0:Int))=true)→ZK 21 [(ndX (ht (f Za)) (f Za))] (ds (fmtX (rdE (ndX (ht (f Za)) (f Za))))))∧((((0:Int)==(0:Int)&&(0:Int)==(0:Int)&&(↑(List.length R):Int)==(1:Int)&&ByteArray.toList (fmtR R)==ByteArray.toList { data:=#[(112:UInt8),(111:UInt8),(105:UInt8),(110:UInt8),(116:UInt8),(115:UInt8),(32:UInt8),(97:UInt8),(32:UInt8),(105:UInt8),(110:UInt8),(32:UInt8),(103:UInt8),(58:UInt8),(32:UInt8),(50:UInt8),(46:UInt8),(53:UInt8),(32:UInt8),(42:UInt8),(32:UInt8),(120:UInt8),(32:UInt8),(105:UInt8),(102:UInt8),(32:UInt8),(120:UInt8),(32:UInt8),(62:UInt8),(61:UInt8),(32:UInt8),(49:UInt8),(32:UInt8),(97:UInt8),(110:UInt8),(100:UInt8),(32:UInt8),(110:UInt8),(111:UInt8),(116:UInt8),(32:UInt8),(121:UInt8),(59:UInt8),(10:UInt8)] }&&(0:Int)==(0:Int)&&ByteArray.toList (fmtX (rdE (ndX (ht (f { data:=#[(97:UInt8),(45:UInt8),(40:UInt8),(98:UInt8),(45:UInt8),(99:UInt8),(41:UInt8)] })) (f { data:=#[(97:UInt8),(45:UInt8),(40:UInt8),(98:UInt8),(45:UInt8),(99:UInt8),(41:UInt8)] }))))==ByteArray.toList { data:=#[(97:UInt8),(32:UInt8),(45:UInt8),(32:UInt8),(40:UInt8),(98:UInt8),(32:UInt8),(45:UInt8),(32:UInt8),(99:UInt8),(41:UInt8)] }&&(0:Int)==(0:Int))=true)→ZK 21 [(ndX (ht (f Zb)) (f Zb))] (ds (fmtX (rdE (ndX (ht (f Zb)) (f Zb)))))))∧((db ((0:Int)==(0:Int)&&(0:Int)==(0:Int)&&(↑(List.length R):Int)==(1:Int)&&ByteArray.toList (fmtR R)==ByteArray.toList { data:=#[(112:UInt8),(111:UInt8),(105:UInt8),(110:UInt8),(116:UInt8),(115:UInt8),(32:UInt8),(97:UInt8),(32:UInt8),(105:UInt8),(110:UInt8),(32:UInt8),(103:UInt8),(58:UInt8),(32:UInt8),(50:UInt8),(46:UInt8),(53:UInt8),(32:UInt8),(42:UInt8),(32:UInt8),(120:UInt8),(32:UInt8),(105:UInt8),(102:UInt8),(32:UInt8),(120:UInt8),(32:UInt8),(62:UInt8),(61:UInt8),(32:UInt8),(49:UInt8),(32:UInt8),(97:UInt8),(110:UInt8),(100:UInt8),(32:UInt8),(110:UInt8),(111:UInt8),(116:UInt8),(32:UInt8),(121:UInt8),(59:UInt8),(10:UInt8)] }&&(0:Int)==(0:Int)&&ByteArray.toList (fmtX (rdE (ndX (ht (f { data:=#[(97:UInt8),(45:UInt8),(40:UInt8),(98:UInt8),(45:UInt8),(99:UInt8),(41:UInt8)] })) (f { data:=#[(97:UInt8),(45:UInt8),(40:UInt8),(98:UInt8),(45:UInt8),(99:UInt8),(41:UInt8)] }))))==ByteArray.toList { data:=#[(97:UInt8),(32:UInt8),(45:UInt8),(32:UInt8),(40:UInt8),(98:UInt8),(32:UInt8),(45:UInt8),(32:UInt8),(99:UInt8),(41:UInt8)] }&&(0:Int)==(0:Int)&&ByteArray.toList (fmtX (rdE (ndX (ht (f { data:=#[(40:UInt8),(97:UInt8),(45:UInt8),(98:UInt8),(41:UInt8),(45:UInt8),(99:UInt8)] })) (f { data:=#[(40:UInt8),(97:UInt8),(45:UInt8),(98:UInt8),(41:UInt8),(45:UInt8),(99:UInt8)] }))))==ByteArray.toList { data:=#[(97:UInt8),(32:UInt8),(45:UInt8),(32:UInt8),(98:UInt8),(32:UInt8),(45:UInt8),(32:UInt8),(99:UInt8)] })):DV)=(db true))) (ByteArray.mk #[97,45,40,98,45,99,41]) (ByteArray.mk #[40,97,45,98,41,45,99])) (by kernel_rfl) ?_
 try dsimp only
 have eb:rdE (ndX (ht (f awB)) (f awB))=f awB:=rdE_eq (Nat.le_refl _)
 have ec:rdE (ndX (ht (f awC)) (f awC))=f awC:=rdE_eq (Nat.le_refl _)
 rw[eb,ec]
 refine⟨h13,hb,hc,⟨fun _=>h24,fun _=>hx _ (.inl rfl),fun _=>hx _ (.inr rfl)⟩,congrArg db ?_⟩
 rw[hD,hE,hF,h1]
 simp
theorem f10 (hT:Tab G):FnOK Tryz.prog G 10 [] (db true):=by
 have hA:=f13 (G:=G) awA (by decide) (smP_of (by decide))
 have hB:=f15 (G:=G) awB (by decide) (smX_of (by decide))
 have hC:=f15 (G:=G) awC (by decide) (smX_of (by decide))
 rw[aw_A.1,aw_A.2.1] at hA
 rw[aw_B.1,aw_B.2] at hB
 rw[aw_C.1,aw_C.2] at hC
 have hs:∀s:ByteArray,s.size≤1000→∀r∈(parP s).1,RlS r:=fun s hs=>by
  unfold parP
  split
  ·exact smP_of hs
  split
  ·intro r hr;cases hr
  ·exact smP_of hs
 have hxs:∀s:ByteArray,s.size≤1000→Sm (parX s).1:=fun s hs=>by
  unfold parX
  split
  ·exact smX_of hs
  split
  ·exact sm_ex0
  ·exact smX_of hs
 refine f10' (parP awA).1 (fun s=>(parX s).1) hA hB hC (f24 hT _ (fun i hi=>hs _ (by decide) _ (getD_in hi)) (by rw[aw_A.2.2];decide)) (fun x hx=>?_) aw_A.2.2 aw_D aw_E aw_F
 rcases hx with rfl|rfl
 ·exact f21 hT _ _ (Nat.le_refl _) (hxs _ (by decide))
 ·exact f21 hT _ _ (Nat.le_refl _) (hxs _ (by decide))
end Go.Proofs
/- Expressions that are read from memory. -/
namespace Go.Proofs
open Go Go.Ab Go.RowKit Go.ChangeShapes
set_option maxRecDepth 100000
theorem lift_rel:∀(m m':Nat) (x:Ex),ht x≤m→ht x≤m'→∀(k:IH) (v:Value),DV.rel k (exD m x) v→DV.rel k (exD m' x) v:=by
 intro m
 induction m with
 | zero=>
  intro m' x h1 h2 k v h
  have hk:x.kids=[]:=by
   refine Classical.byContradiction fun hh=>?_
   have:0<x.kids.length:=List.length_pos_iff.2 hh
   have:=ht_kid this
   omega
  unfold exD exV at h⊢
  rw[hk] at h⊢
  obtain ⟨us,rfl,x1,u1,rfl,h1,x2,u2,rfl,h2,x3,u3,rfl,h3,x4,u4,rfl,h4,x5,u5,rfl,h5,x6,u6,rfl,h6,h0⟩:=h
  exact⟨_,rfl,x1,_,rfl,h1,x2,_,rfl,h2,x3,_,rfl,h3,x4,_,rfl,h4,x5,_,rfl,h5,x6,_,rfl,DV.rel_slc_congr (fun i hi=>absurd hi (by simp)) h6,h0⟩
 | succ m ih=>
  intro m' x h1 h2 k v h
  obtain ⟨us,rfl,x1,u1,rfl,g1,x2,u2,rfl,g2,x3,u3,rfl,g3,x4,u4,rfl,g4,x5,u5,rfl,g5,x6,u6,rfl,g6,h0⟩:=h
  refine⟨_,rfl,x1,_,rfl,g1,x2,_,rfl,g2,x3,_,rfl,g3,x4,_,rfl,g4,x5,_,rfl,g5,x6,_,rfl,?_,h0⟩
  obtain ⟨p,cap,e,hc,r⟩:=g6
  refine⟨p,cap,e,hc,r.imp id fun ⟨b,off,hp,r⟩=>⟨b,off,hp,fun i hi=>?_⟩⟩
  obtain ⟨v,hv,hs,hj⟩:=r i hi
  have hki:=ht_kid (x:=x) hi
  obtain ⟨m2,rfl⟩:∃m2,m'=m2+1:=⟨m' - 1,by omega⟩
  exact⟨v,ih m2 (x.kids.getD i ex0) (by omega) (by omega) k v hv,hs,hj⟩
theorem htL_le {l:List Ex} {n:Nat} (h:∀i,i<l.length→ht (l.getD i ex0)+1≤n):htL l≤n:=by
 induction l with
 | nil=>simp[htL]
 | cons x l ih=>
  simp only[htL]
  have h0:=h 0 (by simp)
  have:=ih fun i hi=>by simpa using h (i+1) (by simpa using hi)
  have h0:ht x+1≤n:=h0
  omega
theorem wfL_of {l:List Ex} (h:∀i,i<l.length→wfE (l.getD i ex0)):wfL l:=by
 induction l with
 | nil=>trivial
 | cons x l ih=>exact⟨h 0 (by simp),ih fun i hi=>by simpa using h (i+1) (by simpa using hi)⟩
theorem max_of (f:Nat→Nat):∀n:Nat,∃M,∀i,i<n→f i≤M
 | 0=>⟨0,fun i hi=>by omega⟩
 | n+1=>by
  obtain ⟨M,h⟩:=max_of f n
  refine⟨max M (f n),fun i hi=>?_⟩
  rcases Nat.lt_or_ge i n with h1|h1
  ·have:=h i h1;omega
  ·obtain rfl:i=n:=by omega
   omega
theorem cells34:Tryz.prog.cellsOf 34=6:=by kernel_rfl
theorem bytes34:Tryz.prog.bytesOf 34=72:=by kernel_rfl
theorem cells31:Tryz.prog.cellsOf 31=2:=by kernel_rfl
theorem cells3:Tryz.prog.cellsOf 3=1:=by kernel_rfl
theorem cells9:Tryz.prog.cellsOf 9=1:=by kernel_rfl
theorem cells32:Tryz.prog.cellsOf 32=1:=by kernel_rfl
def kidsP (d:DV):Prop:=∃(l:List Ex) (k:Nat),htL l≤k∧wfL l∧l.length≤8796093022208∧d=.slc 6 l.length (lay (exG k) l)
section
variable {H:Type} {enc:TypeId×Value→H} {W:World} {base:Nat} {sp:Nat→Bool} {held:Bool}
theorem open_node {n:Nat} {cs:List Value} {x:DataW H×List MemPlace} (h:DataW.trod enc Tryz.prog W base sp held n 34 cs=some x) (hf:AbW.Fine Tryz.prog 34 x.1) :
  ∃(k n d a:Int) (s:ByteArray) (v:Value) (n':Nat) (y:DataW H×List MemPlace),s.size≤maxLen∧cs=[.int .i64 k,.string s,.int .i64 n,.int .i64 d,.int .i64 a,v]∧
   DataW.trod enc Tryz.prog W base sp held n' 32 [v]=some y∧AbW.Fine Tryz.prog 32 y.1∧SizeOf.sizeOf y.1<SizeOf.sizeOf x.1:=by
 obtain ⟨xs,n',rfl,rfl,hl,hxl,hfl⟩:=DataW.trod_struct Tryz.underlying34 h
 have hxl:xs.length=5:=hxl
 match xs,hxl with
 | [y0,y1,y2,y3,y4],_=>
  have e0:=hfl 0 _ rfl
  have e1:=hfl 1 _ rfl
  have e2:=hfl 2 _ rfl
  have e3:=hfl 3 _ rfl
  have e4:=hfl 4 _ rfl
  simp only[List.getElem?_cons_zero,List.getElem?_cons_succ] at e0 e1 e2 e3 e4
  rw[cells34] at hl
  erw [cells3] at e0 e3
  erw [cells9] at e1
  erw [cells31] at e2
  erw [cells32] at e4
  match cs,hl with
  | [c0,c1,c2,c3,c4,c5],_=>
   have e0:DataW.trod enc Tryz.prog W base sp held n' 3 [c0]=some y0:=e0
   have e1:DataW.trod enc Tryz.prog W base sp held n' 9 [c1]=some y1:=e1
   have e2:DataW.trod enc Tryz.prog W base sp held n' 31 [c2,c3]=some y2:=e2
   have e3:DataW.trod enc Tryz.prog W base sp held n' 3 [c4]=some y3:=e3
   have e4:DataW.trod enc Tryz.prog W base sp held n' 32 [c5]=some y4:=e4
   obtain ⟨k,h0,_,_⟩:=DataW.trod_int Tryz.underlying3 e0
   obtain ⟨s,h1,_,hs⟩:=DataW.trod_string Tryz.underlying9 e1
   obtain ⟨z0,z1,m2,_,_,f0,f1⟩:=trod_struct2 Tryz.underlying31 e2
   erw [cells3] at f0 f1
   have f0:DataW.trod enc Tryz.prog W base sp held m2 3 [c2]=some z0:=f0
   have f1:DataW.trod enc Tryz.prog W base sp held m2 3 [c3]=some z1:=f1
   obtain ⟨a,g0,_,_⟩:=DataW.trod_int Tryz.underlying3 f0
   obtain ⟨b,g1,_,_⟩:=DataW.trod_int Tryz.underlying3 f1
   obtain ⟨c,h3,_,_⟩:=DataW.trod_int Tryz.underlying3 e3
   simp only[List.cons.injEq,and_true] at h0 h1 g0 g1 h3
   subst h0;subst h1;subst g0;subst g1;subst h3
   refine⟨k,a,b,c,s,c5,n',y4,hs,rfl,e4,?_,?_⟩
   ·have hf':∀w∈DataW.weights Tryz.prog 34 (.agg ([y0,y1,y2,y3,y4].map (·.1))),w≤reachBytes:=hf
    simp only[DataW.weights,Tryz.underlying34] at hf'
    exact AbW.fine_each hf' 4 32 y4.1 rfl rfl
   ·have:y4.1∈[y0,y1,y2,y3,y4].map (·.1):=by simp
    have h2:=List.sizeOf_lt_of_mem this
    show SizeOf.sizeOf y4.1<SizeOf.sizeOf (DataW.agg ([y0,y1,y2,y3,y4].map (·.1)))
    simp only[DataW.agg.sizeOf_spec]
    omega
theorem open_kids (N:Nat):∀(m:Nat) (cs:List Value) (x:DataW H×List MemPlace),SizeOf.sizeOf x.1≤N→DataW.trod enc Tryz.prog W base sp held m 32 cs=some x→AbW.Fine Tryz.prog 32 x.1→∃d,kidsP d∧DV.rels (allOf W) [d] cs:=by
 induction N using Nat.strongRecOn with
 | _ N ih=>
 intro m cs x hN hx hfi
 rcases Go.Deep.open_slice Tryz.underlying32 hx with ⟨rfl,rfl⟩|⟨a,len,cap,mm,n',D,Pl,rfl,hb,hlc,hcap,hmm,rfl,hel⟩
 ·exact⟨_,⟨[],0,by simp[htL],trivial,by simp,rfl⟩,⟨_,_,rfl,⟨none,0,rfl,Nat.le_refl _,.inl rfl⟩,rfl⟩⟩
 have hlm:len≤mm:=by rw[hmm];split<;>omega
 have hfi':∀w∈DataW.weights Tryz.prog 32 (.slice ((List.range len).map D) ((List.range (mm-len)).map fun j=>D (len+j))),w≤reachBytes:=hfi
 simp only[DataW.weights,Tryz.underlying32,List.mem_cons,List.mem_append] at hfi'
 have helf:∀i,i<len→AbW.Fine Tryz.prog 34 (D i):=fun i hi=>
  AbW.fine_all (fun w hw=>hfi' w (.inr (.inl hw))) _ (List.mem_map.2 ⟨i,List.mem_range.2 hi,rfl⟩)
 have hlen:len≤8796093022208:=by
  have:=hfi' _ (.inl rfl)
  rw[bytes34] at this
  simp only[List.length_map,List.length_range,reachBytes] at this
  omega
 have hspot:0<len→a.spot=none:=by
  intro hpos
  obtain ⟨cs',h1,_⟩:=hel 0 (by omega)
  obtain ⟨_,h5,h6⟩:=World.cells?_some h1
  have c26:=cells34
  have:=h6 0 (by show 0<Tryz.prog.cellsOf 34;omega)
  rw[Nat.zero_mul,gEe (by rw[h5,cells34];omega)] at this
  simp only[World.cell?,Addr.add,if_true] at this
  split at this
  ·split at this
   ·cases this
   ·rename_i hsp;simpa using hsp
  ·cases this
 have hadd:0<len→∀k,a.add k=⟨a.block,a.off+k,none⟩:=by
  intro hpos k
  have:=hspot hpos
  unfold Addr.add
  split
  ·rename_i hk;subst hk;cases a;simp_all
  ·rfl
 have each:∀i,i<len→∃(x:Ex) (k:Nat),ht x≤k∧wfE x∧∃v,DV.rel (allOf W) (exD k x) v∧v.cells.size=6∧∀j,j<6→W.cell? ⟨a.block,a.off+i*6+j,none⟩=v.cells[j]?:=by
  intro i hi
  obtain ⟨cs',h1,h2⟩:=hel i (by omega)
  obtain ⟨k,n,d,at',s,v,n2,y,hs,rfl,h3,h4,h5⟩:=open_node h2 (helf i hi)
  have hsz:SizeOf.sizeOf y.1<N:=by
   have hm:D i∈(List.range len).map D:=List.mem_map.2 ⟨i,List.mem_range.2 hi,rfl⟩
   have h6:=List.sizeOf_lt_of_mem hm
   have h7:SizeOf.sizeOf (DataW.slice ((List.range len).map D) ((List.range (mm-len)).map fun j=>D (len+j)))≤N:=hN
   simp only[DataW.slice.sizeOf_spec] at h7
   have h5:SizeOf.sizeOf y.1<SizeOf.sizeOf (D i):=h5
   omega
  obtain ⟨dk,⟨l,kk,hh,hw,hll,rfl⟩,hr⟩:=ih _ hsz n2 [v] y (Nat.le_refl _) h3 h4
  obtain ⟨u,us,e1,r1,r2⟩:=hr
  simp only[List.cons.injEq] at e1
  obtain ⟨rfl,rfl⟩:=e1
  obtain ⟨_,h8,h9⟩:=World.cells?_some h1
  rw[cells34] at h9 h1
  refine⟨.mk k s n d at' l,kk,by rw[ht_eq];exact hh,⟨hs,hll,hw⟩,.agg #[.int .i64 k,.string s,.int .i64 n,.int .i64 d,.int .i64 at',v],?_,rfl,fun j hj=>?_⟩
  ·exact⟨_,rfl,_,_,rfl,rfl,_,_,rfl,rfl,_,_,rfl,rfl,_,_,rfl,rfl,_,_,rfl,rfl,v,_,rfl,r1,rfl⟩
  ·have:=h9 j (by simpa using hj)
   rw[hadd (by omega)] at this
   have e:(⟨a.block,a.off+i*6,none⟩:Addr).add j=⟨a.block,a.off+i*6+j,none⟩:=by
    unfold Addr.add
    split
    ·rename_i hk;subst hk;rfl
    ·rfl
   rw[e] at this
   rw[this]
   simp[Value.cells]
 classical
 let X:Nat→Ex:=fun i=>if h:i<len then Classical.choose (each i h) else ex0
 let K:Nat→Nat:=fun i=>if h:i<len then Classical.choose (Classical.choose_spec (each i h)) else 0
 have hX:∀i,i<len→ht (X i)≤K i∧wfE (X i)∧∃v,DV.rel (allOf W) (exD (K i) (X i)) v∧v.cells.size=6∧∀j,j<6→W.cell? ⟨a.block,a.off+i*6+j,none⟩=v.cells[j]?:=fun i hi=>by
  simp only[X,K,dif_pos hi]
  exact Classical.choose_spec (Classical.choose_spec (each i hi))
 obtain ⟨M,hM⟩:=max_of K len
 have hlenl:((List.range len).map X).length=len:=by simp
 have hget:∀i,i<len→((List.range len).map X).getD i ex0=X i:=fun i hi=>by
  simp[List.getD,List.getElem?_map,List.getElem?_range hi]
 refine⟨.slc 6 ((List.range len).map X).length (lay (exG (M+1)) ((List.range len).map X)),⟨_,M+1,htL_le fun i hi=>?_,wfL_of fun i hi=>?_,by rw[hlenl];exact hlen,rfl⟩,⟨_,_,rfl,⟨some a,cap,by rw[hlenl],by rw[hlenl];exact hlc,?_⟩,rfl⟩⟩
 ·rw[hlenl] at hi
  rw[hget i hi]
  have:=(hX i hi).1
  have:=hM i hi
  omega
 ·rw[hlenl] at hi
  rw[hget i hi]
  exact(hX i hi).2.1
 ·rw[hlenl]
  by_cases hz:len=0
  ·exact .inl hz
  right
  refine⟨a.block,a.off,by have:=hspot (by omega);cases a;simp_all,fun i hi=>?_⟩
  obtain ⟨h1,_,v,hv,hs,hc⟩:=hX i hi
  refine⟨v,?_,hs,fun j hj=>hc j hj⟩
  show DV.rel (allOf W) (exD M (((List.range len).map X).getD i ex0)) v
  rw[hget i hi]
  exact lift_rel _ _ _ h1 (Nat.le_trans h1 (hM i hi)) _ _ hv
def ow32 (t:TypeId):Option (DV→Prop):=match Nat.beq t 32 with|true=>some kidsP|false=>none
theorem how32:AbW.How ow32 enc Tryz.prog W base sp held:=by
 intro t p m cs x hp hx hf
 unfold ow32 at hp
 split at hp
 ·rename_i h
  obtain rfl:=Nat.eq_of_beq_eq_true h
  obtain rfl:=Option.some.inj hp
  obtain ⟨d,h1,h2⟩:=open_kids _ m cs x (Nat.le_refl _) hx hf
  obtain ⟨l,k,a,b,c,rfl⟩:=h1
  exact⟨_,⟨⟨l,k,a,b,c,rfl⟩,_,_,_,rfl⟩,h2⟩
 ·cases hp
end
open Go Go.Ab Go.RowKit
/-! Rules that are read. -/
abbrev rlShW:List AbW.Sh:=[.int .i64,.str,.str,.int .i64,.str,.int .i64,.int .i64,.int .i64,.own kidsP,.int .i64,.str,.int .i64,.int .i64,.int .i64,.own kidsP,.int .i64]
theorem rlW0:RlW rl0:=by
 have h1:ht rl0.am≤rl0.ma:=by decide
 have h2:wfE rl0.am:=by unfold rl0 ex0;simp[wfE,wfL]
 exact⟨h1,h2,h1,h2⟩
theorem rules_ofW {n:Nat} {f:Nat→DV} (hf:∀i,i<n→∃es,f i=.agg es∧AbW.Shs.dv rlShW es) :
  ∃R:List Rl,R.length=n∧(∀k v,DV.rel k (.slc 16 n f) v→DV.rel k (rlsD R) v)∧∀i,i<R.length→RlW (R.getD i rl0):=by
 obtain ⟨l,hl,hL⟩:=list_of (p:=fun i (x:{x:Rl // RlW x})=>f i=rlD x.1) ⟨rl0,rlW0⟩ (fun i hi=>by
  obtain ⟨es,h1,_,_,rfl,⟨kd,_,rfl⟩,_,_,rfl,⟨nm,hnm,rfl⟩,_,_,rfl,⟨gr,hgr,rfl⟩,hr⟩:=hf i hi
  obtain ⟨_,_,rfl,⟨k,_,rfl⟩,_,_,rfl,⟨s,hs,rfl⟩,_,_,rfl,⟨n,_,rfl⟩,_,_,rfl,⟨d,_,rfl⟩,_,_,rfl,⟨a,_,rfl⟩,_,_,rfl,⟨⟨l,m,hm,hw,hl,rfl⟩,_⟩,hr⟩:=hr
  obtain ⟨_,_,rfl,⟨k2,_,rfl⟩,_,_,rfl,⟨s2,hs2,rfl⟩,_,_,rfl,⟨n2,_,rfl⟩,_,_,rfl,⟨d2,_,rfl⟩,_,_,rfl,⟨a2,_,rfl⟩,_,_,rfl,⟨⟨l2,m2,hm2,hw2,hl2,rfl⟩,_⟩,hr⟩:=hr
  obtain ⟨_,_,rfl,⟨p,_,rfl⟩,rfl⟩:=hr
  exact⟨⟨⟨kd,nm,gr,.mk k s n d a l,.mk k2 s2 n2 d2 a2 l2,p,m,m2⟩,by rw[ht_eq];exact hm,⟨hs,hl,hw⟩,by rw[ht_eq];exact hm2,⟨hs2,hl2,hw2⟩⟩,h1⟩)
 subst hl
 have hg:∀i,i<l.length→(l.map (·.1)).getD i rl0=(l.getD i ⟨rl0,rlW0⟩).1:=fun i hi=>by
  rw[List.getD,List.getD,List.getElem?_map,gEe hi];rfl
 refine⟨l.map (·.1),List.length_map ..,fun k v h=>?_,fun i hi=>?_⟩
 ·unfold rlsD
  rw[List.length_map]
  refine DV.rel_slc_congr (fun i hi=>?_) h
  rw[hL i hi]
  unfold rlF
  rw[hg i hi]
 ·rw[List.length_map] at hi
  rw[hg i hi];exact(l.getD i _).2
end Go.Proofs
/- Formats. -/
namespace Go.Proofs
open Go Go.Ab Go.RowKit
set_option maxHeartbeats 4000000
set_option maxRecDepth 100000
variable {G:IH}
end Go.Proofs
/- Same rules. -/
namespace Go.Proofs
open Go Go.Ab Go.RowKit
set_option maxHeartbeats 4000000
set_option maxRecDepth 100000
variable {G:IH}
def sm1 (x y:Rl):Bool:=decide (x.kind=y.kind)&&decide (x.nm=y.nm)&&decide (x.gr=y.gr)&&eqE x.am y.am&&eqE x.wh y.wh
def smR (R Q:List Rl):Bool:=decide (R.length=Q.length)&&(List.range R.length).all fun i=>sm1 (R.getD i rl0) (Q.getD i rl0)
noncomputable def orcSm:Oracle:=fun f a=>match f,a with
 | 22,[e,e']=>some (db (eqE (rdE e) (rdE e')))
 | _,_=>none
noncomputable def S18 (R Q:List Rl) (k:Nat):AS:=⟨regs Tryz.f18.ntmps [(0,.d (rlsD R)),(1,.d (rlsD Q)),(2,vb false),(7,vi k)],[]⟩
theorem f18 (R Q:List Rl) (hR:∀i,i<R.length→RlS (R.getD i rl0)) (hQ:∀i,i<Q.length→RlS (Q.getD i rl0)) (hl:R.length≤1000000) (hl2:Q.length≤1000000):FnOK Tryz.prog G 18 [rlsD R,rlsD Q,db false] (db (smR R Q)):=by
 refine FnOK.walkK (orc:=orcSm) (keep:=[]) follows Tryz.func18 rfl Tryz.call18 ?_
 refine of_tr (fun ZT ZW ZQ _=>(((((↑R.length:Int) != ↑Q.length)=true)→(((db false):DV)=(db (smR R Q))))∧((((↑R.length:Int) != ↑Q.length)=false)→ZW [cd Tryz.f18 [1,1,0,1,0],(.blk 0),cd Tryz.f18 [1,1,1]] (stS ZT [1]) ZQ))) (by kernel_rfl) ?_
 have eN:∀a b:Nat,((a:Int) != (b:Int)) = !decide (a=b):=fun a b=>by
  have:((a:Int)==(b:Int))=decide (a=b):=by
   show decide ((a:Int)=b)=_
   rw[decide_eq_decide];omega
  rw[bne,this]
 rw[eN]
 unfold smR
 refine⟨fun h=>?_,fun h=>?_⟩
 ·have h:decide (R.length=Q.length)=false:=by simpa using h
  rw[h];rfl
 ·have h:decide (R.length=Q.length)=true:=by simpa using h
  have hkk:R.length=Q.length:=of_decide_eq_true h
  rw[h,Bool.true_and]
  refine AWP.loop (c:=cAt (bodyOf Tryz.f18) [1,1,0,1,0,0]) (by kernel_rfl) (S18 R Q) (fun k=>k≤R.length∧∀i,i<k→sm1 (R.getD i rl0) (Q.getD i rl0)=true) (fun k=>R.length-k) 0 ?_ ⟨Nat.zero_le _,fun i hi=>by omega⟩ ?_
  ·exact AS.leA (by kernel_rfl)
  ·rintro k ⟨hk,hkd⟩
   refine walkK (orc:=orcSm) (keep:=[]) (cuts:=[]) (n:=1000) follows ?_
   refine of_rd (fun ZT ZW ZQ ZK ZA _=>(fun Za Zb Zc Zd Ze Zf Zg=>((((decide ((↑k:Int)<↑R.length))=true)→((((0≤(↑k:Int))∧((↑k:Int)<↑R.length))∧(0≤(↑k:Int))∧((↑k:Int)<↑Q.length))∧((((!((R.getD (↑k:Int).toNat rl0).kind != (Q.getD (↑k:Int).toNat rl0).kind||!(R.getD (↑k:Int).toNat rl0).nm.toList==(Q.getD (↑k:Int).toNat rl0).nm.toList||!(R.getD (↑k:Int).toNat rl0).gr.toList==(Q.getD (↑k:Int).toNat rl0).gr.toList))=true)→ZK 22 [Zb,Zc] (db (eqE (rdE Zb) (rdE Zc))))∧(((!((R.getD (↑k:Int).toNat rl0).kind != (Q.getD (↑k:Int).toNat rl0).kind||!(R.getD (↑k:Int).toNat rl0).nm.toList==(Q.getD (↑k:Int).toNat rl0).nm.toList||!(R.getD (↑k:Int).toNat rl0).gr.toList==(Q.getD (↑k:Int).toNat rl0).gr.toList||!eqE (rdE Zb) (rdE Zc)))=true)→ZK 22 [Ze,Zf] (db (eqE (rdE Ze) (rdE Zf)))))∧((Za=true)→(((db false):DV)=Zg))∧((Za=false)→(((Zd=true)→(((db false):DV)=Zg))∧((Zd=false)→((I64 (↑k+1))∧(ZA (stS ZT [0,1,1]))))))))∧(((decide ((↑k:Int)<↑R.length))=false)→ZW [cd Tryz.f18 [1,1,1]] (stS ZT [1]) ZQ))) ((R.getD (↑k:Int).toNat rl0).kind != (Q.getD (↑k:Int).toNat rl0).kind||!(R.getD (↑k:Int).toNat rl0).nm.toList==(Q.getD (↑k:Int).toNat rl0).nm.toList||!(R.getD (↑k:Int).toNat rl0).gr.toList==(Q.getD (↑k:Int).toNat rl0).gr.toList||!eqE (rdE (ndX (R.getD (↑k:Int).toNat rl0).ma (R.getD (↑k:Int).toNat rl0).am)) (rdE (ndX (Q.getD (↑k:Int).toNat rl0).ma (Q.getD (↑k:Int).toNat rl0).am))||!eqE (rdE (ndX (R.getD (↑k:Int).toNat rl0).mw (R.getD (↑k:Int).toNat rl0).wh)) (rdE (ndX (Q.getD (↑k:Int).toNat rl0).mw (Q.getD (↑k:Int).toNat rl0).wh))) (ndX (R.getD (↑k:Int).toNat rl0).ma (R.getD (↑k:Int).toNat rl0).am) (ndX (Q.getD (↑k:Int).toNat rl0).ma (Q.getD (↑k:Int).toNat rl0).am) (false&&((R.getD (↑k:Int).toNat rl0).pos != (Q.getD (↑k:Int).toNat rl0).pos||!false||!false)) (ndX (R.getD (↑k:Int).toNat rl0).mw (R.getD (↑k:Int).toNat rl0).wh) (ndX (Q.getD (↑k:Int).toNat rl0).mw (Q.getD (↑k:Int).toNat rl0).wh) (db ((List.range R.length).all fun i=>sm1 (R.getD i rl0) (Q.getD i rl0)))) (by kernel_rfl) ?_
   try dsimp only
   simp only[Int.toNat_natCast]
   refine⟨fun h1=>?_,fun h1=>?_⟩
   ·have hk2:k<R.length:=by have:=of_decide_eq_true h1;omega
    have hk3:k<Q.length:=by omega
    have hs:=hR k hk2
    have hs2:=hQ k hk3
    have e1:rdE (ndX (R.getD k rl0).ma (R.getD k rl0).am)=(R.getD k rl0).am:=rdE_eq hs.ha
    have e2:rdE (ndX (R.getD k rl0).mw (R.getD k rl0).wh)=(R.getD k rl0).wh:=rdE_eq hs.hw
    have e3:rdE (ndX (Q.getD k rl0).ma (Q.getD k rl0).am)=(Q.getD k rl0).am:=rdE_eq hs2.ha
    have e4:rdE (ndX (Q.getD k rl0).mw (Q.getD k rl0).wh)=(Q.getD k rl0).wh:=rdE_eq hs2.hw
    simp only[e1,e2,e3,e4]
    have hn:((R.getD k rl0).kind != (Q.getD k rl0).kind||!(R.getD k rl0).nm.toList==(Q.getD k rl0).nm.toList||!(R.getD k rl0).gr.toList==(Q.getD k rl0).gr.toList||!eqE (R.getD k rl0).am (Q.getD k rl0).am||!eqE (R.getD k rl0).wh (Q.getD k rl0).wh) = !sm1 (R.getD k rl0) (Q.getD k rl0):=by
     rw[toList_beq,toList_beq,bne,show ((R.getD k rl0).kind==(Q.getD k rl0).kind)=decide ((R.getD k rl0).kind=(Q.getD k rl0).kind) from rfl]
     unfold sm1
     cases decide ((R.getD k rl0).kind=(Q.getD k rl0).kind)<;>cases decide ((R.getD k rl0).nm=(Q.getD k rl0).nm)<;>cases decide ((R.getD k rl0).gr=(Q.getD k rl0).gr)<;>cases eqE (R.getD k rl0).am (Q.getD k rl0).am<;>rfl
    rw[hn]
    refine⟨⟨⟨by omega,by omega⟩,by omega,by omega⟩,⟨fun _=>f22 _ _ _ _ hs.ha hs2.ha hs.am hs2.am,fun _=>f22 _ _ _ _ hs.hw hs2.hw hs.wh hs2.wh⟩,fun h2=>?_,fun h2=>⟨fun c=>(by rw[Bool.false_and] at c;cases c),fun _=>⟨⟨by omega,by omega⟩,Again.mk (k+1) ?_ ⟨hk2,fun i hi=>?_⟩ (by omega)⟩⟩⟩
    ·have h2:sm1 (R.getD k rl0) (Q.getD k rl0)=false:=by simpa using h2
     refine congrArg db ?_
     symm
     rw[List.all_eq_false]
     exact⟨k,List.mem_range.2 hk2,by rw[h2];decide⟩
    ·exact AS.leA (by kernel_rfl)
    ·rcases Nat.lt_or_ge i k with h3|h3
     ·exact hkd i h3
     ·obtain rfl:i=k:=by omega
      simpa using h2
   ·simp only[decide_eq_false_iff_not] at h1
    refine walkK (orc:=orcSm) (keep:=[]) (cuts:=[]) (n:=1000) follows ?_
    refine of_tr (fun _ _ _ _=>(((db true):DV)=(db ((List.range R.length).all fun i=>sm1 (R.getD i rl0) (Q.getD i rl0))))) (by kernel_rfl) ?_
    refine congrArg db ?_
    symm
    rw[List.all_eq_true]
    intro i hi
    exact hkd i (by have:=List.mem_range.1 hi;omega)
end Go.Proofs
/- The words of written rules. -/
set_option maxRecDepth 100000
namespace Go.Proofs
open Go Go.Ab
theorem lex_semi {l:List UInt8} {T:List ByteArray} (h:Lex l T):Lex (59 :: 10 :: l) (semiS :: T):=lex_s (w:=[59]) (by decide) (by decide) (Lex.blank blank_nl h)
theorem lex_rule {x:Rl} (hx:ruB x=true) {l:List UInt8} {T:List ByteArray} (h:Lex l T):Lex ((lnB x).data.toList++l) (tkR x++T):=by
 unfold ruB at hx
 simp only[bAt,Bool.or_eq_true,decide_eq_true_eq] at hx
 obtain ⟨⟨⟨⟨⟨⟨hk0,hk4⟩,hnm⟩,hgr⟩,_⟩,ham⟩,hwh⟩:=hx
 have hA:=lex_fmt _ x.am (Nat.le_refl _) ham
 have hkd:idW (kdL.getD x.kind.toNat .empty).data.toList=true:=by
  have:x.kind.toNat=0∨x.kind.toNat=1∨x.kind.toNat=2∨x.kind.toNat=3:=by omega
  rcases this with e|e|e|e<;>rw[e]<;>decide +kernel
 have h0:=lex_semi h
 -- behind the amount
 have hC:Lex ((if x.wh.k=0 then (.empty:ByteArray) else ⟨#[32,105,102,32]⟩++fmtE x.wh).data.toList++(59 :: 10 :: l)) ((if x.wh.k=0 then [] else ifS :: tkE x.wh)++semiS :: T)∧hdE ((if x.wh.k=0 then (.empty:ByteArray) else ⟨#[32,105,102,32]⟩++fmtE x.wh).data.toList++(59 :: 10 :: l)):=by
  by_cases hw0:x.wh.k=0
  ·rw[if_pos hw0,if_pos hw0]
   exact⟨h0,hdE_cons _ (by simp)⟩
  ·rw[if_neg hw0,if_neg hw0]
   have hw:sndE x.wh=true:=hwh.resolve_left fun h=>by
    unfold nonB at h
    simp only[bAt,beq_iff_eq] at h
    exact hw0 h.1.1.1
   rw[app_toList,List.append_assoc]
   refine⟨?_,hdE_cons _ (by simp)⟩
   have h1:Lex (32 :: ((fmtE x.wh).data.toList++(59 :: 10 :: l))) (tkE x.wh++semiS :: T):=Lex.blank blank_sp (lex_fmt _ x.wh (Nat.le_refl _) hw _ _ (hdE_cons _ (by simp)) h0)
   have h2:Lex (32 :: 105 :: 102 :: 32 :: ((fmtE x.wh).data.toList++(59 :: 10 :: l))) (ifS :: (tkE x.wh++semiS :: T)):=
    Lex.blank blank_sp (Lex.word (w:=[105,102]) (wordAt_id (by decide +kernel) (hd_id (by decide))) h1)
   exact h2
 -- behind the group
 obtain ⟨C,hCe⟩:∃C,C=(if x.wh.k=0 then (.empty:ByteArray) else ⟨#[32,105,102,32]⟩++fmtE x.wh).data.toList++(59 :: 10 :: l):=⟨_,rfl⟩
 rw[←hCe] at hC
 have hG:Lex (58 :: 32 :: ((fmtE x.am).data.toList++C)) (colonS :: (tkE x.am++((if x.wh.k=0 then [] else ifS :: tkE x.wh)++semiS :: T))):=lex_s (w:=[58]) (by decide) (by decide) (Lex.blank blank_sp (hA _ _ hC.2 hC.1))
 have hN:Lex (x.nm.data.toList++((if x.gr.size=0 then (.empty:ByteArray) else ⟨#[32,105,110,32]⟩++x.gr).data.toList++(58 :: 32 :: ((fmtE x.am).data.toList++C)))) (x.nm :: ((if x.gr.size=0 then [] else [inS,x.gr])++(colonS :: (tkE x.am++((if x.wh.k=0 then [] else ifS :: tkE x.wh)++semiS :: T))))):=by
  by_cases hg:x.gr.size=0
  ·rw[if_pos hg,if_pos hg]
   have:=Lex.word (w:=x.nm.data.toList) (wordAt_id (name_id hnm) (hd_id (by decide))) hG
   rw[toList_bsL] at this
   exact this
  ·rw[if_neg hg,if_neg hg,app_toList,List.append_assoc]
   have h1:=Lex.word (w:=x.gr.data.toList) (wordAt_id (name_id (hgr.resolve_left hg)) (hd_id (by decide))) hG
   rw[toList_bsL] at h1
   have h1':Lex (32 :: (x.gr.data.toList++(58 :: 32 :: ((fmtE x.am).data.toList++C)))) (x.gr :: (colonS :: (tkE x.am++((if x.wh.k=0 then [] else ifS :: tkE x.wh)++semiS :: T)))):=Lex.blank blank_sp h1
   have h2:Lex (32 :: 105 :: 110 :: 32 :: (x.gr.data.toList++(58 :: 32 :: ((fmtE x.am).data.toList++C)))) (inS :: x.gr :: (colonS :: (tkE x.am++((if x.wh.k=0 then [] else ifS :: tkE x.wh)++semiS :: T)))):=
    Lex.blank blank_sp (Lex.word (w:=[105,110]) (wordAt_id (by decide +kernel) (hd_id (by decide))) h1')
   have h3:=Lex.word (w:=x.nm.data.toList) (wordAt_id (name_id hnm) (hd_id (by decide))) h2
   rw[toList_bsL] at h3
   exact h3
 have hN':Lex (32 :: (x.nm.data.toList++((if x.gr.size=0 then (.empty:ByteArray) else ⟨#[32,105,110,32]⟩++x.gr).data.toList++(58 :: 32 :: ((fmtE x.am).data.toList++C))))) (x.nm :: ((if x.gr.size=0 then [] else [inS,x.gr])++(colonS :: (tkE x.am++((if x.wh.k=0 then [] else ifS :: tkE x.wh)++semiS :: T))))):=Lex.blank blank_sp hN
 have hK:=Lex.word (w:=(kdL.getD x.kind.toNat .empty).data.toList) (wordAt_id hkd (hd_id (by decide))) hN'
 rw[toList_bsL] at hK
 have e1:(lnB x).data.toList++l=(kdL.getD x.kind.toNat .empty).data.toList++32 :: (x.nm.data.toList++((if x.gr.size=0 then (.empty:ByteArray) else ⟨#[32,105,110,32]⟩++x.gr).data.toList++(58 :: 32 :: ((fmtE x.am).data.toList++C)))):=by
  rw[hCe]
  unfold lnB
  simp only[app_toList,List.append_assoc]
  rfl
 have e2:tkR x++T=kdL.getD x.kind.toNat .empty :: (x.nm :: ((if x.gr.size=0 then [] else [inS,x.gr])++(colonS :: (tkE x.am++((if x.wh.k=0 then [] else ifS :: tkE x.wh)++semiS :: T))))):=by
  unfold tkR
  simp only[List.cons_append,List.append_assoc,List.nil_append]
 rw[e1,e2]
 exact hK
end Go.Proofs
/- What depends on no offset;written rules are read again. -/
namespace Go.Proofs
open Go Go.Ab
theorem noA_k (x:Ex):(noA x).k=x.k:=by rw[noA_eq];rfl
theorem noAL_len:∀l:List Ex,(noAL l).length=l.length
 | []=>rfl
 | x :: l=>by simp only[noAL,List.length_cons,noAL_len l]
mutual
theorem ht_noA:∀x:Ex,ht (noA x)=ht x
 | .mk k s n d a l=>by simp only[noA,ht,htL_noA l]
theorem htL_noA:∀l:List Ex,htL (noAL l)=htL l
 | []=>by simp only[noAL]
 | x :: l=>by simp only[noAL,htL,ht_noA x,htL_noA l]
end
mutual
theorem nds_noA:∀x:Ex,nds (noA x)=nds x
 | .mk k s n d a l=>by simp only[noA,nds,ndsL_noA l]
theorem ndsL_noA:∀l:List Ex,ndsL (noAL l)=ndsL l
 | []=>by simp only[noAL]
 | x :: l=>by simp only[noAL,ndsL,nds_noA x,ndsL_noA l]
end
mutual
theorem tx_noA:∀x:Ex,txE (noA x)↔txE x
 | .mk k s n d a l=>by simp only[noA,txE,txL_noA l]
theorem txL_noA:∀l:List Ex,txL (noAL l)↔txL l
 | []=>by simp only[noAL]
 | x :: l=>by simp only[noAL,txL,tx_noA x,txL_noA l]
end
mutual
theorem fmt_noA:∀x:Ex,fmtE (noA x)=fmtE x
 | .mk k s n d a l=>by simp only[noA,fmtE,fmtL_noA l]
theorem fmtL_noA:∀l:List Ex,fmtL (noAL l)=fmtL l
 | []=>by simp only[noAL]
 | x :: l=>by simp only[noAL,fmtL,fmt_noA x,fmtL_noA l,noA_k]
end
mutual
theorem snd_noA:∀x:Ex,sndE (noA x)=sndE x
 | .mk k s n d a l=>by simp only[noA,sndE,sndL_noA l,noAL_len]
theorem sndL_noA:∀l:List Ex,sndL (noAL l)=sndL l
 | []=>by simp only[noAL]
 | x :: l=>by simp only[noAL,sndL,snd_noA x,sndL_noA l]
end
mutual
theorem eq_noA:∀x y:Ex,eqE x y=true↔noA x=noA y
 | .mk k s n d a l,.mk k' s' n' d' a' l'=>by
  simp only[eqE,noA,bAt,decide_eq_true_eq,Ex.mk.injEq,true_and]
  constructor
  ·rintro ⟨⟨⟨⟨rfl,rfl⟩,rfl,rfl⟩,h1⟩,h2⟩
   exact⟨rfl,rfl,rfl,rfl,(eqL_noA l l' h1).1 h2⟩
  ·rintro ⟨rfl,rfl,rfl,rfl,h⟩
   have h1:l.length=l'.length:=by rw[←noAL_len l,←noAL_len l',h]
   exact⟨⟨⟨⟨rfl,rfl⟩,rfl,rfl⟩,h1⟩,(eqL_noA l l' h1).2 h⟩
theorem eqL_noA:∀l l':List Ex,l.length=l'.length→(eqL l l'=true↔noAL l=noAL l')
 | [],[],_=>by simp[eqL,noAL]
 | [],_ :: _,h=>by simp at h
 | _ :: _,[],h=>by simp at h
 | x :: l,y :: l',h=>by
  simp only[eqL,noAL,bAt,List.cons.injEq,eq_noA x y,eqL_noA l l' (by simpa using h)]
end
theorem same_k {x y:Ex} (h:noA x=noA y):x.k=y.k:=by rw[←noA_k x,h,noA_k]
theorem sm_same {x y:Ex} (h:noA x=noA y) (hy:Sm y):Sm x:=
 ⟨by rw[←nds_noA,h,nds_noA];exact hy.nd,(tx_noA x).1 (h▸(tx_noA y).2 hy.tx)⟩
theorem ln_same {x y:Rl} (h:sameR x y):lnB x=lnB y:=by
 obtain ⟨h1,h2,h3,h4,h5⟩:=h
 unfold lnB
 rw[h1,h2,h3,same_k h5,←fmt_noA x.am,h4,fmt_noA,←fmt_noA x.wh,h5,fmt_noA]
theorem ht_same {x y:Ex} (h:noA x=noA y):ht x=ht y:=by rw[←ht_noA x,h,ht_noA]
theorem SameL.len {l m:List Rl} (h:SameL l m):l.length=m.length:=by
 induction h with
 | nil=>rfl
 | cons h hl ih=>simp only[List.length_cons,ih]
theorem SameL.at {l m:List Rl} (h:SameL l m):∀i,i<l.length→sameR (l.getD i rl0) (m.getD i rl0):=by
 induction h with
 | nil=>intro i hi;exact absurd hi (Nat.not_lt_zero _)
 | cons h hl ih=>
  intro i hi
  cases i with
  | zero=>exact h
  | succ i=>exact ih i (by simpa using hi)
theorem cat_same {l m:List Rl} (h:SameL l m):∀k,k≤l.length→catB l k=catB m k
 | 0,_=>rfl
 | k+1,hk=>by
  simp only[catB]
  rw[cat_same h k (by omega),ln_same (h.at k (by omega))]
theorem non_same {x y:Ex} (h:noA x=noA y):nonB x=nonB y:=by
 have e:=h
 rw[noA_eq,noA_eq y] at e
 injection e with h1 h2 h3 h4 _ h6
 have hl:x.kids.length=y.kids.length:=by rw[←noAL_len,h6,noAL_len]
 unfold nonB
 rw[h1,h2,h3,h4,hl]
theorem ru_same {x y:Rl} (h:sameR x y):ruB x=ruB y:=by
 have h0:=h
 obtain ⟨h1,h2,h3,h4,h5⟩:=h
 unfold ruB
 rw[h1,h2,h3,ht_same h4,ht_same h5,←snd_noA x.am,h4,snd_noA,←snd_noA x.wh,h5,snd_noA,non_same h5]
theorem any_same {l m:List Rl} (h:SameL l m):(l.any fun r=>!ruB r)=(m.any fun r=>!ruB r):=by
 induction h with
 | nil=>rfl
 | cons h hl ih=>simp only[List.any_cons,ih,ru_same h]
theorem fmt_same {l m:List Rl} (h:SameL l m):fmtR l=fmtR m:=by
 unfold fmtR
 rw[h.len,any_same h,←h.len,cat_same h _ (Nat.le_refl _)]
end Go.Proofs
/- Texts of several rules. -/
namespace Go.Proofs
open Go Go.Ab
theorem cat_list (R:List Rl):∀k,k≤R.length→(catB R k).data.toList=((R.take k).map fun r=>(lnB r).data.toList).flatten
 | 0,_=>rfl
 | k+1,h=>by
  have hk:k<R.length:=by omega
  simp only[catB]
  rw[app_toList,cat_list R k (by omega),List.take_succ_eq_append_getElem hk,List.map_append,List.flatten_append,List.getD,gEe hk]
  simp
theorem cat_all (R:List Rl):(catB R R.length).data.toList=(R.map fun r=>(lnB r).data.toList).flatten:=by rw[cat_list R _ (Nat.le_refl _),List.take_length]
theorem lex_all:∀(l:List Rl),(∀x∈l,ruB x=true)→∀(e:List UInt8) (T:List ByteArray),Lex e T→Lex ((l.map fun r=>(lnB r).data.toList).flatten++e) (tkRs l++T)
 | [],_,e,T,h=>by simpa [tkRs] using h
 | x :: l,hx,e,T,h=>by
  have:=lex_rule (hx x (by simp)) (lex_all l (fun y hy=>hx y (List.mem_cons_of_mem _ hy)) e T h)
  simpa [tkRs,List.append_assoc] using this
theorem lex_nil:Lex [] []:=.nil rfl
theorem wrd_of_lex {s:ByteArray} {T:List ByteArray} (h:Lex s.data.toList T) (hs:s.size≤16384):∃ts,wrdL s=(ts,0,0)∧ts.map (·.1)=T:=by
 obtain ⟨ts,h1,h2⟩:=h.toks (s.size+1) 0 (by rw[Array.length_toList];exact Nat.lt_succ_self _)
 refine⟨ts,?_,h2⟩
 unfold wrdL
 rw[if_neg (by omega),h1]
def RuM (R:Rr):Prop:=∀x r,R=.ok x r→ht x.am≤x.ma∧ht x.wh≤x.mw
theorem ruD_m {kd:Int} {nm gr:ByteArray} {pos:Int} {am wh:Ex} {t:List Tk}:RuM (ruD kd nm gr pos am wh t):=by
 intro x r e
 unfold ruD at e
 split at e
 ·injection e with e _
  subst e
  exact⟨Nat.le_refl _,Nat.le_refl _⟩
 ·cases e
theorem ruP_m (t:List Tk):RuM (ruP t):=by
 have hG:∀(kd:Int) (nm gr:ByteArray) (pos:Int) (t:List Tk),RuM (ruG kd nm gr pos t):=by
  intro kd nm gr pos t
  unfold ruG
  split
  ·cases e:pr (.lvl 0) t.tail with
   | ok am r=>
    try dsimp only
    unfold ruC
    split
    ·cases e:pr (.lvl 0) r.tail with
     | ok wh r=>exact ruD_m
     | bad r=>intro x q e;cases e
    ·exact ruD_m
   | bad r=>intro x q e;cases e
  ·intro x q e;cases e
 unfold ruP
 split
 ·split
  ·unfold ruN
   split
   ·split
    ·exact hG _ _ _ _ _
    ·intro x q e;cases e
   ·exact hG _ _ _ _ _
  ·intro x q e;cases e
 ·intro x q e;cases e
theorem prR_m:∀(n:Nat) (t:List Tk) (R:List Rl),t.length≤n→prR t=.ok R→∀r∈R,ht r.am≤r.ma∧ht r.wh≤r.mw
 | 0,t,R,hn,h=>by
  have:t=[]:=List.eq_nil_of_length_eq_zero (by omega)
  subst this
  injection h with h;subst h
  intro r hr;cases hr
 | n+1,t,R,hn,h=>by
  by_cases hne:t=[]
  ·subst hne;injection h with h;subst h
   intro r hr;cases hr
  ·cases e:ruP t with
   | ok x q=>
    rw[prR_ok e] at h
    have hlt:=ruP_lt e
    cases e2:prR q with
    | ok l=>
     rw[e2] at h
     injection h with h
     subst h
     intro r hr
     rcases List.mem_cons.1 hr with rfl|hr
     ·exact ruP_m t _ _ e
     ·exact prR_m n q l (by omega) e2 r hr
    | bad r2=>rw[e2] at h;cases h
   | bad q=>rw[prR_bad hne e] at h;cases h
theorem SameL.mem {l m:List Rl} (h:SameL l m):∀r∈l,∃q∈m,sameR r q:=by
 induction h with
 | nil=>intro r hr;cases hr
 | cons h hl ih=>
  intro r hr
  rcases List.mem_cons.1 hr with rfl|hr
  ·exact⟨_,by simp,h⟩
  ·obtain ⟨q,h1,h2⟩:=ih r hr
   exact⟨q,List.mem_cons_of_mem _ h1,h2⟩
theorem rls_same {x y:Rl} (h:sameR x y) (hm:ht x.am≤x.ma∧ht x.wh≤x.mw) (hy:RlS y):RlS x:=by
 obtain ⟨h1,h2,h3,h4,h5⟩:=h
 exact⟨by rw[h2];exact hy.nm,by rw[h3];exact hy.gr,hm.1,sm_same h4 hy.am,hm.2,sm_same h5 hy.wh⟩
theorem ru_deep {r:Rl} (h:ruB r=true):deepR r=false:=by
 unfold ruB at h
 unfold deepR
 simp only[bAt,decide_eq_true_eq] at h
 rw[decide_eq_true (by omega),decide_eq_true (by omega)];rfl
theorem par_words {s:ByteArray} {R:List Rl} (hL:Lex s.data.toList (tkRs R)) (hs:s.size≤16384) (hu:∀x∈R,ruB x=true) (hR:∀x∈R,RlS x) :
  ∃Q,prsP s=(Q,0,0)∧SameL Q R∧(∀x∈Q,RlS x)∧(∀x∈Q,ruB x=true):=by
 obtain ⟨ts,h1,h2⟩:=wrd_of_lex hL hs
 obtain ⟨Q,h3,h4⟩:=prR_reads R ts hu h2
 refine⟨Q,?_,h4,fun x hx=>?_,fun x hx=>?_⟩
 ·unfold prsP
  rw[h1,if_neg (by simp)]
  simp only[h3]
 ·obtain ⟨q,hq,hsm⟩:=h4.mem x hx
  exact rls_same hsm (prR_m _ ts Q (Nat.le_refl _) h3 x hx) (hR q hq)
 ·obtain ⟨q,hq,hsm⟩:=h4.mem x hx
  rw[ru_same hsm];exact hu q hq
theorem par_ok {s:ByteArray} {Q:List Rl} (h:prsP s=(Q,0,0)) (hl:Q.length≤32) (hu:∀x∈Q,ruB x=true):parP s=(Q,0,0):=by
 unfold parP
 rw[h,if_neg (by simp)]
 have h1:Q.any deepR=false:=by
  rw[List.any_eq_false]
  intro x hx
  rw[ru_deep (hu x hx)];decide
 have:bigR Q=false:=by
  unfold bigR
  rw[h1,decide_eq_false (by omega)];rfl
 rw[if_neg (by rw[this];decide)]
theorem fmtR_va {R:List Rl} (h:vaR R=true) (h0:R.length≠0):R.length≤32∧(∀x∈R,ruB x=true)∧(catB R R.length).size≤16384∧fmtR R=catB R R.length:=by
 unfold vaR at h
 rw[decide_eq_false h0,Bool.false_or,Bool.not_eq_true',decide_eq_false_iff_not] at h
 unfold fmtR at h⊢
 split at h
 ·exact absurd rfl h
 rename_i h1
 split at h
 ·exact absurd rfl h
 rename_i h2
 split at h
 ·exact absurd rfl h
 rename_i h3
 rw[if_neg h1,if_neg h2,if_neg h3]
 refine⟨by omega,fun x hx=>?_,by omega,rfl⟩
 have:=List.any_eq_false.1 (Bool.eq_false_iff.2 h2) x hx
 simpa using this
end Go.Proofs
/- Returns. -/
namespace Go.Proofs
open Go Go.Ab Go.RowKit
set_option maxHeartbeats 4000000
set_option maxRecDepth 100000
variable {G:IH}
theorem sm_of_same {l m:List Rl} (h:SameL l m):smR l m=true:=by
 unfold smR
 rw[decide_eq_true h.len,Bool.true_and,List.all_eq_true]
 intro i hi
 obtain ⟨h1,h2,h3,h4,h5⟩:=h.at i (List.mem_range.1 hi)
 unfold sm1
 rw[decide_eq_true h1,decide_eq_true h2,decide_eq_true h3,(eq_noA _ _).2 h4,(eq_noA _ _).2 h5];rfl
end Go.Proofs
/- What is read from a short text is valid: its text is not long. -/
namespace Go.Proofs
open Go Go.Ab
theorem num16 {n d:Int} (h:numB n d=true):(numT n d).size≤16:=by
 obtain ⟨D,T,hD,hT,hD1,h9,h6,he⟩:=(num_look h).dec
 have hl:(numT n d).size=(numT n d).data.toList.length:=(Array.length_toList).symm
 rw[hl,he]
 split<;>simp<;>omega
theorem fmtK_20 (k:Int) (s:ByteArray) (n d:Int) (fl:List (Int×ByteArray)) (hs:s.size≤16) (hn:k=1→(numT n d).size≤16):(fmtK k s n d fl).size≤16+totL fl:=by
 have t1:=tot_get fl
 have t0:=tot_get0 fl
 have j:=joinS_size fl
 have o:=opS_size k
 have w1:=wth_size 6 (g0 fl 0)
 have w2:=wth_size 2 (g0 fl 0)
 have w3:=wth_size (fstL k) (g0 fl 0)
 have w4:=wth_size (lvI k+1) (g0 fl 1)
 unfold fmtK
 repeat' split
 all_goals (try simp only[ByteArray.size_append])
 ·rename_i hk;have:=hn hk;omega
 ·omega
 ·show 4≤_;omega
 ·show 5≤_;omega
 ·show 1+_≤_;omega
 ·show 4+_≤_;omega
 ·show 4+_+1≤_;omega
 ·show 4+_+1≤_;omega
 ·show _+1+_+1+_≤_;omega
theorem tot20:∀{l:List Ex},(∀i,i<l.length→(fmtE (l.getD i ex0)).size+4≤20*nds (l.getD i ex0))→totL (fmtL l)≤20*ndsL l
 | [],_=>by simp[fmtL,totL]
 | x :: l,h=>by
  have h1:=h 0 (by simp)
  have h2:=tot20 fun i hi=>by simpa using h (i+1) (by simpa using hi)
  have h1:(fmtE x).size+4≤20*nds x:=h1
  simp only[fmtL,ndsL]
  have e:totL ((lvI x.k,fmtE x) :: fmtL l)=(fmtE x).size+4+totL (fmtL l):=by simp[totL]
  omega
theorem fmt20 (n:Nat):∀x:Ex,ht x≤n→sndE x=true→(fmtE x).size+4≤20*nds x:=by
 induction n using Nat.strongRecOn with
 | _ n ih=>
 intro x hx hs
 have h2:=tot20 (l:=x.kids) fun i hi=>by
  have:=ht_kid hi
  exact ih (n-1) (by omega) _ (by omega) (snd_kid hs hi)
 have h1:=fmtK_20 x.k x.s x.n x.d (fmtL x.kids) (snd_size hs) (fun hk=>num16 (snd_num hs hk))
 rw[fmtE_eq,nds_eq]
 omega
def wdR (r:Rl):Nat:=nds r.am+(if r.wh.k=0 then 0 else nds r.wh)
theorem kd_size (i:Nat):(kdL.getD i .empty).size≤7:=by
 match i with
 | 0|1|2|3=>decide
 | i+4=>show (0:Nat)≤7;omega
theorem ln_size {r:Rl} (h:ruB r=true):(lnB r).size≤50+20*wdR r:=by
 obtain ⟨h1,h2⟩:=ru_snd h
 have a1:=fmt20 _ r.am (Nat.le_refl _) h1
 have k:=kd_size r.kind.toNat
 have q:=h
 unfold ruB at q
 simp only[bAt,Bool.or_eq_true,decide_eq_true_eq] at q
 have n1:=(name_size q.1.1.1.1.2).2
 have n2:r.gr.size≤16:=by
  rcases q.1.1.1.2 with e|e
  ·omega
  ·exact(name_size e).2
 unfold lnB wdR
 simp only[ByteArray.size_append]
 by_cases g0:r.gr.size=0<;>by_cases w0:r.wh.k=0
 ·rw[if_pos g0,if_pos w0,if_pos w0]
  show _+1+_+0+(2+_)+0+2≤_;omega
 ·rw[if_pos g0,if_neg w0,if_neg w0]
  have a2:=fmt20 _ r.wh (Nat.le_refl _) (h2 w0)
  simp only[ByteArray.size_append]
  show _+1+_+0+(2+_)+(4+_)+2≤_;omega
 ·rw[if_neg g0,if_pos w0,if_pos w0]
  simp only[ByteArray.size_append]
  show _+1+_+(4+_)+(2+_)+0+2≤_;omega
 ·rw[if_neg g0,if_neg w0,if_neg w0]
  have a2:=fmt20 _ r.wh (Nat.le_refl _) (h2 w0)
  simp only[ByteArray.size_append]
  show _+1+_+(4+_)+(2+_)+(4+_)+2≤_;omega
def wdS:List Rl→Nat
 | []=>0
 | r :: l=>wdR r+wdS l
theorem flat_size:∀R:List Rl,(∀x∈R,ruB x=true)→((R.map fun r=>(lnB r).data.toList).flatten).length≤50*R.length+20*wdS R
 | [],_=>by simp[wdS]
 | x :: l,h=>by
  have h1:=ln_size (h x (by simp))
  have h2:=flat_size l fun y hy=>h y (List.mem_cons_of_mem _ hy)
  have e:(lnB x).data.toList.length=(lnB x).size:=Array.length_toList
  simp only[List.map_cons,List.flatten_cons,List.length_append,List.length_cons,wdS]
  omega
theorem cat_size {R:List Rl} (h:∀x∈R,ruB x=true):(catB R R.length).size≤50*R.length+20*wdS R:=by
 have h1:=flat_size R h
 rw[←cat_all] at h1
 have e:(catB R R.length).data.toList.length=(catB R R.length).size:=Array.length_toList
 omega
end Go.Proofs
/- Parentheses,plain. -/
namespace Go.Proofs
open Go Go.Ab
end Go.Proofs
/- Blanks and comments between words. -/
namespace Go.Proofs
open Go Go.Ab
def tkW (w:ByteArray):Prop:=∀l,hdE l→wordAt w.data.toList l
theorem hdE_eq {l:List UInt8} (h:hdE l):l.head?≠some 61:=by
 intro hc
 unfold hdE at h
 rw[hc] at h
 simp at h
theorem tkW_id {w:ByteArray} (h:idW w.data.toList=true):tkW w:=fun _ hl=>wordAt_id h (hdE_ins hl)
theorem tkW_sym {w:ByteArray} (h:w.data.toList∈symL):tkW w:=fun _ hl=>wordAt_sym h fun _=>hdE_eq hl
theorem mem_wtk {v lv:Int} {T:List ByteArray} {w:ByteArray} (h:w∈wtk v (lv,T)):w=opnS∨w=clsS∨w∈T:=by
 unfold wtk at h
 split at h
 ·simp at h
  rcases h with h|h|h
  ·exact .inl h
  ·exact .inr (.inr h)
  ·exact .inr (.inl h)
 ·exact .inr (.inr h)
theorem mem_sep:∀{L:List (List ByteArray)} {w:ByteArray},w∈sepC L→w=commaS∨∃T∈L,w∈T
 | [],w,h=>by simp[sepC] at h
 | [T],w,h=>.inr ⟨T,by simp,by simpa [sepC] using h⟩
 | T :: U :: L,w,h=>by
  have e:sepC (T :: U :: L)=T++commaS :: sepC (U :: L):=rfl
  rw[e] at h
  rcases List.mem_append.1 h with h|h
  ·exact .inr ⟨T,by simp,h⟩
  ·rcases List.mem_cons.1 h with h|h
   ·exact .inl h
   ·rcases mem_sep h with h|⟨V,hV,hw⟩
    ·exact .inl h
    ·exact .inr ⟨V,List.mem_cons_of_mem _ hV,hw⟩
theorem tkW_opn:tkW opnS:=tkW_sym (by decide)
theorem tkW_cls:tkW clsS:=tkW_sym (by decide)
theorem tkW_comma:tkW commaS:=tkW_sym (by decide)
theorem tkW_w {v lv:Int} {T:List ByteArray} (h:∀w∈T,tkW w):∀w∈wtk v (lv,T),tkW w:=fun w hw=>by
 rcases mem_wtk hw with rfl|rfl|hw
 ·exact tkW_opn
 ·exact tkW_cls
 ·exact h w hw
theorem tkW_op {k:Int} (h:opB k=true):tkW (opS k):=by
 have hk:k=6∨k=7∨k=8∨k=9∨k=12∨k=13∨k=14∨k=15∨k=16∨k=17∨k=19∨k=20:=by
  unfold opB at h;simp only[decide_eq_true_eq] at h;omega
 by_cases h19:k=19∨k=20
 ·refine tkW_id ?_
  rcases h19 with rfl|rfl<;>decide +kernel
 ·refine tkW_sym ?_
  rcases hk with rfl|rfl|rfl|rfl|rfl|rfl|rfl|rfl|rfl|rfl|rfl|rfl<;>first|decide +kernel|omega
theorem tkE_W:∀(m:Nat) (x:Ex),ht x≤m→sndE x=true→∀w∈tkE x,tkW w:=by
 intro m
 induction m with
 | zero=>?_
 | succ m ih=>?_
 all_goals
  intro x hx hsn
  have ih':∀a∈x.kids,sndE a=true→∀w∈tkE a,tkW w:=by
   intro a ha hs
   have:=ht_mem ha
   rw[←ht_eq] at this
   first
    | exact ih a (by omega) hs
    | omega
  clear hx
  rcases snd_cases hsn with ⟨hk,h,hs,hl⟩|⟨hk,h,hn,hd,hl⟩|⟨hk,hs,hn,hd,hl⟩|⟨hk,hs,hn,hd,a,hl,ha⟩|⟨hk,hs,hn,hd,hl,ha⟩|⟨hk,hs,hn,hd,a,b,hl,ha,hb⟩
  ·intro w hw
   rw[show tkE x=[numT x.n x.d] by rw[tkE_eq];simp[tkK,hk]] at hw
   obtain rfl:w=numT x.n x.d:=by simpa using hw
   exact fun l hl=>num_word h hl
  ·intro w hw
   rw[show tkE x=[x.s] by rw[tkE_eq];simp[tkK,hk]] at hw
   obtain rfl:w=x.s:=by simpa using hw
   exact tkW_id (name_id h)
  ·intro w hw
   rcases hk with hk|hk
   ·rw[show tkE x=[trueS] by rw[tkE_eq];simp[tkK,hk]] at hw
    obtain rfl:w=trueS:=by simpa using hw
    exact tkW_id (by decide +kernel)
   ·rw[show tkE x=[falseS] by rw[tkE_eq];simp[tkK,hk]] at hw
    obtain rfl:w=falseS:=by simpa using hw
    exact tkW_id (by decide +kernel)
  ·have hA:=ih' a (by rw[hl];simp) ha
   intro w hw
   rcases hk with hk|hk
   ·rw[show tkE x=minusS :: wtk 6 (lvI a.k,tkE a) by rw[tkE_eq,hl];simp[tkK,hk,tkL,k0]] at hw
    rcases List.mem_cons.1 hw with rfl|hw
    ·exact tkW_sym (by decide)
    ·exact tkW_w hA w hw
   ·rw[show tkE x=notS :: wtk 2 (lvI a.k,tkE a) by rw[tkE_eq,hl];simp[tkK,hk,tkL,k0]] at hw
    rcases List.mem_cons.1 hw with rfl|hw
    ·exact tkW_id (by decide +kernel)
    ·exact tkW_w hA w hw
  ·have hA:∀w∈sepC (x.kids.map tkE),tkW w:=fun w hw=>by
    rcases mem_sep hw with rfl|⟨T,hT,hw⟩
    ·exact tkW_comma
    ·obtain ⟨a,h1,rfl⟩:=List.mem_map.1 hT
     exact ih' a h1 (ha a h1) w hw
   intro w hw
   have key:∀c:ByteArray,tkW c→w∈c :: opnS :: (sepC (x.kids.map tkE)++[clsS])→tkW w:=fun c hc hw=>by
    simp only[List.mem_cons,List.mem_append,List.not_mem_nil,or_false] at hw
    rcases hw with rfl|rfl|hw|rfl
    ·exact hc
    ·exact tkW_opn
    ·exact hA w hw
    ·exact tkW_cls
   rcases hk with hk|hk
   ·rw[show tkE x=minS :: opnS :: (sepC (x.kids.map tkE)++[clsS]) by rw[tkE_eq,←tkL_two];simp[tkK,hk]] at hw
    exact key minS (tkW_id (by decide +kernel)) hw
   ·rw[show tkE x=maxS :: opnS :: (sepC (x.kids.map tkE)++[clsS]) by rw[tkE_eq,←tkL_two];simp[tkK,hk]] at hw
    exact key maxS (tkW_id (by decide +kernel)) hw
  ·have hA:=ih' a (by rw[hl];simp) ha
   have hB:=ih' b (by rw[hl];simp) hb
   obtain ⟨n,F⟩:=op_facts hk
   intro w hw
   rw[show tkE x=wtk (fstL x.k) (lvI a.k,tkE a)++opS x.k :: wtk (lvI x.k+1) (lvI b.k,tkE b) by
    rw[tkE_eq,hl]
    obtain ⟨h1,h2,h3,h4,h5,h6,h7,h8⟩:=F.no
    simp[tkK,h1,h2,h3,h4,h5,h6,h7,h8,tkL,k0]] at hw
   rcases List.mem_append.1 hw with hw|hw
   ·exact tkW_w hA w hw
   rcases List.mem_cons.1 hw with rfl|hw
   ·exact tkW_op hk
   ·exact tkW_w hB w hw
theorem kd_id (i:Nat) (h:i<4):idW (kdL.getD i .empty).data.toList=true:=by
 match i,h with
 | 0,_|1,_|2,_|3,_=>decide +kernel
theorem tkR_W {r:Rl} (h:ruB r=true):∀w∈tkR r,tkW w:=by
 obtain ⟨h1,h2⟩:=ru_snd h
 have q:=h
 unfold ruB at q
 simp only[bAt,Bool.or_eq_true,decide_eq_true_eq] at q
 intro w hw
 unfold tkR at hw
 simp only[List.mem_cons,List.mem_append,List.not_mem_nil,or_false] at hw
 rcases hw with rfl|rfl|hw|rfl|hw|hw|rfl
 ·exact tkW_id (kd_id _ (by omega))
 ·exact tkW_id (name_id q.1.1.1.1.2)
 ·split at hw
  ·cases hw
  ·rename_i hg
   simp only[List.mem_cons,List.not_mem_nil,or_false] at hw
   rcases hw with rfl|rfl
   ·exact tkW_id (by decide +kernel)
   ·exact tkW_id (name_id (q.1.1.1.2.resolve_left hg))
 ·exact tkW_sym (by decide)
 ·exact tkE_W _ _ (Nat.le_refl _) h1 w hw
 ·split at hw
  ·cases hw
  ·rename_i hk
   rcases List.mem_cons.1 hw with rfl|hw
   ·exact tkW_id (by decide +kernel)
   ·exact tkE_W _ _ (Nat.le_refl _) (h2 hk) w hw
 ·exact tkW_sym (by decide)
theorem tkRs_W {R:List Rl} (h:∀x∈R,ruB x=true):∀w∈tkRs R,tkW w:=by
 intro w hw
 unfold tkRs at hw
 obtain ⟨T,hT,hw⟩:=List.mem_flatten.1 hw
 obtain ⟨r,hr,rfl⟩:=List.mem_map.1 hT
 exact tkR_W (h r hr) w hw
def blB:List ByteArray:=[⟨#[32]⟩,⟨#[10]⟩,⟨#[9,13]⟩,⟨#[32,35,32,112,111,105,110,116,115,32,120,32,58,32,59,10]⟩,⟨#[35,10,10]⟩]
theorem bl_blank {k:Nat} (h:k<5):blankC (blB.getD k .empty).data.toList∧∀l,hdE ((blB.getD k .empty).data.toList++l):=by
 match k,h with
 | 0,_=>exact⟨fun l=>by simp[blB,spF,whU],fun l=>by simp[blB,hdE]⟩
 | 1,_=>exact⟨fun l=>by simp[blB,spF,whU],fun l=>by simp[blB,hdE]⟩
 | 2,_=>exact⟨fun l=>by simp[blB,spF,whU];omega,fun l=>by simp[blB,hdE]⟩
 | 3,_=>exact⟨fun l=>by simp[blB,spF,whU];omega,fun l=>by simp[blB,hdE]⟩
 | 4,_=>exact⟨fun l=>by simp[blB,spF,whU];omega,fun l=>by simp[blB,hdE]⟩
def spcL (K:Nat→Nat):Nat→List ByteArray→List UInt8
 | _,[]=>[]
 | i,w :: T=>(blB.getD (K i) .empty).data.toList++(w.data.toList++spcL K (i+1) T)
def endS:ByteArray:=⟨#[35,32,101,110,100]⟩
theorem lex_spc {K:Nat→Nat} (hK:∀i,K i<5):∀(T:List ByteArray) (i:Nat),(∀w∈T,tkW w)→Lex (spcL K i T++endS.data.toList) T∧hdE (spcL K i T++endS.data.toList)
 | [],i,_=>⟨.nil rfl,by simp[spcL,hdE,endS]⟩
 | w :: T,i,h=>by
  obtain ⟨h1,h2⟩:=lex_spc hK T (i+1) fun v hv=>h v (List.mem_cons_of_mem _ hv)
  obtain ⟨b1,b2⟩:=bl_blank (hK i)
  have e:spcL K i (w :: T)++endS.data.toList=(blB.getD (K i) .empty).data.toList++(w.data.toList++(spcL K (i+1) T++endS.data.toList)):=by simp[spcL]
  rw[e]
  have hw:=Lex.word (h w (by simp) _ h2) h1
  rw[toList_bsL] at hw
  exact⟨Lex.blank b1 hw,b2 _⟩
def spcB (K:Nat→Nat) (T:List Tk):Nat→ByteArray
 | 0=>.empty
 | i+1=>spcB K T i++(blB.getD (K i) .empty++(T.getD i (.empty,0)).1)
theorem spc_list (K:Nat→Nat) (T:List Tk):∀i,i≤T.length→(spcB K T i).data.toList++spcL K i ((T.drop i).map (·.1))=spcL K 0 (T.map (·.1))
 | 0,_=>by simp[spcB]
 | i+1,h=>by
  rw[←spc_list K T i (by omega)]
  obtain ⟨w,U,e⟩:∃w U,T.drop i=w :: U:=by
   cases e:T.drop i with
   | nil=>have:=congrArg List.length e;rw[List.length_drop] at this;simp at this;omega
   | cons w U=>exact⟨w,U,rfl⟩
  have e2:T.drop (i+1)=U:=by rw[←List.tail_drop,e];rfl
  have e3:T.getD i (.empty,0)=w:=by
   have:(T.drop i)[0]?=some w:=by rw[e];rfl
   rw[List.getElem?_drop] at this
   rw[List.getD,show i=i+0 from rfl,this];rfl
  rw[e2,e]
  simp only[spcB,e3,List.map_cons,spcL,app_toList,List.append_assoc]
theorem bl_size (k:Nat):(blB.getD k .empty).size≤16:=by
 match k with
 | 0|1|2|3|4=>decide
 | k+5=>show (0:Nat)≤16;omega
theorem spc_size (K:Nat→Nat) {T:List Tk} {n:Nat} (h:∀w∈T,w.1.size≤n):∀i,i≤T.length→(spcB K T i).size≤(16+n)*i
 | 0,_=>Nat.zero_le _
 | i+1,hi=>by
  have h1:=spc_size K h i (by omega)
  have h2:=bl_size (K i)
  have h3:((T.getD i (.empty,0)).1).size≤n:=by
   rw[List.getD,gEe (by omega)]
   exact h _ (List.getElem_mem _)
  simp only[spcB,ByteArray.size_append]
  rw[Nat.mul_succ];omega
theorem va_words {R:List Rl} (h:vaR R=true):(∀x∈R,ruB x=true)∧R.length≤32∧fmtR R=catB R R.length∧∃ts,wrdL (fmtR R)=(ts,0,0)∧ts.map (·.1)=tkRs R:=by
 by_cases h0:R.length=0
 ·obtain rfl:=List.eq_nil_of_length_eq_zero h0
  obtain ⟨ts,h1,h2⟩:=wrd_of_lex (s:=.empty) lex_nil (by decide)
  exact⟨fun x hx=>(by cases hx),by decide,rfl,ts,h1,h2⟩
 ·obtain ⟨h1,h2,h3,h4⟩:=fmtR_va h h0
  have hL:=lex_all R h2 [] [] lex_nil
  rw[List.append_nil,List.append_nil,←cat_all] at hL
  obtain ⟨ts,q1,q2⟩:=wrd_of_lex hL h3
  exact⟨h2,h1,h4,ts,by rw[h4];exact q1,q2⟩
theorem par_spc {R:List Rl} (h:vaR R=true) (hR:∀x∈R,RlS x) {ts:List Tk} (hts:ts.map (·.1)=tkRs R) {K:Nat→Nat} (hK:∀i,K i<5) (hz:(spcB K ts ts.length).size+5≤16384) :
  ∃Q,prsP (spcB K ts ts.length++endS)=(Q,0,0)∧parP (spcB K ts ts.length++endS)=(Q,0,0)∧SameL Q R∧∀x∈Q,RlS x:=by
 obtain ⟨h1,h2,_,_⟩:=va_words h
 have e:=spc_list K ts ts.length (Nat.le_refl _)
 rw[List.drop_length,hts] at e
 have e:(spcB K ts ts.length).data.toList=spcL K 0 (tkRs R):=by simpa [spcL] using e
 have hL:Lex (spcB K ts ts.length++endS).data.toList (tkRs R):=by
  rw[app_toList,e]
  exact(lex_spc hK _ 0 (tkRs_W h1)).1
 obtain ⟨Q,q1,q2,q3,q4⟩:=par_words hL (by rw[ByteArray.size_append];show _+5≤_;exact hz) h1 hR
 exact⟨Q,q1,par_ok q1 (by rw[q2.len];exact h2) q4,q2,q3⟩
theorem par_app {R M:List Rl} (hv:vaR R=true) (hm:vaR M=true) (hR:∀x∈R,RlS x) (hM:∀x∈M,RlS x) (hz:(fmtR R).size+(fmtR M).size≤16384) (hl:R.length+M.length≤32) :
  ∃Q,prsP (fmtR R++fmtR M)=(Q,0,0)∧parP (fmtR R++fmtR M)=(Q,0,0)∧SameL Q (R++M)∧∀x∈Q,RlS x:=by
 obtain ⟨h1,_,h3,_⟩:=va_words hv
 obtain ⟨k1,_,k3,_⟩:=va_words hm
 have hu:∀x∈R++M,ruB x=true:=fun x hx=>(List.mem_append.1 hx).elim (h1 x) (k1 x)
 have hs:∀x∈R++M,RlS x:=fun x hx=>(List.mem_append.1 hx).elim (hR x) (hM x)
 have hL:=lex_all (R++M) hu [] [] lex_nil
 rw[List.append_nil,List.append_nil] at hL
 have e:(fmtR R++fmtR M).data.toList=((R++M).map fun r=>(lnB r).data.toList).flatten:=by
  rw[app_toList,h3,k3,cat_all,cat_all,List.map_append,List.flatten_append]
 rw[←e] at hL
 obtain ⟨Q,q1,q2,q3,q4⟩:=par_words hL (by rw[ByteArray.size_append];exact hz) hu hs
 exact⟨Q,q1,par_ok q1 (by rw[q2.len,List.length_append];exact hl) q4,q2,q3⟩
end Go.Proofs
/- Spaces. -/
namespace Go.Proofs
open Go Go.Ab Go.RowKit
set_option maxHeartbeats 4000000
set_option maxRecDepth 100000
variable {G:IH}
noncomputable def rdRs (d:DV):List Rl:=match d with
 | .slc _ n f=>(List.range n).map fun i=>rdR (f i)
 | _=>[]
noncomputable def dL7:Oracle:=fun g a=>match g,a with
 | 10,[]=>some (db true)
 | 26,[d]=>some (db (fewR (rdRs d)))
 | 25,[d]=>some (db (vaR (rdRs d)))
 | 24,[d]=>some (ds (fmtR (rdRs d)))
 | 11,[.con (.string t)]=>some (.tup [wdsD (wrdL t).1,di 0,di 0])
 | 13,[.con (.string t)]=>some (.tup [rlsD (parP t).1,di 0,di 0])
 | 18,[_,_,_]=>some (db true)
 | _,_=>none
noncomputable def orcL7:Orc:={ d:=dL7,rows:=fun n=>Nat.beq n 113 }
noncomputable def S7 (F:Nat→DV) (R M:List Rl) (W:List UInt8) (K:Nat→Nat) (T:List Tk) (i:Nat):AS:=⟨regs Tryz.f7.ntmps [(0,.d (rlsD R)),(1,.d (rlsD M)),(2,.d (.slc 1 W.length (byteL W))),(10,.d (.slc 1 5 F)),(11,.d (ds (spcB K T i))),(50,.d (wdsD T)),(51,vi T.length),(52,vi i)],[]⟩
noncomputable def S7t (R M:List Rl) (s:ByteArray):AS:=⟨regs Tryz.f7.ntmps [(0,.d (rlsD R)),(1,.d (rlsD M)),(11,.d (ds s))],[]⟩
def zR (r:Rl):Rl:={ r with ma:=0,mw:=0 }
theorem rdR_W {r:Rl} (h1:ht r.am≤r.ma) (h2:ht r.wh≤r.mw):rdR (rlD r)=zR r:=by
 have e1:rdE (ndX r.ma r.am)=r.am:=rdE_eq h1
 have e2:rdE (ndX r.mw r.wh)=r.wh:=rdE_eq h2
 show Rl.mk r.kind r.nm r.gr (rdE (ndX r.ma r.am)) (rdE (ndX r.mw r.wh)) r.pos 0 0=_
 rw[e1,e2];rfl
theorem rdRs_eq {R:List Rl} (h:∀i,i<R.length→RlW (R.getD i rl0)):rdRs (DV.slc 16 R.length (rlF R))=R.map zR:=by
 show (List.range R.length).map (fun i=>rdR (rlF R i))=_
 refine List.ext_getElem (by simp) fun i h1 h2=>?_
 have hi:i<R.length:=by simpa using h1
 have hw:=h i hi
 rw[List.getElem_map,List.getElem_map,List.getElem_range]
 show rdR (rlD (R.getD i rl0))=_
 rw[rdR_W hw.ha hw.hw,List.getD,gEe hi];rfl
theorem zR_same:∀R:List Rl,SameL (R.map zR) R
 | []=>.nil
 | r :: R=>.cons ⟨rfl,rfl,rfl,rfl,rfl⟩ (zR_same R)
theorem zR_fmt (R:List Rl):fmtR (R.map zR)=fmtR R:=fmt_same (zR_same R)
theorem zR_va (R:List Rl):vaR (R.map zR)=vaR R:=by
 unfold vaR
 rw[zR_fmt,List.length_map]
theorem zR_few (R:List Rl):fewR (R.map zR)=fewR R:=by
 unfold fewR
 rw[List.length_map,List.all_map];rfl
theorem elR (R:List Rl) (i:Nat):elemOK true 16 (rlF R i)=true:=rfl
theorem f7_tail (hT:Tab G) (R M:List Rl) (hW:∀i,i<R.length→RlW (R.getD i rl0)) (hV:∀i,i<M.length→RlW (M.getD i rl0)) (hR:∀x∈R,RlS x) (hM:∀x∈M,RlS x) (hr:vaR R=true) (hm:vaR M=true) (hl:R.length≤8∧M.length≤8) (hz:(fmtR R).size+(fmtR M).size≤16384)
  (s:ByteArray) (hs:s.size≤1000000000) (hP:s.size+5≤16384→∃Q,prsP (s++endS)=(Q,0,0)∧parP (s++endS)=(Q,0,0)∧SameL Q R∧∀x∈Q,RlS x) :
  AWP Tryz.prog G [.code (cAt (bodyOf Tryz.f7) [1,1,1,1,1,1,1,1])] (S7t R M s) (Ret Tryz.prog Tryz.f7 (db true)):=by
 refine walkK (orc:=orcL7) (keep:=[]) (cuts:=[]) (n:=1000) follows ?_
 refine of_tr (fun _ _ _ ZK=>(fun Za Zb=>((I64 (↑s.size+5))∧(((decide ((↑s.size:Int)+5>16384))=true)→(ZS ((db true):DV)))∧(((decide ((↑s.size:Int)+5>16384))=false)→(((s.size+(ByteArray.mk #[35,32,101,110,100]).size≤9223372036854775807)∧ZK 13 [(ds Zb)] (.tup [(.slc 16 (parP Zb).fst.length (rlF (parP Zb).fst)),(di 0),(di 0)]))∧(ZK 24 [(.slc 16 R.length (rlF R))] (ds (fmtR (rdRs (DV.slc 16 R.length (rlF R)))))∧ZK 24 [(.slc 16 M.length (rlF M))] (ds (fmtR (rdRs (DV.slc 16 M.length (rlF M)))))∧((fmtR (rdRs (DV.slc 16 R.length (rlF R)))).size+(fmtR (rdRs (DV.slc 16 M.length (rlF M)))).size≤9223372036854775807)∧ZK 13 [(ds Za)] (.tup [(.slc 16 (parP Za).fst.length (rlF (parP Za).fst)),(di 0),(di 0)]))∧(((true=true)→ZK 18 [(.slc 16 (parP Zb).fst.length (rlF (parP Zb).fst)),(.slc 16 R.length (rlF R)),(db false)] (db true))∧(((0+R.length)*192≤1099511627776)∧(0+R.length≤1099511627776))∧(∀(i:Nat),i<R.length→elemOK true 16 (rlF R i)=true)∧(((0+R.length+M.length)*192≤1099511627776)∧(0+R.length+M.length≤1099511627776))∧(∀(i:Nat),i<M.length→elemOK true 16 (rlF M i)=true)∧((true=true)→ZK 18 [(.slc 16 (parP Za).fst.length (rlF (parP Za).fst)),(.slc 16 (0+R.length+M.length) (fun i=>bif (0+i).blt (0+R.length) then bif (0+i).blt 0 then DV.con undef else rlF R (0+i-0) else rlF M (0+i-(0+R.length)))),(db false)] (db true))∧((true=true)→(I64 (↑R.length + ↑M.length))))∧((db ((0:Int)==(0:Int)&&true&&(0:Int)==(0:Int)&&true==decide ((↑(List.length R):Int)+(↑(List.length M):Int)≤(32:Int)))):DV)=(db true))))) (fmtR (rdRs (DV.slc 16 R.length (rlF R)))++fmtR (rdRs (DV.slc 16 M.length (rlF M)))) (s++ByteArray.mk #[35,32,101,110,100])) (by kernel_rfl) ?_
 try dsimp only
 simp only[rdRs_eq hW,rdRs_eq hV,zR_fmt]
 have eE:ByteArray.mk #[35,32,101,110,100]=endS:=rfl
 have iR:∀i,i<R.length→RlS (R.getD i rl0):=fun i hi=>hR _ (getD_in hi)
 have iM:∀i,i<M.length→RlS (M.getD i rl0):=fun i hi=>hM _ (getD_in hi)
 have lR:R.length≤8:=hl.1
 have lM:M.length≤8:=hl.2
 refine⟨by unfold I64;omega,fun _=>(by first|trivial|rfl),fun c=>?_⟩
 have c:s.size+5≤16384:=by simp only[decide_eq_false_iff_not] at c;omega
 obtain ⟨Q,q1,q2,q3,q4⟩:=hP c
 obtain ⟨U,u1,u2,u3,u4⟩:=par_app hr hm hR hM hz (by omega)
 have k13:=f13 (G:=G) (s++endS) (by rw[ByteArray.size_append];(show _+5≤_);omega) (show ∀r∈(prsP (s++endS)).1,RlS r by rw[q1];exact q4)
 have k13b:=f13 (G:=G) (fmtR R++fmtR M) (by rw[ByteArray.size_append];omega) (show ∀r∈(prsP (fmtR R++fmtR M)).1,RlS r by rw[u1];exact u4)
 rw[q2] at k13
 rw[u2] at k13b
 have iQ:∀i,i<Q.length→RlS (Q.getD i rl0):=fun i hi=>q4 _ (getD_in hi)
 have iU:∀i,i<U.length→RlS (U.getD i rl0):=fun i hi=>u4 _ (getD_in hi)
 have lQ:=q3.len
 have lU:=u3.len
 rw[List.length_append] at lU
 have k18:=f18 (G:=G) Q R iQ iR (by omega) (by omega)
 rw[sm_of_same q3] at k18
 have iA:∀i,i<(R++M).length→RlS ((R++M).getD i rl0):=fun i hi=>(List.mem_append.1 (getD_in (x0:=rl0) hi)).elim (hR _) (hM _)
 have k18b:=f18 (G:=G) U (R++M) iU iA (by omega) (by rw[List.length_append];omega)
 rw[sm_of_same u3] at k18b
 rw[eE,q2,u2]
 refine⟨⟨by (show _+5≤_);omega,k13⟩,⟨f24 hT R iR (by omega),f24 hT M iM (by omega),by omega,k13b⟩,⟨fun _=>k18,⟨by omega,by omega⟩,fun i _=>elR R i,⟨by omega,by omega⟩,fun i _=>elR M i,fun _=>?_,fun _=>(by unfold I64;omega)⟩,?_⟩
 ·refine k18b.args fun k=>DV.rels_cons (fun _ h=>h) (DV.rels_cons (fun v h=>?_) (fun _ h=>h))
  have e:(R++M).length=0+R.length+M.length:=by rw[List.length_append];omega
  unfold rlsD
  rw[e]
  refine DV.rel_slc_congr (fun i hi=>?_) h
  simp only[Nat.zero_add,Nat.sub_zero,Nat.not_lt_zero]
  unfold rlF
  by_cases h1:i<R.length
  ·rw[show Nat.blt i R.length=true from by simp[Nat.blt_eq,h1],cond_true]
   show rlD (R.getD i rl0)=rlD ((R++M).getD i rl0)
   rw[getD_appL h1]
  ·rw[show Nat.blt i R.length=false from by rw[Bool.eq_false_iff];simp[Nat.blt_eq,h1],cond_false,getD_appR (by omega)]
 ·rw[decide_eq_true (by omega)];rfl
def kW (W:List UInt8) (i:Nat):Nat:=if i<W.length then (W[i]?.getD 0).toNat % 5 else 0
theorem kW_lt (W:List UInt8) (i:Nat):kW W i<5:=by
 unfold kW
 split<;>omega
theorem kW_in {W:List UInt8} {i:Nat} (h:i<W.length):(IntKind.i64.wrap ((W[i]?.getD 0).toNat:Int)).tmod 5=(kW W i:Int):=by
 have hb:=UInt8.toNat_lt (W[i]?.getD 0)
 have hw:IntKind.i64.wrap ((W[i]?.getD 0).toNat:Int)=(W[i]?.getD 0).toNat:=by rw[IntKind.wrap_i64];omega
 rw[hw,Int.tmod_eq_emod_of_nonneg (by omega)]
 unfold kW
 rw[if_pos h];omega
theorem f7_body (R M:List Rl) (W:List UInt8) (T:List Tk) (hN:∀w∈T,w.1.size≤16384) (hl:T.length≤16384)
  (ht':AWP Tryz.prog G [.code (cAt (bodyOf Tryz.f7) [1,1,1,1,1,1,1,1])] (S7t R M (spcB (kW W) T T.length)) (Ret Tryz.prog Tryz.f7 (db true))) :
  AWP Tryz.prog G [.code (cAt (bodyOf Tryz.f7) [1,1,1,1,1,1,1,0,1,0]),.blk 0,.code (cAt (bodyOf Tryz.f7) [1,1,1,1,1,1,1,1])] (S7 (stF blB) R M W (kW W) T 0) (Ret Tryz.prog Tryz.f7 (db true)):=by
 refine AWP.loop (c:=cAt (bodyOf Tryz.f7) [1,1,1,1,1,1,1,0,1,0,0]) (by kernel_rfl) (S7 (stF blB) R M W (kW W) T) (fun i=>i≤T.length) (fun i=>T.length-i) 0 ?_ (Nat.zero_le _) ?_
 ·exact AS.leA (by kernel_rfl)
 ·intro i hi
  refine walkK (orc:=orcL7) (keep:=[]) (cuts:=[]) (n:=1000) follows ?_
  refine of_rd (fun ZT ZW ZQ _ ZA _=>(fun Za=>((((decide ((↑i:Int)<↑T.length))=true)→(((0≤(↑i:Int))∧((↑i:Int)<↑T.length))∧(((decide ((↑i:Int)<↑W.length))=true)→((((0≤(↑i:Int))∧((↑i:Int)<↑W.length))∧((↑5:Int)≠0))∧(((0≤Za.tmod ↑5)∧(Za.tmod ↑5<↑5))∧((blB.getD (Za.tmod ↑5).toNat ByteArray.empty).size+(T.getD (↑i:Int).toNat tk0).fst.size≤9223372036854775807)∧((spcB (kW W) T i).size+(blB.getD (Za.tmod ↑5).toNat ByteArray.empty++(T.getD (↑i:Int).toNat tk0).fst).size≤9223372036854775807))∧(I64 (↑i+1))∧(ZA (stS ZT [0,0]))))∧(((decide ((↑i:Int)<↑W.length))=false)→(((((0:Int)≤(0:Int))∧(0<(↑5:Int)))∧((blB.getD (Int.toNat 0) ByteArray.empty).size+(T.getD (↑i:Int).toNat tk0).fst.size≤9223372036854775807)∧((spcB (kW W) T i).size+(blB.getD (Int.toNat 0) ByteArray.empty++(T.getD (↑i:Int).toNat tk0).fst).size≤9223372036854775807))∧(I64 (↑i+1))∧(ZA (stS ZT [0,1]))))))∧(((decide ((↑i:Int)<↑T.length))=false)→ZW [cd Tryz.f7 [1,1,1,1,1,1,1,1]] (stS ZT [1]) ZQ))) (IntKind.i64.wrap ↑(W[(↑i:Int).toNat]?.getD 0).toNat)) (by kernel_rfl) ?_
  try dsimp only
  simp only[Int.toNat_natCast]
  have hz:=spc_size (kW W) hN i hi
  refine⟨fun h=>?_,fun h=>?_⟩
  ·have hi2:i<T.length:=by have:=of_decide_eq_true h;omega
   have hw:(T.getD i tk0).1.size≤16384:=by
    rw[List.getD,gEe hi2]
    exact hN _ (List.getElem_mem _)
   have hb:∀k,((blB.getD k ByteArray.empty)++(T.getD i tk0).1).size≤16400:=fun k=>by
    have:=bl_size k
    rw[ByteArray.size_append];omega
   have hb2:∀k,(blB.getD k ByteArray.empty).size≤16:=bl_size
   refine⟨⟨by omega,by omega⟩,fun h2=>?_,fun h2=>?_⟩
   ·have h2:i<W.length:=by have:=of_decide_eq_true h2;omega
    have hk:=kW_in h2
    have hk':(IntKind.i64.wrap ((W[i]?.getD 0).toNat:Int)).tmod ((5:Nat):Int)=(kW W i:Int):=hk
    have hlt:=kW_lt W i
    simp only[hk,hk',Int.toNat_natCast]
    have b1:=hb (kW W i)
    have b2:=hb2 (kW W i)
    refine⟨⟨⟨by omega,by omega⟩,by decide⟩,⟨⟨by omega,by omega⟩,by omega,by omega⟩,by unfold I64;omega,Again.mk (i+1) ?_ hi2 (by omega)⟩
    refine AS.leZ [4] [] (b:=((T0∧T0∧T0∧T0∧((vs (spcB (kW W) T i++(blB.getD ((IntKind.i64.wrap ↑(W[(↑i:Int).toNat]?.getD 0).toNat).tmod ↑5).toNat ByteArray.empty++(T.getD (↑i:Int).toNat tk0).fst))):AV)=(vs (spcB (kW W) T (i+1)))∧T0∧T0∧T0∧True)∧True)) (by kernel_rfl) (by kernel_rfl) ?_
    refine⟨⟨rfl,rfl,rfl,rfl,?_,rfl,rfl,rfl,trivial⟩,trivial⟩
    simp only[Int.toNat_natCast,hk,hk']
    rfl
   ·have h2:¬i<W.length:=by simp only[decide_eq_false_iff_not] at h2;omega
    have b1:=hb 0
    have b2:=hb2 0
    have e0:kW W i=0:=by unfold kW;rw[if_neg h2]
    refine⟨⟨⟨by omega,by omega⟩,by (show (blB.getD 0 ByteArray.empty).size+_≤_);omega,by (show _+((blB.getD 0 ByteArray.empty)++(T.getD i tk0).1).size≤_);omega⟩,by unfold I64;omega,Again.mk (i+1) ?_ hi2 (by omega)⟩
    refine AS.leZ [4] [] (b:=((T0∧T0∧T0∧T0∧((vs (spcB (kW W) T i++(blB.getD (Int.toNat 0) ByteArray.empty++(T.getD (↑i:Int).toNat tk0).fst))):AV)=(vs (spcB (kW W) T (i+1)))∧T0∧T0∧T0∧True)∧True)) (by kernel_rfl) (by kernel_rfl) ?_
    refine⟨⟨rfl,rfl,rfl,rfl,?_,rfl,rfl,rfl,trivial⟩,trivial⟩
    simp only[spcB,e0]
    rfl
  ·simp only[decide_eq_false_iff_not] at h
   obtain rfl:i=T.length:=by omega
   refine AWP.weaken (st':=S7t R M (spcB (kW W) T T.length)) ?_ ht'
   exact AS.leA (by kernel_rfl)
theorem few_wd {r:Rl} (hw:RlW r) (h:few1 r=true):wdR r≤40:=by
 unfold few1 at h
 simp only[bAt,decide_eq_true_eq] at h
 have h1:=few_nds (M:=20) (by decide) r.am hw.am h.1.2
 have h2:=few_nds (M:=20) (by decide) r.wh hw.wh h.2
 unfold wdR
 split<;>omega
theorem few_wdS:∀{R:List Rl},(∀x∈R,wdR x≤40)→wdS R≤40*R.length
 | [],_=>Nat.zero_le _
 | x :: R,h=>by
  have h1:=h x (by simp)
  have h2:=few_wdS fun y hy=>h y (List.mem_cons_of_mem _ hy)
  simp only[wdS,List.length_cons];omega
theorem getD_all {α:Type} {p:α→Prop} {l:List α} {x0:α} (h:∀i,i<l.length→p (l.getD i x0)):∀x∈l,p x:=fun x hx=>by
 obtain ⟨i,hi,rfl⟩:=List.getElem_of_mem hx
 have:=h i hi
 rwa [List.getD,gEe hi] at this
theorem few_facts {R:List Rl} (hW:∀i,i<R.length→RlW (R.getD i rl0)) (h:fewR R=true) (hv:vaR R=true):(∀x∈R,RlS x)∧R.length≤8∧(fmtR R).size≤6800:=by
 unfold fewR at h
 simp only[bAt,List.all_eq_true,decide_eq_true_eq] at h
 have hx:=getD_all hW
 obtain ⟨k1,_,k3,_⟩:=va_words hv
 have h1:=cat_size k1
 have h2:=few_wdS fun x hm=>few_wd (hx x hm) (h.1 x hm)
 exact⟨fun x hm=>RlS.of_few (hx x hm) (h.1 x hm),h.2,by rw[k3];omega⟩
theorem f7 (hT:Tab G) (R M:List Rl) (hW:∀i,i<R.length→RlW (R.getD i rl0)) (hV:∀i,i<M.length→RlW (M.getD i rl0)) (hl:R.length≤9223372036854775807) (hl2:M.length≤9223372036854775807) (W:List UInt8):FnOK Tryz.prog G 7 [rlsD R,rlsD M,.slc 1 W.length (byteL W)] (db true):=by
 refine FnOK.walkK (orc:=orcL7) (keep:=[]) follows Tryz.func7 rfl Tryz.call7 ?_
 refine of_tr (fun ZT ZW ZQ ZK=>(fun Za Zb=>(ZK 10 [] (db true)∧((false=true)→(((db false):DV)=(db true)))∧((false=false)→((ZK 26 [(.slc 16 R.length (rlF R))] (db (fewR Za))∧(((!!fewR Za)=true)→ZK 26 [(.slc 16 M.length (rlF M))] (db (fewR Zb)))∧(((!(!fewR Za||!fewR Zb))=true)→ZK 25 [(.slc 16 R.length (rlF R))] (db (vaR Za)))∧(((!(!fewR Za||!fewR Zb||!vaR Za))=true)→ZK 25 [(.slc 16 M.length (rlF M))] (db (vaR Zb))))∧(((!fewR Za||!fewR Zb||!vaR Za||!vaR Zb)=true)→(ZS ((db true):DV)))∧(((!fewR Za||!fewR Zb||!vaR Za||!vaR Zb)=false)→((ZK 24 [(.slc 16 R.length (rlF R))] (ds (fmtR Za))∧ZK 11 [(ds (fmtR Za))] (.tup [(.slc 2 (wrdL (fmtR Za)).fst.length (tkF (wrdL (fmtR Za)).fst)),(di 0),(di 0)]))∧((false=true)→(((db false):DV)=(db true)))∧((false=false)→ZW [cd Tryz.f7 [1,1,1,1,1,1,1,0,1,0],(.blk 0),cd Tryz.f7 [1,1,1,1,1,1,1,1]] (stS ZT [1,1,1]) ZQ))))))) (rdRs (DV.slc 16 R.length (rlF R))) (rdRs (DV.slc 16 M.length (rlF M)))) (by kernel_rfl) ?_
 try dsimp only
 simp only[rdRs_eq hW,rdRs_eq hV,zR_fmt,zR_va,zR_few]
 have sW:fewR R=true→∀i,i<R.length→RlS (R.getD i rl0):=fun h i hi=>by
  unfold fewR at h
  simp only[bAt,List.all_eq_true] at h
  exact RlS.of_few (hW i hi) (h.1 _ (getD_in hi))
 have sV:fewR M=true→∀i,i<M.length→RlS (M.getD i rl0):=fun h i hi=>by
  unfold fewR at h
  simp only[bAt,List.all_eq_true] at h
  exact RlS.of_few (hV i hi) (h.1 _ (getD_in hi))
 refine⟨f10 hT,fun c=>(by cases c),fun _=>⟨⟨f26 R hW hl,fun _=>f26 M hV hl2,fun c=>?_,fun c=>?_⟩,fun _=>(by first|trivial|rfl),fun c=>?_⟩⟩
 ·simp only[Bool.not_or,Bool.not_not,bAt] at c
  exact f25 hT R (sW c.1) hl
 ·simp only[Bool.not_or,Bool.not_not,bAt] at c
  exact f25 hT M (sV c.1.2) hl2
 ·simp only[Bool.or_eq_false_iff,Bool.not_eq_false'] at c
  obtain ⟨⟨⟨c1,c2⟩,c3⟩,c4⟩:=c
  obtain ⟨a1,a2,a3⟩:=few_facts hW c1 c3
  obtain ⟨b1,b2,b3⟩:=few_facts hV c2 c4
  obtain ⟨_,_,_,ts,t1,t2⟩:=va_words c3
  have hO:=(wrdL_ok t1).2
  have k11:=f11 (G:=G) (fmtR R) (by omega)
  rw[t1] at k11
  rw[t1]
  have hwd:∀w∈ts,w.1.size≤16384:=fun w hw=>by have:=hO.wd w hw;omega
  have hln:=hO.len
  have hz:=spc_size (kW W) hwd ts.length (Nat.le_refl _)
  refine⟨⟨f24 hT R (sW c1) hl,k11⟩,fun c=>(by cases c),fun _=>?_⟩
  have main:=f7_body R M W ts hwd (by omega) (f7_tail (G:=G) hT R M hW hV a1 b1 c3 c4 ⟨a2,b2⟩ (by omega) (spcB (kW W) ts ts.length) (by omega) fun h5=>par_spc c3 a1 t2 (kW_lt W) h5)
  refine AWP.weaken (st':=S7 (elemF false 1 [ds ⟨#[32]⟩,ds ⟨#[10]⟩,ds ⟨#[9,13]⟩,ds ⟨#[32,35,32,112,111,105,110,116,115,32,120,32,58,32,59,10]⟩,ds ⟨#[35,10,10]⟩]) R M W (kW W) ts 0) ?_ ?_
  ·refine AS.leZ [4,5,6] [] (b:=((T0∧T0∧T0∧T0∧((vs (ByteArray.mk #[])):AV)=(vs (spcB (kW W) ts 0))∧((.d (.slc 2 (wrdL (fmtR (rdRs (rlsD R)))).fst.length (tkF (wrdL (fmtR (rdRs (rlsD R)))).fst))):AV)=(.d (.slc 2 ts.length (tkF ts)))∧((vi (↑(wrdL (fmtR (rdRs (rlsD R)))).fst.length)):AV)=(vi (↑ts.length))∧T0∧True)∧True)) (by kernel_rfl) (by kernel_rfl) ?_
   simp only[rdRs_eq hW,zR_fmt,t1]
   repeat' (first|exact trivial|exact rfl|refine And.intro ?_ ?_)
  ·refine AWP.pre (leX_regE (t:=10) (x:=.d (.slc 1 5 (elemF false 1 [ds ⟨#[32]⟩,ds ⟨#[10]⟩,ds ⟨#[9,13]⟩,ds ⟨#[32,35,32,112,111,105,110,116,115,32,120,32,58,32,59,10]⟩,ds ⟨#[35,10,10]⟩]))) (y:=.d (.slc 1 5 (stF blB))) (by kernel_rfl) (fun β h v hv=>DV.rel_slc_congr (fun j hj=>?_) hv)) main
   rcases j with _|_|_|_|_|j<;>first|rfl|omega
end Go.Proofs
namespace Go.Proofs.YtcfclncbpeahnaaGreatDoor
open Go Go.Ab Go.ChangeShapes Go.WideShapes Go.ChangeAt Go.RowKit
set_option maxRecDepth 100000
theorem own:ownKnob Tryz.prog.godebug=none:=by kernel_rfl
theorem laidOut:laidOutB Tryz.prog=true:=by kernel_rfl
theorem gPow : Tryz.prog.globalNamed "internal/strconv.uint64pow10" = some 1 := by kernel_rfl
theorem tPow:(Tryz.prog.globals[1]?).map (·.type)=some 181:=by kernel_rfl
theorem laidVars_get {P:Program} {W:World}:∀{l:List (String×DataW Unit)} {ps:List MemPlace},DataW.LaidVars P W l ps→
  ∀{i:Nat} {n:String} {d:DataW Unit},l[i]?=some (n,d)→∃g t cs fuel p,P.globalNamed n=some g∧(P.globals[g]?).map (·.type)=some t∧W.var? P n=some cs∧DataW.trod (fun _=>()) P W 0 (fun _=>true) false fuel t cs.toList=some (d,p)
 | [],ps,h,i,n,d,h1=>by simp at h1
 | (m,e) :: l,ps,⟨g,t,cs,fuel,p,q,a1,a2,a3,a4,a5,a6⟩,i,n,d,h1=>by
  cases i with
  | zero=>
   simp at h1;obtain ⟨rfl,rfl⟩:=h1
   exact⟨g,t,cs,fuel,p,a1,a2,a3,a4⟩
  | succ i=>exact laidVars_get a5 (i:=i) (by simpa using h1)
theorem tab_of_laid {laid : List (String × DataW Unit)} {W : World} (h : laidMetH Tryz.prog laid W) (hm : laidMetH Tryz.prog laid W = laidMet Tryz.prog laid W) {i : Nat} (hi : laid[i]? = some ("internal/strconv.uint64pow10", Rows.laid_internal_strconv_uint64pow10)) : Tab (allOf W) := by
 rw[hm] at h
 obtain ⟨ps,h,_⟩:=h
 obtain ⟨g2,t2,cs2,f2,p2,hg2,ht2,hv2,hd2⟩:=laidVars_get h hi
 obtain rfl:=Option.some.inj (gPow.symm.trans hg2)
 obtain rfl:=Option.some.inj (tPow.symm.trans ht2)
 have hT : Lib.TabIs Tryz.prog W "internal/strconv.uint64pow10" .u64 Lib.pow10Tab := by
  unfold Lib.TabIs
  rw[hv2,←Lib.cells_of_tab Tryz.underlying181 (by kernel_rfl) (by kernel_rfl) (by kernel_rfl) (k:=.u64) (zs:=Lib.pow10Tab) hd2]
 intro w hw
 unfold Lib.TabIs at hT⊢
 rw[←hT]
 unfold World.var? at hT⊢
 rw[gPow] at hT⊢
 simp only[Option.bind_some] at hT⊢
 cases ho:W.heap[1]? with
 | none=>rw[ho] at hT;cases hT
 | some o=>rw[hw.2 1 o ho]
end Go.Proofs.YtcfclncbpeahnaaGreatDoor
