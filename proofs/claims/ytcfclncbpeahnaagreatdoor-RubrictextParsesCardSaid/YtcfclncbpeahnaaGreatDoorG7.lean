import Derived.Test.YtcfclncbpeahnaaGreatDoorG6
import Derived.Test.YtcfclncbpeahnaaGreatDoorG2
import Derived.Test.YtcfclncbpeahnaaGreatDoorAcD
import Derived.Test.YtcfclncbpeahnaaGreatDoorG0
import Derived.Test.YtcfclncbpeahnaaGreatDoorG3
import Derived.Test.YtcfclncbpeahnaaGreatDoorG5
import Derived.Test.YtcfclncbpeahnaaGreatDoorG4
import Derived.Lay
import Derived.Test.YtcfclncbpeahnaaGreatDoorRows
import Derived.Lib.LaidTab
import Derived.ProofKit
import Derived.LaidMore
import Derived.OpenShut
import Derived.Stop.Joined
/- What is read is no larger than its words. -/
set_option autoImplicit false
namespace Go.Proofs
open Go Go.Ab
def yU:Md→Nat
 | .loop _ x=>iJ x
 | .args x=>iJ x
 | _=>0
def mdT:Md→Prop
 | .loop _ x=>jJ x
 | .args x=>jJ x
 | _=>True
def IU (b:Nat) (t:List Tk):Rs→Prop
 | .ok y r=>iJ y+r.length≤b+t.length∧jJ y∧r <:+ t
 | .bad _=>True
def wH (t:List Tk):Prop:=∀w∈t,w.1.size≤1000
theorem wH.suf {t r:List Tk} (h:wH t) (hs:r <:+ t):wH r:=fun w hw=>h w (hs.subset hw)
theorem wH.tail {t:List Tk} (h:wH t):wH t.tail:=h.suf (List.tail_suffix t)
theorem wH.hd {t:List Tk} (h:wH t):(ah t).size≤1000:=by
 cases t with
 | nil=>exact Nat.zero_le _
 | cons w t=>exact h w (by simp)
theorem sH (k:Int) (s:ByteArray) (n d a:Int):iJ (.mk k s n d a [])=1:=by simp[iJ,mD]
theorem xw {k:Int} {s:ByteArray} {n d a:Int} (h:s.size≤1000):jJ (.mk k s n d a []):=by simp only[jJ,y8];exact⟨h,trivial⟩
theorem sD:ByteArray.empty.size≤1000:=by decide
theorem aaB {s:ByteArray} (h:bQ (byteAt s 0)=true):s≠.empty:=by
 rintro rfl;exact absurd h (by decide)
theorem X6 {s:ByteArray} (h:nameB s=true):s≠.empty:=by
 rintro rfl;exact absurd h (by decide +kernel)
theorem Zl {t:List Tk} (h:wH t):IU 0 t (mZ t):=by
 have hs:=List.tail_suffix t
 unfold mZ
 split
 ·rename_i hh
  have:=bK (t:=t) (by rw[hh];decide)
  exact⟨by rw[sH];omega,xw sD,hs⟩
 split
 ·rename_i hh
  have:=bK (t:=t) (by rw[hh];decide)
  exact⟨by rw[sH];omega,xw sD,hs⟩
 split
 ·rename_i hh
  have:=bK (aaB hh)
  exact⟨by rw[sH];omega,xw sD,hs⟩
 split
 ·rename_i hh
  have:=bK (X6 hh)
  exact⟨by rw[sH];omega,xw h.hd,hs⟩
 ·trivial
theorem IU.up {b b':Nat} {t t':List Tk} (hl:b'+t'.length≤b+t.length) (hs:t' <:+ t):∀{R:Rs},IU b' t' R→IU b t R
 | .ok _ _,h=>⟨by have:=h.1;omega,h.2.1,h.2.2.trans hs⟩
 | .bad _,_=>trivial
theorem QF (k:Int) (a:Int) (x:Ex):iJ (.mk k .empty 0 0 a [x])=iJ x+1:=by simp[iJ,mD];omega
theorem Zw (k:Int) (a:Int) (x y:Ex):iJ (.mk k .empty 0 0 a [x,y])=iJ x+iJ y+1:=by simp[iJ,mD];omega
theorem WJ {k:Int} {a:Int} {x:Ex} (h:jJ x):jJ (.mk k .empty 0 0 a [x]):=by simp only[jJ,y8];exact⟨sD,h,trivial⟩
theorem ab9 {k:Int} {a:Int} {x y:Ex} (h:jJ x) (h2:jJ y):jJ (.mk k .empty 0 0 a [x,y]):=by simp only[jJ,y8];exact⟨sD,h,h2,trivial⟩
theorem Xb (l m:List Ex):mD (l++m)=mD l+mD m:=by
 induction l with
 | nil=>simp[mD]
 | cons x l ih=>simp only[List.cons_append,mD,ih];omega
theorem aat {l:List Ex} {y:Ex} (h:y8 l) (hy:jJ y):y8 (l++[y]):=by
 induction l with
 | nil=>simp only[List.nil_append,y8];exact⟨hy,trivial⟩
 | cons x l ih=>
  simp only[y8] at h
  simp only[List.cons_append,y8]
  exact⟨h.1,ih h.2⟩
theorem WX (x y:Ex):iJ (uo x y)=iJ x+iJ y:=by
 cases x;simp only[uo,iJ,Ex.kids,Xb,mD];omega
theorem ZH {x y:Ex} (h:jJ x) (hy:jJ y):jJ (uo x y):=by
 cases x
 simp only[jJ] at h
 simp only[uo,jJ,Ex.s,Ex.kids]
 exact⟨h.1,aat h.2 hy⟩
theorem aey:∀(k:Nat) (md:Md) (t:List Tk),wH t→mdT md→IU (yU md) t (rd k md t):=by
 intro k
 induction k with
 | zero=>intro md t _ _;trivial
 | succ k ih=>
  intro md t ht hm
  have ts:=List.tail_suffix t
  have tl:=dR t
  cases md with
  | lvl n=>
   simp only[rd]
   split
   ·split
    ·rename_i hh
     have hl:=bK (t:=t) (by rw[hh];decide)
     have:=ih (.lvl 2) t.tail ht.tail trivial
     cases e:rd k (.lvl 2) t.tail with
     | ok x r=>
      rw[e] at this
      refine⟨?_,WJ this.2.1,this.2.2.trans ts⟩
      rw[QF]
      have:=this.1
      simp only[yU] at this⊢;omega
     | bad r=>trivial
    ·exact ih (.lvl 3) t ht trivial
   split
   ·split
    ·rename_i hh
     have hl:=bK (t:=t) (by rw[hh];decide)
     have:=ih (.lvl 6) t.tail ht.tail trivial
     cases e:rd k (.lvl 6) t.tail with
     | ok x r=>
      rw[e] at this
      refine⟨?_,WJ this.2.1,this.2.2.trans ts⟩
      rw[QF]
      have:=this.1
      simp only[yU] at this⊢;omega
     | bad r=>trivial
    ·exact ih (.lvl 7) t ht trivial
   split
   ·exact ih .gI t ht trivial
   ·have:=ih (.lvl (n+1)) t ht trivial
    cases e:rd k (.lvl (n+1)) t with
    | ok x r=>
     rw[e] at this
     exact IU.up (b':=iJ x) (by have:=this.1;simp only[yU] at this⊢;omega) this.2.2 (ih (.loop n x) r (ht.suf this.2.2) this.2.1)
    | bad r=>trivial
  | loop n x=>
   simp only[rd]
   split
   ·rename_i ho
    have hl:=bK (oW ho)
    have:=ih (.lvl (n+1)) t.tail ht.tail trivial
    cases e:rd k (.lvl (n+1)) t.tail with
    | ok y r=>
     rw[e] at this
     have h1:=this.1
     simp only[yU] at h1
     have hs:=ab9 (k:=gq (ah t)) (a:=hdA 0 t) (show jJ x from hm) this.2.1
     have hn:=Zw (gq (ah t)) (hdA 0 t) x y
     try dsimp only
     split
     ·exact⟨by simp only[yU];omega,hs,this.2.2.trans ts⟩
     ·exact IU.up (b':=iJ (.mk (gq (ah t)) .empty 0 0 (hdA 0 t) [x,y])) (by simp only[yU];omega) (this.2.2.trans ts) (ih _ _ ((ht.tail).suf this.2.2) hs)
    | bad r=>trivial
   ·exact⟨Nat.le_refl _,hm,List.suffix_refl _⟩
  | args x=>
   simp only[rd]
   have:=ih (.lvl 0) t ht trivial
   cases e:rd k (.lvl 0) t with
   | ok y r=>
    rw[e] at this
    have h1:=this.1
    simp only[yU] at h1
    have hs:=ZH (show jJ x from hm) this.2.1
    have hn:=WX x y
    have tr:=List.tail_suffix r
    have trl:=dR r
    try dsimp only
    split
    ·exact IU.up (b':=iJ (uo x y)) (by simp only[yU];omega) (tr.trans this.2.2) (ih (.args (uo x y)) r.tail ((ht.suf this.2.2).tail) hs)
    split
    ·exact⟨by simp only[yU];omega,hs,tr.trans this.2.2⟩
    ·trivial
   | bad r=>trivial
  | gI=>
   simp only[rd]
   split
   ·have:=ih (.lvl 0) t.tail ht.tail trivial
    cases e:rd k (.lvl 0) t.tail with
    | ok x r=>
     rw[e] at this
     have h1:=this.1
     simp only[yU] at h1
     have trl:=dR r
     try dsimp only
     split
     ·exact⟨by simp only[yU];omega,this.2.1,(List.tail_suffix r).trans (this.2.2.trans ts)⟩
     ·trivial
    | bad r=>trivial
   split
   ·rename_i hh
    have hl:=bK (t:=t) (by rcases hh with hh|hh<;>rw[hh]<;>decide)
    have YK:=dR t.tail
    split
    ·refine IU.up (b':=iJ (.mk (if ah t=maxS then 11 else 10) .empty 0 0 (hdA 0 t) [])) ?_ ((List.tail_suffix _).trans ts) (ih (.args (.mk (if ah t=maxS then 11 else 10) .empty 0 0 (hdA 0 t) [])) t.tail.tail ht.tail.tail (show jJ (.mk (if ah t=maxS then 11 else 10) .empty 0 0 (hdA 0 t) []) from xw sD))
     rw[sH];simp only[yU];omega
    ·trivial
   ·exact Zl ht
theorem TM {n:Nat} {t:List Tk} (ht:wH t) {x:Ex} {r:List Tk} (e:pr (.lvl n) t=.ok x r):iJ x+r.length≤t.length∧jJ x:=by
 have:=aey (10*t.length+11) (.lvl n) t ht trivial
 unfold pr at e
 rw[e] at this
 have h1:=this.1
 simp only[yU] at h1
 exact⟨by omega,this.2.1⟩
def RuN (kd:Int) (nm gr:ByteArray) (n:Nat) (R:Rr):Prop:=∀x r,R=.ok x r→x.nm=nm∧x.gr=gr∧ht x.am≤x.ma∧ht x.wh≤x.mw∧jJ x.am∧jJ x.wh∧iJ x.am≤n∧iJ x.wh≤n
theorem YU {kd:Int} {nm gr:ByteArray} {pos:Int} {am wh:Ex} {t:List Tk} {n:Nat} (h1:jJ am) (h2:jJ wh) (h3:iJ am≤n) (h4:iJ wh≤n):RuN kd nm gr n (Cc kd nm gr pos am wh t):=by
 intro x r e
 unfold Cc at e
 split at e
 ·injection e with e _
  subst e
  exact⟨rfl,rfl,Nat.le_refl _,Nat.le_refl _,h1,h2,h3,h4⟩
 ·cases e
theorem Vz:jJ aJ:=xw sD
theorem acG {kd:Int} {nm gr:ByteArray} {pos:Int} {am:Ex} {t:List Tk} {n:Nat} (ht:wH t) (hn:t.length≤n) (h0:1≤n) (h1:jJ am) (h3:iJ am≤n):RuN kd nm gr n (DJ kd nm gr pos am t):=by
 have tl:=dR t
 unfold DJ
 split
 ·cases e:pr (.lvl 0) t.tail with
  | ok wh r=>
   have:=TM ht.tail e
   exact YU h1 this.2 h3 (by omega)
  | bad r=>intro x q e;cases e
 ·exact YU h1 Vz h3 (by show iJ (.mk 0 .empty 0 0 0 [])≤n;rw[sH];exact h0)
theorem YZ {kd:Int} {nm gr:ByteArray} {pos:Int} {t:List Tk} {n:Nat} (ht:wH t) (hn:t.length≤n) (h0:1≤n):RuN kd nm gr n (BZ kd nm gr pos t):=by
 have tl:=dR t
 unfold BZ
 split
 ·cases e:pr (.lvl 0) t.tail with
  | ok am r=>
   have:=TM ht.tail e
   have hs:r <:+ t.tail:=by have:=oQ (.lvl 0) t.tail;rw[e] at this;exact this
   have hsl:=hs.length_le
   exact acG ((ht.tail).suf hs) (by omega) h0 this.2 (by omega)
  | bad r=>intro x q e;cases e
 ·intro x q e;cases e
theorem acQ {t:List Tk} {n:Nat} (hM:wH t) (hn:t.length≤n) (h0:1≤n) {x:Rl} {r:List Tk} (e:jg t=.ok x r):x.nm.size≤1000∧x.gr.size≤1000∧ht x.am≤x.ma∧ht x.wh≤x.mw∧jJ x.am∧jJ x.wh∧iJ x.am≤n∧iJ x.wh≤n:=by
 have tl:=dR t
 have YK:=dR t.tail
 have tl3:=dR t.tail.tail
 unfold jg at e
 split at e
 ·split at e
  ·unfold Ef at e
   split at e
   ·split at e
    ·have tl4:=dR t.tail.tail.tail
     obtain ⟨rfl',h2,h3⟩:=YZ hM.tail.tail.tail.tail (by omega) h0 _ _ e
     exact⟨by rw[rfl'];exact hM.tail.hd,by rw[h2];exact hM.tail.tail.tail.hd,h3⟩
    ·cases e
   ·obtain ⟨h1,h2,h3⟩:=YZ hM.tail.tail (by omega) h0 _ _ e
    exact⟨by rw[h1];exact hM.tail.hd,by rw[h2];decide,h3⟩
  ·cases e
 ·cases e
theorem aa0 {t:List Tk} (ht:wH t) (hn:t.length≤1000) {x:Rl} {r:List Tk} (e:jg t=.ok x r):pJ x:=by
 obtain ⟨h1,h2,h3,h4,h5,h6,h7,h8⟩:=acQ ht hn (by decide) e
 exact⟨h1,h2,h3,⟨h7,h5⟩,h4,⟨h8,h6⟩⟩
theorem WH:∀(n:Nat) (t:List Tk) (R:List Rl),t.length≤n→n≤1000→wH t→oL t=.ok R→∀r∈R,pJ r
 | 0,t,R,hn,_,_,h=>by
  have:t=[]:=List.eq_nil_of_length_eq_zero (by omega)
  subst this
  injection h with h;subst h
  intro r hr;cases hr
 | n+1,t,R,hn,h1,ht,h=>by
  by_cases hne:t=[]
  ·subst hne;injection h with h;subst h
   intro r hr;cases hr
  ·cases e:jg t with
   | ok x q=>
    rw[Ej e] at h
    have hlt:=rE e
    have hs:=Ac t
    rw[e] at hs
    cases e2:oL q with
    | ok l=>
     rw[e2] at h
     injection h with h
     subst h
     intro r hr
     rcases List.mem_cons.1 hr with rfl|hr
     ·exact aa0 ht (by omega) e
     ·exact WH n q l (by omega) (by omega) (ht.suf hs) e2 r hr
    | bad r2=>rw[e2] at h;cases h
   | bad q=>rw[zY hne e] at h;cases h
theorem H8 {s:ByteArray} (hs:s.size≤1000):∀r∈(lK s).1,pJ r:=by
 unfold lK
 by_cases he:(bG s).2.2=0
 ·obtain ⟨T,a,e,hW⟩:∃T a e,bG s=(T,a,e):=⟨_,_,_,rfl⟩
  rw[hW] at he
  have he:e=0:=he
  subst he
  obtain ⟨rfl,hO⟩:=uJ hW
  have hln:=hO.len
  rw[hW,if_neg (by simp)]
  try dsimp only
  cases hq:oL T with
  | ok R=>exact WH 1000 T R (by omega) (by omega) (fun w hw=>by have:=hO.wd w hw;omega) hq
  | bad r=>intro x hx;cases hx
 ·rw[if_pos he]
  intro x hx;cases hx
theorem DT:Sm aJ:=⟨by show iJ (.mk 0 .empty 0 0 0 [])≤1000;rw[sH];decide,Vz⟩
theorem Dh {s:ByteArray} (hs:s.size≤1000):Sm (jO s).1:=by
 unfold jO
 by_cases he:(bG s).2.2=0
 ·obtain ⟨T,a,e,hW⟩:∃T a e,bG s=(T,a,e):=⟨_,_,_,rfl⟩
  rw[hW] at he
  have he:e=0:=he
  subst he
  obtain ⟨rfl,hO⟩:=uJ hW
  have hln:=hO.len
  rw[hW,if_neg (by simp)]
  try dsimp only
  cases hq:pr (.lvl 0) T with
  | ok x r=>
   have:=TM (n:=0) (fun w hw=>by have:=hO.wd w hw;omega) hq
   cases r with
   | nil=>exact⟨(by omega:iJ x≤1000),this.2⟩
   | cons w r=>exact DT
  | bad r=>exact DT
 ·rw[if_pos he];exact DT
end Go.Proofs
/- The laws' sentinel. -/
namespace Go.Proofs
open Go Go.Ab Go.RowKit
set_option maxHeartbeats 4000000
set_option maxRecDepth 100000
variable {G:IH}
abbrev awA:ByteArray:=⟨#[112,111,105,110,116,115,32,97,32,105,110,32,103,32,58,32,50,46,53,48,42,120,32,105,102,32,120,62,61,49,32,97,110,100,32,110,111,116,32,121,59]⟩
abbrev awB:ByteArray:=⟨#[97,45,40,98,45,99,41]⟩
abbrev Eh:ByteArray:=⟨#[40,97,45,98,41,45,99]⟩
abbrev awD:ByteArray:=⟨#[112,111,105,110,116,115,32,97,32,105,110,32,103,58,32,50,46,53,32,42,32,120,32,105,102,32,120,32,62,61,32,49,32,97,110,100,32,110,111,116,32,121,59,10]⟩
abbrev awE:ByteArray:=⟨#[97,32,45,32,40,98,32,45,32,99,41]⟩
abbrev awF:ByteArray:=⟨#[97,32,45,32,98,32,45,32,99]⟩
theorem Uh:(eG awA).2.1=0∧(eG awA).2.2=0∧(eG awA).1.length=1:=by decide +kernel
theorem ad3:ny (eG awA).1=awD:=by decide +kernel
theorem abD:(eY awB).2.1=0∧(eY awB).2.2=0:=by decide +kernel
theorem aeO:qQ (eY awB).1=awE:=by decide +kernel
theorem abt:(eY Eh).2.1=0∧(eY Eh).2.2=0:=by decide +kernel
theorem aeg:qQ (eY Eh).1=awF:=by decide +kernel
noncomputable def ac3 (R:List Rl) (f:ByteArray→Ex):cZ:=fun g a=>match g,a with
 | 13,[_]=>some (.ak [jZ R,di 0,di 0])
 | 15,[.con (.string s)]=>some (.ak [fD (f s),di 0,di 0])
 | 24,[_]=>some (ds (ny R))
 | 21,[e]=>some (ds (qQ (aO e)))
 | _,_=>none
theorem adK (R:List Rl) (f:ByteArray→Ex) (h13:ay Tryz.prog G 13 [ds awA] (.ak [jZ R,di 0,di 0])) (hb:ay Tryz.prog G 15 [ds awB] (.ak [fD (f awB),di 0,di 0])) (hc:ay Tryz.prog G 15 [ds Eh] (.ak [fD (f Eh),di 0,di 0]))
  (h24:ay Tryz.prog G 24 [jZ R] (ds (ny R))) (hx:∀x,x=f awB∨x=f Eh→ay Tryz.prog G 21 [fD x] (ds (qQ x))) (h1:R.length=1) (hD:ny R=awD) (hE:qQ (f awB)=awE) (hF:qQ (f Eh)=awF) :
  ay Tryz.prog G 10 [] (db true):=by
 refine ay.walk (aj:=ac3 R f) (keep:=[]) follows Tryz.func10 rfl Tryz.call10 ?_
 refine au (fun _ _ _ ZK=>(fun Za Zb=>(ZK 13 [(ds (ByteArray.mk #[112,111,105,110,116,115,32,97,32,105,110,32,103,32,58,32,50,46,53,48,42,120,32,105,102,32,120,62,61,49,32,97,110,100,32,110,111,116,32,121,59]))] (.ak [(.slc 16 R.length (kT R)),(di 0),(di 0)])∧ZK 15 [(ds Za)] (.ak [(aN (ht (f Za)) (f Za)),(di 0),(di 0)])∧ZK 15 [(ds Zb)] (.ak [(aN (ht (f Zb)) (f Zb)),(di 0),(di 0)])∧(((((0:Int)==(0:Int)&&(0:Int)==(0:Int)&&(↑(List.length R):Int)==(1:Int))=true)→ZK 24 [(.slc 16 R.length (kT R))] (ds (ny R)))∧((((0:Int)==(0:Int)&&(0:Int)==(0:Int)&&(↑(List.length R):Int)==(1:Int)&&ByteArray.toList (ny R)==ByteArray.toList { data:=#[(112:UInt8),(111:UInt8),(105:UInt8),(110:UInt8),(116:UInt8),(115:UInt8),(32:UInt8),(97:UInt8),(32:UInt8),(105:UInt8),(110:UInt8),(32:UInt8),(103:UInt8),(58:UInt8),(32:UInt8),(50:UInt8),(46:UInt8),(53:UInt8),(32:UInt8),(42:UInt8),(32:UInt8),(120:UInt8),(32:UInt8),(105:UInt8),(102:UInt8),(32:UInt8),(120:UInt8),(32:UInt8),(62:UInt8),(61:UInt8),(32:UInt8),(49:UInt8),(32:UInt8),(97:UInt8),(110:UInt8),(100:UInt8),(32:UInt8),(110:UInt8),(111:UInt8),(116:UInt8),(32:UInt8),(121:UInt8),(59:UInt8),(10:UInt8)] }&&(0:Int)==(0:Int))=true)→ZK 21 [(aN (ht (f Za)) (f Za))] (ds (qQ (aO (aN (ht (f Za)) (f Za))))))∧((((0:Int)==(0:Int)&&(0:Int)==(0:Int)&&(↑(List.length R):Int)==(1:Int)&&ByteArray.toList (ny R)==ByteArray.toList { data:=#[(112:UInt8),(111:UInt8),(105:UInt8),(110:UInt8),(116:UInt8),(115:UInt8),(32:UInt8),(97:UInt8),(32:UInt8),(105:UInt8),(110:UInt8),(32:UInt8),(103:UInt8),(58:UInt8),(32:UInt8),(50:UInt8),(46:UInt8),(53:UInt8),(32:UInt8),(42:UInt8),(32:UInt8),(120:UInt8),(32:UInt8),(105:UInt8),(102:UInt8),(32:UInt8),(120:UInt8),(32:UInt8),(62:UInt8),(61:UInt8),(32:UInt8),(49:UInt8),(32:UInt8),(97:UInt8),(110:UInt8),(100:UInt8),(32:UInt8),(110:UInt8),(111:UInt8),(116:UInt8),(32:UInt8),(121:UInt8),(59:UInt8),(10:UInt8)] }&&(0:Int)==(0:Int)&&ByteArray.toList (qQ (aO (aN (ht (f { data:=#[(97:UInt8),(45:UInt8),(40:UInt8),(98:UInt8),(45:UInt8),(99:UInt8),(41:UInt8)] })) (f { data:=#[(97:UInt8),(45:UInt8),(40:UInt8),(98:UInt8),(45:UInt8),(99:UInt8),(41:UInt8)] }))))==ByteArray.toList { data:=#[(97:UInt8),(32:UInt8),(45:UInt8),(32:UInt8),(40:UInt8),(98:UInt8),(32:UInt8),(45:UInt8),(32:UInt8),(99:UInt8),(41:UInt8)] }&&(0:Int)==(0:Int))=true)→ZK 21 [(aN (ht (f Zb)) (f Zb))] (ds (qQ (aO (aN (ht (f Zb)) (f Zb)))))))∧((db ((0:Int)==(0:Int)&&(0:Int)==(0:Int)&&(↑(List.length R):Int)==(1:Int)&&ByteArray.toList (ny R)==ByteArray.toList { data:=#[(112:UInt8),(111:UInt8),(105:UInt8),(110:UInt8),(116:UInt8),(115:UInt8),(32:UInt8),(97:UInt8),(32:UInt8),(105:UInt8),(110:UInt8),(32:UInt8),(103:UInt8),(58:UInt8),(32:UInt8),(50:UInt8),(46:UInt8),(53:UInt8),(32:UInt8),(42:UInt8),(32:UInt8),(120:UInt8),(32:UInt8),(105:UInt8),(102:UInt8),(32:UInt8),(120:UInt8),(32:UInt8),(62:UInt8),(61:UInt8),(32:UInt8),(49:UInt8),(32:UInt8),(97:UInt8),(110:UInt8),(100:UInt8),(32:UInt8),(110:UInt8),(111:UInt8),(116:UInt8),(32:UInt8),(121:UInt8),(59:UInt8),(10:UInt8)] }&&(0:Int)==(0:Int)&&ByteArray.toList (qQ (aO (aN (ht (f { data:=#[(97:UInt8),(45:UInt8),(40:UInt8),(98:UInt8),(45:UInt8),(99:UInt8),(41:UInt8)] })) (f { data:=#[(97:UInt8),(45:UInt8),(40:UInt8),(98:UInt8),(45:UInt8),(99:UInt8),(41:UInt8)] }))))==ByteArray.toList { data:=#[(97:UInt8),(32:UInt8),(45:UInt8),(32:UInt8),(40:UInt8),(98:UInt8),(32:UInt8),(45:UInt8),(32:UInt8),(99:UInt8),(41:UInt8)] }&&(0:Int)==(0:Int)&&ByteArray.toList (qQ (aO (aN (ht (f { data:=#[(40:UInt8),(97:UInt8),(45:UInt8),(98:UInt8),(41:UInt8),(45:UInt8),(99:UInt8)] })) (f { data:=#[(40:UInt8),(97:UInt8),(45:UInt8),(98:UInt8),(41:UInt8),(45:UInt8),(99:UInt8)] }))))==ByteArray.toList { data:=#[(97:UInt8),(32:UInt8),(45:UInt8),(32:UInt8),(98:UInt8),(32:UInt8),(45:UInt8),(32:UInt8),(99:UInt8)] })):DV)=(db true))) (ByteArray.mk #[97,45,40,98,45,99,41]) (ByteArray.mk #[40,97,45,98,41,45,99])) (by kernel_rfl) ?_
 try dsimp only
 have eb:aO (aN (ht (f awB)) (f awB))=f awB:=ig (Nat.le_refl _)
 have ec:aO (aN (ht (f Eh)) (f Eh))=f Eh:=ig (Nat.le_refl _)
 rw[eb,ec]
 refine⟨h13,hb,hc,⟨fun _=>h24,fun _=>hx _ (.inl rfl),fun _=>hx _ (.inr rfl)⟩,congrArg db ?_⟩
 rw[hD,hE,hF,h1]
 simp
theorem f10 (hT:Tab G):ay Tryz.prog G 10 [] (db true):=by
 have hA:=f13 (G:=G) awA (by decide) (H8 (by decide))
 have hB:=f15 (G:=G) awB (by decide) (Dh (by decide))
 have hC:=f15 (G:=G) Eh (by decide) (Dh (by decide))
 rw[Uh.1,Uh.2.1] at hA
 rw[abD.1,abD.2] at hB
 rw[abt.1,abt.2] at hC
 have hs:∀s:ByteArray,s.size≤1000→∀r∈(eG s).1,pJ r:=fun s hs=>by
  unfold eG
  split
  ·exact H8 hs
  split
  ·intro r hr;cases hr
  ·exact H8 hs
 have hxs:∀s:ByteArray,s.size≤1000→Sm (eY s).1:=fun s hs=>by
  unfold eY
  split
  ·exact Dh hs
  split
  ·exact DT
  ·exact Dh hs
 refine adK (eG awA).1 (fun s=>(eY s).1) hA hB hC (f24 hT _ (fun i hi=>hs _ (by decide) _ (getD_in hi)) (by rw[Uh.2.2];decide)) (fun x hx=>?_) Uh.2.2 ad3 aeO aeg
 rcases hx with rfl|rfl
 ·exact f21 hT _ _ (Nat.le_refl _) (hxs _ (by decide))
 ·exact f21 hT _ _ (Nat.le_refl _) (hxs _ (by decide))
end Go.Proofs
/- Expressions that are read from memory. -/
namespace Go.Proofs
open Go Go.Ab Go.RowKit Go.ChangeShapes
set_option maxRecDepth 100000
theorem Yb:∀(m m':Nat) (x:Ex),ht x≤m→ht x≤m'→∀(k:IH) (v:Value),DV.rel k (jG m x) v→DV.rel k (jG m' x) v:=by
 intro m
 induction m with
 | zero=>
  intro m' x h1 h2 k v h
  have hk:x.kids=[]:=by
   refine Classical.byContradiction fun hh=>?_
   have:0<x.kids.length:=List.length_pos_iff.2 hh
   have:=qV this
   omega
  unfold jG exV at h⊢
  rw[hk] at h⊢
  obtain ⟨us,rfl,x1,u1,rfl,h1,x2,u2,rfl,h2,x3,u3,rfl,h3,x4,u4,rfl,h4,x5,u5,rfl,h5,x6,u6,rfl,h6,h0⟩:=h
  exact⟨_,rfl,x1,_,rfl,h1,x2,_,rfl,h2,x3,_,rfl,h3,x4,_,rfl,h4,x5,_,rfl,h5,x6,_,rfl,DV.jH (fun i hi=>absurd hi (by simp)) h6,h0⟩
 | succ m ih=>
  intro m' x h1 h2 k v h
  obtain ⟨us,rfl,x1,u1,rfl,g1,x2,u2,rfl,g2,x3,u3,rfl,g3,x4,u4,rfl,g4,x5,u5,rfl,g5,x6,u6,rfl,g6,h0⟩:=h
  refine⟨_,rfl,x1,_,rfl,g1,x2,_,rfl,g2,x3,_,rfl,g3,x4,_,rfl,g4,x5,_,rfl,g5,x6,_,rfl,?_,h0⟩
  obtain ⟨p,cap,e,hc,r⟩:=g6
  refine⟨p,cap,e,hc,r.imp id fun ⟨b,off,hp,r⟩=>⟨b,off,hp,fun i hi=>?_⟩⟩
  obtain ⟨v,hv,hs,hj⟩:=r i hi
  have hki:=qV (x:=x) hi
  obtain ⟨m2,rfl⟩:∃m2,m'=m2+1:=⟨m' - 1,by omega⟩
  exact⟨v,ih m2 (x.kids.getD i aJ) (by omega) (by omega) k v hv,hs,hj⟩
theorem aaH {l:List Ex} {n:Nat} (h:∀i,i<l.length→ht (l.getD i aJ)+1≤n):iI l≤n:=by
 induction l with
 | nil=>simp[iI]
 | cons x l ih=>
  simp only[iI]
  have h0:=h 0 (by simp)
  have:=ih fun i hi=>by simpa using h (i+1) (by simpa using hi)
  have h0:ht x+1≤n:=h0
  omega
theorem acr {l:List Ex} (h:∀i,i<l.length→YQ (l.getD i aJ)):Yx l:=by
 induction l with
 | nil=>trivial
 | cons x l ih=>exact⟨h 0 (by simp),ih fun i hi=>by simpa using h (i+1) (by simpa using hi)⟩
theorem V6 (f:Nat→Nat):∀n:Nat,∃M,∀i,i<n→f i≤M
 | 0=>⟨0,fun i hi=>by omega⟩
 | n+1=>by
  obtain ⟨M,h⟩:=V6 f n
  refine⟨max M (f n),fun i hi=>?_⟩
  rcases Nat.lt_or_ge i n with h1|h1
  ·have:=h i h1;omega
  ·obtain rfl:i=n:=by omega
   omega
theorem cells34:Tryz.prog.cellsOf 34=6:=by kernel_rfl
theorem Zu:Tryz.prog.bytesOf 34=72:=by kernel_rfl
theorem cells31:Tryz.prog.cellsOf 31=2:=by kernel_rfl
theorem cells3:Tryz.prog.cellsOf 3=1:=by kernel_rfl
theorem cells9:Tryz.prog.cellsOf 9=1:=by kernel_rfl
theorem cells32:Tryz.prog.cellsOf 32=1:=by kernel_rfl
def YM (d:DV):Prop:=∃(l:List Ex) (k:Nat),iI l≤k∧Yx l∧l.length≤8796093022208∧d=.slc 6 l.length (lay (cu k) l)
section
variable {H:Type} {enc:TypeId×Value→H} {W:World} {base:Nat} {sp:Nat→Bool} {held:Bool}
theorem open_node {n:Nat} {cs:List Value} {x:DataW H×List MemPlace} (h:DataW.trod enc Tryz.prog W base sp held n 34 cs=some x) (hf:IB.Fine Tryz.prog 34 x.1) :
  ∃(k n d a:Int) (s:ByteArray) (v:Value) (n':Nat) (y:DataW H×List MemPlace),s.size≤maxLen∧cs=[.int .i64 k,.string s,.int .i64 n,.int .i64 d,.int .i64 a,v]∧
   DataW.trod enc Tryz.prog W base sp held n' 32 [v]=some y∧IB.Fine Tryz.prog 32 y.1∧SizeOf.sizeOf y.1<SizeOf.sizeOf x.1:=by
 obtain ⟨xs,n',rfl,rfl,hl,hxl,hfl⟩:=DataW.trod_struct Tryz.underlying34 h
 have hxl:xs.length=5:=hxl
 match xs,hxl with
 | [y0,y1,y2,y3,y4],_=>
  have e0:=hfl 0 _ rfl
  have e1:=hfl 1 _ rfl
  have e2:=hfl 2 _ rfl
  have e3:=hfl 3 _ rfl
  have e4:=hfl 4 _ rfl
  simp only[List.getElem?_cons_zero,List.getElem?_cons_succ] at e0 e1 e2 e3 e4
  rw[cells34] at hl
  erw [cells3] at e0 e3
  erw [cells9] at e1
  erw [cells31] at e2
  erw [cells32] at e4
  match cs,hl with
  | [c0,c1,c2,c3,c4,c5],_=>
   have e0:DataW.trod enc Tryz.prog W base sp held n' 3 [c0]=some y0:=e0
   have e1:DataW.trod enc Tryz.prog W base sp held n' 9 [c1]=some y1:=e1
   have e2:DataW.trod enc Tryz.prog W base sp held n' 31 [c2,c3]=some y2:=e2
   have e3:DataW.trod enc Tryz.prog W base sp held n' 3 [c4]=some y3:=e3
   have e4:DataW.trod enc Tryz.prog W base sp held n' 32 [c5]=some y4:=e4
   obtain ⟨k,h0,_,_⟩:=DataW.trod_int Tryz.underlying3 e0
   obtain ⟨s,h1,_,hs⟩:=DataW.trod_string Tryz.underlying9 e1
   obtain ⟨z0,z1,m2,_,_,f0,f1⟩:=trod_struct2 Tryz.underlying31 e2
   erw [cells3] at f0 f1
   have f0:DataW.trod enc Tryz.prog W base sp held m2 3 [c2]=some z0:=f0
   have f1:DataW.trod enc Tryz.prog W base sp held m2 3 [c3]=some z1:=f1
   obtain ⟨a,g0,_,_⟩:=DataW.trod_int Tryz.underlying3 f0
   obtain ⟨b,g1,_,_⟩:=DataW.trod_int Tryz.underlying3 f1
   obtain ⟨c,h3,_,_⟩:=DataW.trod_int Tryz.underlying3 e3
   simp only[List.cons.injEq,and_true] at h0 h1 g0 g1 h3
   subst h0;subst h1;subst g0;subst g1;subst h3
   refine⟨k,a,b,c,s,c5,n',y4,hs,rfl,e4,?_,?_⟩
   ·have hf':∀w∈DataW.weights Tryz.prog 34 (.agg ([y0,y1,y2,y3,y4].map (·.1))),w≤reachBytes:=hf
    simp only[DataW.weights,Tryz.underlying34] at hf'
    exact IB.Dc hf' 4 32 y4.1 rfl rfl
   ·have:y4.1∈[y0,y1,y2,y3,y4].map (·.1):=by simp
    have h2:=List.sizeOf_lt_of_mem this
    show SizeOf.sizeOf y4.1<SizeOf.sizeOf (DataW.agg ([y0,y1,y2,y3,y4].map (·.1)))
    simp only[DataW.agg.sizeOf_spec]
    omega
theorem open_kids (N:Nat):∀(m:Nat) (cs:List Value) (x:DataW H×List MemPlace),SizeOf.sizeOf x.1≤N→DataW.trod enc Tryz.prog W base sp held m 32 cs=some x→IB.Fine Tryz.prog 32 x.1→∃d,YM d∧DV.aH (allOf W) [d] cs:=by
 induction N using Nat.strongRecOn with
 | _ N ih=>
 intro m cs x hN hx hfi
 rcases Go.Deep.open_slice Tryz.underlying32 hx with ⟨rfl,rfl⟩|⟨a,len,cap,mm,n',D,Pl,rfl,hb,hlc,hcap,hmm,rfl,hel⟩
 ·exact⟨_,⟨[],0,by simp[iI],trivial,by simp,rfl⟩,⟨_,_,rfl,⟨none,0,rfl,Nat.le_refl _,.inl rfl⟩,rfl⟩⟩
 have hlm:len≤mm:=by rw[hmm];split<;>omega
 have Yt:∀w∈DataW.weights Tryz.prog 32 (.slice ((List.range len).map D) ((List.range (mm-len)).map fun j=>D (len+j))),w≤reachBytes:=hfi
 simp only[DataW.weights,Tryz.underlying32,List.mem_cons,List.mem_append] at Yt
 have Xf:∀i,i<len→IB.Fine Tryz.prog 34 (D i):=fun i hi=>
  IB.G5 (fun w hw=>Yt w (.inr (.inl hw))) _ (List.mem_map.2 ⟨i,List.mem_range.2 hi,rfl⟩)
 have hlen:len≤8796093022208:=by
  have:=Yt _ (.inl rfl)
  rw[Zu] at this
  simp only[List.length_map,List.length_range,reachBytes] at this
  omega
 have hspot:0<len→a.spot=none:=by
  intro hpos
  obtain ⟨cs',h1,_⟩:=hel 0 (by omega)
  obtain ⟨_,h5,h6⟩:=World.cells?_some h1
  have c26:=cells34
  have:=h6 0 (by show 0<Tryz.prog.cellsOf 34;omega)
  rw[Nat.zero_mul,iT (by rw[h5,cells34];omega)] at this
  simp only[World.cell?,Addr.add,if_true] at this
  split at this
  ·split at this
   ·cases this
   ·rename_i hsp;simpa using hsp
  ·cases this
 have hadd:0<len→∀k,a.add k=⟨a.block,a.off+k,none⟩:=by
  intro hpos k
  have:=hspot hpos
  unfold Addr.add
  split
  ·rename_i hk;subst hk;cases a;simp_all
  ·rfl
 have each:∀i,i<len→∃(x:Ex) (k:Nat),ht x≤k∧YQ x∧∃v,DV.rel (allOf W) (jG k x) v∧v.cells.size=6∧∀j,j<6→W.cell? ⟨a.block,a.off+i*6+j,none⟩=v.cells[j]?:=by
  intro i hi
  obtain ⟨cs',h1,h2⟩:=hel i (by omega)
  obtain ⟨k,n,d,at',s,v,n2,y,hs,rfl,h3,h4,h5⟩:=open_node h2 (Xf i hi)
  have hsz:SizeOf.sizeOf y.1<N:=by
   have hm:D i∈(List.range len).map D:=List.mem_map.2 ⟨i,List.mem_range.2 hi,rfl⟩
   have h6:=List.sizeOf_lt_of_mem hm
   have h7:SizeOf.sizeOf (DataW.slice ((List.range len).map D) ((List.range (mm-len)).map fun j=>D (len+j)))≤N:=hN
   simp only[DataW.slice.sizeOf_spec] at h7
   have h5:SizeOf.sizeOf y.1<SizeOf.sizeOf (D i):=h5
   omega
  obtain ⟨dk,⟨l,kk,hh,hw,hll,rfl⟩,hr⟩:=ih _ hsz n2 [v] y (Nat.le_refl _) h3 h4
  obtain ⟨u,us,e1,r1,r2⟩:=hr
  simp only[List.cons.injEq] at e1
  obtain ⟨rfl,rfl⟩:=e1
  obtain ⟨_,h8,h9⟩:=World.cells?_some h1
  rw[cells34] at h9 h1
  refine⟨.mk k s n d at' l,kk,by rw[Hq];exact hh,⟨hs,hll,hw⟩,.agg #[.int .i64 k,.string s,.int .i64 n,.int .i64 d,.int .i64 at',v],?_,rfl,fun j hj=>?_⟩
  ·exact⟨_,rfl,_,_,rfl,rfl,_,_,rfl,rfl,_,_,rfl,rfl,_,_,rfl,rfl,_,_,rfl,rfl,v,_,rfl,r1,rfl⟩
  ·have:=h9 j (by simpa using hj)
   rw[hadd (by omega)] at this
   have e:(⟨a.block,a.off+i*6,none⟩:Addr).add j=⟨a.block,a.off+i*6+j,none⟩:=by
    unfold Addr.add
    split
    ·rename_i hk;subst hk;rfl
    ·rfl
   rw[e] at this
   rw[this]
   simp[Value.cells]
 classical
 let X:Nat→Ex:=fun i=>if h:i<len then Classical.choose (each i h) else aJ
 let K:Nat→Nat:=fun i=>if h:i<len then Classical.choose (Classical.choose_spec (each i h)) else 0
 have hX:∀i,i<len→ht (X i)≤K i∧YQ (X i)∧∃v,DV.rel (allOf W) (jG (K i) (X i)) v∧v.cells.size=6∧∀j,j<6→W.cell? ⟨a.block,a.off+i*6+j,none⟩=v.cells[j]?:=fun i hi=>by
  simp only[X,K,dif_pos hi]
  exact Classical.choose_spec (Classical.choose_spec (each i hi))
 obtain ⟨M,hM⟩:=V6 K len
 have E5:((List.range len).map X).length=len:=by simp
 have hget:∀i,i<len→((List.range len).map X).getD i aJ=X i:=fun i hi=>by
  simp[List.getD,List.getElem?_map,List.getElem?_range hi]
 refine⟨.slc 6 ((List.range len).map X).length (lay (cu (M+1)) ((List.range len).map X)),⟨_,M+1,aaH fun i hi=>?_,acr fun i hi=>?_,by rw[E5];exact hlen,rfl⟩,⟨_,_,rfl,⟨some a,cap,by rw[E5],by rw[E5];exact hlc,?_⟩,rfl⟩⟩
 ·rw[E5] at hi
  rw[hget i hi]
  have:=(hX i hi).1
  have:=hM i hi
  omega
 ·rw[E5] at hi
  rw[hget i hi]
  exact(hX i hi).2.1
 ·rw[E5]
  by_cases hz:len=0
  ·exact .inl hz
  right
  refine⟨a.block,a.off,by have:=hspot (by omega);cases a;simp_all,fun i hi=>?_⟩
  obtain ⟨h1,_,v,hv,hs,hc⟩:=hX i hi
  refine⟨v,?_,hs,fun j hj=>hc j hj⟩
  show DV.rel (allOf W) (jG M (((List.range len).map X).getD i aJ)) v
  rw[hget i hi]
  exact Yb _ _ _ h1 (Nat.le_trans h1 (hM i hi)) _ _ hv
def Xq (t:TypeId):Option (DV→Prop):=match Nat.beq t 32 with|true=>some YM|false=>none
theorem acH:IB.How Xq enc Tryz.prog W base sp held:=by
 intro t p m cs x hp hx hf
 unfold Xq at hp
 split at hp
 ·rename_i h
  obtain rfl:=Nat.eq_of_beq_eq_true h
  obtain rfl:=Option.some.inj hp
  obtain ⟨d,h1,h2⟩:=open_kids _ m cs x (Nat.le_refl _) hx hf
  obtain ⟨l,k,a,b,c,rfl⟩:=h1
  exact⟨_,⟨⟨l,k,a,b,c,rfl⟩,_,_,_,rfl⟩,h2⟩
 ·cases hp
end
open Go Go.Ab Go.RowKit
/-! Rules that are read. -/
end Go.Proofs
/- The parser that goes on behind a mistake. -/
set_option maxRecDepth 100000
namespace Go.Proofs
open Go Go.Ab
end Go.Proofs
/- Rules,read by the parser that goes on behind a mistake. -/
set_option maxRecDepth 100000
namespace Go.Proofs
open Go Go.Ab
abbrev Sf:=List Tk×Bool
def kM (s:Sf):ByteArray×Sf:=if s.2=true then (.empty,s) else if nameB (ah s.1)=true then (ah s.1,s.1.tail,false) else (.empty,s.1,true)
def dn (w:ByteArray) (s:Sf):Sf:=if s.2=true then s else if ah s.1=w then (s.1.tail,false) else (s.1,true)
def lG (w:ByteArray) (s:Sf):Bool:=!s.2&&decide (ah s.1=w)
def lD (s:Sf):ByteArray×Sf:=if lG yu s=true then kM (s.1.tail,false) else (.empty,s)
def OU (a:Rr) (b:Rl×Sf):Prop:=match a with
 | .ok x r=>b=(x,r,false)
 | .bad r=>b.2=(r,true)
end Go.Proofs
/- The reference's parser: where it stands,mistakes,taking a word. -/
namespace Go.Proofs
open Go Go.Ab Go.RowKit
set_option maxHeartbeats 1000000
set_option maxRecDepth 100000
variable {G:IH}
abbrev kI (T t:List Tk):Nat:=T.length-t.length
abbrev qC (T:List Tk) (e:Int) (t:List Tk) (b:Bool):List AV:=[.d (kJ T),.d (di (kI T t)),.d (di e),.d (db b),.d (di (bif b then hdA e t else 0))]
abbrev qB (T:List Tk) (e:Int) (t:List Tk) (b:Bool):List (Nat×List AV):=[(1000000,qC T e t b)]
theorem lT {T t:List Tk} (h:t <:+ T) (hn:t≠[]) (e:Int):kI T t<T.length∧T.getD (kI T t) fU=(ah t,hdA e t):=by
 obtain ⟨a,rfl⟩:=h
 cases t with
 | nil=>exact absurd rfl hn
 | cons w t=>
  have e1:kI (a++w :: t) (w :: t)=a.length:=by unfold kI;rw[List.length_append];omega
  rw[e1]
  refine⟨by simp,?_⟩
  rw[List.getD,List.getElem?_append_right (Nat.le_refl _),Nat.sub_self];rfl
theorem uX {T t:List Tk} (hn:t=[]):kI T t=T.length:=by subst hn;rfl
theorem yK {T t:List Tk} (h:t <:+ T) (hn:t≠[]):kI T t.tail=kI T t+1:=by
 have h1:=h.length_le
 cases t with
 | nil=>exact absurd rfl hn
 | cons w t=>unfold kI;simp only[List.length_cons,List.tail_cons] at h1⊢;omega
theorem f81 (T:List Tk) (e:Int) (t:List Tk) (b:Bool) (h:t <:+ T):aA Tryz.prog G 81 [.box 1000000 0] (qB T e t b) (.d (di (hdA e t))) (qB T e t b):=by
 refine aA.aP (mv:=[]) (by kernel_rfl) Tryz.func81 rfl Tryz.call81 ?_
 refine aF (aj:=Fa) (keep:=[]) (cuts:=[]) (n:=1000) follows ?_
 refine au (fun _ _ _ _=>(fun Za=>((((decide ((↑(kI T t):Int)<↑T.length))=true)→(((0≤(↑(kI T t):Int))∧((↑(kI T t):Int)<↑T.length))∧((vi (T.getD ((↑(kI T t):Int)).toNat fU).snd):AV)=(vi (hdA e t))∧(Za:(Option (List AV)))=Za∧True))∧(((decide ((↑(kI T t):Int)<↑T.length))=false)→(((vi e):AV)=(vi (hdA e t))∧(Za:(Option (List AV)))=Za∧True)))) (some [(.d (.slc 2 T.length (aG T))),(vi (↑(kI T t))),(vi e),(vb b),(vi (bif b then hdA e t else 0))])) (by kernel_rfl) ?_
 try dsimp only
 rw[Int.toNat_natCast]
 by_cases hn:t=[]
 ·have e1:=uX (T:=T) hn
  rw[e1,decide_eq_false (Int.lt_irrefl _)]
  refine⟨fun c=>(by cases c),fun _=>⟨?_,rfl,trivial⟩⟩
  subst hn;rfl
 ·obtain ⟨e1,e2⟩:=lT h hn e
  rw[decide_eq_true (by omega:(kI T t:Int)<T.length),e2]
  exact⟨fun _=>⟨⟨by omega,by omega⟩,rfl,rfl,trivial⟩,fun c=>(by cases c)⟩
def dI (t:List Tk) (b:Bool) (s:ByteArray):Bool:=!b&&decide (ah t=s)
theorem f112 (T:List Tk) (e:Int) (t:List Tk) (b:Bool) (h:t <:+ T) (s:ByteArray) (hs:s≠.empty):aA Tryz.prog G 112 [.box 1000000 0,.d (ds s)] (qB T e t b) (.d (db (dI t b s))) (qB T e t b):=by
 refine aA.aP (mv:=[]) (by kernel_rfl) Tryz.func112 rfl Tryz.call112 ?_
 refine aF (aj:=Fa) (keep:=[]) (cuts:=[]) (n:=1000) follows ?_
 refine au (fun _ _ _ _=>(fun Za=>((((!b&&decide ((↑(kI T t):Int)<↑T.length))=true)→((0≤(↑(kI T t):Int))∧((↑(kI T t):Int)<↑T.length)))∧((vb (!b&&decide ((↑(kI T t):Int)<(↑T.length:Int))&&(T.getD ((↑(kI T t):Int)).toNat fU).fst.toList==s.toList)):AV)=(vb (dI t b s))∧(Za:(Option (List AV)))=Za∧True)) (some [(.d (.slc 2 T.length (aG T))),(vi (↑(kI T t))),(vi e),(vb b),(vi (bif b then hdA e t else 0))])) (by kernel_rfl) ?_
 try dsimp only
 rw[Int.toNat_natCast]
 refine⟨fun c=>?_,congrArg (fun x=>AV.d (db x)) ?_,rfl,trivial⟩
 ·simp only[aV,decide_eq_true_eq] at c
  exact⟨by omega,c.2⟩
 unfold dI
 by_cases hn:t=[]
 ·have e1:=uX (T:=T) hn
  rw[e1,decide_eq_false (Int.lt_irrefl _),Bool.and_false,Bool.false_and]
  have:¬ah t=s:=fun c=>hs (by rw[←c,hn];rfl)
  rw[decide_eq_false this,Bool.and_false]
 ·obtain ⟨e1,e2⟩:=lT h hn e
  rw[decide_eq_true (by omega:(kI T t:Int)<T.length),e2,Bool.and_true,gQ]
noncomputable def m47 (T:List Tk) (e:Int) (t:List Tk) (b:Bool):FuncId→List AV→List (Nat×List AV)→Option (AV×List (Nat×List AV)):=fun f _ _=>match f with
 | 81=>some (.d (di (hdA e t)),qB T e t b)
 | _=>none
theorem f47 (T:List Tk) (e:Int) (t:List Tk) (b:Bool) (h:t <:+ T):aA Tryz.prog G 47 [.box 1000000 0] (qB T e t b) (.d kF) (qB T e t true):=by
 refine aA.aP (mv:=[]) (by kernel_rfl) Tryz.func47 rfl Tryz.call47 ?_
 refine aF (aj:=({ d:=fun _ _=>none,m:=m47 T e t b }:dK)) (keep:=[]) (cuts:=[]) (n:=1000) follows ?_
 refine au (fun _ _ _ _=>(fun Za=>((((!b)=true)→(aA Tryz.prog G 81 [(.box 1000000 0)] [(1000000,[Za,(vi (↑(kI T t))),(vi e),(vb b),(vi (bif b then hdA e t else 0))])] (vi (hdA e t)) [(1000000,[Za,(vi (↑(kI T t))),(vi e),(vb b),(vi (bif b then hdA e t else 0))])]∧(ZS ((.d (.ak [])):AV))∧((some [Za,(vi (↑(kI T t))),(vi e),(vb true),(vi (hdA e t))]):(Option (List AV)))=(some [Za,(vi (↑(kI T t))),(vi e),(vb true),(vi (bif true then hdA e t else 0))])∧True))∧(((!b)=false)→((ZS ((.d (.ak [])):AV))∧((some [Za,(vi (↑(kI T t))),(vi e),(vb b),(vi (bif b then hdA e t else 0))]):(Option (List AV)))=(some [Za,(vi (↑(kI T t))),(vi e),(vb true),(vi (bif true then hdA e t else 0))])∧True)))) ((.d (.slc 2 T.length (aG T))):AV)) (by kernel_rfl) ?_
 try dsimp only
 cases b with
 | false=>exact⟨fun _=>⟨f81 T e t false h,rfl,rfl,trivial⟩,fun c=>(by cases c)⟩
 | true=>exact⟨fun c=>(by cases c),fun _=>⟨rfl,rfl,trivial⟩⟩
noncomputable def m83 (T:List Tk) (e:Int) (t:List Tk) (b c:Bool):FuncId→List AV→List (Nat×List AV)→Option (AV×List (Nat×List AV)):=fun f _ _=>match f with
 | 112=>some (.d (db c),qB T e t b)
 | _=>none
theorem oZ (T:List Tk) (e:Int) (t:List Tk) (h:t <:+ T) (hl:T.length≤1000000) (s:ByteArray) (hs:s≠.empty) (hh:ah t=s):aA Tryz.prog G 83 [.box 1000000 0,.d (ds s)] (qB T e t false) (.d (db true)) (qB T e t.tail false):=by
 have hn:t≠[]:=fun c=>hs (by rw[←hh,c];rfl)
 have e1:=yK h hn
 have k:=f112 (G:=G) T e t false h s hs
 rw[show dI t false s=true by unfold dI;rw[decide_eq_true hh];rfl] at k
 refine aA.aP (mv:=[]) (by kernel_rfl) Tryz.func83 rfl Tryz.call83 ?_
 refine aF (aj:=({ d:=fun _ _=>none,m:=m83 T e t false true }:dK)) (keep:=[]) (cuts:=[]) (n:=1000) follows ?_
 refine au (fun _ _ _ _=>(fun Za Zb=>(aA Tryz.prog G 112 [(.box 1000000 0),(vs s)] [(1000000,[Za,(vi (↑(kI T t))),(vi e),(vb false),Zb])] (vb true) [(1000000,[Za,(vi (↑(kI T t))),(vi e),(vb false),Zb])]∧((false=true)→(((vb false):AV)=(vb true)∧((some [Za,(vi (↑(kI T t))),(vi e),(vb false),Zb]):(Option (List AV)))=(some [Za,(vi (↑(kI T t.tail))),(vi e),(vb false),(vi (bif false then hdA e t.tail else 0))])∧True))∧((false=false)→((I64 (↑(kI T t)+1))∧(ZS ((vb true):AV))∧((some [Za,(vi (↑(kI T t)+1)),(vi e),(vb false),Zb]):(Option (List AV)))=(some [Za,(vi (↑(kI T t.tail))),(vi e),(vb false),(vi (bif false then hdA e t.tail else 0))])∧True)))) ((.d (.slc 2 T.length (aG T))):AV) (vi (bif false then hdA e t else 0))) (by kernel_rfl) ?_
 refine⟨k,fun c=>(by cases c),fun _=>⟨?_,rfl,?_,trivial⟩⟩
 ·have:=(lT h hn e).1
  unfold I64;omega
 ·rw[e1];rfl
theorem pW (T:List Tk) (e:Int) (t:List Tk) (b:Bool) (h:t <:+ T) (s:ByteArray) (hs:s≠.empty) (hh:dI t b s=false):aA Tryz.prog G 83 [.box 1000000 0,.d (ds s)] (qB T e t b) (.d (db false)) (qB T e t b):=by
 have k:=f112 (G:=G) T e t b h s hs
 rw[hh] at k
 refine aA.aP (mv:=[]) (by kernel_rfl) Tryz.func83 rfl Tryz.call83 ?_
 refine aF (aj:=({ d:=fun _ _=>none,m:=m83 T e t b false }:dK)) (keep:=[]) (cuts:=[3]) (n:=1000) follows ?_
 refine au (fun ZT ZW ZQ _=>(fun Za=>(aA Tryz.prog G 112 [(.box 1000000 0),(vs s)] [(1000000,[(.d (.slc 2 T.length (aG T))),(vi (↑(kI T t))),(vi e),(vb b),(vi (bif b then hdA e t else 0))])] (vb false) [(1000000,[(.d (.slc 2 T.length (aG T))),(vi (↑(kI T t))),(vi e),(vb b),(vi (bif b then hdA e t else 0))])]∧((true=true)→((ZS ((vb false):AV))∧(Za:(Option (List AV)))=Za∧True))∧((true=false)→ZW [cd Tryz.f83 [1,1]] (aB ZT [1]) ZQ))) (some [(.d (.slc 2 T.length (aG T))),(vi (↑(kI T t))),(vi e),(vb b),(vi (bif b then hdA e t else 0))])) (by kernel_rfl) ?_
 exact⟨k,fun _=>⟨rfl,rfl,trivial⟩,fun c=>(by cases c)⟩
noncomputable def m85 (T:List Tk) (e:Int) (t t1:List Tk) (b c:Bool):FuncId→List AV→List (Nat×List AV)→Option (AV×List (Nat×List AV)):=fun f _ _=>match f with
 | 83=>some (.d (db c),qB T e t1 b)
 | 47=>some (.d kF,qB T e t true)
 | _=>none
theorem Et (T:List Tk) (e:Int) (t:List Tk) (h:t <:+ T) (hl:T.length≤1000000) (s:ByteArray) (hs:s≠.empty) (hh:ah t=s):aA Tryz.prog G 85 [.box 1000000 0,.d (ds s)] (qB T e t false) (.d kF) (qB T e t.tail false):=by
 refine aA.aP (mv:=[]) (by kernel_rfl) Tryz.func85 rfl Tryz.call85 ?_
 refine aF (aj:=({ d:=fun _ _=>none,m:=m85 T e t t.tail false true }:dK)) (keep:=[]) (cuts:=[1]) (n:=1000) follows ?_
 refine au (fun ZT ZW ZQ _=>(fun Za=>(aA Tryz.prog G 83 [(.box 1000000 0),(vs s)] [(1000000,[(.d (.slc 2 T.length (aG T))),(vi (↑(kI T t))),(vi e),(vb false),(vi (bif false then hdA e t else 0))])] (vb true) [(1000000,[(.d (.slc 2 T.length (aG T))),(vi (↑(kI T t.tail))),(vi e),(vb false),(vi (bif false then hdA e t.tail else 0))])]∧((false=true)→ZW [cd Tryz.f85 [1,0]] (aB ZT [0]) ZQ)∧((false=false)→((ZS ((.d (.ak [])):AV))∧(Za:(Option (List AV)))=Za∧True)))) (some [(.d (.slc 2 T.length (aG T))),(vi (↑(kI T t.tail))),(vi e),(vb false),(vi (bif false then hdA e t.tail else 0))])) (by kernel_rfl) ?_
 exact⟨oZ T e t h hl s hs hh,fun c=>(by cases c),fun _=>⟨rfl,rfl,trivial⟩⟩
theorem xJ (T:List Tk) (e:Int) (t:List Tk) (b:Bool) (h:t <:+ T) (s:ByteArray) (hs:s≠.empty) (hh:dI t b s=false):aA Tryz.prog G 85 [.box 1000000 0,.d (ds s)] (qB T e t b) (.d kF) (qB T e t true):=by
 refine aA.aP (mv:=[]) (by kernel_rfl) Tryz.func85 rfl Tryz.call85 ?_
 refine aF (aj:=({ d:=fun _ _=>none,m:=m85 T e t t b false }:dK)) (keep:=[]) (cuts:=[]) (n:=1000) follows ?_
 refine au (fun _ _ _ _=>(fun Za Zb Zc=>(aA Tryz.prog G 83 [(.box 1000000 0),(vs s)] [(1000000,[Zb,(vi (↑(kI T t))),(vi e),(vb b),Zc])] (vb false) [(1000000,[Zb,(vi (↑(kI T t))),(vi e),(vb b),Zc])]∧((true=true)→(aA Tryz.prog G 47 [(.box 1000000 0)] [(1000000,[Zb,(vi (↑(kI T t))),(vi e),(vb b),Zc])] (.d (.ak [])) [(1000000,[Zb,(vi (↑(kI T t))),(vi e),(vb true),(vi (bif true then hdA e t else 0))])]∧(ZS ((.d (.ak [])):AV))∧(Za:(Option (List AV)))=Za∧True))∧((true=false)→((ZS ((.d (.ak [])):AV))∧((some [Zb,(vi (↑(kI T t))),(vi e),(vb b),Zc]):(Option (List AV)))=Za∧True)))) (some [(.d (.slc 2 T.length (aG T))),(vi (↑(kI T t))),(vi e),(vb true),(vi (bif true then hdA e t else 0))]) ((.d (.slc 2 T.length (aG T))):AV) (vi (bif b then hdA e t else 0))) (by kernel_rfl) ?_
 exact⟨pW T e t b h s hs hh,fun _=>⟨f47 T e t b h,rfl,rfl,trivial⟩,fun c=>(by cases c)⟩
end Go.Proofs
/- The reference's parser: names and operators. -/
namespace Go.Proofs
open Go Go.Ab Go.RowKit
set_option maxHeartbeats 2000000
set_option maxRecDepth 100000
variable {G:IH}
theorem Zm {l:List ByteArray} {s:ByteArray}:∀{j:Nat},j<l.length→l.getD j .empty=s→(∀p,p<j→l.getD p .empty≠s)→eF l s=(j:Int):=by
 intro j hj he hn
 have key:∀(l:List ByteArray) (j:Nat),j<l.length→l.getD j .empty=s→(∀p,p<j→l.getD p .empty≠s)→(l.takeWhile fun x=>!decide (x=s)).length=j∧l.any (fun x=>decide (x=s))=true:=by
  intro l
  induction l with
  | nil=>intro j hj;simp at hj
  | cons a l ih=>
   intro j hj he hn
   cases j with
   | zero=>
    have he:a=s:=he
    simp[he]
   | succ j=>
    have ha:a≠s:=hn 0 (by omega)
    obtain ⟨k1,k2⟩:=ih j (by simpa using hj) he fun p hp=>hn (p+1) (by omega)
    refine⟨?_,by simp only[List.any_cons,k2,Bool.or_true]⟩
    rw[List.takeWhile_cons,decide_eq_false ha]
    simp[k1]
 obtain ⟨k1,k2⟩:=key l j hj he hn
 unfold eF
 rw[if_pos k2,k1]
theorem U8 {l:List ByteArray} {s:ByteArray} (hn:∀p,p<l.length→l.getD p .empty≠s):eF l s = -1:=by
 unfold eF
 rw[if_neg]
 intro h
 obtain ⟨x,hx,he⟩:=List.any_eq_true.1 h
 obtain ⟨p,hp,rfl⟩:=List.getElem_of_mem hx
 refine hn p hp ?_
 rw[List.getD,iT hp]
 simpa using he
noncomputable def YA:cZ:=fun f a=>match f,a with
 | 23,[.con (.int .i64 v)]=>some (Py v)
 | _,_=>none
noncomputable def m90 (T:List Tk) (e:Int) (t:List Tk) (b:Bool):FuncId→List AV→List (Nat×List AV)→Option (AV×List (Nat×List AV)):=fun f a _=>match f,a with
 | 112,[_,.d (.con (.string s))]=>some (.d (db (dI t b s)),qB T e t b)
 | _,_=>none
noncomputable def S90 (T:List Tk) (e:Int) (t:List Tk) (b:Bool) (v:Int) (j:Nat):AS:=⟨regs Tryz.f90.ntmps [(0,.box 1000000 0),(5,.d (.slc 1 (opsT v).length (iY (opsT v)))),(7,vi j)],qB T e t b⟩
theorem Rt (v:Int) (j:Nat) (h:j<(opsT v).length):(opsT v).getD j .empty≠.empty:=by
 have:∀s∈opsT v,s≠.empty:=by
  unfold opsT lJ
  repeat' split
  all_goals (intro s hs;revert hs;revert s;decide +kernel)
 rw[List.getD,iT h]
 exact this _ (List.getElem_mem _)
theorem f90 (T:List Tk) (e:Int) (t:List Tk) (b:Bool) (h:t <:+ T) (v:Int):aA Tryz.prog G 90 [.box 1000000 0,.d (di v)] (qB T e t b) (.d (di (bif b then -1 else eF (opsT v) (ah t)))) (qB T e t b):=by
 refine aA.aP (mv:=[]) (by kernel_rfl) Tryz.func90 rfl Tryz.call90 ?_
 refine aF (aj:=({ d:=YA,m:=m90 T e t b }:dK)) (keep:=[]) (cuts:=[]) (n:=1000) follows ?_
 refine au (fun ZT ZW ZQ ZK=>(ZK 23 [(di v)] (.ak [(.slc 1 (opsT v).length (iY (opsT v))),(.slc 1 (lJ v).length (Vm (lJ v)))])∧ZW [cd Tryz.f90 [1,1,0,1,0],(.blk 0),cd Tryz.f90 [1,1,1]] (aB ZT []) ZQ)) (by kernel_rfl) ?_
 refine⟨f23 v,?_⟩
 have hl6:=Xh v
 have htl:(opsT v).length=(lJ v).length:=by unfold opsT;rw[List.length_map]
 refine aK.loop (c:=aY (aC Tryz.f90) [1,1,0,1,0,0]) (by kernel_rfl) (S90 T e t b v) (fun j=>j≤(opsT v).length∧∀p,p<j→dI t b ((opsT v).getD p .empty)=false) (fun j=>(opsT v).length-j) 0 ?_ ⟨Nat.zero_le _,fun p hp=>absurd hp (Nat.not_lt_zero _)⟩ ?_
 ·exact AS.bV (by kernel_rfl)
 ·rintro j ⟨hj,hjn⟩
  refine aF (aj:=({ d:=YA,m:=m90 T e t b }:dK)) (keep:=[]) (cuts:=[]) (n:=1000) follows ?_
  refine bZ (fun ZT ZW ZQ _ ZA _=>(fun Za Zb=>((((decide ((↑j:Int)<↑(opsT v).length))=true)→((((0≤(↑j:Int))∧((↑j:Int)<↑(opsT v).length))∧aA Tryz.prog G 112 [(.box 1000000 0),(vs Za)] [(1000000,[(.d (.slc 2 T.length (aG T))),(vi (↑(kI T t))),(vi e),(vb b),(vi (bif b then hdA e t else 0))])] (vb (dI t b Za)) [(1000000,[(.d (.slc 2 T.length (aG T))),(vi (↑(kI T t))),(vi e),(vb b),(vi (bif b then hdA e t else 0))])])∧(((dI t b Za)=true)→(((vi (↑j)):AV)=(vi (bif b then -1 else eF (opsT v) (ah t)))∧(Zb:(Option (List AV)))=Zb∧True))∧(((dI t b Za)=false)→((I64 (↑j+1))∧(ZA (aB ZT [0,1]))))))∧(((decide ((↑j:Int)<↑(opsT v).length))=false)→ZW [cd Tryz.f90 [1,1,1]] (aB ZT [1]) ZQ))) ((opsT v).getD (↑j:Int).toNat ByteArray.empty) (some [(.d (.slc 2 T.length (aG T))),(vi (↑(kI T t))),(vi e),(vb b),(vi (bif b then hdA e t else 0))])) (by kernel_rfl) ?_
  try dsimp only
  rw[Int.toNat_natCast]
  refine⟨fun c=>?_,fun c=>?_⟩
  ·have hj2:j<(opsT v).length:=by have:=of_decide_eq_true c;omega
   have hne:=Rt v j hj2
   refine⟨⟨⟨by omega,by omega⟩,f112 T e t b h _ hne⟩,fun c2=>⟨?_,rfl,trivial⟩,fun c2=>⟨by unfold I64;omega,Again.mk (j+1) ?_ ⟨hj2,fun p hp=>?_⟩ (by omega)⟩⟩
   ·unfold dI at c2
    simp only[aV,Bool.not_eq_true',decide_eq_true_eq] at c2
    rw[c2.1,cond_false,Zm hj2 c2.2.symm fun p hp he=>?_]
    have:=hjn p hp
    rw[c2.1] at this
    unfold dI at this
    rw[decide_eq_true he.symm] at this
    cases this
   ·exact AS.bV (by kernel_rfl)
   ·rcases Nat.lt_or_ge p j with h4|h4
    ·exact hjn p h4
    ·obtain rfl:p=j:=by omega
     exact c2
  ·simp only[decide_eq_false_iff_not] at c
   obtain rfl:j=(opsT v).length:=by omega
   refine aF (aj:=({ d:=YA,m:=m90 T e t b }:dK)) (keep:=[]) (cuts:=[]) (n:=1000) follows ?_
   refine au (fun _ _ _ _=>(fun Za=>(((vi (-1)):AV)=(vi (bif b then -1 else eF (opsT v) (ah t)))∧(Za:(Option (List AV)))=Za∧True)) (some [(.d (.slc 2 T.length (aG T))),(vi (↑(kI T t))),(vi e),(vb b),(vi (bif b then hdA e t else 0))])) (by kernel_rfl) ?_
   refine⟨?_,rfl,trivial⟩
   cases b with
   | true=>rfl
   | false=>
    rw[cond_false,U8 fun p hp he=>?_]
    have:=hjn p hp
    unfold dI at this
    rw[decide_eq_true he.symm] at this
    cases this
end Go.Proofs
/- What the words of a text are: those that begin with a letter are names or keywords. -/
namespace Go.Proofs
open Go Go.Ab
def qO (t:List Tk):Prop:=∀w∈t,w.1.size≠0∧(eu (byteAt w.1 0)=true→tK w.1=false→nameB w.1=true)
theorem qO.suf {t r:List Tk} (h:qO t) (hs:r <:+ t):qO r:=fun w hw=>h w (hs.subset hw)
theorem qO.hd {t:List Tk} (h:qO t) (hn:t≠[]):(ah t).size≠0∧(eu (byteAt (ah t) 0)=true→tK (ah t)=false→nameB (ah t)=true):=by
 cases t with
 | nil=>exact absurd rfl hn
 | cons w t=>exact h w (by simp)
theorem WE {l:List UInt8} (hd:oz (l.headD 0)=true) (h:(dB l).2=0):(dB l).1=(bC dM l:Int)∧bC dM l≤16:=by
 have h0:=(KN hd).1
 unfold dB at h⊢
 rw[if_neg (by rw[h0];decide),if_pos hd] at h⊢
 split at h
 ·rename_i h1
  rw[if_pos h1]
  exact⟨rfl,h1⟩
 ·cases h
theorem aae {c:UInt8} (h:oz c=true):dM c=true:=by
 unfold oz at h
 unfold dM fP
 rw[h];rfl
theorem Vk {l:List UInt8} (hl:l≠[]) (hd:oz (l.headD 0)=true) (h16:bC dM l≤16) (hk:tK (iZ (l.take (bC dM l)))=false):nameB (iZ (l.take (bC dM l)))=true:=by
 obtain ⟨c,l,rfl⟩:∃c t,l=c :: t:=by
  cases l with
  | nil=>exact absurd rfl hl
  | cons c t=>exact⟨c,t,rfl⟩
 have hc:oz c=true:=hd
 have h1:1≤bC dM (c :: l):=by
  unfold bC
  rw[List.takeWhile_cons,aae hc];simp
 have hle:bC dM (c :: l)≤(c :: l).length:=(List.takeWhile_prefix dM).length_le
 have hsz:(iZ ((c :: l).take (bC dM (c :: l)))).size=bC dM (c :: l):=by
  rw[Gp,List.length_take];omega
 have htk:(c :: l).take (bC dM (c :: l))=(c :: l).takeWhile dM:=(List.prefix_iff_eq_take.1 (List.takeWhile_prefix dM)).symm
 have hrn:runN (iZ ((c :: l).take (bC dM (c :: l))))=bC dM (c :: l):=by
  unfold runN
  rw[wQ,htk]
  have:∀m:List UInt8,(m.takeWhile dM).takeWhile dM=m.takeWhile dM:=fun m=>by
   induction m with
   | nil=>rfl
   | cons a m ih=>
    rw[List.takeWhile_cons]
    split
    ·rename_i ha
     rw[List.takeWhile_cons,if_pos ha,ih]
    ·rfl
  rw[this];rfl
 unfold nameB
 rw[hsz,hrn,hk,decide_eq_true h1,decide_eq_true h16,GL h1 (by simp)]
 show (oz c&&(decide (bC dM (c :: l)=bC dM (c :: l))&&true))=true
 rw[hc,decide_eq_true rfl];rfl
theorem Wv:∀(k at_:Nat) (l:List UInt8) (t:List Tk),toks k at_ l=.ok t→qO t:=by
 intro k
 induction k with
 | zero=>intro at_ l t h;cases h
 | succ k ih=>
  intro at_ l t h
  unfold toks at h
  split at h
  ·injection h with h;subst h
   intro w hw;cases hw
  ·rename_i h1
   split at h
   ·cases h
   ·rename_i h2
    have h2:(dB (l.drop (bH false l))).2=0:=by simpa using h2
    have hne:l.drop (bH false l)≠[]:=fun hh=>by
     have:=congrArg List.length hh
     rw[List.length_drop] at this;simp at this;omega
    obtain ⟨p1,p2⟩:=tV hne h2
    cases e:toks k (at_+bH false l+(dB (l.drop (bH false l))).1.toNat) (l.drop (bH false l+(dB (l.drop (bH false l))).1.toNat)) with
    | bad a b=>rw[e] at h;cases h
    | ok T=>
     rw[e] at h
     injection h with h
     subst h
     intro w hw
     rcases List.mem_cons.1 hw with rfl|hw
     ·refine⟨?_,fun hd hk=>?_⟩
      ·dsimp only
       rw[Gp,List.length_take];omega
      ·dsimp only at hd hk⊢
       rw[GL (by omega) hne] at hd
       obtain ⟨e1,e2⟩:=WE hd h2
       rw[e1,Int.toNat_natCast] at hk⊢
       exact Vk hne hd e2 hk
     ·exact ih _ _ _ e w hw
end Go.Proofs
/- The reference's parser: names. -/
namespace Go.Proofs
open Go Go.Ab Go.RowKit
set_option maxHeartbeats 2000000
set_option maxRecDepth 100000
variable {G:IH}
noncomputable def d84:cZ:=fun f a=>match f,a with
 | 69,[b8 c]=>some (db (eu c))
 | 101,[]=>some Hg
 | 100,[_,.con (.string s)]=>some (db (tK s))
 | _,_=>none
noncomputable def m84 (T:List Tk) (e:Int) (t:List Tk) (b:Bool):FuncId→List AV→List (Nat×List AV)→Option (AV×List (Nat×List AV)):=fun f _ _=>match f with
 | 47=>some (.d kF,qB T e t true)
 | _=>none
theorem QK (T:List Tk) (e:Int) (t:List Tk) (h:t <:+ T) (hl:T.length≤1000000) (hh:nameB (ah t)=true):aA Tryz.prog G 84 [.box 1000000 0] (qB T e t false) (.d (ds (ah t))) (qB T e t.tail false):=by
 refine aA.aP (mv:=[]) (by kernel_rfl) Tryz.func84 rfl Tryz.call84 ?_
 refine aF (aj:=({ d:=d84,m:=m84 T e t false }:dK)) (keep:=[]) (cuts:=[]) (n:=1000) follows ?_
 refine au (fun _ _ _ ZK=>(fun Za Zb Zc Zd=>((((Zd=true)→((0≤(↑(kI T t):Int))∧((↑(kI T t):Int)<↑T.length)))∧((Zd=true)→(((0:Int)≤(0:Int))∧(0<(↑(ByteArray.size (Prod.fst (List.getD T (Int.toNat (↑(kI T t):Int)) fU))):Int))))∧((Zd=true)→ZK 69 [(.con (.int .u8 Za))] (db (eu Za)))∧(((!(false||decide ((↑(kI T t):Int)≥(↑T.length:Int))||!eu Za))=true)→ZK 101 [] (.slc 1 13 Ir))∧(((!(false||decide ((↑(kI T t):Int)≥(↑T.length:Int))||!eu Za))=true)→((0≤(↑(kI T t):Int))∧((↑(kI T t):Int)<↑T.length)))∧(((!(false||decide ((↑(kI T t):Int)≥(↑T.length:Int))||!eu Za))=true)→ZK 100 [(.slc 1 13 Ir),(ds Zc.fst)] (db (tK Zc.fst))))∧(((false||decide ((↑(kI T t):Int)≥(↑T.length:Int))||!eu Za||tK Zc.fst)=true)→(aA Tryz.prog G 47 [(.box 1000000 0)] [(1000000,[Zb,(vi (↑(kI T t))),(vi e),(vb false),(vi (bif false then hdA e t else 0))])] (.d (.ak [])) [(1000000,[Zb,(vi (↑(kI T t))),(vi e),(vb true),(vi (bif true then hdA e t else 0))])]∧((vs (ByteArray.mk #[])):AV)=(vs (ah t))∧((some [Zb,(vi (↑(kI T t))),(vi e),(vb true),(vi (bif true then hdA e t else 0))]):(Option (List AV)))=(some [Zb,(vi (↑(kI T t.tail))),(vi e),(vb false),(vi (bif false then hdA e t.tail else 0))])∧True))∧(((false||decide ((↑(kI T t):Int)≥(↑T.length:Int))||!eu Za||tK Zc.fst)=false)→((I64 (↑(kI T t)+1))∧((I64 (↑(kI T t)+1-1))∧(0≤(↑(kI T t):Int)+1-1)∧((↑(kI T t):Int)+1-1<↑T.length))∧((vs (T.getD ((↑(kI T t):Int)+1-1).toNat fU).fst):AV)=(vs (ah t))∧((some [Zb,(vi (↑(kI T t)+1)),(vi e),(vb false),(vi (bif false then hdA e t else 0))]):(Option (List AV)))=(some [Zb,(vi (↑(kI T t.tail))),(vi e),(vb false),(vi (bif false then hdA e t.tail else 0))])∧True)))) (byteAt (T.getD ((↑(kI T t):Int)).toNat fU).fst (Int.toNat 0)) ((.d (.slc 2 T.length (aG T))):AV) (T.getD ((↑(kI T t):Int)).toNat fU) (!(false||decide ((↑(kI T t):Int)≥↑T.length)))) (by kernel_rfl) ?_
 try dsimp only
 have hn:t≠[]:=fun c=>by rw[c] at hh;exact absurd hh (by decide +kernel)
 obtain ⟨e1,e2⟩:=lT h hn e
 have e3:=yK h hn
 have q:=hh
 rw[name_eq] at q
 simp only[aV,Bool.not_eq_true',decide_eq_false_iff_not] at q
 obtain ⟨⟨⟨⟨q1,_⟩,q2⟩,_⟩,q3⟩:=q
 have e4:(kI T t:Int)+1-1=kI T t:=by omega
 have e5:decide ((kI T t:Int)≥T.length)=false:=decide_eq_false (by omega)
 simp only[e4,Int.toNat_natCast,e2,e5,q2,q3,Bool.or_false,Bool.not_true,Bool.not_false]
 refine⟨⟨fun _=>⟨by omega,by omega⟩,fun _=>⟨by omega,by omega⟩,fun _=>?_,fun _=>f101,fun _=>⟨by omega,by omega⟩,fun _=>?_⟩,fun c=>(by cases c),fun _=>⟨by unfold I64;omega,⟨by unfold I64;omega,by omega,by omega⟩,(by first|rfl|trivial),?_,trivial⟩⟩
 ·have:=f69 (G:=G) (byteAt (ah t) (Int.toNat 0))
  rwa [q2] at this
 ·have:=Vh (G:=G) (ah t)
  rwa [q3] at this
 ·rw[e3];rfl
theorem NR (T:List Tk) (e:Int) (t:List Tk) (b:Bool) (h:t <:+ T) (hN:qO t) (hh:b=true∨nameB (ah t)=false):aA Tryz.prog G 84 [.box 1000000 0] (qB T e t b) (.d (ds .empty)) (qB T e t true):=by
 refine aA.aP (mv:=[]) (by kernel_rfl) Tryz.func84 rfl Tryz.call84 ?_
 refine aF (aj:=({ d:=d84,m:=m84 T e t b }:dK)) (keep:=[]) (cuts:=[4]) (n:=1000) follows ?_
 refine au (fun ZT ZW ZQ ZK=>(fun Za Zb Zc Zd=>((((Zd=true)→((0≤(↑(kI T t):Int))∧((↑(kI T t):Int)<↑T.length)))∧((Zd=true)→(((0:Int)≤(0:Int))∧(0<(↑(ByteArray.size (Prod.fst (List.getD T (Int.toNat (↑(kI T t):Int)) fU))):Int))))∧((Zd=true)→ZK 69 [(.con (.int .u8 Za))] (db (eu Za)))∧(((!(b||decide ((↑(kI T t):Int)≥(↑T.length:Int))||!eu Za))=true)→ZK 101 [] (.slc 1 13 Ir))∧(((!(b||decide ((↑(kI T t):Int)≥(↑T.length:Int))||!eu Za))=true)→((0≤(↑(kI T t):Int))∧((↑(kI T t):Int)<↑T.length)))∧(((!(b||decide ((↑(kI T t):Int)≥(↑T.length:Int))||!eu Za))=true)→ZK 100 [(.slc 1 13 Ir),(ds Zb.fst)] (db (tK Zb.fst))))∧(((b||decide ((↑(kI T t):Int)≥(↑T.length:Int))||!eu Za||tK Zb.fst)=true)→(aA Tryz.prog G 47 [(.box 1000000 0)] [(1000000,[(.d (.slc 2 T.length (aG T))),(vi (↑(kI T t))),(vi e),(vb b),(vi (bif b then hdA e t else 0))])] (.d (.ak [])) [(1000000,[(.d (.slc 2 T.length (aG T))),(vi (↑(kI T t))),(vi e),(vb true),(vi (bif true then hdA e t else 0))])]∧((vs (ByteArray.mk #[])):AV)=(vs ByteArray.empty)∧(Zc:(Option (List AV)))=Zc∧True))∧(((b||decide ((↑(kI T t):Int)≥(↑T.length:Int))||!eu Za||tK Zb.fst)=false)→ZW [cd Tryz.f84 [1,1]] (aB ZT [1]) ZQ))) (byteAt (T.getD ((↑(kI T t):Int)).toNat fU).fst (Int.toNat 0)) (T.getD ((↑(kI T t):Int)).toNat fU) (some [(.d (.slc 2 T.length (aG T))),(vi (↑(kI T t))),(vi e),(vb true),(vi (bif true then hdA e t else 0))]) (!(b||decide ((↑(kI T t):Int)≥↑T.length)))) (by kernel_rfl) ?_
 try dsimp only
 have key:(b||decide ((kI T t:Int)≥(T.length:Int))||!eu (byteAt (T.getD (kI T t) fU).1 0)||tK (T.getD (kI T t) fU).1)=true:=by
  cases b with
  | true=>rfl
  | false=>
   have hh:=hh.resolve_left (by decide)
   by_cases hn:t=[]
   ·rw[decide_eq_true (by rw[uX (T:=T) hn];exact Int.le_refl _)];rfl
   ·obtain ⟨e1,e2⟩:=lT h hn e
    rw[e2]
    try dsimp only
    cases c1:eu (byteAt (ah t) 0) with
    | false=>simp
    | true=>
     cases c2:tK (ah t) with
     | true=>simp
     | false=>
      rw[(hN.hd hn).2 c1 c2] at hh
      cases hh
 simp only[Int.toNat_natCast,Int.toNat_zero]
 rw[key]
 have hin:(!(b||decide ((kI T t:Int)≥(T.length:Int))))=true→t≠[]∧kI T t<T.length:=fun c=>by
  simp only[Bool.not_or,aV,Bool.not_eq_true',decide_eq_false_iff_not] at c
  exact⟨fun hn=>by rw[uX (T:=T) hn] at c;omega,by omega⟩
 refine⟨⟨fun c=>?_,fun c=>?_,fun _=>f69 _,fun _=>f101,fun c=>?_,fun _=>Vh _⟩,fun _=>⟨f47 T e t b h,(by first|rfl|trivial),(by first|rfl|trivial),trivial⟩,fun c=>(by cases c)⟩
 ·have:=hin c;omega
 ·obtain ⟨k1,k2⟩:=hin c
  rw[(lT h k1 e).2]
  have:=(hN.hd k1).1
  try dsimp only
  omega
 ·have:=hin (by
   simp only[Bool.not_or,aV] at c⊢
   exact c.1)
  omega
end Go.Proofs
/- The reference's parser: expressions of a level,prefixes. -/
namespace Go.Proofs
open Go Go.Ab Go.RowKit
set_option maxHeartbeats 4000000
set_option maxRecDepth 100000
variable {G:IH}
def isBad:Rs→Bool
 | .ok _ _=>false
 | .bad _=>true
def fF (md:Md) (t:List Tk) (b:Bool):Rs:=if b=true then .bad t else pr md t
def EvQ (G:IH) (f:FuncId) (args:List AV) (T:List Tk) (e:Int) (t:List Tk) (b:Bool) (R:Rs):Prop:=
 ∃y:Ex,aA Tryz.prog G f args (qB T e t b) (.d (fD y)) (qB T e (aQ R) (isBad R))∧∀x r,R=.ok x r→y=x
def lY (G:IH) (T:List Tk) (e:Int) (n:Nat) (t:List Tk) (b:Bool):Prop:=EvQ G 46 [.box 1000000 0,.d (di ((n:Int)+1))] T e t b (fF (.lvl n) t b)
def xZ (G:IH) (T:List Tk) (e:Int) (t:List Tk) (b:Bool):Prop:=EvQ G 89 [.box 1000000 0] T e t b (fF .gI t b)
noncomputable def mPq (T:List Tk) (e:Int) (tA:List Tk) (bA:Bool) (c:Bool) (t1:List Tk) (b1:Bool) (y:Ex) (r:List Tk) (br:Bool) (o:Int) (tO:List Tk) (bO:Bool):FuncId→List AV→List (Nat×List AV)→Option (AV×List (Nat×List AV)):=fun f _ _=>match f with
 | 81=>some (.d (di (hdA e tA)),qB T e tA bA)
 | 83=>some (.d (db c),qB T e t1 b1)
 | 46=>some (.d (fD y),qB T e r br)
 | 89=>some (.d (fD y),qB T e r br)
 | 90=>some (.d (di o),qB T e tO bO)
 | _=>none
noncomputable def xg (T:List Tk) (e:Int) (tA:List Tk) (bA:Bool) (c:Bool) (t1:List Tk) (b1:Bool) (y:Ex) (r:List Tk) (br:Bool) (o:Int) (tO:List Tk) (bO:Bool):dK:={ d:=YA,m:=mPq T e tA bA c t1 b1 y r br o tO bO }
theorem KR (f:Ex→Ex) (R:Rs):isBad (R.yG f)=isBad R:=by cases R<;>rfl
theorem QE {f:Ex→Ex} {R:Rs} {y:Ex} (hyx:∀x r,R=.ok x r→y=x):∀x r,R.yG f=.ok x r→f y=x:=fun x r q=>by
 cases R with
 | ok z r'=>
  injection q with q1 q2
  rw[←q1,hyx z r' rfl]
 | bad r'=>cases q
theorem vW {t:List Tk} {b:Bool} {s:ByteArray} (h:dI t b s=false):b=true∨(b=false∧ah t≠s):=by
 cases b with
 | true=>exact .inl rfl
 | false=>
  refine .inr ⟨rfl,fun c=>?_⟩
  unfold dI at h
  rw[decide_eq_true c] at h
  cases h
theorem aa8 (T:List Tk) (e:Int) (t:List Tk) (h:t <:+ T) (hl:T.length≤1000000) (hh:ah t=notS) (h1:lY G T e 2 t.tail false):lY G T e 2 t false:=by
 obtain ⟨y,hy,hyx⟩:=h1
 have he:fF (.lvl 2) t false=(pr (.lvl 2) t.tail).yG fun x=>.mk 18 .empty 0 0 (hdA 0 t) [x]:=NI hh
 have h0:fF (.lvl 2) t.tail false=pr (.lvl 2) t.tail:=rfl
 rw[h0] at hy hyx
 have ha:hdA e t=hdA 0 t:=jr e (by rw[hh];decide)
 unfold lY
 rw[he]
 refine⟨.mk 18 .empty 0 0 (hdA 0 t) [y],?_,QE hyx⟩
 rw[sV,KR]
 refine aA.resD (d:=.agg [di 18,ds .empty,di 0,di 0,di (hdA e t),.slc 6 1 (aS true 6 [di y.k,ds y.s,di y.n,di y.d,di y.pos,.slc 6 y.kids.length (lay (cu (ht y)) y.kids)])]) ?_ fun k v hv=>by rw[ha] at hv;exact Bv hv
 refine aA.aP (mv:=[]) (by kernel_rfl) Tryz.func46 rfl Tryz.call46 ?_
 refine aF (aj:=xg T e t false true t.tail false y (aQ (pr (.lvl 2) t.tail)) (isBad (pr (.lvl 2) t.tail)) 0 [] false) (keep:=[]) (cuts:=[5,6]) (n:=1000) follows ?_
 refine au (fun ZT ZW ZQ _=>(fun Za Zb Zc=>(aA Tryz.prog G 81 [(.box 1000000 0)] [(1000000,[Zb,(vi (↑(kI T t))),(vi e),(vb false),(vi (bif false then hdA e t else 0))])] (vi (hdA e t)) [(1000000,[Zb,(vi (↑(kI T t))),(vi e),(vb false),(vi (bif false then hdA e t else 0))])]∧((true=true)→(aA Tryz.prog G 83 [(.box 1000000 0),(vs (ByteArray.mk #[110,111,116]))] [(1000000,[Zb,(vi (↑(kI T t))),(vi e),(vb false),(vi (bif false then hdA e t else 0))])] (vb true) [(1000000,[Zb,(vi (↑(kI T t.tail))),(vi e),(vb false),(vi (bif false then hdA e t.tail else 0))])]∧((true=true)→(aA Tryz.prog G 46 [(.box 1000000 0),(vi 3)] [(1000000,[Zb,(vi (↑(kI T t.tail))),(vi e),(vb false),(vi (bif false then hdA e t.tail else 0))])] (.d (aN (ht y) y)) [(1000000,[Zb,(vi (↑(kI T (aQ (pr (Md.lvl 2) t.tail))))),(vi e),(vb (isBad (pr (Md.lvl 2) t.tail))),(vi (bif isBad (pr (Md.lvl 2) t.tail) then hdA e (aQ (pr (Md.lvl 2) t.tail)) else 0))])]∧((.d (.agg [(di 18),(ds (ByteArray.mk #[])),(di 0),(di 0),(di (hdA e t)),Zc])):AV)=(.d (.agg [(di 18),(ds ByteArray.empty),(di 0),(di 0),(di (hdA e t)),Zc]))∧(Za:(Option (List AV)))=Za∧True))∧((true=false)→ZW [cd Tryz.f46 [1,1,0,1,0,1],cd Tryz.f46 [1,1,1]] (aB ZT [0,1]) ZQ)))∧((true=false)→ZW [cd Tryz.f46 [1,1,1,0],cd Tryz.f46 [1,1,1,1]] (aB ZT [1]) ZQ))) (some [(.d (.slc 2 T.length (aG T))),(vi (↑(kI T (aQ (pr (Md.lvl 2) t.tail))))),(vi e),(vb (isBad (pr (Md.lvl 2) t.tail))),(vi (bif isBad (pr (Md.lvl 2) t.tail) then hdA e (aQ (pr (Md.lvl 2) t.tail)) else 0))]) ((.d (.slc 2 T.length (aG T))):AV) ((.slc 6 1 (aS true 6 [(di y.k),(ds y.s),(di y.n),(di y.d),(di y.pos),(.slc 6 y.kids.length (lay (cu (ht y)) y.kids))])):DV)) (by kernel_rfl) ?_
 exact⟨f81 T e t false h,fun _=>⟨oZ T e t h hl notS (by decide) hh,fun _=>⟨hy,rfl,rfl,trivial⟩,fun c=>(by cases c)⟩,fun c=>(by cases c)⟩
theorem RP (T:List Tk) (e:Int) (t:List Tk) (b:Bool) (h:t <:+ T) (hh:dI t b notS=false) (h1:lY G T e 3 t b):lY G T e 2 t b:=by
 have he:fF (.lvl 2) t b=fF (.lvl 3) t b:=by
  rcases vW hh with rfl|⟨rfl,hn⟩
  ·rfl
  ·exact Jk hn
 obtain ⟨y,hy,hyx⟩:=h1
 unfold lY
 rw[he]
 refine⟨y,?_,hyx⟩
 refine aA.aP (mv:=[]) (by kernel_rfl) Tryz.func46 rfl Tryz.call46 ?_
 refine aF (aj:=xg T e t b false t b y (aQ (fF (.lvl 3) t b)) (isBad (fF (.lvl 3) t b)) 0 [] false) (keep:=[]) (cuts:=[4,6]) (n:=1000) follows ?_
 refine au (fun ZT ZW ZQ _=>(fun Za Zb Zc=>(aA Tryz.prog G 81 [(.box 1000000 0)] [(1000000,[Zb,(vi (↑(kI T t))),(vi e),(vb b),Zc])] (vi (hdA e t)) [(1000000,[Zb,(vi (↑(kI T t))),(vi e),(vb b),Zc])]∧((true=true)→(aA Tryz.prog G 83 [(.box 1000000 0),(vs (ByteArray.mk #[110,111,116]))] [(1000000,[Zb,(vi (↑(kI T t))),(vi e),(vb b),Zc])] (vb false) [(1000000,[Zb,(vi (↑(kI T t))),(vi e),(vb b),Zc])]∧((false=true)→ZW [cd Tryz.f46 [1,1,0,1,0,0,1,0],cd Tryz.f46 [1,1,0,1,0,1],cd Tryz.f46 [1,1,1]] (aB ZT [0,0]) ZQ)∧((false=false)→(aA Tryz.prog G 46 [(.box 1000000 0),(vi 4)] [(1000000,[Zb,(vi (↑(kI T t))),(vi e),(vb b),Zc])] (.d (aN (ht y) y)) [(1000000,[Zb,(vi (↑(kI T (aQ (fF (Md.lvl 3) t b))))),(vi e),(vb (isBad (fF (Md.lvl 3) t b))),(vi (bif isBad (fF (Md.lvl 3) t b) then hdA e (aQ (fF (Md.lvl 3) t b)) else 0))])]∧(ZS ((.d (aN (ht y) y)):AV))∧(Za:(Option (List AV)))=Za∧True))))∧((true=false)→ZW [cd Tryz.f46 [1,1,1,0],cd Tryz.f46 [1,1,1,1]] (aB ZT [1]) ZQ))) (some [(.d (.slc 2 T.length (aG T))),(vi (↑(kI T (aQ (fF (Md.lvl 3) t b))))),(vi e),(vb (isBad (fF (Md.lvl 3) t b))),(vi (bif isBad (fF (Md.lvl 3) t b) then hdA e (aQ (fF (Md.lvl 3) t b)) else 0))]) ((.d (.slc 2 T.length (aG T))):AV) (vi (bif b then hdA e t else 0))) (by kernel_rfl) ?_
 exact⟨f81 T e t b h,fun _=>⟨pW T e t b h notS (by decide) hh,fun c=>(by cases c),fun _=>⟨hy,rfl,rfl,trivial⟩⟩,fun c=>(by cases c)⟩
theorem aaK (T:List Tk) (e:Int) (t:List Tk) (h:t <:+ T) (hl:T.length≤1000000) (hh:ah t=gV) (h1:lY G T e 6 t.tail false):lY G T e 6 t false:=by
 obtain ⟨y,hy,hyx⟩:=h1
 have he:fF (.lvl 6) t false=(pr (.lvl 6) t.tail).yG fun x=>.mk 5 .empty 0 0 (hdA 0 t) [x]:=NK hh
 have h0:fF (.lvl 6) t.tail false=pr (.lvl 6) t.tail:=rfl
 rw[h0] at hy hyx
 have ha:hdA e t=hdA 0 t:=jr e (by rw[hh];decide)
 unfold lY
 rw[he]
 refine⟨.mk 5 .empty 0 0 (hdA 0 t) [y],?_,QE hyx⟩
 rw[sV,KR]
 refine aA.resD (d:=.agg [di 5,ds .empty,di 0,di 0,di (hdA e t),.slc 6 1 (aS true 6 [di y.k,ds y.s,di y.n,di y.d,di y.pos,.slc 6 y.kids.length (lay (cu (ht y)) y.kids)])]) ?_ fun k v hv=>by rw[ha] at hv;exact Bv hv
 refine aA.aP (mv:=[]) (by kernel_rfl) Tryz.func46 rfl Tryz.call46 ?_
 refine aF (aj:=xg T e t false true t.tail false y (aQ (pr (.lvl 6) t.tail)) (isBad (pr (.lvl 6) t.tail)) 0 [] false) (keep:=[]) (cuts:=[3,9,10]) (n:=1000) follows ?_
 refine au (fun ZT ZW ZQ _=>(fun Za Zb Zc=>(aA Tryz.prog G 81 [(.box 1000000 0)] [(1000000,[Zb,(vi (↑(kI T t))),(vi e),(vb false),(vi (bif false then hdA e t else 0))])] (vi (hdA e t)) [(1000000,[Zb,(vi (↑(kI T t))),(vi e),(vb false),(vi (bif false then hdA e t else 0))])]∧((false=true)→ZW [cd Tryz.f46 [1,1,0,1,0,0],cd Tryz.f46 [1,1,0,1,0,1],cd Tryz.f46 [1,1,1]] (aB ZT [0]) ZQ)∧((false=false)→(((true=true)→(aA Tryz.prog G 83 [(.box 1000000 0),(vs (ByteArray.mk #[45]))] [(1000000,[Zb,(vi (↑(kI T t))),(vi e),(vb false),(vi (bif false then hdA e t else 0))])] (vb true) [(1000000,[Zb,(vi (↑(kI T t.tail))),(vi e),(vb false),(vi (bif false then hdA e t.tail else 0))])]∧((true=true)→(aA Tryz.prog G 46 [(.box 1000000 0),(vi 7)] [(1000000,[Zb,(vi (↑(kI T t.tail))),(vi e),(vb false),(vi (bif false then hdA e t.tail else 0))])] (.d (aN (ht y) y)) [(1000000,[Zb,(vi (↑(kI T (aQ (pr (Md.lvl 6) t.tail))))),(vi e),(vb (isBad (pr (Md.lvl 6) t.tail))),(vi (bif isBad (pr (Md.lvl 6) t.tail) then hdA e (aQ (pr (Md.lvl 6) t.tail)) else 0))])]∧((.d (.agg [(di 5),(ds (ByteArray.mk #[])),(di 0),(di 0),(di (hdA e t)),Zc])):AV)=(.d (.agg [(di 5),(ds ByteArray.empty),(di 0),(di 0),(di (hdA e t)),Zc]))∧(Za:(Option (List AV)))=Za∧True))∧((true=false)→ZW [cd Tryz.f46 [1,1,1,0,1,0,1],cd Tryz.f46 [1,1,1,1]] (aB ZT [1,0,1]) ZQ)))∧((true=false)→ZW [cd Tryz.f46 [1,1,1,1]] (aB ZT [1,1]) ZQ))))) (some [(.d (.slc 2 T.length (aG T))),(vi (↑(kI T (aQ (pr (Md.lvl 6) t.tail))))),(vi e),(vb (isBad (pr (Md.lvl 6) t.tail))),(vi (bif isBad (pr (Md.lvl 6) t.tail) then hdA e (aQ (pr (Md.lvl 6) t.tail)) else 0))]) ((.d (.slc 2 T.length (aG T))):AV) ((.slc 6 1 (aS true 6 [(di y.k),(ds y.s),(di y.n),(di y.d),(di y.pos),(.slc 6 y.kids.length (lay (cu (ht y)) y.kids))])):DV)) (by kernel_rfl) ?_
 exact⟨f81 T e t false h,fun c=>(by cases c),fun _=>⟨fun _=>⟨oZ T e t h hl gV (by decide) hh,fun _=>⟨hy,rfl,rfl,trivial⟩,fun c=>(by cases c)⟩,fun c=>(by cases c)⟩⟩
theorem RN (T:List Tk) (e:Int) (t:List Tk) (b:Bool) (h:t <:+ T) (hh:dI t b gV=false) (h1:xZ G T e t b):lY G T e 6 t b:=by
 have he:fF (.lvl 6) t b=fF .gI t b:=by
  rcases vW hh with rfl|⟨rfl,hn⟩
  ·rfl
  ·exact(Jd hn).trans (uU t)
 obtain ⟨y,hy,hyx⟩:=h1
 unfold lY
 rw[he]
 refine⟨y,?_,hyx⟩
 refine aA.aP (mv:=[]) (by kernel_rfl) Tryz.func46 rfl Tryz.call46 ?_
 refine aF (aj:=xg T e t b false t b y (aQ (fF .gI t b)) (isBad (fF .gI t b)) 0 [] false) (keep:=[]) (cuts:=[3,8,10]) (n:=1000) follows ?_
 refine au (fun ZT ZW ZQ _=>(fun Za Zb Zc=>(aA Tryz.prog G 81 [(.box 1000000 0)] [(1000000,[Zb,(vi (↑(kI T t))),(vi e),(vb b),Zc])] (vi (hdA e t)) [(1000000,[Zb,(vi (↑(kI T t))),(vi e),(vb b),Zc])]∧((false=true)→ZW [cd Tryz.f46 [1,1,0,1,0,0],cd Tryz.f46 [1,1,0,1,0,1],cd Tryz.f46 [1,1,1]] (aB ZT [0]) ZQ)∧((false=false)→(((true=true)→(aA Tryz.prog G 83 [(.box 1000000 0),(vs (ByteArray.mk #[45]))] [(1000000,[Zb,(vi (↑(kI T t))),(vi e),(vb b),Zc])] (vb false) [(1000000,[Zb,(vi (↑(kI T t))),(vi e),(vb b),Zc])]∧((false=true)→ZW [cd Tryz.f46 [1,1,1,0,1,0,0,1,0],cd Tryz.f46 [1,1,1,0,1,0,1],cd Tryz.f46 [1,1,1,1]] (aB ZT [1,0,0]) ZQ)∧((false=false)→(aA Tryz.prog G 89 [(.box 1000000 0)] [(1000000,[Zb,(vi (↑(kI T t))),(vi e),(vb b),Zc])] (.d (aN (ht y) y)) [(1000000,[Zb,(vi (↑(kI T (aQ (fF Md.gI t b))))),(vi e),(vb (isBad (fF Md.gI t b))),(vi (bif isBad (fF Md.gI t b) then hdA e (aQ (fF Md.gI t b)) else 0))])]∧(ZS ((.d (aN (ht y) y)):AV))∧(Za:(Option (List AV)))=Za∧True))))∧((true=false)→ZW [cd Tryz.f46 [1,1,1,1]] (aB ZT [1,1]) ZQ))))) (some [(.d (.slc 2 T.length (aG T))),(vi (↑(kI T (aQ (fF Md.gI t b))))),(vi e),(vb (isBad (fF Md.gI t b))),(vi (bif isBad (fF Md.gI t b) then hdA e (aQ (fF Md.gI t b)) else 0))]) ((.d (.slc 2 T.length (aG T))):AV) (vi (bif b then hdA e t else 0))) (by kernel_rfl) ?_
 exact⟨f81 T e t b h,fun c=>(by cases c),fun _=>⟨fun _=>⟨pW T e t b h gV (by decide) hh,fun c=>(by cases c),fun _=>⟨hy,rfl,rfl,trivial⟩⟩,fun c=>(by cases c)⟩⟩
end Go.Proofs
/- The reference's parser: expressions of a level,operators between two. -/
namespace Go.Proofs
open Go Go.Ab Go.RowKit
set_option maxHeartbeats 4000000
set_option maxRecDepth 100000
variable {G:IH}
abbrev y5 (t:List Tk) (x y:Ex):Ex:=.mk (gq (ah t)) .empty 0 0 (hdA 0 t) [x,y]
def Df (Y:List Tk→Ex) (n:Nat):Nat→Ex→List Tk→Ex×List Tk×Bool
 | 0,x,t=>(x,t,true)
 | k+1,x,t=>if opAt n (ah t)=true then match pr (.lvl (n+1)) t.tail with
   | .ok _ r=>if n=3 then (y5 t x (Y t.tail),r,false) else Df Y n k (y5 t x (Y t.tail)) r
   | .bad r=>(y5 t x (Y t.tail),r,true)
  else (x,t,false)
theorem abd {Y:List Tk→Ex} {n:Nat} (hn:n≤5) (hY:∀t x r,pr (.lvl (n+1)) t=.ok x r→Y t=x):∀(k:Nat) (x:Ex) (t:List Tk),t.length<k→
  (Df Y n k x t).2.1=aQ (pr (.loop n x) t)∧(Df Y n k x t).2.2=isBad (pr (.loop n x) t)∧∀z r,pr (.loop n x) t=.ok z r→(Df Y n k x t).1=z:=by
 intro k
 induction k with
 | zero=>intro x t h;omega
 | succ k ih=>
  intro x t h
  unfold Df
  by_cases ho:opAt n (ah t)=true
  ·rw[if_pos ho,MP hn ho]
   have hlt:=bK (oW ho)
   have hle:=mg (.lvl (n+1)) t.tail
   cases hq:pr (.lvl (n+1)) t.tail with
   | ok y r=>
    rw[hq] at hle
    simp only[aQ] at hle
    have hy:=hY _ _ _ hq
    try dsimp only
    rw[hy]
    by_cases h3:n=3
    ·rw[if_pos h3,if_pos h3]
     refine⟨rfl,rfl,fun z r2 q=>?_⟩
     injection q with q1 q2
    ·rw[if_neg h3,if_neg h3]
     exact ih _ _ (by omega)
   | bad r=>exact⟨rfl,rfl,fun z r2 q=>(by cases q)⟩
  ·rw[if_neg ho,Az (by simpa using ho)]
   refine⟨rfl,rfl,fun z r2 q=>?_⟩
   injection q with q1 q2
def qW (n:Nat) (t:List Tk) (b:Bool):Int:=bif b then -1 else eF (opsT ((n:Int)+1)) (ah t)
theorem Vo {n:Nat} (hn:fB n):ku.getD n []=opsT ((n:Int)+1)∧(∀s∈opsT ((n:Int)+1),0≤eF (opsT ((n:Int)+1)) s∧eF (opsT ((n:Int)+1)) s<(lJ ((n:Int)+1)).length∧(lJ ((n:Int)+1)).getD (eF (opsT ((n:Int)+1)) s).toNat 0=gq s):=by
 unfold fB at hn
 rcases hn with rfl|rfl|rfl|rfl|rfl<;>exact⟨by decide +kernel,by decide +kernel⟩
theorem aaL {n:Nat} (hn:fB n) {t:List Tk} (h:opAt n (ah t)=false):qW n t false = -1:=by
 have h1:=(Vo hn).1
 unfold qW
 rw[cond_false]
 refine U8 fun p hp he=>?_
 have hne:=Rt _ p hp
 rw[he] at hne
 unfold opAt at h
 rw[h1,decide_eq_true (show (ah t).size≠0 from fun c=>hne (empty_of c)),Bool.true_and] at h
 unfold dN at h
 rw[List.any_eq_false] at h
 refine h (ah t) ?_ (by simp)
 rw[←he,List.getD,iT hp]
 exact List.getElem_mem _
theorem aaD {n:Nat} (hn:fB n) {t:List Tk} (h:opAt n (ah t)=true):0≤qW n t false∧qW n t false<(lJ ((n:Int)+1)).length∧(lJ ((n:Int)+1)).getD (qW n t false).toNat 0=gq (ah t):=by
 obtain ⟨h1,h2⟩:=Vo hn
 unfold qW
 rw[cond_false]
 refine h2 _ ?_
 unfold opAt at h
 rw[h1] at h
 simp only[aV] at h
 obtain ⟨x,hx,he⟩:=List.any_eq_true.1 h.2
 have he:x=ah t:=by simpa using he
 rw[←he];exact hx
noncomputable def aaY (T:List Tk) (e:Int) (n:Nat) (z:Ex×List Tk×Bool):AS:=⟨regs Tryz.f46.ntmps [(0,.box 1000000 0),(1,vi ((n:Int)+1)),(4,.box 4 0),(6,.box 6 0),(8,.d (.slc 1 (lJ ((n:Int)+1)).length (Vm (lJ ((n:Int)+1))))),(9,vi (qW n z.2.1 z.2.2))],[(4,[vi 0,vs ⟨#[]⟩,vi 0,vi 0,vi 0,.d (.con (.slice none 0 0))]),(6,jl (ht z.1) z.1),(1000000,qC T e z.2.1 z.2.2)]⟩
theorem ZG (T:List Tk) (e:Int) (n:Nat) (x:Ex) (t:List Tk) (b:Bool) (ho:(9223372036854775807:Int)≥n+1) {I:Ex×List Tk×Bool→Prop} {K:List It} (fin:Ex×List Tk×Bool) (x0:Ex×List Tk×Bool) (h3:n=3→fin=(x,t,b)) (hI:n≠3→I (x,t,b)) (hμ:t.length<x0.2.1.length) (hs:t <:+ T) :
  aK Tryz.prog G [.code (aY (aC Tryz.f46) [1,1,1,1,1,1,0,1,0,0,1,0,0,1,1,1]),.blk 1,.code (aY (aC Tryz.f46) [1,1,1,1,1,1,0,1,0,0,1,1])] ⟨regs Tryz.f46.ntmps [(0,.box 1000000 0),(1,vi ((n:Int)+1)),(4,.box 4 0),(6,.box 6 0),(8,.d (.slc 1 (lJ ((n:Int)+1)).length (Vm (lJ ((n:Int)+1)))))],[(4,[vi 0,vs ⟨#[]⟩,vi 0,vi 0,vi 0,.d (.con (.slice none 0 0))]),(6,jl (ht x) x),(1000000,qC T e t b)]⟩ (nR Tryz.prog G K (wC Tryz.prog Tryz.f46 [] (.d (fD fin.1)) (qB T e fin.2.1 fin.2.2)) (aaY T e n) I (fun z=>z.2.1.length) x0):=by
 refine aF (aj:=xg T e t b false t b aJ t b (qW n t b) t b) (keep:=[]) (cuts:=[]) (n:=1000) follows ?_
 refine bZ (fun ZT _ _ _ ZA _=>(fun Za=>(((((↑n:Int)+1==4)=true)→(((.d (aN (ht x) x)):AV)=(.d (aN (ht fin.fst) fin.fst))∧((some [Za,(vi (↑(kI T t))),(vi e),(vb b),(vi (bif b then hdA e t else 0))]):(Option (List AV)))=(some [Za,(vi (↑(kI T fin.snd.fst))),(vi e),(vb fin.snd.snd),(vi (bif fin.snd.snd then hdA e fin.snd.fst else 0))])∧True))∧((((↑n:Int)+1==4)=false)→(aA Tryz.prog G 90 [(.box 1000000 0),(vi (↑n+1))] [(1000000,[Za,(vi (↑(kI T t))),(vi e),(vb b),(vi (bif b then hdA e t else 0))])] (vi (qW n t b)) [(1000000,[Za,(vi (↑(kI T t))),(vi e),(vb b),(vi (bif b then hdA e t else 0))])]∧(ZA (aB ZT [1])))))) ((.d (.slc 2 T.length (aG T))):AV)) (by kernel_rfl) ?_
 refine⟨fun c=>?_,fun c=>⟨f90 T e t b hs _,Again.mk (x,t,b) ?_ (hI fun h=>?_) hμ⟩⟩
 ·have c:n=3:=by have:=eq_of_beq c;omega
  rw[h3 c]
  exact⟨rfl,rfl,trivial⟩
 ·exact AS.bV (by kernel_rfl)
 ·subst h;cases c
theorem aa2 (T:List Tk) (e:Int) (n:Nat) (hn:fB n) (t:List Tk) (b:Bool) (h:t <:+ T) (hl:T.length≤1000000) (y:Ex) (r:List Tk) (br:Bool)
  (h1:aA Tryz.prog G 46 [.box 1000000 0,.d (di ((n:Int)+1+1))] (qB T e t b) (.d (fD y)) (qB T e r br)) (hr:r <:+ T) (Y:List Tk→Ex)
  (hC:∀t',t' <:+ T→t'.length<r.length→aA Tryz.prog G 46 [.box 1000000 0,.d (di ((n:Int)+1+1))] (qB T e t' false) (.d (fD (Y t'))) (qB T e (aQ (pr (.lvl (n+1)) t')) (isBad (pr (.lvl (n+1)) t'))))
  (fin:Ex×List Tk×Bool) (hfin:fin=if br=true then (y,r,true) else Df Y n (r.length+1) y r) :
  aA Tryz.prog G 46 [.box 1000000 0,.d (di ((n:Int)+1))] (qB T e t b) (.d (fD fin.1)) (qB T e fin.2.1 fin.2.2):=by
 have KO:n≠2∧n≠6∧n≠7∧n≤5:=by unfold fB at hn;omega
 refine aA.aP (mv:=[]) (by kernel_rfl) Tryz.func46 rfl Tryz.call46 ?_
 refine aF (aj:=xg T e t b false t b y r br (qW n r br) r br) (keep:=[]) (cuts:=[3,7]) (n:=1000) follows ?_
 refine au (fun ZT ZW ZQ ZK=>(fun Za=>(aA Tryz.prog G 81 [(.box 1000000 0)] [(1000000,[Za,(vi (↑(kI T t))),(vi e),(vb b),(vi (bif b then hdA e t else 0))])] (vi (hdA e t)) [(1000000,[Za,(vi (↑(kI T t))),(vi e),(vb b),(vi (bif b then hdA e t else 0))])]∧((((↑n:Int)+1==3)=true)→ZW [cd Tryz.f46 [1,1,0,1,0,0],cd Tryz.f46 [1,1,0,1,0,1],cd Tryz.f46 [1,1,1]] (aB ZT [0]) ZQ)∧((((↑n:Int)+1==3)=false)→(((((↑n:Int)+1==7)=true)→ZW [cd Tryz.f46 [1,1,1,0,1,0,0],cd Tryz.f46 [1,1,1,0,1,0,1],cd Tryz.f46 [1,1,1,1]] (aB ZT [1,0]) ZQ)∧((((↑n:Int)+1==7)=false)→(((I64 (↑n+1+1))∧aA Tryz.prog G 46 [(.box 1000000 0),(vi (↑n+1+1))] [(1000000,[Za,(vi (↑(kI T t))),(vi e),(vb b),(vi (bif b then hdA e t else 0))])] (.d (aN (ht y) y)) [(1000000,[Za,(vi (↑(kI T r))),(vi e),(vb br),(vi (bif br then hdA e r else 0))])])∧ZK 23 [(di (↑n+1))] (.ak [(.slc 1 (opsT (↑n+1)).length (iY (opsT (↑n+1)))),(.slc 1 (lJ (↑n+1)).length (Vm (lJ (↑n+1))))])∧aA Tryz.prog G 90 [(.box 1000000 0),(vi (↑n+1))] [(1000000,[Za,(vi (↑(kI T r))),(vi e),(vb br),(vi (bif br then hdA e r else 0))])] (vi (qW n r br)) [(1000000,[Za,(vi (↑(kI T r))),(vi e),(vb br),(vi (bif br then hdA e r else 0))])]∧ZW [cd Tryz.f46 [1,1,1,1,1,1,0,1,0],(.blk 0),cd Tryz.f46 [1,1,1,1,1,1,1]] (aB ZT [1,1]) ZQ)))))) ((.d (.slc 2 T.length (aG T))):AV)) (by kernel_rfl) ?_
 refine⟨f81 T e t b h,fun c=>absurd (eq_of_beq c) (by omega),fun _=>⟨fun c=>absurd (eq_of_beq c) (by omega),fun _=>⟨⟨by unfold I64;omega,h1⟩,f23 _,f90 T e r br hr _,?_⟩⟩⟩
 refine aK.loop (c:=aY (aC Tryz.f46) [1,1,1,1,1,1,0,1,0,0]) (by kernel_rfl) (aaY T e n) (fun z=>z.2.1 <:+ T∧z.2.1.length≤r.length∧(z.2.2=true→fin=z)∧(z.2.2=false→∃k,z.2.1.length<k∧Df Y n k z.1 z.2.1=fin)) (fun z=>z.2.1.length) (y,r,br) ?_ ⟨hr,Nat.le_refl _,fun c=>?_,fun c=>⟨r.length+1,Nat.lt_succ_self _,?_⟩⟩ ?_
 ·exact AS.bV (by kernel_rfl)
 ·have c:br=true:=c
  rw[hfin,if_pos c,c]
 ·have c:br=false:=c
  rw[hfin,if_neg (by rw[c];decide)]
 ·rintro ⟨x,t,b⟩ ⟨hs,hl2,hb,hg⟩
  dsimp only at hs hl2 hb hg
  by_cases hc:b=false∧opAt n (ah t)=true
  ·obtain ⟨rfl,ho⟩:=hc
   obtain ⟨k,hk,hi⟩:=hg rfl
   have hlt:=bK (oW ho)
   have hne:t≠[]:=fun c=>by rw[c] at hlt;simp at hlt
   have e3:=yK hs hne
   have mV:=hC t.tail ((List.tail_suffix t).trans hs) (by omega)
   have hz:=aaD hn ho
   refine aF (aj:=xg T e t false false t false (Y t.tail) (aQ (pr (.lvl (n+1)) t.tail)) (isBad (pr (.lvl (n+1)) t.tail)) 0 t false) (keep:=[]) (cuts:=[18,20]) (n:=1000) follows ?_
   refine bZ (fun ZT ZW ZQ _ _ ZR=>(fun Za=>((((decide (qW n t false≥0))=true)→(aA Tryz.prog G 81 [(.box 1000000 0)] [(1000000,[Za,(vi (↑(kI T t))),(vi e),(vb false),(vi (bif false then hdA e t else 0))])] (vi (hdA e t)) [(1000000,[Za,(vi (↑(kI T t))),(vi e),(vb false),(vi (bif false then hdA e t else 0))])]∧(I64 (↑(kI T t)+1))∧(((0≤qW n t false)∧(qW n t false<↑(lJ (↑n+1)).length))∧(I64 (↑n+1+1))∧aA Tryz.prog G 46 [(.box 1000000 0),(vi (↑n+1+1))] [(1000000,[Za,(vi (↑(kI T t)+1)),(vi e),(vb false),(vi (bif false then hdA e t else 0))])] (.d (aN (ht (Y t.tail)) (Y t.tail))) [(1000000,[Za,(vi (↑(kI T (aQ (pr (Md.lvl (n+1)) t.tail))))),(vi e),(vb (isBad (pr (Md.lvl (n+1)) t.tail))),(vi (bif isBad (pr (Md.lvl (n+1)) t.tail) then hdA e (aQ (pr (Md.lvl (n+1)) t.tail)) else 0))])])∧ZW [cd Tryz.f46 [1,1,1,1,1,1,0,1,0,0,1,0,0,1,1,1],(.blk 1),cd Tryz.f46 [1,1,1,1,1,1,0,1,0,0,1,1]] (aB ZT [0]) ZR))∧(((decide (qW n t false≥0))=false)→ZW [cd Tryz.f46 [1,1,1,1,1,1,1]] (aB ZT [1]) ZQ))) ((.d (.slc 2 T.length (aG T))):AV)) (by kernel_rfl) ?_
   try dsimp only
   have e4:((kI T t.tail:Nat):Int)=(kI T t:Int)+1:=by rw[e3];rfl
   have aeN:aA Tryz.prog G 46 [.box 1000000 0,.d (di ((n:Int)+1+1))] [(1000000,[.d (kJ T),.d (di ((kI T t:Int)+1)),.d (di e),.d (db false),.d (di 0)])] (.d (fD (Y t.tail))) (qB T e (aQ (pr (.lvl (n+1)) t.tail)) (isBad (pr (.lvl (n+1)) t.tail))):=by
    rw[←e4];exact mV
   have hle:=mg (.lvl (n+1)) t.tail
   have hsf:=(oQ (.lvl (n+1)) t.tail).trans ((List.tail_suffix t).trans hs)
   have hkT:=(lT hs hne e).1
   refine⟨fun _=>⟨f81 T e t false hs,by unfold I64;omega,⟨⟨hz.1,hz.2.1⟩,by unfold I64;omega,aeN⟩,?_⟩,fun c=>?_⟩
   ·have ha:hdA e t=hdA 0 t:=jr e (oW ho)
    refine aK.pre (AS.dZ.cell _ 6 5 (l:=[vi ((lJ ((n:Int)+1)).getD (qW n t false).toNat 0),vs ⟨#[]⟩,vi 0,vi 0,vi (hdA e t),.d (JW x (Y t.tail))]) (x:=.d (JW x (Y t.tail))) (.d (.slc 6 2 (lay (cu (ht (y5 t x (Y t.tail)))) [x,Y t.tail]))) (by kernel_rfl) (by kernel_rfl) rfl (by kernel_rfl) (fun β h v hv=>JV (x:=y5 t x (Y t.tail)) rfl hv)) ?_
    refine aK.weaken ?_ (ZG T e n (y5 t x (Y t.tail)) (aQ (pr (.lvl (n+1)) t.tail)) (isBad (pr (.lvl (n+1)) t.tail)) (by omega) fin (x,t,false) ?_ ?_ ?_ hsf)
    ·refine AS.leZ [] [1] (b:=((T0∧T0∧T0∧T0∧T0∧True)∧T0∧((some [(vi ((lJ (↑n+1)).getD (qW n t false).toNat 0)),(vs (ByteArray.mk #[])),(vi 0),(vi 0),(vi (hdA e t)),(.d (.slc 6 2 (lay (cu (ht (y5 t x (Y t.tail)))) [x,Y t.tail])))]):(Option (List AV)))=(some [(vi (y5 t x (Y t.tail)).k),(vs (y5 t x (Y t.tail)).s),(vi (y5 t x (Y t.tail)).n),(vi (y5 t x (Y t.tail)).d),(vi (y5 t x (Y t.tail)).pos),(.d (.slc 6 2 (lay (cu (ht (y5 t x (Y t.tail)))) (y5 t x (Y t.tail)).kids)))])∧T0∧True)) (by kernel_rfl) (by kernel_rfl) ?_
     rw[hz.2.2,ha]
     exact⟨⟨rfl,rfl,rfl,rfl,rfl,trivial⟩,rfl,rfl,rfl,trivial⟩
    ·intro h3
     rw[←hi]
     obtain ⟨k,rfl⟩:∃j,k=j+1:=⟨k-1,by omega⟩
     unfold Df
     rw[if_pos ho]
     cases hq:pr (.lvl (n+1)) t.tail with
     | ok z r'=>dsimp only;rw[if_pos h3];rfl
     | bad r'=>rfl
    ·intro h3
     obtain ⟨k,rfl⟩:∃j,k=j+1:=⟨k-1,by omega⟩
     unfold Df at hi
     rw[if_pos ho] at hi
     refine⟨hsf,by dsimp only;omega,fun c=>?_,fun c=>?_⟩
     ·cases hq:pr (.lvl (n+1)) t.tail with
      | ok z r'=>rw[hq] at c;cases c
      | bad r'=>rw[hq] at hi;rw[←hi];rfl
     ·cases hq:pr (.lvl (n+1)) t.tail with
      | ok z r'=>
       rw[hq] at hi hle
       dsimp only at hi
       rw[if_neg h3] at hi
       simp only[aQ] at hle
       exact⟨k,by show r'.length<k;omega,hi⟩
      | bad r'=>rw[hq] at c;cases c
    ·show (aQ (pr (.lvl (n+1)) t.tail)).length<t.length
     omega
   ·rw[decide_eq_true (show qW n t false≥0 from hz.1)] at c
    cases c
  ·have hz:qW n t b = -1∧fin=(x,t,b):=by
    cases b with
    | true=>exact⟨rfl,hb rfl⟩
    | false=>
     have ho:opAt n (ah t)=false:=by
      cases ho:opAt n (ah t) with
      | true=>exact absurd ⟨rfl,ho⟩ hc
      | false=>rfl
     obtain ⟨k,hk,hi⟩:=hg rfl
     refine⟨aaL hn ho,?_⟩
     rw[←hi]
     obtain ⟨k,rfl⟩:∃j,k=j+1:=⟨k-1,by omega⟩
     unfold Df
     rw[if_neg (by rw[ho];decide)]
   refine aF (aj:=xg T e t b false t b aJ t b 0 t b) (keep:=[]) (cuts:=[15]) (n:=1000) follows ?_
   refine bZ (fun ZT ZW ZQ _ _ ZR=>((((decide (qW n t b≥0))=true)→ZW [cd Tryz.f46 [1,1,1,1,1,1,0,1,0,0,1,0,0],(.blk 1),cd Tryz.f46 [1,1,1,1,1,1,0,1,0,0,1,1]] (aB ZT [0]) ZR)∧(((decide (qW n t b≥0))=false)→ZW [cd Tryz.f46 [1,1,1,1,1,1,1]] (aB ZT [1]) ZQ))) (by kernel_rfl) ?_
   rw[hz.1]
   refine⟨fun c=>(by cases c),fun _=>?_⟩
   refine aF (aj:=xg T e t b false t b aJ t b 0 t b) (keep:=[]) (cuts:=[]) (n:=1000) follows ?_
   refine au (fun _ _ _ _=>(((.d (aN (ht x) x)):AV)=(.d (aN (ht fin.fst) fin.fst))∧((some [(.d (.slc 2 T.length (aG T))),(vi (↑(kI T t))),(vi e),(vb b),(vi (bif b then hdA e t else 0))]):(Option (List AV)))=(some [(.d (.slc 2 T.length (aG T))),(vi (↑(kI T fin.snd.fst))),(vi e),(vb fin.snd.snd),(vi (bif fin.snd.snd then hdA e fin.snd.fst else 0))])∧True)) (by kernel_rfl) ?_
   rw[hz.2]
   exact⟨rfl,rfl,trivial⟩
end Go.Proofs
/- The reference's parser: UO. -/
namespace Go.Proofs
open Go Go.Ab Go.RowKit
set_option maxHeartbeats 4000000
set_option maxRecDepth 100000
variable {G:IH}
noncomputable def m89 (T:List Tk) (e:Int) (t:List Tk) (b:Bool) (w:Nat) (y:Ex) (r:List Tk) (br:Bool) (r2:List Tk) (b2:Bool) (nm:ByteArray) (r3:List Tk) (b3:Bool):FuncId→List AV→List (Nat×List AV)→Option (AV×List (Nat×List AV)):=fun f a _=>match f,a with
 | 81,_=>some (.d (di (hdA e t)),qB T e t b)
 | 112,[_,.d (.con (.string s))]=>some (.d (db (dI t b s)),qB T e t b)
 | 83,[_,.d (.con (.string s))]=>match Nat.beq s.size w with
  | true=>some (.d (db true),qB T e t.tail b)
  | false=>some (.d (db false),qB T e t b)
 | 46,_=>some (.d (fD y),qB T e r br)
 | 85,_=>some (.d kF,qB T e r2 b2)
 | 84,_=>some (.d (ds nm),qB T e r3 b3)
 | _,_=>none
noncomputable def d89 (n d er:Int):cZ:=fun f a=>match f,a with
 | 71,[b8 c]=>some (db (bQ c))
 | 72,[_]=>some (.ak [fr n d,di er])
 | _,_=>none
noncomputable def qH (T:List Tk) (e:Int) (t:List Tk) (b:Bool) (w:Nat) (y:Ex) (r:List Tk) (br:Bool) (r2:List Tk) (b2:Bool) (nm:ByteArray) (r3:List Tk) (b3:Bool):dK:={ d:=d89 0 0 0,m:=m89 T e t b w y r br r2 b2 nm r3 b3 }
noncomputable def KT (T:List Tk) (e:Int) (t:List Tk) (b:Bool):AS:=⟨regs Tryz.f89.ntmps [(0,.box 1000000 0),(2,.box 2 0),(3,vi (hdA e t))],[(2,zeroE),(1000000,qC T e t b)]⟩
theorem NJ {T t:List Tk} (h:t <:+ T) (b:Bool):(!b&&decide ((kI T t:Int)<(T.length:Int))&&bQ (byteAt (T.getD (kI T t) fU).1 0))=(!b&&bQ (byteAt (ah t) 0)):=by
 by_cases hn:t=[]
 ·rw[uX (T:=T) hn,decide_eq_false (Int.lt_irrefl _),Bool.and_false,Bool.false_and,hn]
  have:bQ (byteAt (ah []) 0)=false:=by decide +kernel
  rw[this,Bool.and_false]
 ·obtain ⟨e1,e2⟩:=lT h hn 0
  rw[decide_eq_true (by omega:(kI T t:Int)<T.length),e2,Bool.and_true]
noncomputable abbrev OV (p:List Nat):List It:=[.code (aY (aC Tryz.f89) p),.blk 0,.code (aY (aC Tryz.f89) [1,1,1,1])]
theorem WO {T t:List Tk} (h:t <:+ T) (hN:qO t) {b:Bool} (c:(!b&&decide ((kI T t:Int)<(T.length:Int)))=true):kI T t<T.length∧0<(T.getD (kI T t) fU).1.size:=by
 simp only[aV,decide_eq_true_eq] at c
 have hn:t≠[]:=fun hn=>by have:=uX (T:=T) hn;omega
 obtain ⟨k1,k2⟩:=lT h hn 0
 rw[k2]
 have:=(hN.hd hn).1
 try dsimp only
 omega
theorem xQ {Q:Exit→AS→Prop} (T:List Tk) (e:Int) (t:List Tk) (b:Bool) (h:t <:+ T) (hN:qO t) (hd:b=true∨bQ (byteAt (ah t) 0)=false) (k:aK Tryz.prog G (OV [1,1,1,0,0]) (KT T e t b) Q):aK Tryz.prog G [.code (aC Tryz.f89)] (jV [.box 1000000 0] (qB T e t b) Tryz.f89.ntmps) Q:=by
 refine aF (aj:=qH T e t b 0 aJ [] false [] false .empty [] false) (keep:=[]) (cuts:=[3,6]) (n:=1000) follows ?_
 refine au (fun ZT ZW ZQ ZK=>(fun Za Zb=>(aA Tryz.prog G 81 [(.box 1000000 0)] [(1000000,[(.d (.slc 2 T.length (aG T))),(vi (↑(kI T t))),(vi e),(vb b),(vi (bif b then hdA e t else 0))])] (vi (hdA e t)) [(1000000,[(.d (.slc 2 T.length (aG T))),(vi (↑(kI T t))),(vi e),(vb b),(vi (bif b then hdA e t else 0))])]∧(((Zb=true)→((0≤(↑(kI T t):Int))∧((↑(kI T t):Int)<↑T.length)))∧((Zb=true)→(((0:Int)≤(0:Int))∧(0<(↑(ByteArray.size (Prod.fst (List.getD T (Int.toNat (↑(kI T t):Int)) fU))):Int))))∧((Zb=true)→ZK 71 [(.con (.int .u8 Za))] (db (bQ Za))))∧(((!b&&decide ((↑(kI T t):Int)<(↑T.length:Int))&&bQ Za)=true)→ZW [cd Tryz.f89 [1,1,0,1,0],cd Tryz.f89 [1,1,1]] (aB ZT [0]) ZQ)∧(((!b&&decide ((↑(kI T t):Int)<(↑T.length:Int))&&bQ Za)=false)→ZW [cd Tryz.f89 [1,1,1,0,0],(.blk 0),cd Tryz.f89 [1,1,1,1]] (aB ZT [1]) ZQ))) (byteAt (T.getD ((↑(kI T t):Int)).toNat fU).fst (Int.toNat 0)) (!b&&decide ((↑(kI T t):Int)<↑T.length))) (by kernel_rfl) ?_
 try dsimp only
 have hc:=NJ h b
 have hf:(!b&&bQ (byteAt (ah t) 0))=false:=by
  rcases hd with rfl|hd
  ·rfl
  ·rw[hd,Bool.and_false]
 rw[hf] at hc
 simp only[Int.toNat_natCast,Int.toNat_zero]
 rw[hc]
 refine⟨f81 T e t b h,⟨fun c=>?_,fun c=>?_,fun _=>f71 _⟩,fun c=>(by cases c),fun _=>?_⟩
 ·have:=WO h hN c;omega
 ·have:=WO h hN c;omega
 ·refine aK.weaken ?_ k
  exact AS.bV (by kernel_rfl)
theorem Gn {Q:Exit→AS→Prop} (T:List Tk) (e:Int) (t:List Tk) (b:Bool) (h:t <:+ T) (h1:dI t b kE=false) (h2:dI t b jR=false) (k:aK Tryz.prog G (OV [1,1,1,0,0,1,1,1,1]) (KT T e t b) Q):aK Tryz.prog G (OV [1,1,1,0,0]) (KT T e t b) Q:=by
 refine aF (aj:=qH T e t b 0 aJ [] false [] false .empty [] false) (keep:=[]) (cuts:=[7,9,10]) (n:=1000) follows ?_
 refine au (fun ZT ZW ZQ _=>(fun Za Zb=>(aA Tryz.prog G 83 [(.box 1000000 0),(vs (ByteArray.mk #[116,114,117,101]))] [(1000000,[Zb,(vi (↑(kI T t))),(vi e),(vb b),Za])] (vb false) [(1000000,[Zb,(vi (↑(kI T t))),(vi e),(vb b),Za])]∧((false=true)→ZW [cd Tryz.f89 [1,1,1,0,0,1,0],(.blk 0),cd Tryz.f89 [1,1,1,1]] (aB ZT [0]) ZQ)∧((false=false)→(aA Tryz.prog G 83 [(.box 1000000 0),(vs (ByteArray.mk #[102,97,108,115,101]))] [(1000000,[Zb,(vi (↑(kI T t))),(vi e),(vb b),Za])] (vb false) [(1000000,[Zb,(vi (↑(kI T t))),(vi e),(vb b),Za])]∧((false=true)→ZW [cd Tryz.f89 [1,1,1,0,0,1,1,1,0],(.blk 0),cd Tryz.f89 [1,1,1,1]] (aB ZT [1,0]) ZQ)∧((false=false)→ZW [cd Tryz.f89 [1,1,1,0,0,1,1,1,1],(.blk 0),cd Tryz.f89 [1,1,1,1]] (aB ZT [1,1]) ZQ))))) (vi (bif b then hdA e t else 0)) ((.d (.slc 2 T.length (aG T))):AV)) (by kernel_rfl) ?_
 refine⟨pW T e t b h kE (by decide) h1,fun c=>(by cases c),fun _=>⟨pW T e t b h jR (by decide) h2,fun c=>(by cases c),fun _=>?_⟩⟩
 refine aK.weaken ?_ k
 exact AS.bV (by kernel_rfl)
theorem N8 {Q:Exit→AS→Prop} (T:List Tk) (e:Int) (t:List Tk) (b:Bool) (h:t <:+ T) (h1:dI t b dV=false) (k:aK Tryz.prog G (OV [1,1,1,0,0,1,1,1,1,1,1]) (KT T e t b) Q):aK Tryz.prog G (OV [1,1,1,0,0,1,1,1,1]) (KT T e t b) Q:=by
 refine aF (aj:=qH T e t b 0 aJ [] false [] false .empty [] false) (keep:=[]) (cuts:=[11,14]) (n:=1000) follows ?_
 refine au (fun ZT ZW ZQ _=>(aA Tryz.prog G 83 [(.box 1000000 0),(vs (ByteArray.mk #[40]))] [(1000000,[(.d (.slc 2 T.length (aG T))),(vi (↑(kI T t))),(vi e),(vb b),(vi (bif b then hdA e t else 0))])] (vb false) [(1000000,[(.d (.slc 2 T.length (aG T))),(vi (↑(kI T t))),(vi e),(vb b),(vi (bif b then hdA e t else 0))])]∧((false=true)→ZW [cd Tryz.f89 [1,1,1,0,0,1,1,1,1,1,0],(.blk 0),cd Tryz.f89 [1,1,1,1]] (aB ZT [0]) ZQ)∧((false=false)→ZW [cd Tryz.f89 [1,1,1,0,0,1,1,1,1,1,1],(.blk 0),cd Tryz.f89 [1,1,1,1]] (aB ZT [1]) ZQ))) (by kernel_rfl) ?_
 refine⟨pW T e t b h dV (by decide) h1,fun c=>(by cases c),fun _=>?_⟩
 refine aK.weaken ?_ k
 exact AS.bV (by kernel_rfl)
theorem XA {Q:Exit→AS→Prop} (T:List Tk) (e:Int) (t:List Tk) (b:Bool) (h:t <:+ T) (h1:dI t b minS=false) (h2:dI t b maxS=false) (k:aK Tryz.prog G [.code (aY (aC Tryz.f89) [1,1,1,1])] (KT T e t b) Q):aK Tryz.prog G (OV [1,1,1,0,0,1,1,1,1,1,1]) (KT T e t b) Q:=by
 refine aF (aj:={ qH T e t b 0 aJ [] false [] false .empty [] false with ro:=fun f=>Nat.beq f 112 }) (keep:=[]) (cuts:=[15,25]) (n:=1000) follows ?_
 refine au (fun ZT ZW ZQ _=>(fun Za Zb Zc Zd=>((aA Tryz.prog G 112 [(.box 1000000 0),(vs Zc)] [(1000000,[Zb,(vi (↑(kI T t))),(vi e),(vb b),Za])] (vb (dI t b Zc)) [(1000000,[Zb,(vi (↑(kI T t))),(vi e),(vb b),Za])]∧([Zb,(vi (↑(kI T t))),(vi e),(vb b),Za]:(List AV))=[Zb,(vi (↑(kI T t))),(vi e),(vb b),Za]∧(((!dI t b Zc)=true)→aA Tryz.prog G 112 [(.box 1000000 0),(vs Zd)] [(1000000,[Zb,(vi (↑(kI T t))),(vi e),(vb b),Za])] (vb (dI t b Zd)) [(1000000,[Zb,(vi (↑(kI T t))),(vi e),(vb b),Za])])∧(((!dI t b Zc)=true)→(([Zb,(vi (↑(kI T t))),(vi e),(vb b),Za]:(List AV))=[Zb,(vi (↑(kI T t))),(vi e),(vb b),Za])))∧(((dI t b Zc||dI t b Zd)=true)→ZW [cd Tryz.f89 [1,1,1,0,0,1,1,1,1,1,1,1,0],(.blk 0),cd Tryz.f89 [1,1,1,1]] (aB ZT [0]) ZQ)∧(((dI t b Zc||dI t b Zd)=false)→ZW [cd Tryz.f89 [1,1,1,1]] (aB ZT [1]) ZQ))) (vi (bif b then hdA e t else 0)) ((.d (.slc 2 T.length (aG T))):AV) (ByteArray.mk #[109,105,110]) (ByteArray.mk #[109,97,120])) (by kernel_rfl) ?_
 try dsimp only
 have k1:=f112 (G:=G) T e t b h minS (by decide)
 have k2:=f112 (G:=G) T e t b h maxS (by decide)
 refine⟨⟨k1,rfl,fun _=>k2,fun _=>rfl⟩,fun c=>?_,fun _=>?_⟩
 ·rw[show dI t b ⟨#[109,105,110]⟩=false from h1,show dI t b ⟨#[109,97,120]⟩=false from h2] at c
  cases c
 ·refine aK.weaken ?_ k
  exact AS.bV (by kernel_rfl)
theorem Qw (T:List Tk) (e:Int) (t:List Tk) (b:Bool) (h:t <:+ T) (hl:T.length≤1000000) (hN:qO t) (hd:b=true∨bQ (byteAt (ah t) 0)=false) (h1:dI t b kE=false) (h2:dI t b jR=false) (h3:dI t b dV=false) (h4:dI t b minS=false) (h5:dI t b maxS=false):xZ G T e t b:=by
 have key:∀(nm:ByteArray) (r:List Tk) (br:Bool),aA Tryz.prog G 84 [.box 1000000 0] (qB T e t b) (.d (ds nm)) (qB T e r br)→aA Tryz.prog G 89 [.box 1000000 0] (qB T e t b) (.d (fD (.mk 2 nm 0 0 (hdA e t) []))) (qB T e r br):=by
  intro nm r br k84
  refine aA.resD (d:=.agg [di 2,ds nm,di 0,di 0,di (hdA e t),.con (.slice none 0 0)]) ?_ fun k v hv=>qm hv
  refine aA.aP (mv:=[]) (by kernel_rfl) Tryz.func89 rfl Tryz.call89 ?_
  refine xQ T e t b h hN hd (Gn T e t b h h1 h2 (N8 T e t b h h3 (XA T e t b h h4 h5 ?_)))
  refine aF (aj:=qH T e t b 0 aJ [] false [] false nm r br) (keep:=[]) (cuts:=[]) (n:=1000) follows ?_
  refine au (fun _ _ _ _=>(fun Za=>(aA Tryz.prog G 84 [(.box 1000000 0)] [(1000000,[(.d (.slc 2 T.length (aG T))),(vi (↑(kI T t))),(vi e),(vb b),(vi (bif b then hdA e t else 0))])] (vs nm) [(1000000,[(.d (.slc 2 T.length (aG T))),(vi (↑(kI T r))),(vi e),(vb br),(vi (bif br then hdA e r else 0))])]∧(ZS ((.d (.agg [(di 2),(ds nm),(di 0),(di 0),(di (hdA e t)),(.con (.slice none 0 0))])):AV))∧(Za:(Option (List AV)))=Za∧True)) (some [(.d (.slc 2 T.length (aG T))),(vi (↑(kI T r))),(vi e),(vb br),(vi (bif br then hdA e r else 0))])) (by kernel_rfl) ?_
  exact⟨k84,rfl,rfl,trivial⟩
 by_cases hg:b=false∧nameB (ah t)=true
 ·obtain ⟨rfl,hn⟩:=hg
  have hne:ah t≠.empty:=fun c=>by rw[c] at hn;exact absurd hn (by decide +kernel)
  have hd:=hd.resolve_left (by decide)
  have ne:∀{s:ByteArray},dI t false s=false→ah t≠s:=fun {s} q=>((vW q).resolve_left (by decide)).2
  have he:fF .gI t false=.ok (.mk 2 (ah t) 0 0 (hdA e t) []) t.tail:=by
   show pr .gI t=_
   rw[mJ,if_neg (ne h3),if_neg (not_or.2 ⟨ne h4,ne h5⟩),jr e hne]
   unfold mZ
   rw[if_neg (ne h1),if_neg (ne h2),if_neg (by rw[hd];decide),if_pos hn]
  unfold xZ
  rw[he]
  refine⟨_,key _ _ _ (QK T e t h hl hn),fun x r q=>?_⟩
  injection q with q1 q2
 ·have hh:b=true∨nameB (ah t)=false:=by
   cases b with
   | true=>exact .inl rfl
   | false=>
    refine .inr ?_
    cases hn:nameB (ah t) with
    | true=>exact absurd ⟨rfl,hn⟩ hg
    | false=>rfl
  have he:fF .gI t b=.bad t:=by
   cases b with
   | true=>rfl
   | false=>
    have hd:=hd.resolve_left (by decide)
    have hn:=hh.resolve_left (by decide)
    have ne:∀{s:ByteArray},dI t false s=false→ah t≠s:=fun {s} q=>((vW q).resolve_left (by decide)).2
    show pr .gI t=_
    rw[mJ,if_neg (ne h3),if_neg (not_or.2 ⟨ne h4,ne h5⟩)]
    unfold mZ
    rw[if_neg (ne h1),if_neg (ne h2),if_neg (by rw[hd];decide),if_neg (by rw[hn];decide)]
  unfold xZ
  rw[he]
  exact⟨_,key _ _ _ (NR T e t b h hN hh),fun x r q=>(by cases q)⟩
theorem aaC (T:List Tk) (e:Int) (t:List Tk) (h:t <:+ T) (hl:T.length≤1000000) (hN:qO t) (hh:ah t=kE):xZ G T e t false:=by
 have he:fF .gI t false=.ok (.mk 3 .empty 0 0 (hdA e t) []) t.tail:=by
  show pr .gI t=_
  rw[mJ,if_neg (by rw[hh];decide),if_neg (by rw[hh];decide),jr e (by rw[hh];decide)]
  unfold mZ
  rw[if_pos hh]
 unfold xZ
 rw[he]
 refine⟨_,?_,fun x r q=>(by injection q)⟩
 refine aA.resD (d:=.agg [di 3,ds .empty,di 0,di 0,di (hdA e t),.con (.slice none 0 0)]) ?_ fun k v hv=>qm hv
 refine aA.aP (mv:=[]) (by kernel_rfl) Tryz.func89 rfl Tryz.call89 ?_
 refine xQ T e t false h hN (.inr (by rw[hh];decide +kernel)) ?_
 refine aF (aj:=qH T e t false 4 aJ [] false [] false .empty [] false) (keep:=[]) (cuts:=[8,25]) (n:=1000) follows ?_
 refine au (fun ZT ZW ZQ _=>(fun Za Zb=>(aA Tryz.prog G 83 [(.box 1000000 0),(vs (ByteArray.mk #[116,114,117,101]))] [(1000000,[Zb,(vi (↑(kI T t))),(vi e),(vb false),(vi (bif false then hdA e t else 0))])] (vb true) [(1000000,[Zb,(vi (↑(kI T t.tail))),(vi e),(vb false),(vi (bif false then hdA e t.tail else 0))])]∧((true=true)→(((.d (.agg [(di 3),(ds (ByteArray.mk #[])),(di 0),(di 0),(di (hdA e t)),(.con (.slice none 0 0))])):AV)=(.d (.agg [(di 3),(ds ByteArray.empty),(di 0),(di 0),(di (hdA e t)),(.con (.slice none 0 0))]))∧((some [Zb,(vi (↑(kI T t.tail))),(vi e),(vb false),(vi (bif false then hdA e t.tail else 0))]):(Option (List AV)))=(some [Zb,(vi (↑(kI T (aQ Za)))),(vi e),(vb (isBad Za)),(vi (bif isBad Za then hdA e (aQ Za) else 0))])∧True))∧((true=false)→ZW [cd Tryz.f89 [1,1,1,0,0,1,1],(.blk 0),cd Tryz.f89 [1,1,1,1]] (aB ZT [1]) ZQ))) (Rs.ok (Ex.mk 3 ByteArray.empty 0 0 (hdA e t) []) t.tail) ((.d (.slc 2 T.length (aG T))):AV)) (by kernel_rfl) ?_
 exact⟨oZ T e t h hl kE (by decide) hh,fun _=>⟨rfl,rfl,trivial⟩,fun c=>(by cases c)⟩
theorem X7 (T:List Tk) (e:Int) (t:List Tk) (h:t <:+ T) (hl:T.length≤1000000) (hN:qO t) (hh:ah t=jR):xZ G T e t false:=by
 have he:fF .gI t false=.ok (.mk 4 .empty 0 0 (hdA e t) []) t.tail:=by
  show pr .gI t=_
  rw[mJ,if_neg (by rw[hh];decide),if_neg (by rw[hh];decide),jr e (by rw[hh];decide)]
  unfold mZ
  rw[if_neg (by rw[hh];decide),if_pos hh]
 unfold xZ
 rw[he]
 refine⟨_,?_,fun x r q=>(by injection q)⟩
 refine aA.resD (d:=.agg [di 4,ds .empty,di 0,di 0,di (hdA e t),.con (.slice none 0 0)]) ?_ fun k v hv=>qm hv
 refine aA.aP (mv:=[]) (by kernel_rfl) Tryz.func89 rfl Tryz.call89 ?_
 refine xQ T e t false h hN (.inr (by rw[hh];decide +kernel)) ?_
 refine aF (aj:=qH T e t false 5 aJ [] false [] false .empty [] false) (keep:=[]) (cuts:=[7,10,25]) (n:=1000) follows ?_
 refine au (fun ZT ZW ZQ _=>(fun Za Zb=>(aA Tryz.prog G 83 [(.box 1000000 0),(vs (ByteArray.mk #[116,114,117,101]))] [(1000000,[Zb,(vi (↑(kI T t))),(vi e),(vb false),(vi (bif false then hdA e t else 0))])] (vb false) [(1000000,[Zb,(vi (↑(kI T t))),(vi e),(vb false),(vi (bif false then hdA e t else 0))])]∧((false=true)→ZW [cd Tryz.f89 [1,1,1,0,0,1,0],(.blk 0),cd Tryz.f89 [1,1,1,1]] (aB ZT [0]) ZQ)∧((false=false)→(aA Tryz.prog G 83 [(.box 1000000 0),(vs (ByteArray.mk #[102,97,108,115,101]))] [(1000000,[Zb,(vi (↑(kI T t))),(vi e),(vb false),(vi (bif false then hdA e t else 0))])] (vb true) [(1000000,[Zb,(vi (↑(kI T t.tail))),(vi e),(vb false),(vi (bif false then hdA e t.tail else 0))])]∧((true=true)→(((.d (.agg [(di 4),(ds (ByteArray.mk #[])),(di 0),(di 0),(di (hdA e t)),(.con (.slice none 0 0))])):AV)=(.d (.agg [(di 4),(ds ByteArray.empty),(di 0),(di 0),(di (hdA e t)),(.con (.slice none 0 0))]))∧((some [Zb,(vi (↑(kI T t.tail))),(vi e),(vb false),(vi (bif false then hdA e t.tail else 0))]):(Option (List AV)))=(some [Zb,(vi (↑(kI T (aQ Za)))),(vi e),(vb (isBad Za)),(vi (bif isBad Za then hdA e (aQ Za) else 0))])∧True))∧((true=false)→ZW [cd Tryz.f89 [1,1,1,0,0,1,1,1,1],(.blk 0),cd Tryz.f89 [1,1,1,1]] (aB ZT [1,1]) ZQ))))) (Rs.ok (Ex.mk 4 ByteArray.empty 0 0 (hdA e t) []) t.tail) ((.d (.slc 2 T.length (aG T))):AV)) (by kernel_rfl) ?_
 exact⟨pW T e t false h kE (by decide) (by unfold dI;rw[hh];decide),fun c=>(by cases c),fun _=>⟨oZ T e t h hl jR (by decide) hh,fun _=>⟨rfl,rfl,trivial⟩,fun c=>(by cases c)⟩⟩
theorem abw (T:List Tk) (e:Int) (t:List Tk) (h:t <:+ T) (hl:T.length≤1000000) (hN:qO t) (hs:(ah t).size≤900000) (hd:bQ (byteAt (ah t) 0)=true):xZ G T e t false:=by
 have hne:t≠[]:=fun c=>by rw[c] at hd;exact absurd hd (by decide +kernel)
 obtain ⟨e1,e2⟩:=lT h hne e
 have e3:=yK h hne
 have he:fF .gI t false=.ok (.mk 1 .empty (fK (ah t)).1 (fK (ah t)).2.1 (hdA e t) []) t.tail:=by
  show pr .gI t=_
  rw[mJ,if_neg (oK hd (by decide +kernel)),if_neg (not_or.2 ⟨oK hd (by decide +kernel),oK hd (by decide +kernel)⟩),jr e (fun c=>by rw[c] at hd;exact absurd hd (by decide +kernel))]
  unfold mZ
  rw[if_neg (oK hd (by decide +kernel)),if_neg (oK hd (by decide +kernel)),if_pos hd]
 unfold xZ
 rw[he]
 refine⟨_,?_,fun x r q=>(by injection q)⟩
 have h72:ay Tryz.prog G 72 [ds (ah t)] (fe (fK (ah t))):=f72 _ hs
 refine aA.resD (d:=.agg [di 1,ds .empty,di (fK (ah t)).1,di (fK (ah t)).2.1,di (hdA e t),.con (.slice none 0 0)]) ?_ fun k v hv=>qm hv
 revert h72
 obtain ⟨a,b,c⟩:=fK (ah t)
 intro h72
 refine aA.aP (mv:=[]) (by kernel_rfl) Tryz.func89 rfl Tryz.call89 ?_
 refine aF (aj:={ d:=d89 a b c,m:=m89 T e t false 0 aJ [] false [] false .empty [] false }) (keep:=[]) (cuts:=[6]) (n:=1000) follows ?_
 refine au (fun ZT ZW ZQ ZK=>(fun Za Zb Zc Zd=>(aA Tryz.prog G 81 [(.box 1000000 0)] [(1000000,[Zd,(vi (↑(kI T t))),(vi e),(vb false),(vi (bif false then hdA e t else 0))])] (vi (hdA e t)) [(1000000,[Zd,(vi (↑(kI T t))),(vi e),(vb false),(vi (bif false then hdA e t else 0))])]∧(((Zc=true)→((0≤(↑(kI T t):Int))∧((↑(kI T t):Int)<↑T.length)))∧((Zc=true)→(((0:Int)≤(0:Int))∧(0<(↑(ByteArray.size (Prod.fst (List.getD T (Int.toNat (↑(kI T t):Int)) fU))):Int))))∧((Zc=true)→ZK 71 [(.con (.int .u8 Za))] (db (bQ Za))))∧(((!false&&decide ((↑(kI T t):Int)<(↑T.length:Int))&&bQ Za)=true)→((((0≤(↑(kI T t):Int))∧((↑(kI T t):Int)<↑T.length))∧ZK 72 [(ds (T.getD ((↑(kI T t):Int)).toNat fU).fst)] (.ak [(.agg [(di a),(di b)]),(di c)]))∧(I64 (↑(kI T t)+1))∧((.d (.agg [(di 1),(ds (ByteArray.mk #[])),(di a),(di b),(di (hdA e t)),(.con (.slice none 0 0))])):AV)=(.d (.agg [(di 1),(ds ByteArray.empty),(di a),(di b),(di (hdA e t)),(.con (.slice none 0 0))]))∧((some [Zd,(vi (↑(kI T t)+1)),(vi e),(vb false),(vi (bif false then hdA e t else 0))]):(Option (List AV)))=(some [Zd,(vi (↑(kI T (aQ Zb)))),(vi e),(vb (isBad Zb)),(vi (bif isBad Zb then hdA e (aQ Zb) else 0))])∧True))∧(((!false&&decide ((↑(kI T t):Int)<(↑T.length:Int))&&bQ Za)=false)→ZW [cd Tryz.f89 [1,1,1,0,0],(.blk 0),cd Tryz.f89 [1,1,1,1]] (aB ZT [1]) ZQ))) (byteAt (T.getD ((↑(kI T t):Int)).toNat fU).fst (Int.toNat 0)) (Rs.ok (Ex.mk 1 ByteArray.empty a b (hdA e t) []) t.tail) (!false&&decide ((↑(kI T t):Int)<↑T.length)) ((.d (.slc 2 T.length (aG T))):AV)) (by kernel_rfl) ?_
 try dsimp only
 have hc:=NJ h false
 rw[hd] at hc
 simp only[Int.toNat_natCast,Int.toNat_zero]
 rw[hc,e2]
 have hsz:=(hN.hd hne).1
 refine⟨f81 T e t false h,⟨fun _=>⟨by omega,by omega⟩,fun _=>⟨by omega,by (show (0:Int)<((ah t).size:Int));omega⟩,fun _=>f71 _⟩,fun _=>⟨⟨⟨by omega,by omega⟩,h72⟩,by unfold I64;omega,rfl,?_,trivial⟩,fun c=>(by cases c)⟩
 show _=some [AV.d (kJ T),AV.d (di ((kI T t.tail:Nat):Int)),AV.d (di e),AV.d (db false),AV.d (di 0)]
 rw[e3];rfl
theorem aao (T:List Tk) (e:Int) (t:List Tk) (h:t <:+ T) (hl:T.length≤1000000) (hN:qO t) (hh:ah t=dV) (h1:lY G T e 0 t.tail false):xZ G T e t false:=by
 obtain ⟨y,hy,hyx⟩:=h1
 have hsf:aQ (pr (.lvl 0) t.tail) <:+ T:=(oQ (.lvl 0) t.tail).trans ((List.tail_suffix t).trans h)
 have key:∀(r2:List Tk) (b2:Bool),aA Tryz.prog G 85 [.box 1000000 0,.d (ds fA)] (qB T e (aQ (pr (.lvl 0) t.tail)) (isBad (pr (.lvl 0) t.tail))) (.d kF) (qB T e r2 b2)→aA Tryz.prog G 89 [.box 1000000 0] (qB T e t false) (.d (fD y)) (qB T e r2 b2):=by
  intro r2 b2 KW
  refine aA.aP (mv:=[]) (by kernel_rfl) Tryz.func89 rfl Tryz.call89 ?_
  refine xQ T e t false h hN (.inr (by rw[hh];decide +kernel)) (Gn T e t false h (by unfold dI;rw[hh];decide) (by unfold dI;rw[hh];decide) ?_)
  refine aF (aj:=qH T e t false 1 y (aQ (pr (.lvl 0) t.tail)) (isBad (pr (.lvl 0) t.tail)) r2 b2 .empty [] false) (keep:=[]) (cuts:=[14,25]) (n:=1000) follows ?_
  refine au (fun ZT ZW ZQ _=>(fun Za Zb=>(aA Tryz.prog G 83 [(.box 1000000 0),(vs (ByteArray.mk #[40]))] [(1000000,[Za,(vi (↑(kI T t))),(vi e),(vb false),(vi (bif false then hdA e t else 0))])] (vb true) [(1000000,[Za,(vi (↑(kI T t.tail))),(vi e),(vb false),(vi (bif false then hdA e t.tail else 0))])]∧((true=true)→(aA Tryz.prog G 46 [(.box 1000000 0),(vi 1)] [(1000000,[Za,(vi (↑(kI T t.tail))),(vi e),(vb false),(vi (bif false then hdA e t.tail else 0))])] (.d (aN (ht y) y)) [(1000000,[Za,(vi (↑(kI T Zb))),(vi e),(vb (isBad (pr (Md.lvl 0) t.tail))),(vi (bif isBad (pr (Md.lvl 0) t.tail) then hdA e Zb else 0))])]∧aA Tryz.prog G 85 [(.box 1000000 0),(vs (ByteArray.mk #[41]))] [(1000000,[Za,(vi (↑(kI T Zb))),(vi e),(vb (isBad (pr (Md.lvl 0) t.tail))),(vi (bif isBad (pr (Md.lvl 0) t.tail) then hdA e Zb else 0))])] (.d (.ak [])) [(1000000,[Za,(vi (↑(kI T r2))),(vi e),(vb b2),(vi (bif b2 then hdA e r2 else 0))])]∧(ZS ((.d (aN (ht y) y)):AV))∧((some [Za,(vi (↑(kI T r2))),(vi e),(vb b2),(vi (bif b2 then hdA e r2 else 0))]):(Option (List AV)))=(some [Za,(vi (↑(kI T r2))),(vi e),(vb b2),(vi (bif b2 then hdA e r2 else 0))])∧True))∧((true=false)→ZW [cd Tryz.f89 [1,1,1,0,0,1,1,1,1,1,1],(.blk 0),cd Tryz.f89 [1,1,1,1]] (aB ZT [1]) ZQ))) ((.d (.slc 2 T.length (aG T))):AV) (aQ (pr (Md.lvl 0) t.tail))) (by kernel_rfl) ?_
  exact⟨oZ T e t h hl dV (by decide) hh,fun _=>⟨hy,KW,rfl,rfl,trivial⟩,fun c=>(by cases c)⟩
 have he:fF .gI t false=match pr (.lvl 0) t.tail with
   | .ok x r=>if ah r=fA then .ok x r.tail else .bad r
   | .bad r=>.bad r:=by
  show pr .gI t=_
  rw[mJ,if_pos hh]
  rfl
 unfold xZ
 rw[he]
 cases hq:pr (.lvl 0) t.tail with
 | ok x r=>
  rw[hq] at key hsf
  try dsimp only
  by_cases hc:ah r=fA
  ·rw[if_pos hc]
   refine⟨y,key _ _ (Et T e r hsf hl fA (by decide) hc),fun z q c=>?_⟩
   injection c with c1 c2
   rw[←c1]
   exact hyx x r hq
  ·rw[if_neg hc]
   exact⟨y,key _ _ (xJ T e r false hsf fA (by decide) (by unfold dI;rw[decide_eq_false hc];rfl)),fun z q c=>(by cases c)⟩
 | bad r=>
  rw[hq] at key hsf
  exact⟨y,key _ _ (xJ T e r true hsf fA (by decide) rfl),fun z q c=>(by cases c)⟩
end Go.Proofs
namespace Go.Proofs.YtcfclncbpeahnaaGreatDoor
open Go Go.Ab Go.ChangeShapes Go.WideShapes Go.ChangeAt Go.RowKit
set_option maxRecDepth 100000
theorem own:ownKnob Tryz.prog.godebug=none:=by kernel_rfl
theorem laidOut:laidOutB Tryz.prog=true:=by kernel_rfl
theorem aa3 : Tryz.prog.globalNamed "internal/strconv.uint64pow10" = some 1 := by kernel_rfl
theorem aez:(Tryz.prog.globals[1]?).map (·.type)=some 181:=by kernel_rfl
theorem Dz {P:Program} {W:World}:∀{l:List (String×DataW Unit)} {ps:List MemPlace},DataW.LaidVars P W l ps→
  ∀{i:Nat} {n:String} {d:DataW Unit},l[i]?=some (n,d)→∃g t cs fuel p,P.globalNamed n=some g∧(P.globals[g]?).map (·.type)=some t∧W.var? P n=some cs∧DataW.trod (fun _=>()) P W 0 (fun _=>true) false fuel t cs.toList=some (d,p)
 | [],ps,h,i,n,d,h1=>by simp at h1
 | (m,e) :: l,ps,⟨g,t,cs,fuel,p,q,a1,a2,a3,a4,a5,a6⟩,i,n,d,h1=>by
  cases i with
  | zero=>
   simp at h1;obtain ⟨rfl,rfl⟩:=h1
   exact⟨g,t,cs,fuel,p,a1,a2,a3,a4⟩
  | succ i=>exact Dz a5 (i:=i) (by simpa using h1)
theorem Qk {laid : List (String × DataW Unit)} {W : World} (h : laidMetH Tryz.prog laid W) (hm : laidMetH Tryz.prog laid W = laidMet Tryz.prog laid W) {i : Nat} (hi : laid[i]? = some ("internal/strconv.uint64pow10", Rows.laid_internal_strconv_uint64pow10)) : Tab (allOf W) := by
 rw[hm] at h
 obtain ⟨ps,h,_⟩:=h
 obtain ⟨g2,t2,cs2,f2,p2,hg2,ht2,hv2,hd2⟩:=Dz h hi
 obtain rfl:=Option.some.inj (aa3.symm.trans hg2)
 obtain rfl:=Option.some.inj (aez.symm.trans ht2)
 have hT : Lib.TabIs Tryz.prog W "internal/strconv.uint64pow10" .u64 Lib.pow10Tab := by
  unfold Lib.TabIs
  rw[hv2,←Lib.cells_of_tab Tryz.underlying181 (by kernel_rfl) (by kernel_rfl) (by kernel_rfl) (k:=.u64) (zs:=Lib.pow10Tab) hd2]
 intro w hw
 unfold Lib.TabIs at hT⊢
 rw[←hT]
 unfold World.var? at hT⊢
 rw[aa3] at hT⊢
 simp only[Option.bind_some] at hT⊢
 cases ho:W.heap[1]? with
 | none=>rw[ho] at hT;cases hT
 | some o=>rw[hw.2 1 o ho]
end Go.Proofs.YtcfclncbpeahnaaGreatDoor
