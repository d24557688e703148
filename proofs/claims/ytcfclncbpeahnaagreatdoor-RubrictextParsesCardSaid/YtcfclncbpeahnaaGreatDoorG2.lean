import Derived.Test.YtcfclncbpeahnaaGreatDoorAcD
import Derived.Test.YtcfclncbpeahnaaGreatDoorG1
import Derived.Test.YtcfclncbpeahnaaGreatDoorAcC
import Derived.Test.YtcfclncbpeahnaaGreatDoorG0
import Derived.Shelf.Strings.BuilderX
import Derived.Shelf.RegionOpenPlain
import Derived.Lib.Strings
import Derived.Lib.Slices
import Derived.Lib.Walk
import Derived.Lib.Builder
import Derived.Lib.AppendStr
import Derived.Lib.UnsafeStr
import Derived.Lib.MakeNoZero
import Derived.WalkKit
import Derived.Laws.Externs
import Derived.Laws.IdiomCopy
import Derived.Laws.BitsLemmas
set_option autoImplicit false
namespace Go.Proofs
open Go Go.Ab Go.RowKit
set_option maxHeartbeats 4000000
set_option maxRecDepth 100000
variable {G:IH}
/-! The reference's text of an expression. -/
abbrev eN (s:ByteArray):DV:=.agg [di 2,ds s,di 0,di 0,di 0,.con (.slice none 0 0)]
theorem UK {s:ByteArray} (h:nameB s=true):1≤s.size∧s.size≤16:=by
 unfold nameB at h
 simp only[aV,decide_eq_true_eq] at h
 exact⟨h.1,h.2.1⟩
/-! abo of facts. -/
def Fa:cZ:=fun _ _=>none
abbrev xU (l:List ByteArray):DV:=.slc 1 l.length (iY l)
/-! The first element with a property. -/
def Ci {α:Type} (p:α→Bool) (l:List α):Int:=if l.any p then ((l.takeWhile fun x=>!p x).length:Int) else -1
theorem aay {α:Type} {x0:α} {p:α→Bool} {L:List α} {k:Nat} (hk:k<L.length) (hno:∀i,i<k→p (L.getD i x0)=false) (h:p (L.getD k x0)=true):L.any p=true∧Ci p L=k:=by
 have e:∀i (h:i<L.length),L.getD i x0=L[i]:=fun i h=>by rw[List.getD,iT h];rfl
 have h1:L.any p=true:=by
  rw[List.any_eq_true]
  exact⟨L[k],List.getElem_mem hk,by rw[←e k hk];exact h⟩
 refine⟨h1,?_⟩
 unfold Ci
 rw[if_pos h1]
 have:∀(l:List α) (k:Nat) (hk:k<l.length),(∀i (h:i<l.length),i<k→p l[i]=false)→p l[k]=true→(l.takeWhile fun x=>!p x).length=k:=by
  intro l
  induction l with
  | nil=>intro k hk;simp at hk
  | cons x l ih=>
   intro k hk h2 h3
   cases k with
   | zero=>
    simp only[List.getElem_cons_zero] at h3
    rw[List.takeWhile_cons,h3];simp
   | succ k=>
    have h4:=h2 0 (by simp) (by omega)
    simp only[List.getElem_cons_zero] at h4
    rw[List.takeWhile_cons]
    simp only[h4,Bool.not_false,if_true,List.length_cons]
    rw[ih k (by simpa using hk) (fun i h5 h6=>by
     have:=h2 (i+1) (by simpa using h5) (by omega)
     simpa using this) (by simpa using h3)]
 rw[this L k hk (fun i h5 h6=>by rw[←e i h5];exact hno i h6) (by rw[←e k hk];exact h)]
theorem Xx {α:Type} {x0:α} {p:α→Bool} {L:List α} (hno:∀i,i<L.length→p (L.getD i x0)=false):L.any p=false∧Ci p L = -1:=by
 have h1:L.any p=false:=by
  rw[Bool.eq_false_iff]
  intro h
  obtain ⟨x,hx,hd⟩:=List.any_eq_true.1 h
  obtain ⟨i,hi,rfl⟩:=List.getElem_of_mem hx
  have:=hno i hi
  rw[List.getD,iT hi] at this
  rw[show p L[i]=false from this] at hd
  cases hd
 refine⟨h1,?_⟩
 unfold Ci
 rw[if_neg (by rw[h1];simp)]
theorem ace {α:Type} (p:α→Bool) (L:List α):decide (Ci p L≥0)=L.any p:=by
 unfold Ci
 cases h:L.any p with
 | true=>rw[if_pos rfl,decide_eq_true_eq];omega
 | false=>rfl
/-! Slices of strings and a test. -/
end Go.Proofs
/- Texts of expressions: neither empty nor long. -/
namespace Go.Proofs
open Go Go.Ab Go.RowKit
theorem X8 {x:Ex} (h:cO x=true) (hk:x.k=2):nameB x.s=true:=by
 rw[tH] at h
 unfold zA at h
 rw[if_neg (by omega),if_pos hk] at h
 simp only[aV] at h
 exact h.1.1
theorem Xo {x:Ex} (h:cO x=true):x.s.size≤16:=by
 by_cases hk:x.k=2
 ·exact(UK (X8 h hk)).2
 rw[tH] at h
 unfold zA DY at h
 revert h
 repeat' split
 all_goals (intro h;simp only[aV,decide_eq_true_eq] at h)
 all_goals first|omega|(exfalso;omega)
theorem Ux (k:Int) (s:ByteArray) (n d:Int) (fl:List (Int×ByteArray)) (hs:s.size≤16):(Gq k s n d fl).size≤115+nO fl:=by
 have h1:=SV n d
 have t1:=EH fl
 have t0:=OH fl
 have j:=Bf fl
 have o:=Gx k
 have w1:=kY 6 (g0 fl 0)
 have w2:=kY 2 (g0 fl 0)
 have w3:=kY (zM k) (g0 fl 0)
 have w4:=kY (bU k+1) (g0 fl 1)
 unfold Gq
 repeat' split
 all_goals (try simp only[ByteArray.size_append])
 ·omega
 ·omega
 ·show 4≤_;omega
 ·show 5≤_;omega
 ·show 1+_≤_;omega
 ·show 4+_≤_;omega
 ·show 4+_+1≤_;omega
 ·show 4+_+1≤_;omega
 ·show _+1+_+1+_≤_;omega
theorem OI:∀{l:List Ex},(∀i,i<l.length→(bD (l.getD i aJ)).size+4≤120*iJ (l.getD i aJ))→nO (gK l)≤120*mD l
 | [],_=>by simp[gK,nO]
 | x :: l,h=>by
  have h1:=h 0 (by simp)
  have h2:=OI fun i hi=>by simpa using h (i+1) (by simpa using hi)
  have h1:(bD x).size+4≤120*iJ x:=h1
  simp only[gK,mD]
  have e:nO ((bU x.k,bD x) :: gK l)=(bD x).size+4+nO (gK l):=by simp[nO]
  omega
theorem yX (n:Nat):∀x:Ex,ht x≤n→cO x=true→(bD x).size+4≤120*iJ x:=by
 induction n using Nat.strongRecOn with
 | _ n ih=>
 intro x hx hs
 have h2:=OI (l:=x.kids) fun i hi=>by
  have:=qV hi
  exact ih (n-1) (by omega) _ (by omega) (JH hs hi)
 have h1:=Ux x.k x.s x.n x.d (gK x.kids) (Xo hs)
 rw[Rq,Il]
 omega
set_option maxHeartbeats 4000000
set_option maxRecDepth 100000
variable {G:IH}
theorem ay.res {P:Program} {f:FuncId} {xs:List DV} {r r':DV} (h:ay P G f xs r) (hr:∀k v,r.rel k v→r'.rel k v):ay P G f xs r':=
 ⟨h.1,fun w k us hG hw hu=>(h.2 w k us hG hw hu).mono fun _ _ ⟨v,h',e,hv,rest⟩=>⟨v,h',e,hr h' v hv,rest⟩⟩
/-! Rules,and their lines. -/
structure Rl where
 kind:Int
 nm:ByteArray
 gr:ByteArray
 am:Ex
 wh:Ex
 pos:Int
 ma:Nat
 mw:Nat
abbrev lg (r:Rl):DV:=.agg [di r.kind,ds r.nm,ds r.gr,di r.am.k,ds r.am.s,di r.am.n,di r.am.d,di r.am.pos,.slc 6 r.am.kids.length (lay (cu r.ma) r.am.kids),di r.wh.k,ds r.wh.s,di r.wh.n,di r.wh.d,di r.wh.pos,.slc 6 r.wh.kids.length (lay (cu r.mw) r.wh.kids),di r.pos]
structure pJ (r:Rl):Prop where
 nm:r.nm.size≤1000
 gr:r.gr.size≤1000
 ha:ht r.am≤r.ma
 am:Sm r.am
 hw:ht r.wh≤r.mw
 wh:Sm r.wh
def zI (x:Ex):Bool:=x.k==0&&decide (x.s.size=0)&&(x.n==0&&x.d==0)&&decide (x.kids.length=0)
theorem f98 (m:Nat) (x:Ex):ay Tryz.prog G 98 [jG m x] (db (zI x)):=by
 refine ay.aF (aj:=Fa) (keep:=[]) follows Tryz.func98 rfl Tryz.call98 ?_
 refine au (fun _ _ _ _=>(((db (x.k==0&&x.s.toList==(ByteArray.mk #[]).toList&&Bool.rec false (x.d==0) (x.n==0)&&(↑x.kids.length:Int)==0)):DV)=(db (zI x)))) (by kernel_rfl) ?_
 refine congrArg (fun b=>(db b:DV)) ?_
 unfold zI
 rw[nZ,show ((x.kids.length:Int)==0)=decide (x.kids.length=0) by rw[Bool.eq_iff_iff];simp]
 cases h:x.n==0<;>cases h2:x.d==0<;>rfl
theorem f40 (r:Rl) (h:pJ r):ay Tryz.prog G 40 [lg r] (db (decide ((ht r.am:Int)+1≤32)&&decide ((ht r.wh:Int)+1≤32))):=by
 refine ay.aF (aj:=fun f a=>match f,a with|45,[e]=>some (di ((ht (aO e):Int)+1))|_,_=>none) (keep:=[]) follows Tryz.func40 rfl Tryz.call40 ?_
 refine au (fun _ _ _ ZK=>((ZK 45 [(aN r.ma r.am)] (di (↑(ht (aO (aN r.ma r.am)))+1))∧(((decide ((↑(ht (aO (aN r.ma r.am))):Int)+1≤32))=true)→ZK 45 [(aN r.mw r.wh)] (di (↑(ht (aO (aN r.mw r.wh)))+1))))∧((db (decide ((↑(ht (aO (aN r.ma r.am))):Int)+1≤32)&&decide ((↑(ht (aO (aN r.mw r.wh))):Int)+1≤32))):DV)=(db (decide ((↑(ht r.am):Int)+1≤32)&&decide ((↑(ht r.wh):Int)+1≤32))))) (by kernel_rfl) ?_
 have e1:aO (aN r.ma r.am)=r.am:=ig h.ha
 have e2:aO (aN r.mw r.wh)=r.wh:=ig h.hw
 simp only[e1,e2]
 exact⟨⟨f45 _ _ h.ha h.am,fun _=>f45 _ _ h.hw h.wh⟩,trivial⟩
def bP:List ByteArray:=[⟨#[112,111,105,110,116,115]⟩,⟨#[112,101,110,97,108,116,121]⟩,⟨#[99,97,112]⟩,⟨#[102,108,111,111,114]⟩]
theorem Wx {h:IH} {v:Value} (hv:DV.rel h (.slc 1 4 (aS false 1 [ds ⟨#[112,111,105,110,116,115]⟩,ds ⟨#[112,101,110,97,108,116,121]⟩,ds ⟨#[99,97,112]⟩,ds ⟨#[102,108,111,111,114]⟩])) v):DV.rel h (xU bP) v:=by
 refine DV.jH (fun i hi=>?_) hv
 have hi:i<4:=hi
 rcases i with _|_|_|_|i
 ·rfl
 ·rfl
 ·rfl
 ·rfl
 ·omega
theorem f76:ay Tryz.prog G 76 [] (xU bP):=by
 refine ay.res ?_ fun k v hv=>Wx hv
 refine ay.aF (aj:=Fa) (keep:=[]) follows Tryz.func76 rfl Tryz.call76 ?_
 refine au (fun _ _ _ _=>(ZS ((.slc 1 4 (aS false 1 [(ds (ByteArray.mk #[112,111,105,110,116,115])),(ds (ByteArray.mk #[112,101,110,97,108,116,121])),(ds (ByteArray.mk #[99,97,112])),(ds (ByteArray.mk #[102,108,111,111,114]))])):DV))) (by kernel_rfl) ?_
 rfl
def oP (r:Rl):Bool:=decide (r.kind≥0)&&decide (r.kind<4)&&nameB r.nm&&(decide (r.gr.size=0)||nameB r.gr)&&(decide ((ht r.am:Int)+1≤32)&&decide ((ht r.wh:Int)+1≤32))&&cO r.am&&(zI r.wh||cO r.wh)
noncomputable def Y7 (r:Rl):cZ:=fun f a=>match f,a with
 | 76,[]=>some (xU bP)
 | 92,[.con (.string s)]=>some (db (nameB s))
 | 40,[_]=>some (db (decide ((ht r.am:Int)+1≤32)&&decide ((ht r.wh:Int)+1≤32)))
 | 98,[e]=>some (db (zI (aO e)))
 | 49,[e]=>some (db (cO (aO e)))
 | 50,[e]=>some (ds (bD (aO e)))
 | _,_=>none
theorem f51 (hT:Tab G) (r:Rl) (h:pJ r):ay Tryz.prog G 51 [lg r] (db (oP r)):=by
 refine ay.aF (aj:=Y7 r) (keep:=[]) follows Tryz.func51 rfl Tryz.call51 ?_
 refine au (fun _ _ _ ZK=>(fun Za Zb=>(((((decide (r.kind≥0))=true)→ZK 76 [] (.slc 1 4 (iY bP)))∧(((decide (r.kind≥0)&&decide (r.kind<↑bP.length))=true)→ZK 92 [(ds r.nm)] (db (nameB r.nm)))∧(((decide (r.kind≥0)&&decide (r.kind<↑bP.length)&&nameB r.nm&&!r.gr.toList==(ByteArray.mk #[]).toList)=true)→ZK 92 [(ds r.gr)] (db (nameB r.gr)))∧(((decide (r.kind≥0)&&decide (r.kind<↑bP.length)&&nameB r.nm&&Zb)=true)→ZK 40 [(lg r)] (db Za))∧(((decide (r.kind≥0)&&decide (r.kind<(↑bP.length:Int))&&nameB r.nm&&Zb&&Za)=true)→ZK 49 [(aN r.ma r.am)] (db (cO (aO (aN r.ma r.am)))))∧(((decide (r.kind≥0)&&decide (r.kind<(↑bP.length:Int))&&nameB r.nm&&Zb&&Za&&cO (aO (aN r.ma r.am)))=true)→ZK 98 [(aN r.mw r.wh)] (db (zI (aO (aN r.mw r.wh)))))∧(((decide (r.kind≥0)&&decide (r.kind<(↑bP.length:Int))&&nameB r.nm&&Zb&&Za&&cO (aO (aN r.ma r.am))&&!zI (aO (aN r.mw r.wh)))=true)→ZK 49 [(aN r.mw r.wh)] (db (cO (aO (aN r.mw r.wh))))))∧((db (decide (r.kind≥0)&&decide (r.kind<(↑bP.length:Int))&&nameB r.nm&&Zb&&Za&&cO (aO (aN r.ma r.am))&&(zI (aO (aN r.mw r.wh))||cO (aO (aN r.mw r.wh))))):DV)=(db (oP r)))) (decide ((↑(ht r.am):Int)+1≤32)&&decide ((↑(ht r.wh):Int)+1≤32)) (r.gr.toList==(ByteArray.mk #[]).toList||nameB r.gr)) (by kernel_rfl) ?_
 try dsimp only
 have e1:aO (aN r.ma r.am)=r.am:=ig h.ha
 have e2:aO (aN r.mw r.wh)=r.wh:=ig h.hw
 simp only[e1,e2,nZ]
 exact⟨⟨fun _=>f76,fun _=>f92 _ (by have:=h.nm;omega),fun _=>f92 _ (by have:=h.gr;omega),fun _=>f40 r h,fun _=>f49 hT _ _ h.ha h.am,fun _=>f98 _ _,fun _=>f49 hT _ _ h.hw h.wh⟩,rfl⟩
def jT (r:Rl):ByteArray:=bP.getD r.kind.toNat .empty++⟨#[32]⟩++r.nm++(if r.gr.size=0 then .empty else ⟨#[32,105,110,32]⟩++r.gr)++(⟨#[58,32]⟩++bD r.am)++(if r.wh.k=0 then .empty else ⟨#[32,105,102,32]⟩++bD r.wh)++⟨#[59,10]⟩
theorem lnA {r:Rl} (h1:r.gr.size≠0) (h2:r.wh.k≠0):jT r=bP.getD r.kind.toNat .empty++⟨#[32]⟩++r.nm++(⟨#[32,105,110,32]⟩++r.gr)++(⟨#[58,32]⟩++bD r.am)++(⟨#[32,105,102,32]⟩++bD r.wh)++⟨#[59,10]⟩:=by
 unfold jT;rw[if_neg h1,if_neg h2]
theorem adQ {r:Rl} (h1:r.gr.size≠0) (h2:r.wh.k=0):jT r=bP.getD r.kind.toNat .empty++⟨#[32]⟩++r.nm++(⟨#[32,105,110,32]⟩++r.gr)++(⟨#[58,32]⟩++bD r.am)++⟨#[59,10]⟩:=by
 unfold jT;rw[if_neg h1,if_pos h2,ByteArray.append_empty]
theorem lnC {r:Rl} (h1:r.gr.size=0) (h2:r.wh.k≠0):jT r=bP.getD r.kind.toNat .empty++⟨#[32]⟩++r.nm++(⟨#[58,32]⟩++bD r.am)++(⟨#[32,105,102,32]⟩++bD r.wh)++⟨#[59,10]⟩:=by
 unfold jT;rw[if_pos h1,if_neg h2,ByteArray.append_empty]
theorem lnD {r:Rl} (h1:r.gr.size=0) (h2:r.wh.k=0):jT r=bP.getD r.kind.toNat .empty++⟨#[32]⟩++r.nm++(⟨#[58,32]⟩++bD r.am)++⟨#[59,10]⟩:=by
 unfold jT;rw[if_pos h1,if_pos h2,ByteArray.append_empty,ByteArray.append_empty]
theorem f53 (hT:Tab G) (r:Rl) (h:pJ r) (hr:oP r=true):ay Tryz.prog G 53 [lg r] (ds (jT r)):=by
 refine ay.aF (aj:=Y7 r) (keep:=[]) follows Tryz.func53 rfl Tryz.call53 ?_
 refine au (fun _ _ _ ZK=>(fun Za Zb Zc=>((ZK 76 [] (.slc 1 4 (iY bP))∧((0≤r.kind)∧(r.kind<↑bP.length))∧((bP.getD r.kind.toNat ByteArray.empty).size+(ByteArray.mk #[32]).size≤9223372036854775807)∧((bP.getD r.kind.toNat ByteArray.empty++ByteArray.mk #[32]).size+r.nm.size≤9223372036854775807))∧(((!r.gr.toList==(ByteArray.mk #[]).toList)=true)→((((ByteArray.mk #[32,105,110,32]).size+r.gr.size≤9223372036854775807)∧((bP.getD r.kind.toNat ByteArray.empty++ByteArray.mk #[32]++r.nm).size+Zc.size≤9223372036854775807))∧(ZK 50 [(aN r.ma r.am)] (ds (bD (aO (aN r.ma r.am))))∧((ByteArray.mk #[58,32]).size+(bD (aO (aN r.ma r.am))).size≤9223372036854775807)∧((bP.getD r.kind.toNat ByteArray.empty++ByteArray.mk #[32]++r.nm++Zc).size+Za.size≤9223372036854775807))∧(((r.wh.k != 0)=true)→((ZK 50 [(aN r.mw r.wh)] (ds (bD (aO (aN r.mw r.wh))))∧((ByteArray.mk #[32,105,102,32]).size+(bD (aO (aN r.mw r.wh))).size≤9223372036854775807)∧((bP.getD r.kind.toNat ByteArray.empty++ByteArray.mk #[32]++r.nm++Zc++Za).size+Zb.size≤9223372036854775807))∧((bP.getD r.kind.toNat ByteArray.empty++ByteArray.mk #[32]++r.nm++Zc++Za++Zb).size+(ByteArray.mk #[59,10]).size≤9223372036854775807)∧((ds (bP.getD r.kind.toNat ByteArray.empty++ByteArray.mk #[32]++r.nm++Zc++Za++Zb++ByteArray.mk #[59,10])):DV)=(ds (jT r))))∧(((r.wh.k != 0)=false)→(((bP.getD r.kind.toNat ByteArray.empty++ByteArray.mk #[32]++r.nm++Zc++Za).size+(ByteArray.mk #[59,10]).size≤9223372036854775807)∧((ds (bP.getD r.kind.toNat ByteArray.empty++ByteArray.mk #[32]++r.nm++Zc++Za++ByteArray.mk #[59,10])):DV)=(ds (jT r))))))∧(((!r.gr.toList==(ByteArray.mk #[]).toList)=false)→((ZK 50 [(aN r.ma r.am)] (ds (bD (aO (aN r.ma r.am))))∧((ByteArray.mk #[58,32]).size+(bD (aO (aN r.ma r.am))).size≤9223372036854775807)∧((bP.getD r.kind.toNat ByteArray.empty++ByteArray.mk #[32]++r.nm).size+Za.size≤9223372036854775807))∧(((r.wh.k != 0)=true)→((ZK 50 [(aN r.mw r.wh)] (ds (bD (aO (aN r.mw r.wh))))∧((ByteArray.mk #[32,105,102,32]).size+(bD (aO (aN r.mw r.wh))).size≤9223372036854775807)∧((bP.getD r.kind.toNat ByteArray.empty++ByteArray.mk #[32]++r.nm++Za).size+Zb.size≤9223372036854775807))∧((bP.getD r.kind.toNat ByteArray.empty++ByteArray.mk #[32]++r.nm++Za++Zb).size+(ByteArray.mk #[59,10]).size≤9223372036854775807)∧((ds (bP.getD r.kind.toNat ByteArray.empty++ByteArray.mk #[32]++r.nm++Za++Zb++ByteArray.mk #[59,10])):DV)=(ds (jT r))))∧(((r.wh.k != 0)=false)→(((bP.getD r.kind.toNat ByteArray.empty++ByteArray.mk #[32]++r.nm++Za).size+(ByteArray.mk #[59,10]).size≤9223372036854775807)∧((ds (bP.getD r.kind.toNat ByteArray.empty++ByteArray.mk #[32]++r.nm++Za++ByteArray.mk #[59,10])):DV)=(ds (jT r)))))))) (ByteArray.mk #[58,32]++bD (aO (aN r.ma r.am))) (ByteArray.mk #[32,105,102,32]++bD (aO (aN r.mw r.wh))) (ByteArray.mk #[32,105,110,32]++r.gr)) (by kernel_rfl) ?_
 try dsimp only
 have e1:aO (aN r.ma r.am)=r.am:=ig h.ha
 have e2:aO (aN r.mw r.wh)=r.wh:=ig h.hw
 simp only[e1,e2,nZ,ByteArray.size_append]
 have hh:=hr
 unfold oP at hh
 simp only[aV,decide_eq_true_eq] at hh
 obtain ⟨⟨⟨⟨⟨⟨hk0,hk4⟩,hn⟩,hg⟩,hd⟩,ha⟩,hw⟩:=hh
 have k4:bP.length=4:=rfl
 have hks:∀i,(bP.getD i .empty).size≤7:=fun i=>by
  rcases i with _|_|_|_|i
  ·decide
  ·decide
  ·decide
  ·decide
  ·show (ByteArray.empty).size≤7
   decide
 have s1:=hks r.kind.toNat
 have s2:=h.nm
 have s3:=h.gr
 have s4:=yX _ _ (Nat.le_refl _) ha
 have n4:=h.am.nd
 have c1:(ByteArray.mk #[32]).size=1:=rfl
 have c2:(ByteArray.mk #[32,105,110,32]).size=4:=rfl
 have c3:(ByteArray.mk #[58,32]).size=2:=rfl
 have c4:(ByteArray.mk #[32,105,102,32]).size=4:=rfl
 have c5:(ByteArray.mk #[59,10]).size=2:=rfl
 have hw2:(r.wh.k != 0)=true→cO r.wh=true:=fun hc=>by
  rcases Bool.or_eq_true ..▸hw with h1|h1
  ·unfold zI at h1
   simp only[aV,beq_iff_eq] at h1
   rw[h1.1.1.1] at hc;cases hc
  ·exact h1
 have s5:(r.wh.k != 0)=true→(bD r.wh).size≤120000:=fun hc=>by
  have:=yX _ _ (Nat.le_refl _) (hw2 hc)
  have:=h.wh.nd
  omega
 refine⟨⟨f76,⟨by omega,by omega⟩,by omega,by omega⟩,fun h1=>⟨⟨by omega,by omega⟩,⟨f50 hT _ _ h.ha h.am ha,by omega,by omega⟩,fun h2=>?_,fun h2=>⟨by omega,?_⟩⟩,fun h1=>⟨⟨f50 hT _ _ h.ha h.am ha,by omega,by omega⟩,fun h2=>?_,fun h2=>⟨by omega,?_⟩⟩⟩
 ·have:=s5 h2
  refine⟨⟨f50 hT _ _ h.hw h.wh (hw2 h2),by omega,by omega⟩,by omega,?_⟩
  rw[lnA (by simpa using h1) (by simpa using h2)]
 ·rw[adQ (by simpa using h1) (by simpa using h2)]
 ·have:=s5 h2
  refine⟨⟨f50 hT _ _ h.hw h.wh (hw2 h2),by omega,by omega⟩,by omega,?_⟩
  rw[lnC (by simpa using h1) (by simpa using h2)]
 ·rw[lnD (by simpa using h1) (by simpa using h2)]
def gZ (l:List UInt8) (i:Nat):DV:=.con (.int .u8 (((l[i]?).getD 0).toNat:Int))
def BF:AV:=.d (.con (.pointer none))
def kF:DV:=.ak []
theorem aT.result {F:Fr} {w0:World} {h0:IH} {st:AS} {β:Nat→Nat} {h:IH} {tm:Array Value} {w:World} (g:aT G F w0 h0 st β h tm w) {r:AV} {v:Value} (hr:r.rel β h v):aT G F w0 h0 ⟨[r],st.boxes⟩ β h #[v] w:=
 ⟨g.glob,g.holds,g.ext,g.old,g.kept,g.fix,rfl,fun t x hx=>by
  cases t with
  | zero=>simp at hx;subst hx;exact⟨v,rfl,hr⟩
  | succ t=>simp at hx,g.box,g.inj⟩
theorem O9 (h:IH):kF.rel h (.tuple #[]):=⟨[],rfl,rfl⟩
theorem arg1 {F:Fr} {w0:World} {h0:IH} {x:AV} {bx:List (Nat×List AV)} {β:Nat→Nat} {h:IH} {us:Array Value} {w:World} (g:aT G F w0 h0 ⟨[x],bx⟩ β h us w):∃v,us=#[v]∧x.rel β h v:=by
 have hs:us.size=1:=g.size
 obtain ⟨v,hv,hr⟩:=g.regs 0 x rfl
 refine⟨v,?_,hr⟩
 apply Array.ext
 ·simpa using hs
 ·intro i h1 h2
  have:i=0:=by simp at h2;omega
  subst this
  have:=(Array.getElem?_eq_some_iff.1 hv).2
  simpa using this
theorem zk (s:Nat) (l:List AV) (r:List (Nat×List AV)):Go.Ab.look ((s,l) :: r) s=some l:=by simp[Go.Ab.look]
theorem acE:(Tryz.prog.info? 83).map (·.size)=some 2:=by kernel_rfl
theorem i146:∃j,Tryz.prog.info? 83=some j∧j.size=2:=Option.map_eq_some_iff.1 acE
theorem Zi:liesAt Tryz.prog Tryz.prog.depth 83 (2 / Tryz.prog.cellsOf 83) 0 83 1=true:=by kernel_rfl
theorem JY (b:Nat) (w:World) (h0:w.cell? ⟨b,0,none⟩=some (.pointer (some ⟨b,0,none⟩))) :
  Calls Tryz.prog 99 #[.pointer (some ⟨b,0,none⟩)] w fun e w'=>e=.returned (.tuple #[])∧w'=w:=by
 obtain ⟨j,hj,hjs⟩:=i146
 go_enter Tryz.func99,Tryz.ntmps99
 go_wp2
 rw[Lib.run_neq_ptr_same w _ Tryz.underlying81 hj]
 go_wp2
 go_end0
 exact⟨rfl,rfl⟩
theorem I4 (b:Nat) (w:World) (h0:w.cell? ⟨b,0,none⟩=some (.pointer none)) (hsh:w.shape? b=some (83,2)) (hfz:w.frozen? ⟨b,0,none⟩=false) :
  Calls Tryz.prog 99 #[.pointer (some ⟨b,0,none⟩)] w fun e w'=>e=.returned (.tuple #[])∧w'=w.setCell ⟨b,0,none⟩ (.pointer (some ⟨b,0,none⟩)):=by
 obtain ⟨j,hj,hjs⟩:=i146
 go_enter Tryz.func99,Tryz.ntmps99
 go_wp2
 rw[Lib.run_to_unsafe w ⟨b,0,none⟩ Tryz.underlying81 Tryz.underlying133 hj (by rw[hjs];decide) hsh (Nat.zero_lt_succ 1)]
 simp only[Result.andThen]
 rw[Oper.upon_value]
 go_wp2
 rw[run_callFunc_extern Tryz.func121 (by kernel_rfl) (by kernel_rfl) (by kernel_rfl) (e:=Extern.AbiNoEscape.same) (by kernel_rfl)]
 rw[Lib.run_noEscape]
 simp only[Result.andThen]
 rw[Oper.upon_value]
 go_wp2
 rw[Lib.run_from_unsafe w ⟨b,0,none⟩ Tryz.underlying133 Tryz.underlying81 hj hsh Zi]
 simp only[Result.andThen]
 rw[Oper.upon_value]
 go_wp2
 go_end0
 exact⟨rfl,rfl⟩
theorem Ju (b g cap n:Nat) (T:TypeId) (p:Value) (vs:Array Value) (fz:Nat×Nat) (l:List UInt8) (h0:l≠[]) (hn:n=l.length) (w:World) (hbk:w.heap[b]?=some (.cells #[p,.slice (some ⟨g,0,none⟩) n cap] T (0,0)))
  (hg:w.heap[g]?=some (.cells vs 5 fz)) (hcap:n≤cap) (hsz:n≤vs.size) (h63:n≤9223372036854775807) (hvs:∀(j:Nat) (x:UInt8),l[j]?=some x→vs[j]?=some (Value.int .u8 x.toNat)) :
  Calls Tryz.prog 55 #[.pointer (some ⟨b,0,none⟩)] w fun e w'=>e=.returned (.string ⟨l.toArray⟩)∧w'=w.drew.freeze ⟨g,0,none⟩ n:=by
 subst hn
 have hl0:l.length≠0:=by simpa using h0
 have c1:w.drew.cell? ⟨b,1,none⟩=some (.slice (some ⟨g,0,none⟩) l.length cap):=by
  have:w.drew.heap[b]?=some (.cells #[p,.slice (some ⟨g,0,none⟩) l.length cap] T (0,0)):=hbk
  rw[Lib.cell_of_heap this];rfl
 have hSD:(Builtin.unsafeSliceData_ #[51] 121 #[.slice (some ⟨g,0,none⟩) l.length cap]).run Tryz.prog w.drew=.ok (.pointer (some ⟨g,0,none⟩)) w.drew:=
  Lib.run_unsafeSliceData_row _ _ _ _ _ _ (by omega)
 have hUS:(Builtin.unsafeString_ #[121,3] 9 #[.pointer (some ⟨g,0,none⟩),.int .i64 l.length]).run Tryz.prog w.drew=.ok (.string ⟨l.toArray⟩) (w.drew.freeze ⟨g,0,none⟩ l.length):=by
  refine Lib.run_unsafeString_row w.drew 121 3 9 5 Tryz.underlying121 (by kernel_rfl) g vs.size (by have hg':w.drew.heap[g]?=some (.cells vs 5 fz):=hg;simp[World.shape?,hg']) l h0 hsz h63 ?_
  intro j x hx
  have hg':w.drew.heap[g]?=some (.cells vs 5 fz):=hg
  have:(⟨g,0,none⟩:Addr).add j=⟨g,j,none⟩:=by rw[kR];simp
  rw[this]
  simp only[World.cell?,hg']
  exact hvs j x hx
 have mixed:=follows
 go_enter Tryz.func55,Tryz.ntmps55
 go_wp2
 go_region_o
 all_goals (go_wp2;go_ret;exact⟨rfl,rfl⟩)
theorem Ee (b:Nat) (T:TypeId) (p:Value) (w:World) (hbk:w.heap[b]?=some (.cells #[p,.slice none 0 0] T (0,0))) :
  Calls Tryz.prog 55 #[.pointer (some ⟨b,0,none⟩)] w fun e w'=>e=.returned (.string ⟨#[]⟩)∧w'=w.drew:=by
 have c1:w.drew.cell? ⟨b,1,none⟩=some (.slice none 0 0):=by
  have:w.drew.heap[b]?=some (.cells #[p,.slice none 0 0] T (0,0)):=hbk
  rw[Lib.cell_of_heap this];rfl
 have hSD:(Builtin.unsafeSliceData_ #[51] 121 #[.slice none 0 0]).run Tryz.prog w.drew=.ok (.pointer none) w.drew:=rfl
 have hUS:(Builtin.unsafeString_ #[121,3] 9 #[.pointer none,.int .i64 0]).run Tryz.prog w.drew=.ok (.string .empty) w.drew:=Lib.run_unsafeString_none w.drew _ _ _ none
 have mixed:=follows
 go_enter Tryz.func55,Tryz.ntmps55
 go_wp2
 go_region_o
 all_goals (go_wp2;go_ret;exact⟨rfl,rfl⟩)
theorem VQ (x:AV) (rest:List (Nat×List AV)):aA Tryz.prog G 99 [.tb 1000000 0 83] ((1000000,[BF,x]) :: rest) (.d kF) ((1000000,[.box 1000000 0,x]) :: rest):=by
 refine⟨Tryz.call99,fun F w h β us g=>?_⟩
 obtain ⟨v,rfl,hv,hT⟩:=arg1 g
 subst hv
 have hb:(⟨[.tb 1000000 0 83],(1000000,[BF,x]) :: rest⟩:AS).box 1000000=some [BF,x]:=zk ..
 have hp:bg [BF,x]=true:=by
  cases x<;>rfl
 obtain ⟨_,_,_,T,vs,hh,hr⟩:=g.Bd hb hp
 obtain ⟨v0,vs',rfl,h0,v1,vs'',rfl,h1,h2⟩:=hr
 simp only[AV.aH] at h2;subst h2
 simp only[BF,AV.rel,DV.rel] at h0;subst h0
 have hTT:T.1=83:=T.2.trans hT
 rw[hTT] at hh
 have c0:w.cell? ⟨blk β 1000000,0,none⟩=some (.pointer none):=by simp[World.cell?,hh]
 refine(I4 (blk β 1000000) w c0 (by simp[World.shape?,hh]) (by simp[World.frozen?,hh])).mono ?_
 rintro e w' ⟨rfl,rfl⟩
 have g2:=g.store (s:=1000000) (i:=0) (x:=.box 1000000 0) (v:=.pointer (some ⟨blk β 1000000,0,none⟩)) ⟨_,hb,hp⟩ rfl
 have hset:setCells 1000000 0 (.box 1000000 0) ((1000000,[BF,x]) :: rest)=(1000000,[.box 1000000 0,x]) :: rest:=by simp[setCells]
 rw[hset] at g2
 exact⟨_,β,h,rfl,aT.result g2 (O9 h)⟩
theorem Xn (y x:AV) (hy:∀β h v,y.rel β h v→v=.pointer (some ⟨blk β 1000000,0,none⟩)) (rest:List (Nat×List AV)):aA Tryz.prog G 99 [y] ((1000000,[.box 1000000 0,x]) :: rest) (.d kF) ((1000000,[.box 1000000 0,x]) :: rest):=by
 refine⟨Tryz.call99,fun F w h β us g=>?_⟩
 obtain ⟨v,rfl,hv⟩:=arg1 g
 have hv:=hy _ _ _ hv
 subst hv
 have hb:(⟨[y],(1000000,[.box 1000000 0,x]) :: rest⟩:AS).box 1000000=some [.box 1000000 0,x]:=zk ..
 have hp:bg [.box 1000000 0,x]=true:=by
  cases x<;>rfl
 obtain ⟨_,_,_,T,vs,hh,hr⟩:=g.Bd hb hp
 obtain ⟨v0,vs',rfl,h0,v1,vs'',rfl,h1,h2⟩:=hr
 simp only[AV.aH] at h2;subst h2
 simp only[AV.rel] at h0;subst h0
 have c0:w.cell? ⟨blk β 1000000,0,none⟩=some (.pointer (some ⟨blk β 1000000,0,none⟩)):=by simp[World.cell?,hh]
 refine(JY (blk β 1000000) w c0).mono ?_
 rintro e w' ⟨rfl,rfl⟩
 exact⟨_,β,h,rfl,aT.result g (O9 h)⟩
abbrev Hw:RK:=⟨false,5,true,none⟩
theorem Ko {g n:Nat} {w:World}:qL g w (w.freeze ⟨g,0,none⟩ n):=by
 unfold World.freeze
 split
 ·exact⟨rfl,rfl,rfl,rfl,fun _ _=>rfl⟩
 ·refine⟨rfl,rfl,rfl,by simp,fun k hk=>?_⟩
  simp only[Array.getElem?_modify]
  rw[if_neg (Ne.symm hk)]
theorem PW {g n:Nat} {w:World} {vs:Array Value} {T:TypeId} {fr:Nat×Nat} (h:w.heap[g]?=some (.cells vs T fr)):∃fr',(w.freeze ⟨g,0,none⟩ n).heap[g]?=some (.cells vs T fr'):=by
 unfold World.freeze
 split
 ·exact⟨fr,h⟩
 ·simp only[Array.getElem?_modify,if_true,h]
  exact⟨_,rfl⟩
theorem iK.frozen {h:IH} {k:RK} {sz c m:Nat} {f:Nat→DV} {o o':Option Obj} (hR:iK h k sz f c m o) (ho:∀(vs:Array Value) (fr:Nat×Nat),o=some (.cells vs k.ty fr)→∃fr',o'=some (.cells vs k.ty fr')):iK h ⟨k.agg,k.ty,true,k.mn⟩ sz f c m o':=by
 obtain ⟨h1,h2⟩:=hR
 refine⟨h1,h2.imp id ?_⟩
 rintro ⟨fr,vs,e,hf,hl,hone,r⟩
 obtain ⟨fr',e'⟩:=ho _ _ e
 exact⟨fr',vs,e',fun hh=>Bool.noConfusion hh,hl,hone,r⟩
theorem f55 (y A:AV) (hy:∀β h v,y.rel β h v→v=.pointer (some ⟨blk β 1000000,0,none⟩)) (fz:Bool) (l:List UInt8) (h0:l≠[]) (hl:l.length≤4611686018427387904) :
  aA Tryz.prog G 55 [y] [(1000000,[A,.vec 1000001 1 0 l.length]),(1000001,[.arr ⟨false,5,fz,none⟩ 1 (gZ l)])] (.d (ds (bs l))) [(1000000,[A,.vec 1000001 1 0 l.length]),(1000001,[.arr Hw 1 (gZ l)])]:=by
 refine⟨Tryz.call55,fun F w h β us g=>?_⟩
 obtain ⟨v,rfl,hv⟩:=arg1 g
 have hv:=hy _ _ _ hv
 subst hv
 have hb:(⟨[y],[(1000000,[A,.vec 1000001 1 0 l.length]),(1000001,[.arr ⟨false,5,fz,none⟩ 1 (gZ l)])]⟩:AS).box 1000000=some [A,.vec 1000001 1 0 l.length]:=zk ..
 have hb1:(⟨[y],[(1000000,[A,.vec 1000001 1 0 l.length]),(1000001,[.arr ⟨false,5,fz,none⟩ 1 (gZ l)])]⟩:AS).box 1000001=some [.arr ⟨false,5,fz,none⟩ 1 (gZ l)]:=by
  simp only[AS.box,Go.Ab.look];rfl
 have hp:bg [A,.vec 1000001 1 0 l.length]=true:=by
  cases A<;>rfl
 obtain ⟨_,_,_,T,vs,hh,hr⟩:=g.Bd hb hp
 obtain ⟨v0,vs',rfl,hA,v1,vs'',rfl,⟨k1,k2,p,hv1,hpp⟩,h2⟩:=hr
 simp only[AV.aH] at h2;subst h2
 subst hv1
 have hpos:0<l.length:=List.length_pos_iff.2 h0
 have hR:=(g.box _ _ hb1).2
 simp only[Own] at hR
 obtain ⟨r1,r2⟩:=hR
 rcases r2 with r2|⟨fr,us,hu,hfr,Du,hone,hel⟩
 ·omega
 have hp':p=some ⟨blk β 1000001,0,none⟩:=by
  rcases hpp with hpp|hpp
  ·simpa using hpp
  ·omega
 subst hp'
 have hRow:iK h ⟨false,5,fz,none⟩ 1 (gZ l) (room β 1000001) (many β 1000001) w.heap[blk β 1000001]?:=⟨r1,.inr ⟨fr,us,hu,hfr,Du,hone,hel⟩⟩
 have hcap:l.length≤room β 1000001:=by omega
 refine(Ju (blk β 1000000) (blk β 1000001) (room β 1000001-0) l.length T.1 v0 us.toArray fr l h0 rfl w hh hu (by omega) (by simp[Du];omega) (by omega) ?_).mono ?_
 ·intro j x hx
  have hj:j<l.length:=(List.getElem?_eq_some_iff.1 hx).1
  obtain ⟨v,a1,a2,a3,a4⟩:=hel j (by omega)
  simp only[gZ,hx,Option.getD_some,DV.rel] at a1
  subst a1
  have:=a4 0 (by omega)
  simp only[Nat.mul_one,Nat.add_zero,Value.cells] at this
  simpa using this
 ·rintro e w' ⟨rfl,rfl⟩
  have gd:=g.drew (w.drawn+1)
  have hlive:Live β 1000001 [.arr ⟨false,5,fz,none⟩ 1 (gZ l)]:=show 0<room β 1000001 by omega
  have g2:=gd.write (s:=1000001) (l:=[.arr ⟨false,5,fz,none⟩ 1 (gZ l)]) (l':=[.arr Hw 1 (gZ l)]) (w':=w.drew.freeze ⟨blk β 1000001,0,none⟩ l.length)
   (bx:=[(1000000,[A,.vec 1000001 1 0 l.length]),(1000001,[.arr Hw 1 (gZ l)])]) hb1 hlive Ko (by
    simp only[Own]
    refine iK.frozen (k:=⟨false,5,fz,none⟩) hRow fun vs fr' he=>?_
    exact PW (w:=w.drew) he) (by
    intro t m ht
    simp only[Go.Ab.look] at ht
    by_cases h1:(1000000:Nat)=t
    ·subst h1
     simp at ht
     subst ht
     exact .inr ⟨by decide,rfl⟩
    ·rw[bI h1,cond_false] at ht
     by_cases h2:(1000001:Nat)=t
     ·subst h2
      simp at ht
      subst ht
      exact .inl ⟨rfl,rfl⟩
     ·rw[bI h2,cond_false] at ht
      cases ht)
  exact⟨_,β,h,rfl,aT.result g2 (r:=.d (ds (bs l))) rfl⟩
theorem ael (y A:AV) (hy:∀β h v,y.rel β h v→v=.pointer (some ⟨blk β 1000000,0,none⟩)) :
  aA Tryz.prog G 55 [y] [(1000000,[A,.d (.con (.slice none 0 0))])] (.d (ds (bs []))) [(1000000,[A,.d (.con (.slice none 0 0))])]:=by
 refine⟨Tryz.call55,fun F w h β us g=>?_⟩
 obtain ⟨v,rfl,hv⟩:=arg1 g
 have hv:=hy _ _ _ hv
 subst hv
 have hb:(⟨[y],[(1000000,[A,.d (.con (.slice none 0 0))])]⟩:AS).box 1000000=some [A,.d (.con (.slice none 0 0))]:=zk ..
 have hp:bg [A,.d (.con (.slice none 0 0))]=true:=by
  cases A<;>rfl
 obtain ⟨_,_,_,T,vs,hh,hr⟩:=g.Bd hb hp
 obtain ⟨v0,vs',rfl,hA,v1,vs'',rfl,h1,h2⟩:=hr
 simp only[AV.aH] at h2;subst h2
 simp only[AV.rel,DV.rel] at h1;subst h1
 refine(Ee (blk β 1000000) T.1 v0 w hh).mono ?_
 rintro e w' ⟨rfl,rfl⟩
 exact⟨_,β,h,rfl,aT.result (g.drew (w.drawn+1)) (r:=.d (ds (bs []))) rfl⟩
abbrev vK:RK:=⟨false,5,false,none⟩
def Yy:dK:={ d:=fun _ _=>none,m:=fun f _ pre=>match f,pre with
 | 99,(u,[.d (.con (.pointer none)),x]) :: rest=>some (.d kF,(u,[.box u 0,x]) :: rest)
 | 99,(u,[.box v 0,x]) :: rest=>some (.d kF,(u,[.box v 0,x]) :: rest)
 | _,_=>none }
theorem uQ (s:ByteArray):eX s=gZ s.data.toList:=by
 funext i
 simp only[eX,gZ,byteAt,Array.getElem?_toList]
theorem UC (l m:List UInt8):(fun i=>bif Nat.blt i l.length then gZ l i else gZ m (i-l.length))=gZ (l++m):=by
 funext i
 cases h:Nat.blt i l.length with
 | true=>
  rw[Nat.blt_eq] at h
  simp only[cond_true,gZ,List.getElem?_append_left h]
 | false=>
  have h:¬i<l.length:=by rw[←Nat.blt_eq,h];decide
  simp only[cond_false,gZ,List.getElem?_append_right (Nat.le_of_not_lt h)]
theorem WC (s:ByteArray) (hs:s.size≤281474976710):aA Tryz.prog G 52 [.tb 1000000 0 83,vs s] [(1000000,[BF,.d (.con (.slice none 0 0))])] (.d (.ak [di s.size,.con .nilIface]))
  [(1000000,[.box 1000000 0,.vec 14 1 0 s.data.toList.length]),(14,[.arr vK 1 (gZ s.data.toList)])]:=by
 refine aA.walk (aj:=Yy) (keep:=[]) [] follows (by kernel_rfl) Tryz.func52 rfl Tryz.call52 ?_
 refine au (fun _ _ _ _=>(aA Tryz.prog G 99 [(.tb 1000000 0 83)] [(1000000,[(.d (.con (.pointer none))),(.d (.con (.slice none 0 0)))])] (.d (.ak [])) [(1000000,[(.box 1000000 0),(.d (.con (.slice none 0 0)))])]∧((s.size*1≤1099511627776)∧(s.size≤1099511627776))∧(ZS ((.d (.ak [(di (↑s.size)),(.con .nilIface)])):AV))∧((some [(.box 1000000 0),(.vec 14 1 0 s.size)]):(Option (List AV)))=(some [(.box 1000000 0),(.vec 14 1 0 s.data.toList.length)])∧((some [(.arr ⟨false,5,false,none⟩ 1 (eX s))]):(Option (List AV)))=(some [(.arr ⟨false,5,false,none⟩ 1 (gZ s.data.toList))])∧True)) (by kernel_rfl) ?_
 refine⟨VQ _ _,⟨by omega,by omega⟩,rfl,?_,?_,trivial⟩
 ·rw[dG]
 ·rw[uQ]
theorem XM (s:ByteArray) (l:List UInt8) (hs:l.length+s.size≤281474976710):aA Tryz.prog G 52 [.tb 1000000 0 83,vs s] [(1000000,[.box 1000000 0,.vec 1000001 1 0 l.length]),(1000001,[.arr vK 1 (gZ l)])] (.d (.ak [di s.size,.con .nilIface]))
  [(1000000,[.box 1000000 0,.vec 14 1 0 (l++s.data.toList).length]),(14,[.arr vK 1 (gZ (l++s.data.toList))])]:=by
 refine aA.walk (aj:=Yy) (keep:=[]) [] follows (by kernel_rfl) Tryz.func52 rfl Tryz.call52 ?_
 refine au (fun _ _ _ _=>(aA Tryz.prog G 99 [(.tb 1000000 0 83)] [(1000000,[(.box 1000000 0),(.vec 1000001 1 0 l.length)]),(1000001,[(.arr ⟨false,5,false,none⟩ 1 (gZ l))])] (.d (.ak [])) [(1000000,[(.box 1000000 0),(.vec 1000001 1 0 l.length)]),(1000001,[(.arr ⟨false,5,false,none⟩ 1 (gZ l))])]∧(((l.length+s.size)*1≤1099511627776)∧(l.length+s.size≤1099511627776))∧(ZS ((.d (.ak [(di (↑s.size)),(.con .nilIface)])):AV))∧((some [(.box 1000000 0),(.vec 14 1 0 (l.length+s.size))]):(Option (List AV)))=(some [(.box 1000000 0),(.vec 14 1 0 (l++s.data.toList).length)])∧((some [(.arr ⟨false,5,false,none⟩ 1 (fun i=>bif i.blt l.length then gZ l i else eX s (i-l.length)))]):(Option (List AV)))=(some [(.arr ⟨false,5,false,none⟩ 1 (gZ (l++s.data.toList)))])∧True)) (by kernel_rfl) ?_
 refine⟨Xn (.tb 1000000 0 83) _ (fun β h v hv=>hv.1) _,⟨by omega,by omega⟩,rfl,?_,?_,trivial⟩
 ·rw[List.length_append,dG]
 ·rw[uQ,UC]
/-! The text of rules. -/
def aU:Rl:=⟨0,.empty,.empty,aJ,aJ,0,0,0⟩
def kT (R:List Rl) (i:Nat):DV:=lg (R.getD i aU)
abbrev jZ (R:List Rl):DV:=.slc 16 R.length (kT R)
def gG (R:List Rl):Nat→ByteArray
 | 0=>.empty
 | k+1=>gG R k++jT (R.getD k aU)
def ny (R:List Rl):ByteArray:=if R.length>32 then .empty else if R.any (fun r=>!oP r) then .empty else if (gG R R.length).size>16384 then .empty else gG R R.length
def bB (n:Nat) (f:Nat→DV):ByteArray:=bs (bytesOf n f)
theorem Ug (t:ByteArray):bB t.size (eX t)=t:=by
 unfold bB bs
 rw[uQ,←dG]
 have:bytesOf t.data.toList.length (gZ t.data.toList)=t.data.toList:=by
  unfold bytesOf
  apply List.ext_getElem
  ·simp
  ·intro i h1 h2
   have h3:i<t.data.size:=by simpa using h2
   have e3:t.data[i]?=some t.data[i]:=Array.getElem?_eq_getElem h3
   simp[gZ,byteOfD,e3]
 rw[this]
def acv:FuncId→List AV→List (Nat×List AV)→Option (AV×List (Nat×List AV)):=fun f args pre=>match f,args,pre with
 | 52,[_,.d (.con (.string s))],[(u,[.d (.con (.pointer none)),.d (.con (.slice none _ _))])]=>some (.d (.ak [di s.size,.con .nilIface]),[(u,[.box u 0,.vec 14 1 0 s.size]),(14,[.arr vK 1 (eX s)])])
 | 52,[_,.d (.con (.string s))],[(u,[.box _ 0,.vec v 1 0 n]),(_,[.arr k 1 f])]=>some (.d (.ak [di s.size,.con .nilIface]),[(u,[.box u 0,.vec 14 1 0 (bB n f++s).size]),(14,[.arr vK 1 (eX (bB n f++s))])])
 | 54,[_],[(u,[A,.vec v 1 0 n]),(w,[.arr k 1 f])]=>some (vi n,[(u,[A,.vec v 1 0 n]),(w,[.arr k 1 f])])
 | 54,[_],[(u,[A,.d (.con (.slice none 0 0))])]=>some (vi 0,[(u,[A,.d (.con (.slice none 0 0))])])
 | 55,[_],[(u,[A,.vec v 1 0 n]),(w,[.arr k 1 f])]=>some (.d (ds (bB n f)),[(u,[A,.vec v 1 0 n]),(w,[.arr Hw 1 f])])
 | 55,[_],[(u,[A,.d (.con (.slice none 0 0))])]=>some (.d (ds .empty),[(u,[A,.d (.con (.slice none 0 0))])])
 | _,_,_=>none
theorem aeD (s:ByteArray) (hs:s.size≤281474976710):aA Tryz.prog G 52 [.tb 1000000 0 83,vs s] [(1000000,[BF,.d (.con (.slice none 0 0))])] (.d (.ak [di s.size,.con .nilIface]))
  [(1000000,[.box 1000000 0,.vec 14 1 0 s.size]),(14,[.arr vK 1 (eX s)])]:=by
 have:=WC (G:=G) s hs
 rwa [dG,←uQ] at this
theorem aeG (s t:ByteArray) (hs:t.size+s.size≤281474976710):aA Tryz.prog G 52 [.tb 1000000 0 83,vs s] [(1000000,[.box 1000000 0,.vec 1000001 1 0 t.size]),(1000001,[.arr vK 1 (eX t)])] (.d (.ak [di s.size,.con .nilIface]))
  [(1000000,[.box 1000000 0,.vec 14 1 0 (t++s).size]),(14,[.arr vK 1 (eX (t++s))])]:=by
 have:=XM (G:=G) s t.data.toList (by rw[dG];exact hs)
 have e:t.data.toList++s.data.toList=(t++s).data.toList:=by rw[ByteArray.data_append,Array.toList_append]
 rwa [e,dG,dG,←uQ,←uQ] at this
theorem ad8 (y A:AV) (hy:∀β h v,y.rel β h v→v=.pointer (some ⟨blk β 1000000,0,none⟩)) (t:ByteArray) (h0:0<t.size) (hl:t.size≤4611686018427387904) :
  aA Tryz.prog G 55 [y] [(1000000,[A,.vec 1000001 1 0 t.size]),(1000001,[.arr vK 1 (eX t)])] (.d (ds t)) [(1000000,[A,.vec 1000001 1 0 t.size]),(1000001,[.arr Hw 1 (eX t)])]:=by
 have:=f55 (G:=G) y A hy false t.data.toList (fun e=>by rw[←dG,e] at h0;simp at h0) (by rw[dG];exact hl)
 rw[dG,←uQ] at this
 exact this
theorem f54 (A:AV) (n:Nat) (k:RK) (f:Nat→DV):aA Tryz.prog G 54 [.tb 1000000 0 83] [(1000000,[A,.vec 1000001 1 0 n]),(1000001,[.arr k 1 f])] (vi n) [(1000000,[A,.vec 1000001 1 0 n]),(1000001,[.arr k 1 f])]:=by
 refine aA.walk (aj:=Fa) (keep:=[]) [] follows (by kernel_rfl) Tryz.func54 rfl Tryz.call54 ?_
 refine au (fun _ _ _ _=>((ZS ((vi (↑n)):AV))∧((some [A,(.vec 1000001 1 0 n)]):(Option (List AV)))=(some [A,(.vec 1000001 1 0 n)])∧((some [(.arr k 1 f)]):(Option (List AV)))=(some [(.arr k 1 f)])∧True)) (by kernel_rfl) ?_
 exact⟨rfl,rfl,rfl,trivial⟩
theorem adZ (A:AV):aA Tryz.prog G 54 [.tb 1000000 0 83] [(1000000,[A,.d (.con (.slice none 0 0))])] (vi 0) [(1000000,[A,.d (.con (.slice none 0 0))])]:=by
 refine aA.walk (aj:=Fa) (keep:=[]) [] follows (by kernel_rfl) Tryz.func54 rfl Tryz.call54 ?_
 refine au (fun _ _ _ _=>((ZS ((vi 0):AV))∧((some [A,(.d (.con (.slice none 0 0)))]):(Option (List AV)))=(some [A,(.d (.con (.slice none 0 0)))])∧True)) (by kernel_rfl) ?_
 exact⟨rfl,rfl,trivial⟩
noncomputable def jQ (d:DV):Rl:=match d with
 | .agg [.con (.int _ k),.con (.string nm),.con (.string gr),a1,a2,a3,a4,a5,a6,b1,b2,b3,b4,b5,b6,.con (.int _ p)]=>⟨k,nm,gr,aO (.agg [a1,a2,a3,a4,a5,a6]),aO (.agg [b1,b2,b3,b4,b5,b6]),p,0,0⟩
 | _=>aU
theorem Nq {r:Rl} (h:pJ r):jQ (lg r)={ r with ma:=0,mw:=0 }:=by
 have e1:aO (aN r.ma r.am)=r.am:=ig h.ha
 have e2:aO (aN r.mw r.wh)=r.wh:=ig h.hw
 show Rl.mk r.kind r.nm r.gr (aO (aN r.ma r.am)) (aO (aN r.mw r.wh)) r.pos 0 0=_
 rw[e1,e2]
theorem Y2 {r:Rl} (h:pJ r):oP (jQ (lg r))=oP r:=by rw[Nq h];rfl
theorem MJ {r:Rl} (h:pJ r):jT (jQ (lg r))=jT r:=by rw[Nq h];rfl
noncomputable def acP:cZ:=fun f a=>match f,a with
 | 51,[d]=>some (db (oP (jQ d)))
 | 53,[d]=>some (ds (jT (jQ d)))
 | _,_=>none
noncomputable def Hl:dK:={ d:=acP,ty:=fun T=>Nat.beq T 83,m:=acv }
theorem VB {α:Type} {l:List α} {i:Nat} {x0:α} (h:i<l.length):l.getD i x0∈l:=by
 rw[List.getD,iT h];exact List.getElem_mem h
theorem GI {r:Rl} (h:pJ r) (hr:oP r=true):(jT r).size≤300000∧0<(jT r).size:=by
 have hh:=hr
 unfold oP at hh
 simp only[aV,decide_eq_true_eq] at hh
 obtain ⟨⟨⟨⟨⟨⟨hk0,hk4⟩,hn⟩,hg⟩,hd⟩,ha⟩,hw⟩:=hh
 have hks:∀i,(bP.getD i .empty).size≤7:=fun i=>by
  rcases i with _|_|_|_|i
  ·decide
  ·decide
  ·decide
  ·decide
  ·show (ByteArray.empty).size≤7
   decide
 have s1:=hks r.kind.toNat
 have s2:=h.nm
 have s3:=h.gr
 have s4:=yX _ _ (Nat.le_refl _) ha
 have n4:=h.am.nd
 have n5:=h.wh.nd
 have c1:(ByteArray.mk #[32]).size=1:=rfl
 have c2:(ByteArray.mk #[32,105,110,32]).size=4:=rfl
 have c3:(ByteArray.mk #[58,32]).size=2:=rfl
 have c4:(ByteArray.mk #[32,105,102,32]).size=4:=rfl
 have c5:(ByteArray.mk #[59,10]).size=2:=rfl
 have c0:(ByteArray.empty).size=0:=rfl
 have g1:(if r.gr.size=0 then ByteArray.empty else ⟨#[32,105,110,32]⟩++r.gr).size≤1004:=by
  split
  ·omega
  ·rw[ByteArray.size_append];omega
 have g2:(if r.wh.k=0 then ByteArray.empty else ⟨#[32,105,102,32]⟩++bD r.wh).size≤120004:=by
  split
  ·omega
  ·rename_i hc
   have hs:cO r.wh=true:=by
    rcases (Bool.or_eq_true ..).mp hw with h1|h1
    ·unfold zI at h1
     simp only[aV,beq_iff_eq] at h1
     exact absurd h1.1.1.1 hc
    ·exact h1
   have:=yX _ _ (Nat.le_refl _) hs
   rw[ByteArray.size_append];omega
 unfold jT
 simp only[ByteArray.size_append]
 omega
theorem D9 {R:List Rl} (hR:∀i,i<R.length→pJ (R.getD i aU)):∀k,k≤R.length→(∀i,i<k→oP (R.getD i aU)=true)→(gG R k).size≤300000*k∧(0<k→0<(gG R k).size)
 | 0,_,_=>⟨Nat.le_refl _,fun h=>absurd h (by decide)⟩
 | k+1,hk,hu=>by
  have ih:=D9 hR k (by omega) fun i hi=>hu i (by omega)
  have h1:=GI (hR k hk) (hu k (by omega))
  simp only[gG,ByteArray.size_append]
  omega
theorem ZJ {R:List Rl} {k:Nat} (hk:k<R.length) (h:oP (R.getD k aU)=false):(R.any fun r=>!oP r)=true:=by
 rw[List.any_eq_true]
 exact⟨_,VB hk,by rw[h];rfl⟩
def acF (R:List Rl) (k:Nat):List (Nat×List AV):=match Nat.beq k 0 with
 | true=>[(3,[BF,.d (.con (.slice none 0 0))])]
 | false=>[(3,[.box 3 0,.vec 900 1 0 (gG R k).size]),(900,[.arr vK 1 (eX (gG R k))])]
noncomputable def aei (R:List Rl) (k:Nat):AS:=⟨regs Tryz.f24.ntmps [(3,.tb 3 0 83),(9,.d (jZ R)),(10,vi R.length),(11,vi k)],acF R k⟩
theorem f24 (hT:Tab G) (R:List Rl) (hR:∀i,i<R.length→pJ (R.getD i aU)) (hl:R.length≤9223372036854775807):ay Tryz.prog G 24 [jZ R] (ds (ny R)):=by
 refine ay.aF (aj:=Hl) (keep:=[]) follows Tryz.func24 rfl Tryz.call24 ?_
 refine au (fun ZT ZW ZQ _=>((((decide ((↑R.length:Int)>32))=true)→(((ds (ByteArray.mk #[])):DV)=(ds (ny R))))∧(((decide ((↑R.length:Int)>32))=false)→ZW [cd Tryz.f24 [1,1,1,0,1,0],(.blk 0),cd Tryz.f24 [1,1,1,1]] (aB ZT [1]) ZQ))) (by kernel_rfl) ?_
 refine⟨fun h=>?_,fun h=>?_⟩
 ·have:R.length>32:=by have:=of_decide_eq_true h;omega
  unfold ny
  rw[if_pos this];rfl
 have abg:¬R.length>32:=by have:=of_decide_eq_false h;omega
 refine aK.loop (c:=aY (aC Tryz.f24) [1,1,1,0,1,0,0]) (by kernel_rfl) (aei R) (fun k=>k≤R.length∧∀i,i<k→oP (R.getD i aU)=true) (fun k=>R.length-k) 0 ?_ ⟨Nat.zero_le _,fun i hi=>by omega⟩ ?_
 ·exact AS.bV (by kernel_rfl)
 ·rintro k ⟨hk,hkd⟩
  have hbad:∀k,k<R.length→(!oP (R.getD k aU))=true→(ds ⟨#[]⟩:DV)=ds (ny R):=fun k h1 h2=>by
   unfold ny
   rw[if_neg abg,if_pos (ZJ h1 (by simpa using h2))];rfl
  have hgood:(∀i,i<R.length→oP (R.getD i aU)=true)→(R.any fun r=>!oP r)=false:=fun h=>by
   rw[List.any_eq_false]
   intro r hr
   obtain ⟨i,hi,rfl⟩:=List.getElem_of_mem hr
   have:=h i hi
   rw[List.getD,iT hi,Option.getD_some] at this
   rw[this];decide
  rcases k with _|k
  ·refine aF (aj:=Hl) (keep:=[]) (cuts:=[]) (n:=1000) follows ?_
   refine bZ (fun ZT ZW ZQ ZK ZA _=>(fun Za=>((((decide (0<(↑R.length:Int)))=true)→((((0:Int)≤(0:Int))∧(0<(↑R.length:Int)))∧ZK 51 [Za] (db (oP (jQ Za)))∧(((!oP (jQ Za))=true)→(((ds (ByteArray.mk #[])):DV)=(ds (ny R))))∧(((!oP (jQ Za))=false)→((ZK 53 [Za] (ds (jT (jQ Za)))∧aA Tryz.prog G 52 [(.tb 1000000 0 83),(vs (jT (jQ Za)))] [(1000000,[(.d (.con (.pointer none))),(.d (.con (.slice none 0 0)))])] (.d (.ak [(di (↑(jT (jQ Za)).size)),(.con .nilIface)])) [(1000000,[(.box 1000000 0),(.vec 14 1 0 (jT (jQ Za)).size)]),(14,[(.arr ⟨false,5,false,none⟩ 1 (eX (jT (jQ Za))))])])∧(I64 (0+1))∧(ZA (aB ZT [0,1]))))))∧(((decide (0<(↑R.length:Int)))=false)→ZW [cd Tryz.f24 [1,1,1,1]] (aB ZT [1]) ZQ))) (lg (R.getD (Int.toNat 0) aU))) (by kernel_rfl) ?_
   refine⟨fun h1=>?_,fun h1=>?_⟩
   ·have hk2:0<R.length:=by have:=of_decide_eq_true h1;omega
    have hs:=hR 0 hk2
    rw[show Int.toNat 0=0 from rfl,Y2 hs,MJ hs]
    refine⟨⟨by omega,by omega⟩,f51 hT _ hs,fun h2=>hbad 0 hk2 h2,fun h2=>?_⟩
    have h2:oP (R.getD 0 aU)=true:=by simpa using h2
    have hz:=GI hs h2
    refine⟨⟨f53 hT _ hs h2,aeD _ (by omega)⟩,⟨by omega,by omega⟩,Again.YT [(21014,900)] rfl 1 ?_ ⟨hk2,fun i hi=>(by obtain rfl:i=0:=(by omega);exact h2)⟩ (by omega)⟩
    have e:gG R 1=jT (jQ (lg (R.getD 0 aU))):=by
     rw[MJ hs]
     show ByteArray.empty++jT (R.getD 0 aU)=_
     exact ByteArray.empty_append
    refine AS.leZ [] [0,1] (b:=((T0∧T0∧T0∧T0∧True)∧((some [(.box 3 0),(.vec 900 1 0 (jT (jQ (lg (R.getD (↑0:Int).toNat aU)))).size)]):(Option (List AV)))=(some [(.box 3 0),(.vec 900 1 0 (gG R 1).size)])∧((some [(.arr ⟨false,5,false,none⟩ 1 (eX (jT (jQ (lg (R.getD (↑0:Int).toNat aU))))))]):(Option (List AV)))=(some [(.arr ⟨false,5,false,none⟩ 1 (eX (gG R 1)))])∧True)) (by kernel_rfl) (by kernel_rfl) ?_
    rw[e]
    exact⟨⟨rfl,rfl,rfl,rfl,trivial⟩,rfl,rfl,trivial⟩
   ·have h1:=of_decide_eq_false h1
    have h0:R.length=0:=by omega
    refine aF (aj:=Hl) (keep:=[]) (cuts:=[]) (n:=1000) follows ?_
    refine au (fun _ _ _ _=>(aA Tryz.prog G 54 [(.tb 1000000 0 83)] [(1000000,[(.d (.con (.pointer none))),(.d (.con (.slice none 0 0)))])] (vi 0) [(1000000,[(.d (.con (.pointer none))),(.d (.con (.slice none 0 0)))])]∧((false=true)→(((ds (ByteArray.mk #[])):DV)=(ds (ny R))))∧((false=false)→(aA Tryz.prog G 55 [(.tb 1000000 0 83)] [(1000000,[(.d (.con (.pointer none))),(.d (.con (.slice none 0 0)))])] (vs ByteArray.empty) [(1000000,[(.d (.con (.pointer none))),(.d (.con (.slice none 0 0)))])]∧((ds ByteArray.empty):DV)=(ds (ny R)))))) (by kernel_rfl) ?_
    refine⟨adZ _,fun h=>(by cases h),fun _=>⟨ael _ _ (fun β h v hv=>hv.1),?_⟩⟩
    obtain rfl:=List.eq_nil_of_length_eq_zero h0
    rfl
  ·refine aF (aj:=Hl) (keep:=[]) (cuts:=[]) (n:=1000) follows ?_
   refine bZ (fun ZT ZW ZQ ZK ZA _=>(fun Za=>((((decide ((↑(k+1):Int)<↑R.length))=true)→(((0≤(↑(k+1):Int))∧((↑(k+1):Int)<↑R.length))∧ZK 51 [Za] (db (oP (jQ Za)))∧(((!oP (jQ Za))=true)→(((ds (ByteArray.mk #[])):DV)=(ds (ny R))))∧(((!oP (jQ Za))=false)→((ZK 53 [Za] (ds (jT (jQ Za)))∧aA Tryz.prog G 52 [(.tb 1000000 0 83),(vs (jT (jQ Za)))] [(1000000,[(.box 1000000 0),(.vec 1000001 1 0 (gG R (k+1)).size)]),(1000001,[(.arr ⟨false,5,false,none⟩ 1 (eX (gG R (k+1))))])] (.d (.ak [(di ((↑(ByteArray.size (jT (jQ (lg (List.getD R (Int.toNat (↑(k+1):Int)) aU))))):Int))),(.con .nilIface)])) [(1000000,[(.box 1000000 0),(.vec 14 1 0 (bB (gG R (k+1)).size (eX (gG R (k+1)))++jT (jQ Za)).size)]),(14,[(.arr ⟨false,5,false,none⟩ 1 (eX (bB (gG R (k+1)).size (eX (gG R (k+1)))++jT (jQ Za))))])])∧(I64 (↑(k+1)+1))∧(ZA (aB ZT [0,1]))))))∧(((decide ((↑(k+1):Int)<↑R.length))=false)→ZW [cd Tryz.f24 [1,1,1,1]] (aB ZT [1]) ZQ))) (lg (R.getD ((↑(k+1):Int)).toNat aU))) (by kernel_rfl) ?_
   refine⟨fun h1=>?_,fun h1=>?_⟩
   ·have hk2:k+1<R.length:=by have:=of_decide_eq_true h1;omega
    have hs:=hR (k+1) hk2
    have hc:=D9 hR (k+1) (by omega) hkd
    rw[show ((k+1:Nat):Int).toNat=k+1 from rfl,Y2 hs,MJ hs,Ug]
    refine⟨⟨by omega,by omega⟩,f51 hT _ hs,fun h2=>hbad _ hk2 h2,fun h2=>?_⟩
    have h2:oP (R.getD (k+1) aU)=true:=by simpa using h2
    have hz:=GI hs h2
    refine⟨⟨f53 hT _ hs h2,aeG _ _ (by omega)⟩,⟨by omega,by omega⟩,Again.YT [(21014,900)] rfl (k+1+1) ?_ ⟨hk2,fun i hi=>?_⟩ (by omega)⟩
    ·have e:gG R (k+1+1)=bB (gG R (k+1)).size (eX (gG R (k+1)))++jT (jQ (lg (R.getD (k+1) aU))):=by
      rw[MJ hs,Ug];rfl
     refine AS.leZ [] [0,1] (b:=((T0∧T0∧T0∧T0∧True)∧((some [(.box 3 0),(.vec 900 1 0 (bB (gG R (k+1)).size (eX (gG R (k+1)))++jT (jQ (lg (R.getD ((↑(k+1):Int)).toNat aU)))).size)]):(Option (List AV)))=(some [(.box 3 0),(.vec 900 1 0 (gG R (k+1+1)).size)])∧((some [(.arr ⟨false,5,false,none⟩ 1 (eX (bB (gG R (k+1)).size (eX (gG R (k+1)))++jT (jQ (lg (R.getD ((↑(k+1):Int)).toNat aU))))))]):(Option (List AV)))=(some [(.arr ⟨false,5,false,none⟩ 1 (eX (gG R (k+1+1))))])∧True)) (by kernel_rfl) (by kernel_rfl) ?_
     rw[e]
     exact⟨⟨rfl,rfl,rfl,rfl,trivial⟩,rfl,rfl,trivial⟩
    ·rcases Nat.lt_or_ge i (k+1) with h4|h4
     ·exact hkd i h4
     ·obtain rfl:i=k+1:=by omega
      exact h2
   ·have h1:=of_decide_eq_false h1
    obtain h0:R.length=k+1:=by omega
    have hc:=D9 hR (k+1) (by omega) hkd
    refine aF (aj:=Hl) (keep:=[]) (cuts:=[]) (n:=1000) follows ?_
    refine au (fun _ _ _ _=>(fun Za Zb=>(aA Tryz.prog G 54 [(.tb 1000000 0 83)] [(1000000,[(.box 1000000 0),Zb]),(1000001,[Za])] (vi (↑(gG R (k+1)).size)) [(1000000,[(.box 1000000 0),Zb]),(1000001,[Za])]∧(((decide ((↑(gG R (k+1)).size:Int)>16384))=true)→(((ds (ByteArray.mk #[])):DV)=(ds (ny R))))∧(((decide ((↑(gG R (k+1)).size:Int)>16384))=false)→(aA Tryz.prog G 55 [(.tb 1000000 0 83)] [(1000000,[(.box 1000000 0),Zb]),(1000001,[Za])] (vs (bB (gG R (k+1)).size (eX (gG R (k+1))))) [(1000000,[(.box 1000000 0),Zb]),(1000001,[(.arr ⟨false,5,true,none⟩ 1 (eX (gG R (k+1))))])]∧((ds (bB (gG R (k+1)).size (eX (gG R (k+1))))):DV)=(ds (ny R)))))) ((.arr ⟨false,5,false,none⟩ 1 (eX (gG R (k+1)))):AV) ((.vec 1000001 1 0 (gG R (k+1)).size):AV)) (by kernel_rfl) ?_
    try dsimp only
    have hf:ny R=if (gG R (k+1)).size>16384 then .empty else gG R (k+1):=by
     unfold ny
     rw[if_neg abg,hgood (fun i hi=>hkd i (by omega)),if_neg (by decide),h0]
    rw[Ug,hf]
    refine⟨f54 _ _ _ _,fun h2=>?_,fun h2=>⟨ad8 (.tb 1000000 0 83) _ (fun β h v hv=>hv.1) _ (hc.2 (by omega)) (by omega),?_⟩⟩
    ·rw[if_pos (by have:=of_decide_eq_true h2;omega)];rfl
    ·rw[if_neg (by have:=of_decide_eq_false h2;omega)]
/-! Checked rules. -/
end Go.Proofs
/- Rules that are too deep. -/
namespace Go.Proofs
open Go Go.Ab Go.RowKit
set_option maxHeartbeats 4000000
set_option maxRecDepth 100000
variable {G:IH}
def fE (r:Rl):Bool:=!(decide ((ht r.am:Int)+1≤32)&&decide ((ht r.wh:Int)+1≤32))
theorem aaz {r:Rl} (h:pJ r):fE (jQ (lg r))=fE r:=by rw[Nq h];rfl
noncomputable def ac4:cZ:=fun f a=>match f,a with
 | 40,[e]=>some (db (decide ((ht (jQ e).am:Int)+1≤32)&&decide ((ht (jQ e).wh:Int)+1≤32)))
 | _,_=>none
theorem f39 (r:Rl) (h:pJ r):ay Tryz.prog G 39 [lg r] (db (fE r)):=by
 refine ay.aF (aj:=ac4) (keep:=[]) follows Tryz.func39 rfl Tryz.call39 ?_
 refine au (fun _ _ _ ZK=>(fun Za=>(ZK 40 [(lg r)] (db Za)∧((db (!Za)):DV)=(db (fE r)))) (decide ((↑(ht (aO (aN (Rl.ma r) (Rl.am r)))):Int)+(1:Int)≤(32:Int))&&decide ((↑(ht (aO (aN (Rl.mw r) (Rl.wh r)))):Int)+(1:Int)≤(32:Int)))) (by kernel_rfl) ?_
 try dsimp only
 have e1:aO (aN r.ma r.am)=r.am:=ig h.ha
 have e2:aO (aN r.mw r.wh)=r.wh:=ig h.hw
 simp only[e1,e2]
 exact⟨f40 r h,rfl⟩
noncomputable def MF (p:Rl→Bool) (l:List Rl):cZ:=fun f a=>match f,a with
 | 39,[e]=>some (db (p (jQ e)))
 | 80,[_,_]=>some (di (Ci p l))
 | _,_=>none
noncomputable def S80 (R:List Rl) (k:Nat):AS:=⟨regs Tryz.f80.ntmps [(0,.d (jZ R)),(1,.d (.con (.func (.func 39) #[] #[]))),(7,vi R.length),(8,vi k)],[]⟩
theorem f80 (R:List Rl) (hR:∀i,i<R.length→pJ (R.getD i aU)) (hl:R.length≤1000000):ay Tryz.prog G 80 [jZ R,.con (.func (.func 39) #[] #[])] (di (Ci fE R)):=by
 refine ay.aF (aj:=MF fE R) (keep:=[]) follows Tryz.func80 rfl Tryz.call80 ?_
 refine au (fun ZT ZW ZQ _=>ZW [cd Tryz.f80 [1,0,1,0],(.blk 0),cd Tryz.f80 [1,1]] (aB ZT []) ZQ) (by kernel_rfl) ?_
 refine aK.loop (c:=aY (aC Tryz.f80) [1,0,1,0,0]) (by kernel_rfl) (S80 R) (fun k=>k≤R.length∧∀i,i<k→fE (R.getD i aU)=false) (fun k=>R.length-k) 0 ?_ ⟨Nat.zero_le _,fun i hi=>by omega⟩ ?_
 ·exact AS.bV (by kernel_rfl)
 ·rintro k ⟨hk,hkd⟩
  refine aF (aj:=MF fE R) (keep:=[]) (cuts:=[]) (n:=1000) follows ?_
  refine bZ (fun ZT ZW ZQ ZK ZA _=>(fun Za=>((((decide ((↑k:Int)<↑R.length))=true)→((((0≤(↑k:Int))∧((↑k:Int)<↑R.length))∧ZK 39 [Za] (db (fE (jQ Za))))∧(((fE (jQ Za))=true)→(((di (↑k)):DV)=(di (Ci fE R))))∧(((fE (jQ Za))=false)→((I64 (↑k+1))∧(ZA (aB ZT [0,1]))))))∧(((decide ((↑k:Int)<↑R.length))=false)→ZW [cd Tryz.f80 [1,1]] (aB ZT [1]) ZQ))) (lg (R.getD (↑k:Int).toNat aU))) (by kernel_rfl) ?_
  try dsimp only
  simp only[Int.toNat_natCast]
  refine⟨fun h=>?_,fun h=>?_⟩
  ·have hk2:k<R.length:=by have:=of_decide_eq_true h;omega
   have e1:fE (jQ (kT R k))=fE (R.getD k aU):=aaz (hR k hk2)
   refine⟨⟨⟨by omega,by omega⟩,?_⟩,fun h2=>?_,fun h2=>⟨⟨by omega,by omega⟩,Again.mk (k+1) ?_ ⟨hk2,fun i hi=>?_⟩ (by omega)⟩⟩
   ·show ay Tryz.prog G 39 [kT R k] (db (fE (jQ (kT R k))))
    rw[e1];exact f39 _ (hR k hk2)
   ·have h2:fE (jQ (kT R k))=true:=h2
    rw[e1] at h2
    rw[(aay (x0:=aU) hk2 hkd h2).2]
   ·exact AS.bV (by kernel_rfl)
   ·rcases Nat.lt_or_ge i k with h1|h1
    ·exact hkd i h1
    ·obtain rfl:i=k:=by omega
     rw[←e1];exact h2
  ·simp only[decide_eq_false_iff_not] at h
   have hst:=Xx (x0:=aU) (p:=fE) (L:=R) fun i hi=>hkd i (by omega)
   refine aF (aj:=MF fE R) (keep:=[]) (cuts:=[]) (n:=1000) follows ?_
   refine au (fun _ _ _ _=>(((di (-1)):DV)=(di (Ci fE R)))) (by kernel_rfl) ?_
   rw[hst.2]
theorem f38 (R:List Rl) (hR:∀i,i<R.length→pJ (R.getD i aU)) (hl:R.length≤1000000):ay Tryz.prog G 38 [jZ R,.con (.func (.func 39) #[] #[])] (db (R.any fE)):=by
 refine ay.aF (aj:=MF fE R) (keep:=[]) follows Tryz.func38 rfl Tryz.call38 ?_
 refine au (fun _ _ _ ZK=>(ZK 80 [(.slc 16 R.length (kT R)),(.con (.func (.func 39) ⟨[]⟩ ⟨[]⟩))] (di (Ci fE R))∧((db (decide (Ci fE R≥0))):DV)=(db (R.any fE)))) (by kernel_rfl) ?_
 refine⟨f80 R hR hl,?_⟩
 rw[ace]
end Go.Proofs
