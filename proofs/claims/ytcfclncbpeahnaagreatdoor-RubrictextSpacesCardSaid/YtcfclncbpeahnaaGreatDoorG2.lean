import Derived.Test.YtcfclncbpeahnaaGreatDoorAcD
import Derived.Test.YtcfclncbpeahnaaGreatDoorG1
import Derived.Test.YtcfclncbpeahnaaGreatDoorAcC
import Derived.Test.YtcfclncbpeahnaaGreatDoorG0
import Derived.Shelf.Strings.BuilderX
import Derived.Shelf.RegionOpenPlain
import Derived.Lib.Strings
import Derived.Lib.Slices
import Derived.Lib.Walk
import Derived.Lib.Builder
import Derived.Lib.AppendStr
import Derived.Lib.UnsafeStr
import Derived.Lib.MakeNoZero
import Derived.WalkKit
import Derived.Laws.Externs
import Derived.Laws.IdiomCopy
import Derived.Laws.BitsLemmas
set_option autoImplicit false
namespace Go.Proofs
open Go Go.Ab Go.RowKit
set_option maxHeartbeats 4000000
set_option maxRecDepth 100000
variable {G:IH}
/-! The reference's text of an expression. -/
abbrev eN (s:ByteArray):DV:=.agg [di 2,ds s,di 0,di 0,di 0,.con (.slice none 0 0)]
theorem name_size {s:ByteArray} (h:nameB s=true):1≤s.size∧s.size≤16:=by
 unfold nameB at h
 simp only[bAt,decide_eq_true_eq] at h
 exact⟨h.1,h.2.1⟩
/-! Descriptions of facts. -/
def noO:Oracle:=fun _ _=>none
abbrev wdD (l:List ByteArray):DV:=.slc 1 l.length (stF l)
/-! The first element with a property. -/
def idI {α:Type} (p:α→Bool) (l:List α):Int:=if l.any p then ((l.takeWhile fun x=>!p x).length:Int) else -1
theorem idI_hit {α:Type} {x0:α} {p:α→Bool} {L:List α} {k:Nat} (hk:k<L.length) (hno:∀i,i<k→p (L.getD i x0)=false) (h:p (L.getD k x0)=true):L.any p=true∧idI p L=k:=by
 have e:∀i (h:i<L.length),L.getD i x0=L[i]:=fun i h=>by rw[List.getD,gEe h];rfl
 have h1:L.any p=true:=by
  rw[List.any_eq_true]
  exact⟨L[k],List.getElem_mem hk,by rw[←e k hk];exact h⟩
 refine⟨h1,?_⟩
 unfold idI
 rw[if_pos h1]
 have:∀(l:List α) (k:Nat) (hk:k<l.length),(∀i (h:i<l.length),i<k→p l[i]=false)→p l[k]=true→(l.takeWhile fun x=>!p x).length=k:=by
  intro l
  induction l with
  | nil=>intro k hk;simp at hk
  | cons x l ih=>
   intro k hk h2 h3
   cases k with
   | zero=>
    simp only[List.getElem_cons_zero] at h3
    rw[List.takeWhile_cons,h3];simp
   | succ k=>
    have h4:=h2 0 (by simp) (by omega)
    simp only[List.getElem_cons_zero] at h4
    rw[List.takeWhile_cons]
    simp only[h4,Bool.not_false,if_true,List.length_cons]
    rw[ih k (by simpa using hk) (fun i h5 h6=>by
     have:=h2 (i+1) (by simpa using h5) (by omega)
     simpa using this) (by simpa using h3)]
 rw[this L k hk (fun i h5 h6=>by rw[←e i h5];exact hno i h6) (by rw[←e k hk];exact h)]
theorem idI_none {α:Type} {x0:α} {p:α→Bool} {L:List α} (hno:∀i,i<L.length→p (L.getD i x0)=false):L.any p=false∧idI p L = -1:=by
 have h1:L.any p=false:=by
  rw[Bool.eq_false_iff]
  intro h
  obtain ⟨x,hx,hd⟩:=List.any_eq_true.1 h
  obtain ⟨i,hi,rfl⟩:=List.getElem_of_mem hx
  have:=hno i hi
  rw[List.getD,gEe hi] at this
  rw[show p L[i]=false from this] at hd
  cases hd
 refine⟨h1,?_⟩
 unfold idI
 rw[if_neg (by rw[h1];simp)]
theorem idI_ge {α:Type} (p:α→Bool) (L:List α):decide (idI p L≥0)=L.any p:=by
 unfold idI
 cases h:L.any p with
 | true=>rw[if_pos rfl,decide_eq_true_eq];omega
 | false=>rfl
/-! Slices of strings and a test. -/
end Go.Proofs
/- Texts of expressions: neither empty nor long. -/
namespace Go.Proofs
open Go Go.Ab Go.RowKit
theorem snd_name {x:Ex} (h:sndE x=true) (hk:x.k=2):nameB x.s=true:=by
 rw[sndE_eq] at h
 unfold sndK at h
 rw[if_neg (by omega),if_pos hk] at h
 simp only[bAt] at h
 exact h.1.1
theorem snd_num {x:Ex} (h:sndE x=true) (hk:x.k=1):numB x.n x.d=true:=by
 rw[sndE_eq] at h
 unfold sndK at h
 rw[if_pos hk] at h
 simp only[bAt] at h
 exact h.1.1
theorem snd_size {x:Ex} (h:sndE x=true):x.s.size≤16:=by
 by_cases hk:x.k=2
 ·exact(name_size (snd_name h hk)).2
 rw[sndE_eq] at h
 unfold sndK kdK at h
 revert h
 repeat' split
 all_goals (intro h;simp only[bAt,decide_eq_true_eq] at h)
 all_goals first|omega|(exfalso;omega)
theorem fmtK_small (k:Int) (s:ByteArray) (n d:Int) (fl:List (Int×ByteArray)) (hs:s.size≤16):(fmtK k s n d fl).size≤115+totL fl:=by
 have h1:=sizeN n d
 have t1:=tot_get fl
 have t0:=tot_get0 fl
 have j:=joinS_size fl
 have o:=opS_size k
 have w1:=wth_size 6 (g0 fl 0)
 have w2:=wth_size 2 (g0 fl 0)
 have w3:=wth_size (fstL k) (g0 fl 0)
 have w4:=wth_size (lvI k+1) (g0 fl 1)
 unfold fmtK
 repeat' split
 all_goals (try simp only[ByteArray.size_append])
 ·omega
 ·omega
 ·show 4≤_;omega
 ·show 5≤_;omega
 ·show 1+_≤_;omega
 ·show 4+_≤_;omega
 ·show 4+_+1≤_;omega
 ·show 4+_+1≤_;omega
 ·show _+1+_+1+_≤_;omega
theorem totL_map:∀{l:List Ex},(∀i,i<l.length→(fmtE (l.getD i ex0)).size+4≤120*nds (l.getD i ex0))→totL (fmtL l)≤120*ndsL l
 | [],_=>by simp[fmtL,totL]
 | x :: l,h=>by
  have h1:=h 0 (by simp)
  have h2:=totL_map fun i hi=>by simpa using h (i+1) (by simpa using hi)
  have h1:(fmtE x).size+4≤120*nds x:=h1
  simp only[fmtL,ndsL]
  have e:totL ((lvI x.k,fmtE x) :: fmtL l)=(fmtE x).size+4+totL (fmtL l):=by simp[totL]
  omega
theorem fmt_small (n:Nat):∀x:Ex,ht x≤n→sndE x=true→(fmtE x).size+4≤120*nds x:=by
 induction n using Nat.strongRecOn with
 | _ n ih=>
 intro x hx hs
 have h2:=totL_map (l:=x.kids) fun i hi=>by
  have:=ht_kid hi
  exact ih (n-1) (by omega) _ (by omega) (snd_kid hs hi)
 have h1:=fmtK_small x.k x.s x.n x.d (fmtL x.kids) (snd_size hs)
 rw[fmtE_eq,nds_eq]
 omega
set_option maxHeartbeats 4000000
set_option maxRecDepth 100000
variable {G:IH}
theorem FnOK.res {P:Program} {f:FuncId} {xs:List DV} {r r':DV} (h:FnOK P G f xs r) (hr:∀k v,r.rel k v→r'.rel k v):FnOK P G f xs r':=
 ⟨h.1,fun w k us hG hw hu=>(h.2 w k us hG hw hu).mono fun _ _ ⟨v,h',e,hv,rest⟩=>⟨v,h',e,hr h' v hv,rest⟩⟩
/-! Rules,and their lines. -/
structure Rl where
 kind:Int
 nm:ByteArray
 gr:ByteArray
 am:Ex
 wh:Ex
 pos:Int
 ma:Nat
 mw:Nat
abbrev rlD (r:Rl):DV:=.agg [di r.kind,ds r.nm,ds r.gr,di r.am.k,ds r.am.s,di r.am.n,di r.am.d,di r.am.pos,.slc 6 r.am.kids.length (lay (exG r.ma) r.am.kids),di r.wh.k,ds r.wh.s,di r.wh.n,di r.wh.d,di r.wh.pos,.slc 6 r.wh.kids.length (lay (exG r.mw) r.wh.kids),di r.pos]
structure RlS (r:Rl):Prop where
 nm:r.nm.size≤1000
 gr:r.gr.size≤1000
 ha:ht r.am≤r.ma
 am:Sm r.am
 hw:ht r.wh≤r.mw
 wh:Sm r.wh
def nonB (x:Ex):Bool:=x.k==0&&decide (x.s.size=0)&&(x.n==0&&x.d==0)&&decide (x.kids.length=0)
theorem f98 (m:Nat) (x:Ex):FnOK Tryz.prog G 98 [exD m x] (db (nonB x)):=by
 refine FnOK.walkK (orc:=noO) (keep:=[]) follows Tryz.func98 rfl Tryz.call98 ?_
 refine of_tr (fun _ _ _ _=>(((db (x.k==0&&x.s.toList==(ByteArray.mk #[]).toList&&Bool.rec false (x.d==0) (x.n==0)&&(↑x.kids.length:Int)==0)):DV)=(db (nonB x)))) (by kernel_rfl) ?_
 refine congrArg (fun b=>(db b:DV)) ?_
 unfold nonB
 rw[emp_beq,show ((x.kids.length:Int)==0)=decide (x.kids.length=0) by rw[Bool.eq_iff_iff];simp]
 cases h:x.n==0<;>cases h2:x.d==0<;>rfl
theorem f40 (r:Rl) (h:RlS r):FnOK Tryz.prog G 40 [rlD r] (db (decide ((ht r.am:Int)+1≤32)&&decide ((ht r.wh:Int)+1≤32))):=by
 refine FnOK.walkK (orc:=fun f a=>match f,a with|45,[e]=>some (di ((ht (rdE e):Int)+1))|_,_=>none) (keep:=[]) follows Tryz.func40 rfl Tryz.call40 ?_
 refine of_tr (fun _ _ _ ZK=>((ZK 45 [(ndX r.ma r.am)] (di (↑(ht (rdE (ndX r.ma r.am)))+1))∧(((decide ((↑(ht (rdE (ndX r.ma r.am))):Int)+1≤32))=true)→ZK 45 [(ndX r.mw r.wh)] (di (↑(ht (rdE (ndX r.mw r.wh)))+1))))∧((db (decide ((↑(ht (rdE (ndX r.ma r.am))):Int)+1≤32)&&decide ((↑(ht (rdE (ndX r.mw r.wh))):Int)+1≤32))):DV)=(db (decide ((↑(ht r.am):Int)+1≤32)&&decide ((↑(ht r.wh):Int)+1≤32))))) (by kernel_rfl) ?_
 have e1:rdE (ndX r.ma r.am)=r.am:=rdE_eq h.ha
 have e2:rdE (ndX r.mw r.wh)=r.wh:=rdE_eq h.hw
 simp only[e1,e2]
 exact⟨⟨f45 _ _ h.ha h.am,fun _=>f45 _ _ h.hw h.wh⟩,trivial⟩
def kdL:List ByteArray:=[⟨#[112,111,105,110,116,115]⟩,⟨#[112,101,110,97,108,116,121]⟩,⟨#[99,97,112]⟩,⟨#[102,108,111,111,114]⟩]
theorem kd_rel {h:IH} {v:Value} (hv:DV.rel h (.slc 1 4 (elemF false 1 [ds ⟨#[112,111,105,110,116,115]⟩,ds ⟨#[112,101,110,97,108,116,121]⟩,ds ⟨#[99,97,112]⟩,ds ⟨#[102,108,111,111,114]⟩])) v):DV.rel h (wdD kdL) v:=by
 refine DV.rel_slc_congr (fun i hi=>?_) hv
 have hi:i<4:=hi
 rcases i with _|_|_|_|i
 ·rfl
 ·rfl
 ·rfl
 ·rfl
 ·omega
theorem f76:FnOK Tryz.prog G 76 [] (wdD kdL):=by
 refine FnOK.res ?_ fun k v hv=>kd_rel hv
 refine FnOK.walkK (orc:=noO) (keep:=[]) follows Tryz.func76 rfl Tryz.call76 ?_
 refine of_tr (fun _ _ _ _=>(ZS ((.slc 1 4 (elemF false 1 [(ds (ByteArray.mk #[112,111,105,110,116,115])),(ds (ByteArray.mk #[112,101,110,97,108,116,121])),(ds (ByteArray.mk #[99,97,112])),(ds (ByteArray.mk #[102,108,111,111,114]))])):DV))) (by kernel_rfl) ?_
 rfl
def ruB (r:Rl):Bool:=decide (r.kind≥0)&&decide (r.kind<4)&&nameB r.nm&&(decide (r.gr.size=0)||nameB r.gr)&&(decide ((ht r.am:Int)+1≤32)&&decide ((ht r.wh:Int)+1≤32))&&sndE r.am&&(nonB r.wh||sndE r.wh)
noncomputable def orcRu (r:Rl):Oracle:=fun f a=>match f,a with
 | 76,[]=>some (wdD kdL)
 | 92,[.con (.string s)]=>some (db (nameB s))
 | 40,[_]=>some (db (decide ((ht r.am:Int)+1≤32)&&decide ((ht r.wh:Int)+1≤32)))
 | 98,[e]=>some (db (nonB (rdE e)))
 | 49,[e]=>some (db (sndE (rdE e)))
 | 50,[e]=>some (ds (fmtE (rdE e)))
 | _,_=>none
theorem f51 (hT:Tab G) (r:Rl) (h:RlS r):FnOK Tryz.prog G 51 [rlD r] (db (ruB r)):=by
 refine FnOK.walkK (orc:=orcRu r) (keep:=[]) follows Tryz.func51 rfl Tryz.call51 ?_
 refine of_tr (fun _ _ _ ZK=>(fun Za Zb=>(((((decide (r.kind≥0))=true)→ZK 76 [] (.slc 1 4 (stF kdL)))∧(((decide (r.kind≥0)&&decide (r.kind<↑kdL.length))=true)→ZK 92 [(ds r.nm)] (db (nameB r.nm)))∧(((decide (r.kind≥0)&&decide (r.kind<↑kdL.length)&&nameB r.nm&&!r.gr.toList==(ByteArray.mk #[]).toList)=true)→ZK 92 [(ds r.gr)] (db (nameB r.gr)))∧(((decide (r.kind≥0)&&decide (r.kind<↑kdL.length)&&nameB r.nm&&Zb)=true)→ZK 40 [(rlD r)] (db Za))∧(((decide (r.kind≥0)&&decide (r.kind<(↑kdL.length:Int))&&nameB r.nm&&Zb&&Za)=true)→ZK 49 [(ndX r.ma r.am)] (db (sndE (rdE (ndX r.ma r.am)))))∧(((decide (r.kind≥0)&&decide (r.kind<(↑kdL.length:Int))&&nameB r.nm&&Zb&&Za&&sndE (rdE (ndX r.ma r.am)))=true)→ZK 98 [(ndX r.mw r.wh)] (db (nonB (rdE (ndX r.mw r.wh)))))∧(((decide (r.kind≥0)&&decide (r.kind<(↑kdL.length:Int))&&nameB r.nm&&Zb&&Za&&sndE (rdE (ndX r.ma r.am))&&!nonB (rdE (ndX r.mw r.wh)))=true)→ZK 49 [(ndX r.mw r.wh)] (db (sndE (rdE (ndX r.mw r.wh))))))∧((db (decide (r.kind≥0)&&decide (r.kind<(↑kdL.length:Int))&&nameB r.nm&&Zb&&Za&&sndE (rdE (ndX r.ma r.am))&&(nonB (rdE (ndX r.mw r.wh))||sndE (rdE (ndX r.mw r.wh))))):DV)=(db (ruB r)))) (decide ((↑(ht r.am):Int)+1≤32)&&decide ((↑(ht r.wh):Int)+1≤32)) (r.gr.toList==(ByteArray.mk #[]).toList||nameB r.gr)) (by kernel_rfl) ?_
 try dsimp only
 have e1:rdE (ndX r.ma r.am)=r.am:=rdE_eq h.ha
 have e2:rdE (ndX r.mw r.wh)=r.wh:=rdE_eq h.hw
 simp only[e1,e2,emp_beq]
 exact⟨⟨fun _=>f76,fun _=>f92 _ (by have:=h.nm;omega),fun _=>f92 _ (by have:=h.gr;omega),fun _=>f40 r h,fun _=>f49 hT _ _ h.ha h.am,fun _=>f98 _ _,fun _=>f49 hT _ _ h.hw h.wh⟩,rfl⟩
def lnB (r:Rl):ByteArray:=kdL.getD r.kind.toNat .empty++⟨#[32]⟩++r.nm++(if r.gr.size=0 then .empty else ⟨#[32,105,110,32]⟩++r.gr)++(⟨#[58,32]⟩++fmtE r.am)++(if r.wh.k=0 then .empty else ⟨#[32,105,102,32]⟩++fmtE r.wh)++⟨#[59,10]⟩
theorem lnA {r:Rl} (h1:r.gr.size≠0) (h2:r.wh.k≠0):lnB r=kdL.getD r.kind.toNat .empty++⟨#[32]⟩++r.nm++(⟨#[32,105,110,32]⟩++r.gr)++(⟨#[58,32]⟩++fmtE r.am)++(⟨#[32,105,102,32]⟩++fmtE r.wh)++⟨#[59,10]⟩:=by
 unfold lnB;rw[if_neg h1,if_neg h2]
theorem lnBb {r:Rl} (h1:r.gr.size≠0) (h2:r.wh.k=0):lnB r=kdL.getD r.kind.toNat .empty++⟨#[32]⟩++r.nm++(⟨#[32,105,110,32]⟩++r.gr)++(⟨#[58,32]⟩++fmtE r.am)++⟨#[59,10]⟩:=by
 unfold lnB;rw[if_neg h1,if_pos h2,ByteArray.append_empty]
theorem lnC {r:Rl} (h1:r.gr.size=0) (h2:r.wh.k≠0):lnB r=kdL.getD r.kind.toNat .empty++⟨#[32]⟩++r.nm++(⟨#[58,32]⟩++fmtE r.am)++(⟨#[32,105,102,32]⟩++fmtE r.wh)++⟨#[59,10]⟩:=by
 unfold lnB;rw[if_pos h1,if_neg h2,ByteArray.append_empty]
theorem lnD {r:Rl} (h1:r.gr.size=0) (h2:r.wh.k=0):lnB r=kdL.getD r.kind.toNat .empty++⟨#[32]⟩++r.nm++(⟨#[58,32]⟩++fmtE r.am)++⟨#[59,10]⟩:=by
 unfold lnB;rw[if_pos h1,if_pos h2,ByteArray.append_empty,ByteArray.append_empty]
theorem f53 (hT:Tab G) (r:Rl) (h:RlS r) (hr:ruB r=true):FnOK Tryz.prog G 53 [rlD r] (ds (lnB r)):=by
 refine FnOK.walkK (orc:=orcRu r) (keep:=[]) follows Tryz.func53 rfl Tryz.call53 ?_
 refine of_tr (fun _ _ _ ZK=>(fun Za Zb Zc=>((ZK 76 [] (.slc 1 4 (stF kdL))∧((0≤r.kind)∧(r.kind<↑kdL.length))∧((kdL.getD r.kind.toNat ByteArray.empty).size+(ByteArray.mk #[32]).size≤9223372036854775807)∧((kdL.getD r.kind.toNat ByteArray.empty++ByteArray.mk #[32]).size+r.nm.size≤9223372036854775807))∧(((!r.gr.toList==(ByteArray.mk #[]).toList)=true)→((((ByteArray.mk #[32,105,110,32]).size+r.gr.size≤9223372036854775807)∧((kdL.getD r.kind.toNat ByteArray.empty++ByteArray.mk #[32]++r.nm).size+Zc.size≤9223372036854775807))∧(ZK 50 [(ndX r.ma r.am)] (ds (fmtE (rdE (ndX r.ma r.am))))∧((ByteArray.mk #[58,32]).size+(fmtE (rdE (ndX r.ma r.am))).size≤9223372036854775807)∧((kdL.getD r.kind.toNat ByteArray.empty++ByteArray.mk #[32]++r.nm++Zc).size+Za.size≤9223372036854775807))∧(((r.wh.k != 0)=true)→((ZK 50 [(ndX r.mw r.wh)] (ds (fmtE (rdE (ndX r.mw r.wh))))∧((ByteArray.mk #[32,105,102,32]).size+(fmtE (rdE (ndX r.mw r.wh))).size≤9223372036854775807)∧((kdL.getD r.kind.toNat ByteArray.empty++ByteArray.mk #[32]++r.nm++Zc++Za).size+Zb.size≤9223372036854775807))∧((kdL.getD r.kind.toNat ByteArray.empty++ByteArray.mk #[32]++r.nm++Zc++Za++Zb).size+(ByteArray.mk #[59,10]).size≤9223372036854775807)∧((ds (kdL.getD r.kind.toNat ByteArray.empty++ByteArray.mk #[32]++r.nm++Zc++Za++Zb++ByteArray.mk #[59,10])):DV)=(ds (lnB r))))∧(((r.wh.k != 0)=false)→(((kdL.getD r.kind.toNat ByteArray.empty++ByteArray.mk #[32]++r.nm++Zc++Za).size+(ByteArray.mk #[59,10]).size≤9223372036854775807)∧((ds (kdL.getD r.kind.toNat ByteArray.empty++ByteArray.mk #[32]++r.nm++Zc++Za++ByteArray.mk #[59,10])):DV)=(ds (lnB r))))))∧(((!r.gr.toList==(ByteArray.mk #[]).toList)=false)→((ZK 50 [(ndX r.ma r.am)] (ds (fmtE (rdE (ndX r.ma r.am))))∧((ByteArray.mk #[58,32]).size+(fmtE (rdE (ndX r.ma r.am))).size≤9223372036854775807)∧((kdL.getD r.kind.toNat ByteArray.empty++ByteArray.mk #[32]++r.nm).size+Za.size≤9223372036854775807))∧(((r.wh.k != 0)=true)→((ZK 50 [(ndX r.mw r.wh)] (ds (fmtE (rdE (ndX r.mw r.wh))))∧((ByteArray.mk #[32,105,102,32]).size+(fmtE (rdE (ndX r.mw r.wh))).size≤9223372036854775807)∧((kdL.getD r.kind.toNat ByteArray.empty++ByteArray.mk #[32]++r.nm++Za).size+Zb.size≤9223372036854775807))∧((kdL.getD r.kind.toNat ByteArray.empty++ByteArray.mk #[32]++r.nm++Za++Zb).size+(ByteArray.mk #[59,10]).size≤9223372036854775807)∧((ds (kdL.getD r.kind.toNat ByteArray.empty++ByteArray.mk #[32]++r.nm++Za++Zb++ByteArray.mk #[59,10])):DV)=(ds (lnB r))))∧(((r.wh.k != 0)=false)→(((kdL.getD r.kind.toNat ByteArray.empty++ByteArray.mk #[32]++r.nm++Za).size+(ByteArray.mk #[59,10]).size≤9223372036854775807)∧((ds (kdL.getD r.kind.toNat ByteArray.empty++ByteArray.mk #[32]++r.nm++Za++ByteArray.mk #[59,10])):DV)=(ds (lnB r)))))))) (ByteArray.mk #[58,32]++fmtE (rdE (ndX r.ma r.am))) (ByteArray.mk #[32,105,102,32]++fmtE (rdE (ndX r.mw r.wh))) (ByteArray.mk #[32,105,110,32]++r.gr)) (by kernel_rfl) ?_
 try dsimp only
 have e1:rdE (ndX r.ma r.am)=r.am:=rdE_eq h.ha
 have e2:rdE (ndX r.mw r.wh)=r.wh:=rdE_eq h.hw
 simp only[e1,e2,emp_beq,ByteArray.size_append]
 have hh:=hr
 unfold ruB at hh
 simp only[bAt,decide_eq_true_eq] at hh
 obtain ⟨⟨⟨⟨⟨⟨hk0,hk4⟩,hn⟩,hg⟩,hd⟩,ha⟩,hw⟩:=hh
 have k4:kdL.length=4:=rfl
 have hks:∀i,(kdL.getD i .empty).size≤7:=fun i=>by
  rcases i with _|_|_|_|i
  ·decide
  ·decide
  ·decide
  ·decide
  ·show (ByteArray.empty).size≤7
   decide
 have s1:=hks r.kind.toNat
 have s2:=h.nm
 have s3:=h.gr
 have s4:=fmt_small _ _ (Nat.le_refl _) ha
 have n4:=h.am.nd
 have c1:(ByteArray.mk #[32]).size=1:=rfl
 have c2:(ByteArray.mk #[32,105,110,32]).size=4:=rfl
 have c3:(ByteArray.mk #[58,32]).size=2:=rfl
 have c4:(ByteArray.mk #[32,105,102,32]).size=4:=rfl
 have c5:(ByteArray.mk #[59,10]).size=2:=rfl
 have hw2:(r.wh.k != 0)=true→sndE r.wh=true:=fun hc=>by
  rcases Bool.or_eq_true ..▸hw with h1|h1
  ·unfold nonB at h1
   simp only[bAt,beq_iff_eq] at h1
   rw[h1.1.1.1] at hc;cases hc
  ·exact h1
 have s5:(r.wh.k != 0)=true→(fmtE r.wh).size≤120000:=fun hc=>by
  have:=fmt_small _ _ (Nat.le_refl _) (hw2 hc)
  have:=h.wh.nd
  omega
 refine⟨⟨f76,⟨by omega,by omega⟩,by omega,by omega⟩,fun h1=>⟨⟨by omega,by omega⟩,⟨f50 hT _ _ h.ha h.am ha,by omega,by omega⟩,fun h2=>?_,fun h2=>⟨by omega,?_⟩⟩,fun h1=>⟨⟨f50 hT _ _ h.ha h.am ha,by omega,by omega⟩,fun h2=>?_,fun h2=>⟨by omega,?_⟩⟩⟩
 ·have:=s5 h2
  refine⟨⟨f50 hT _ _ h.hw h.wh (hw2 h2),by omega,by omega⟩,by omega,?_⟩
  rw[lnA (by simpa using h1) (by simpa using h2)]
 ·rw[lnBb (by simpa using h1) (by simpa using h2)]
 ·have:=s5 h2
  refine⟨⟨f50 hT _ _ h.hw h.wh (hw2 h2),by omega,by omega⟩,by omega,?_⟩
  rw[lnC (by simpa using h1) (by simpa using h2)]
 ·rw[lnD (by simpa using h1) (by simpa using h2)]
def byteL (l:List UInt8) (i:Nat):DV:=.con (.int .u8 (((l[i]?).getD 0).toNat:Int))
def nilP:AV:=.d (.con (.pointer none))
def unitV:DV:=.tup []
theorem Gam.result {F:Fr} {w0:World} {h0:IH} {st:AS} {β:Nat→Nat} {h:IH} {tm:Array Value} {w:World} (g:Gam G F w0 h0 st β h tm w) {r:AV} {v:Value} (hr:r.rel β h v):Gam G F w0 h0 ⟨[r],st.boxes⟩ β h #[v] w:=
 ⟨g.glob,g.holds,g.ext,g.old,g.kept,g.fix,rfl,fun t x hx=>by
  cases t with
  | zero=>simp at hx;subst hx;exact⟨v,rfl,hr⟩
  | succ t=>simp at hx,g.box,g.inj⟩
theorem tup0_rel (h:IH):unitV.rel h (.tuple #[]):=⟨[],rfl,rfl⟩
theorem arg1 {F:Fr} {w0:World} {h0:IH} {x:AV} {bx:List (Nat×List AV)} {β:Nat→Nat} {h:IH} {us:Array Value} {w:World} (g:Gam G F w0 h0 ⟨[x],bx⟩ β h us w):∃v,us=#[v]∧x.rel β h v:=by
 have hs:us.size=1:=g.size
 obtain ⟨v,hv,hr⟩:=g.regs 0 x rfl
 refine⟨v,?_,hr⟩
 apply Array.ext
 ·simpa using hs
 ·intro i h1 h2
  have:i=0:=by simp at h2;omega
  subst this
  have:=(Array.getElem?_eq_some_iff.1 hv).2
  simpa using this
theorem look_head (s:Nat) (l:List AV) (r:List (Nat×List AV)):Go.Ab.look ((s,l) :: r) s=some l:=by simp[Go.Ab.look]
theorem i146':(Tryz.prog.info? 83).map (·.size)=some 2:=by kernel_rfl
theorem i146:∃j,Tryz.prog.info? 83=some j∧j.size=2:=Option.map_eq_some_iff.1 i146'
theorem lies146:liesAt Tryz.prog Tryz.prog.depth 83 (2 / Tryz.prog.cellsOf 83) 0 83 1=true:=by kernel_rfl
theorem copyCheck_used (b:Nat) (w:World) (h0:w.cell? ⟨b,0,none⟩=some (.pointer (some ⟨b,0,none⟩))) :
  Calls Tryz.prog 99 #[.pointer (some ⟨b,0,none⟩)] w fun e w'=>e=.returned (.tuple #[])∧w'=w:=by
 obtain ⟨j,hj,hjs⟩:=i146
 go_enter Tryz.func99,Tryz.ntmps99
 go_wp2
 rw[Lib.run_neq_ptr_same w _ Tryz.underlying81 hj]
 go_wp2
 go_end0
 exact⟨rfl,rfl⟩
theorem copyCheck_fresh (b:Nat) (w:World) (h0:w.cell? ⟨b,0,none⟩=some (.pointer none)) (hsh:w.shape? b=some (83,2)) (hfz:w.frozen? ⟨b,0,none⟩=false) :
  Calls Tryz.prog 99 #[.pointer (some ⟨b,0,none⟩)] w fun e w'=>e=.returned (.tuple #[])∧w'=w.setCell ⟨b,0,none⟩ (.pointer (some ⟨b,0,none⟩)):=by
 obtain ⟨j,hj,hjs⟩:=i146
 go_enter Tryz.func99,Tryz.ntmps99
 go_wp2
 rw[Lib.run_to_unsafe w ⟨b,0,none⟩ Tryz.underlying81 Tryz.underlying133 hj (by rw[hjs];decide) hsh (Nat.zero_lt_succ 1)]
 simp only[Result.andThen]
 rw[Oper.upon_value]
 go_wp2
 rw[run_callFunc_extern Tryz.func121 (by kernel_rfl) (by kernel_rfl) (by kernel_rfl) (e:=Extern.AbiNoEscape.same) (by kernel_rfl)]
 rw[Lib.run_noEscape]
 simp only[Result.andThen]
 rw[Oper.upon_value]
 go_wp2
 rw[Lib.run_from_unsafe w ⟨b,0,none⟩ Tryz.underlying133 Tryz.underlying81 hj hsh lies146]
 simp only[Result.andThen]
 rw[Oper.upon_value]
 go_wp2
 go_end0
 exact⟨rfl,rfl⟩
theorem builder_String (b g cap n:Nat) (T:TypeId) (p:Value) (vs:Array Value) (fz:Nat×Nat) (l:List UInt8) (h0:l≠[]) (hn:n=l.length) (w:World) (hbk:w.heap[b]?=some (.cells #[p,.slice (some ⟨g,0,none⟩) n cap] T (0,0)))
  (hg:w.heap[g]?=some (.cells vs 5 fz)) (hcap:n≤cap) (hsz:n≤vs.size) (h63:n≤9223372036854775807) (hvs:∀(j:Nat) (x:UInt8),l[j]?=some x→vs[j]?=some (Value.int .u8 x.toNat)) :
  Calls Tryz.prog 55 #[.pointer (some ⟨b,0,none⟩)] w fun e w'=>e=.returned (.string ⟨l.toArray⟩)∧w'=w.drew.freeze ⟨g,0,none⟩ n:=by
 subst hn
 have hl0:l.length≠0:=by simpa using h0
 have c1:w.drew.cell? ⟨b,1,none⟩=some (.slice (some ⟨g,0,none⟩) l.length cap):=by
  have:w.drew.heap[b]?=some (.cells #[p,.slice (some ⟨g,0,none⟩) l.length cap] T (0,0)):=hbk
  rw[Lib.cell_of_heap this];rfl
 have hSD:(Builtin.unsafeSliceData_ #[51] 121 #[.slice (some ⟨g,0,none⟩) l.length cap]).run Tryz.prog w.drew=.ok (.pointer (some ⟨g,0,none⟩)) w.drew:=
  Lib.run_unsafeSliceData_row _ _ _ _ _ _ (by omega)
 have hUS:(Builtin.unsafeString_ #[121,3] 9 #[.pointer (some ⟨g,0,none⟩),.int .i64 l.length]).run Tryz.prog w.drew=.ok (.string ⟨l.toArray⟩) (w.drew.freeze ⟨g,0,none⟩ l.length):=by
  refine Lib.run_unsafeString_row w.drew 121 3 9 5 Tryz.underlying121 (by kernel_rfl) g vs.size (by have hg':w.drew.heap[g]?=some (.cells vs 5 fz):=hg;simp[World.shape?,hg']) l h0 hsz h63 ?_
  intro j x hx
  have hg':w.drew.heap[g]?=some (.cells vs 5 fz):=hg
  have:(⟨g,0,none⟩:Addr).add j=⟨g,j,none⟩:=by rw[add_off];simp
  rw[this]
  simp only[World.cell?,hg']
  exact hvs j x hx
 have mixed:=follows
 go_enter Tryz.func55,Tryz.ntmps55
 go_wp2
 go_region_o
 all_goals (go_wp2;go_ret;exact⟨rfl,rfl⟩)
theorem builder_String_nil (b:Nat) (T:TypeId) (p:Value) (w:World) (hbk:w.heap[b]?=some (.cells #[p,.slice none 0 0] T (0,0))) :
  Calls Tryz.prog 55 #[.pointer (some ⟨b,0,none⟩)] w fun e w'=>e=.returned (.string ⟨#[]⟩)∧w'=w.drew:=by
 have c1:w.drew.cell? ⟨b,1,none⟩=some (.slice none 0 0):=by
  have:w.drew.heap[b]?=some (.cells #[p,.slice none 0 0] T (0,0)):=hbk
  rw[Lib.cell_of_heap this];rfl
 have hSD:(Builtin.unsafeSliceData_ #[51] 121 #[.slice none 0 0]).run Tryz.prog w.drew=.ok (.pointer none) w.drew:=rfl
 have hUS:(Builtin.unsafeString_ #[121,3] 9 #[.pointer none,.int .i64 0]).run Tryz.prog w.drew=.ok (.string .empty) w.drew:=Lib.run_unsafeString_none w.drew _ _ _ none
 have mixed:=follows
 go_enter Tryz.func55,Tryz.ntmps55
 go_wp2
 go_region_o
 all_goals (go_wp2;go_ret;exact⟨rfl,rfl⟩)
theorem f99_fresh (x:AV) (rest:List (Nat×List AV)):FnM Tryz.prog G 99 [.tb 1000000 0 83] ((1000000,[nilP,x]) :: rest) (.d unitV) ((1000000,[.box 1000000 0,x]) :: rest):=by
 refine⟨Tryz.call99,fun F w h β us g=>?_⟩
 obtain ⟨v,rfl,hv,hT⟩:=arg1 g
 subst hv
 have hb:(⟨[.tb 1000000 0 83],(1000000,[nilP,x]) :: rest⟩:AS).box 1000000=some [nilP,x]:=look_head ..
 have hp:plainB [nilP,x]=true:=by
  cases x<;>rfl
 obtain ⟨_,_,_,T,vs,hh,hr⟩:=g.boxP hb hp
 obtain ⟨v0,vs',rfl,h0,v1,vs'',rfl,h1,h2⟩:=hr
 simp only[AV.rels] at h2;subst h2
 simp only[nilP,AV.rel,DV.rel] at h0;subst h0
 have hTT:T.1=83:=T.2.trans hT
 rw[hTT] at hh
 have c0:w.cell? ⟨blk β 1000000,0,none⟩=some (.pointer none):=by simp[World.cell?,hh]
 refine(copyCheck_fresh (blk β 1000000) w c0 (by simp[World.shape?,hh]) (by simp[World.frozen?,hh])).mono ?_
 rintro e w' ⟨rfl,rfl⟩
 have g2:=g.store (s:=1000000) (i:=0) (x:=.box 1000000 0) (v:=.pointer (some ⟨blk β 1000000,0,none⟩)) ⟨_,hb,hp⟩ rfl
 have hset:setCells 1000000 0 (.box 1000000 0) ((1000000,[nilP,x]) :: rest)=(1000000,[.box 1000000 0,x]) :: rest:=by simp[setCells]
 rw[hset] at g2
 exact⟨_,β,h,rfl,Gam.result g2 (tup0_rel h)⟩
theorem f99_used (y x:AV) (hy:∀β h v,y.rel β h v→v=.pointer (some ⟨blk β 1000000,0,none⟩)) (rest:List (Nat×List AV)):FnM Tryz.prog G 99 [y] ((1000000,[.box 1000000 0,x]) :: rest) (.d unitV) ((1000000,[.box 1000000 0,x]) :: rest):=by
 refine⟨Tryz.call99,fun F w h β us g=>?_⟩
 obtain ⟨v,rfl,hv⟩:=arg1 g
 have hv:=hy _ _ _ hv
 subst hv
 have hb:(⟨[y],(1000000,[.box 1000000 0,x]) :: rest⟩:AS).box 1000000=some [.box 1000000 0,x]:=look_head ..
 have hp:plainB [.box 1000000 0,x]=true:=by
  cases x<;>rfl
 obtain ⟨_,_,_,T,vs,hh,hr⟩:=g.boxP hb hp
 obtain ⟨v0,vs',rfl,h0,v1,vs'',rfl,h1,h2⟩:=hr
 simp only[AV.rels] at h2;subst h2
 simp only[AV.rel] at h0;subst h0
 have c0:w.cell? ⟨blk β 1000000,0,none⟩=some (.pointer (some ⟨blk β 1000000,0,none⟩)):=by simp[World.cell?,hh]
 refine(copyCheck_used (blk β 1000000) w c0).mono ?_
 rintro e w' ⟨rfl,rfl⟩
 exact⟨_,β,h,rfl,Gam.result g (tup0_rel h)⟩
abbrev byteF:RK:=⟨false,5,true,none⟩
theorem onlyBlk_freeze {g n:Nat} {w:World}:OnlyBlk g w (w.freeze ⟨g,0,none⟩ n):=by
 unfold World.freeze
 split
 ·exact⟨rfl,rfl,rfl,rfl,fun _ _=>rfl⟩
 ·refine⟨rfl,rfl,rfl,by simp,fun k hk=>?_⟩
  simp only[Array.getElem?_modify]
  rw[if_neg (Ne.symm hk)]
theorem heap_freeze {g n:Nat} {w:World} {vs:Array Value} {T:TypeId} {fr:Nat×Nat} (h:w.heap[g]?=some (.cells vs T fr)):∃fr',(w.freeze ⟨g,0,none⟩ n).heap[g]?=some (.cells vs T fr'):=by
 unfold World.freeze
 split
 ·exact⟨fr,h⟩
 ·simp only[Array.getElem?_modify,if_true,h]
  exact⟨_,rfl⟩
theorem RowOK.frozen {h:IH} {k:RK} {sz c m:Nat} {f:Nat→DV} {o o':Option Obj} (hR:RowOK h k sz f c m o) (ho:∀(vs:Array Value) (fr:Nat×Nat),o=some (.cells vs k.ty fr)→∃fr',o'=some (.cells vs k.ty fr')):RowOK h ⟨k.agg,k.ty,true,k.mn⟩ sz f c m o':=by
 obtain ⟨h1,h2⟩:=hR
 refine⟨h1,h2.imp id ?_⟩
 rintro ⟨fr,vs,e,hf,hl,hone,r⟩
 obtain ⟨fr',e'⟩:=ho _ _ e
 exact⟨fr',vs,e',fun hh=>Bool.noConfusion hh,hl,hone,r⟩
theorem f55 (y A:AV) (hy:∀β h v,y.rel β h v→v=.pointer (some ⟨blk β 1000000,0,none⟩)) (fz:Bool) (l:List UInt8) (h0:l≠[]) (hl:l.length≤4611686018427387904) :
  FnM Tryz.prog G 55 [y] [(1000000,[A,.vec 1000001 1 0 l.length]),(1000001,[.arr ⟨false,5,fz,none⟩ 1 (byteL l)])] (.d (ds (bs l))) [(1000000,[A,.vec 1000001 1 0 l.length]),(1000001,[.arr byteF 1 (byteL l)])]:=by
 refine⟨Tryz.call55,fun F w h β us g=>?_⟩
 obtain ⟨v,rfl,hv⟩:=arg1 g
 have hv:=hy _ _ _ hv
 subst hv
 have hb:(⟨[y],[(1000000,[A,.vec 1000001 1 0 l.length]),(1000001,[.arr ⟨false,5,fz,none⟩ 1 (byteL l)])]⟩:AS).box 1000000=some [A,.vec 1000001 1 0 l.length]:=look_head ..
 have hb1:(⟨[y],[(1000000,[A,.vec 1000001 1 0 l.length]),(1000001,[.arr ⟨false,5,fz,none⟩ 1 (byteL l)])]⟩:AS).box 1000001=some [.arr ⟨false,5,fz,none⟩ 1 (byteL l)]:=by
  simp only[AS.box,Go.Ab.look];rfl
 have hp:plainB [A,.vec 1000001 1 0 l.length]=true:=by
  cases A<;>rfl
 obtain ⟨_,_,_,T,vs,hh,hr⟩:=g.boxP hb hp
 obtain ⟨v0,vs',rfl,hA,v1,vs'',rfl,⟨k1,k2,p,hv1,hpp⟩,h2⟩:=hr
 simp only[AV.rels] at h2;subst h2
 subst hv1
 have hpos:0<l.length:=List.length_pos_iff.2 h0
 have hR:=(g.box _ _ hb1).2
 simp only[Own] at hR
 obtain ⟨r1,r2⟩:=hR
 rcases r2 with r2|⟨fr,us,hu,hfr,hul,hone,hel⟩
 ·omega
 have hp':p=some ⟨blk β 1000001,0,none⟩:=by
  rcases hpp with hpp|hpp
  ·simpa using hpp
  ·omega
 subst hp'
 have hRow:RowOK h ⟨false,5,fz,none⟩ 1 (byteL l) (room β 1000001) (many β 1000001) w.heap[blk β 1000001]?:=⟨r1,.inr ⟨fr,us,hu,hfr,hul,hone,hel⟩⟩
 have hcap:l.length≤room β 1000001:=by omega
 refine(builder_String (blk β 1000000) (blk β 1000001) (room β 1000001-0) l.length T.1 v0 us.toArray fr l h0 rfl w hh hu (by omega) (by simp[hul];omega) (by omega) ?_).mono ?_
 ·intro j x hx
  have hj:j<l.length:=(List.getElem?_eq_some_iff.1 hx).1
  obtain ⟨v,a1,a2,a3,a4⟩:=hel j (by omega)
  simp only[byteL,hx,Option.getD_some,DV.rel] at a1
  subst a1
  have:=a4 0 (by omega)
  simp only[Nat.mul_one,Nat.add_zero,Value.cells] at this
  simpa using this
 ·rintro e w' ⟨rfl,rfl⟩
  have gd:=g.drew (w.drawn+1)
  have hlive:Live β 1000001 [.arr ⟨false,5,fz,none⟩ 1 (byteL l)]:=show 0<room β 1000001 by omega
  have g2:=gd.write (s:=1000001) (l:=[.arr ⟨false,5,fz,none⟩ 1 (byteL l)]) (l':=[.arr byteF 1 (byteL l)]) (w':=w.drew.freeze ⟨blk β 1000001,0,none⟩ l.length)
   (bx:=[(1000000,[A,.vec 1000001 1 0 l.length]),(1000001,[.arr byteF 1 (byteL l)])]) hb1 hlive onlyBlk_freeze (by
    simp only[Own]
    refine RowOK.frozen (k:=⟨false,5,fz,none⟩) hRow fun vs fr' he=>?_
    exact heap_freeze (w:=w.drew) he) (by
    intro t m ht
    simp only[Go.Ab.look] at ht
    by_cases h1:(1000000:Nat)=t
    ·subst h1
     simp at ht
     subst ht
     exact .inr ⟨by decide,rfl⟩
    ·rw[beq_ne h1,cond_false] at ht
     by_cases h2:(1000001:Nat)=t
     ·subst h2
      simp at ht
      subst ht
      exact .inl ⟨rfl,rfl⟩
     ·rw[beq_ne h2,cond_false] at ht
      cases ht)
  exact⟨_,β,h,rfl,Gam.result g2 (r:=.d (ds (bs l))) rfl⟩
theorem f55n (y A:AV) (hy:∀β h v,y.rel β h v→v=.pointer (some ⟨blk β 1000000,0,none⟩)) :
  FnM Tryz.prog G 55 [y] [(1000000,[A,.d (.con (.slice none 0 0))])] (.d (ds (bs []))) [(1000000,[A,.d (.con (.slice none 0 0))])]:=by
 refine⟨Tryz.call55,fun F w h β us g=>?_⟩
 obtain ⟨v,rfl,hv⟩:=arg1 g
 have hv:=hy _ _ _ hv
 subst hv
 have hb:(⟨[y],[(1000000,[A,.d (.con (.slice none 0 0))])]⟩:AS).box 1000000=some [A,.d (.con (.slice none 0 0))]:=look_head ..
 have hp:plainB [A,.d (.con (.slice none 0 0))]=true:=by
  cases A<;>rfl
 obtain ⟨_,_,_,T,vs,hh,hr⟩:=g.boxP hb hp
 obtain ⟨v0,vs',rfl,hA,v1,vs'',rfl,h1,h2⟩:=hr
 simp only[AV.rels] at h2;subst h2
 simp only[AV.rel,DV.rel] at h1;subst h1
 refine(builder_String_nil (blk β 1000000) T.1 v0 w hh).mono ?_
 rintro e w' ⟨rfl,rfl⟩
 exact⟨_,β,h,rfl,Gam.result (g.drew (w.drawn+1)) (r:=.d (ds (bs []))) rfl⟩
abbrev byteK:RK:=⟨false,5,false,none⟩
def orcCC:Orc:={ d:=fun _ _=>none,m:=fun f _ pre=>match f,pre with
 | 99,(u,[.d (.con (.pointer none)),x]) :: rest=>some (.d unitV,(u,[.box u 0,x]) :: rest)
 | 99,(u,[.box v 0,x]) :: rest=>some (.d unitV,(u,[.box v 0,x]) :: rest)
 | _,_=>none }
theorem byteD_L (s:ByteArray):byteD s=byteL s.data.toList:=by
 funext i
 simp only[byteD,byteL,byteAt,Array.getElem?_toList]
theorem byteL_app (l m:List UInt8):(fun i=>bif Nat.blt i l.length then byteL l i else byteL m (i-l.length))=byteL (l++m):=by
 funext i
 cases h:Nat.blt i l.length with
 | true=>
  rw[Nat.blt_eq] at h
  simp only[cond_true,byteL,List.getElem?_append_left h]
 | false=>
  have h:¬i<l.length:=by rw[←Nat.blt_eq,h];decide
  simp only[cond_false,byteL,List.getElem?_append_right (Nat.le_of_not_lt h)]
theorem f52_fresh (s:ByteArray) (hs:s.size≤281474976710):FnM Tryz.prog G 52 [.tb 1000000 0 83,vs s] [(1000000,[nilP,.d (.con (.slice none 0 0))])] (.d (.tup [di s.size,.con .nilIface]))
  [(1000000,[.box 1000000 0,.vec 14 1 0 s.data.toList.length]),(14,[.arr byteK 1 (byteL s.data.toList)])]:=by
 refine FnM.walk (orc:=orcCC) (keep:=[]) [] follows (by kernel_rfl) Tryz.func52 rfl Tryz.call52 ?_
 refine of_tr (fun _ _ _ _=>(FnM Tryz.prog G 99 [(.tb 1000000 0 83)] [(1000000,[(.d (.con (.pointer none))),(.d (.con (.slice none 0 0)))])] (.d (.tup [])) [(1000000,[(.box 1000000 0),(.d (.con (.slice none 0 0)))])]∧((s.size*1≤1099511627776)∧(s.size≤1099511627776))∧(ZS ((.d (.tup [(di (↑s.size)),(.con .nilIface)])):AV))∧((some [(.box 1000000 0),(.vec 14 1 0 s.size)]):(Option (List AV)))=(some [(.box 1000000 0),(.vec 14 1 0 s.data.toList.length)])∧((some [(.arr ⟨false,5,false,none⟩ 1 (byteD s))]):(Option (List AV)))=(some [(.arr ⟨false,5,false,none⟩ 1 (byteL s.data.toList))])∧True)) (by kernel_rfl) ?_
 refine⟨f99_fresh _ _,⟨by omega,by omega⟩,rfl,?_,?_,trivial⟩
 ·rw[size_list]
 ·rw[byteD_L]
theorem f52_used (s:ByteArray) (l:List UInt8) (hs:l.length+s.size≤281474976710):FnM Tryz.prog G 52 [.tb 1000000 0 83,vs s] [(1000000,[.box 1000000 0,.vec 1000001 1 0 l.length]),(1000001,[.arr byteK 1 (byteL l)])] (.d (.tup [di s.size,.con .nilIface]))
  [(1000000,[.box 1000000 0,.vec 14 1 0 (l++s.data.toList).length]),(14,[.arr byteK 1 (byteL (l++s.data.toList))])]:=by
 refine FnM.walk (orc:=orcCC) (keep:=[]) [] follows (by kernel_rfl) Tryz.func52 rfl Tryz.call52 ?_
 refine of_tr (fun _ _ _ _=>(FnM Tryz.prog G 99 [(.tb 1000000 0 83)] [(1000000,[(.box 1000000 0),(.vec 1000001 1 0 l.length)]),(1000001,[(.arr ⟨false,5,false,none⟩ 1 (byteL l))])] (.d (.tup [])) [(1000000,[(.box 1000000 0),(.vec 1000001 1 0 l.length)]),(1000001,[(.arr ⟨false,5,false,none⟩ 1 (byteL l))])]∧(((l.length+s.size)*1≤1099511627776)∧(l.length+s.size≤1099511627776))∧(ZS ((.d (.tup [(di (↑s.size)),(.con .nilIface)])):AV))∧((some [(.box 1000000 0),(.vec 14 1 0 (l.length+s.size))]):(Option (List AV)))=(some [(.box 1000000 0),(.vec 14 1 0 (l++s.data.toList).length)])∧((some [(.arr ⟨false,5,false,none⟩ 1 (fun i=>bif i.blt l.length then byteL l i else byteD s (i-l.length)))]):(Option (List AV)))=(some [(.arr ⟨false,5,false,none⟩ 1 (byteL (l++s.data.toList)))])∧True)) (by kernel_rfl) ?_
 refine⟨f99_used (.tb 1000000 0 83) _ (fun β h v hv=>hv.1) _,⟨by omega,by omega⟩,rfl,?_,?_,trivial⟩
 ·rw[List.length_append,size_list]
 ·rw[byteD_L,byteL_app]
/-! The text of rules. -/
def rl0:Rl:=⟨0,.empty,.empty,ex0,ex0,0,0,0⟩
def rlF (R:List Rl) (i:Nat):DV:=rlD (R.getD i rl0)
abbrev rlsD (R:List Rl):DV:=.slc 16 R.length (rlF R)
def catB (R:List Rl):Nat→ByteArray
 | 0=>.empty
 | k+1=>catB R k++lnB (R.getD k rl0)
def fmtR (R:List Rl):ByteArray:=if R.length>32 then .empty else if R.any (fun r=>!ruB r) then .empty else if (catB R R.length).size>16384 then .empty else catB R R.length
def bB (n:Nat) (f:Nat→DV):ByteArray:=bs (bytesOf n f)
theorem bB_eq (t:ByteArray):bB t.size (byteD t)=t:=by
 unfold bB bs
 rw[byteD_L,←size_list]
 have:bytesOf t.data.toList.length (byteL t.data.toList)=t.data.toList:=by
  unfold bytesOf
  apply List.ext_getElem
  ·simp
  ·intro i h1 h2
   have h3:i<t.data.size:=by simpa using h2
   have e3:t.data[i]?=some t.data[i]:=Array.getElem?_eq_getElem h3
   simp[byteL,byteOfD,e3]
 rw[this]
def orcBm:FuncId→List AV→List (Nat×List AV)→Option (AV×List (Nat×List AV)):=fun f args pre=>match f,args,pre with
 | 52,[_,.d (.con (.string s))],[(u,[.d (.con (.pointer none)),.d (.con (.slice none _ _))])]=>some (.d (.tup [di s.size,.con .nilIface]),[(u,[.box u 0,.vec 14 1 0 s.size]),(14,[.arr byteK 1 (byteD s)])])
 | 52,[_,.d (.con (.string s))],[(u,[.box _ 0,.vec v 1 0 n]),(_,[.arr k 1 f])]=>some (.d (.tup [di s.size,.con .nilIface]),[(u,[.box u 0,.vec 14 1 0 (bB n f++s).size]),(14,[.arr byteK 1 (byteD (bB n f++s))])])
 | 54,[_],[(u,[A,.vec v 1 0 n]),(w,[.arr k 1 f])]=>some (vi n,[(u,[A,.vec v 1 0 n]),(w,[.arr k 1 f])])
 | 54,[_],[(u,[A,.d (.con (.slice none 0 0))])]=>some (vi 0,[(u,[A,.d (.con (.slice none 0 0))])])
 | 55,[_],[(u,[A,.vec v 1 0 n]),(w,[.arr k 1 f])]=>some (.d (ds (bB n f)),[(u,[A,.vec v 1 0 n]),(w,[.arr byteF 1 f])])
 | 55,[_],[(u,[A,.d (.con (.slice none 0 0))])]=>some (.d (ds .empty),[(u,[A,.d (.con (.slice none 0 0))])])
 | _,_,_=>none
theorem f52a (s:ByteArray) (hs:s.size≤281474976710):FnM Tryz.prog G 52 [.tb 1000000 0 83,vs s] [(1000000,[nilP,.d (.con (.slice none 0 0))])] (.d (.tup [di s.size,.con .nilIface]))
  [(1000000,[.box 1000000 0,.vec 14 1 0 s.size]),(14,[.arr byteK 1 (byteD s)])]:=by
 have:=f52_fresh (G:=G) s hs
 rwa [size_list,←byteD_L] at this
theorem f52b (s t:ByteArray) (hs:t.size+s.size≤281474976710):FnM Tryz.prog G 52 [.tb 1000000 0 83,vs s] [(1000000,[.box 1000000 0,.vec 1000001 1 0 t.size]),(1000001,[.arr byteK 1 (byteD t)])] (.d (.tup [di s.size,.con .nilIface]))
  [(1000000,[.box 1000000 0,.vec 14 1 0 (t++s).size]),(14,[.arr byteK 1 (byteD (t++s))])]:=by
 have:=f52_used (G:=G) s t.data.toList (by rw[size_list];exact hs)
 have e:t.data.toList++s.data.toList=(t++s).data.toList:=by rw[ByteArray.data_append,Array.toList_append]
 rwa [e,size_list,size_list,←byteD_L,←byteD_L] at this
theorem f55a (y A:AV) (hy:∀β h v,y.rel β h v→v=.pointer (some ⟨blk β 1000000,0,none⟩)) (t:ByteArray) (h0:0<t.size) (hl:t.size≤4611686018427387904) :
  FnM Tryz.prog G 55 [y] [(1000000,[A,.vec 1000001 1 0 t.size]),(1000001,[.arr byteK 1 (byteD t)])] (.d (ds t)) [(1000000,[A,.vec 1000001 1 0 t.size]),(1000001,[.arr byteF 1 (byteD t)])]:=by
 have:=f55 (G:=G) y A hy false t.data.toList (fun e=>by rw[←size_list,e] at h0;simp at h0) (by rw[size_list];exact hl)
 rw[size_list,←byteD_L] at this
 exact this
theorem f54 (A:AV) (n:Nat) (k:RK) (f:Nat→DV):FnM Tryz.prog G 54 [.tb 1000000 0 83] [(1000000,[A,.vec 1000001 1 0 n]),(1000001,[.arr k 1 f])] (vi n) [(1000000,[A,.vec 1000001 1 0 n]),(1000001,[.arr k 1 f])]:=by
 refine FnM.walk (orc:=noO) (keep:=[]) [] follows (by kernel_rfl) Tryz.func54 rfl Tryz.call54 ?_
 refine of_tr (fun _ _ _ _=>((ZS ((vi (↑n)):AV))∧((some [A,(.vec 1000001 1 0 n)]):(Option (List AV)))=(some [A,(.vec 1000001 1 0 n)])∧((some [(.arr k 1 f)]):(Option (List AV)))=(some [(.arr k 1 f)])∧True)) (by kernel_rfl) ?_
 exact⟨rfl,rfl,rfl,trivial⟩
theorem f54n (A:AV):FnM Tryz.prog G 54 [.tb 1000000 0 83] [(1000000,[A,.d (.con (.slice none 0 0))])] (vi 0) [(1000000,[A,.d (.con (.slice none 0 0))])]:=by
 refine FnM.walk (orc:=noO) (keep:=[]) [] follows (by kernel_rfl) Tryz.func54 rfl Tryz.call54 ?_
 refine of_tr (fun _ _ _ _=>((ZS ((vi 0):AV))∧((some [A,(.d (.con (.slice none 0 0)))]):(Option (List AV)))=(some [A,(.d (.con (.slice none 0 0)))])∧True)) (by kernel_rfl) ?_
 exact⟨rfl,rfl,trivial⟩
noncomputable def rdR (d:DV):Rl:=match d with
 | .agg [.con (.int _ k),.con (.string nm),.con (.string gr),a1,a2,a3,a4,a5,a6,b1,b2,b3,b4,b5,b6,.con (.int _ p)]=>⟨k,nm,gr,rdE (.agg [a1,a2,a3,a4,a5,a6]),rdE (.agg [b1,b2,b3,b4,b5,b6]),p,0,0⟩
 | _=>rl0
theorem rdR_eq {r:Rl} (h:RlS r):rdR (rlD r)={ r with ma:=0,mw:=0 }:=by
 have e1:rdE (ndX r.ma r.am)=r.am:=rdE_eq h.ha
 have e2:rdE (ndX r.mw r.wh)=r.wh:=rdE_eq h.hw
 show Rl.mk r.kind r.nm r.gr (rdE (ndX r.ma r.am)) (rdE (ndX r.mw r.wh)) r.pos 0 0=_
 rw[e1,e2]
theorem ru_rd {r:Rl} (h:RlS r):ruB (rdR (rlD r))=ruB r:=by rw[rdR_eq h];rfl
theorem ln_rd {r:Rl} (h:RlS r):lnB (rdR (rlD r))=lnB r:=by rw[rdR_eq h];rfl
noncomputable def orcFd:Oracle:=fun f a=>match f,a with
 | 51,[d]=>some (db (ruB (rdR d)))
 | 53,[d]=>some (ds (lnB (rdR d)))
 | _,_=>none
noncomputable def orcFm:Orc:={ d:=orcFd,ty:=fun T=>Nat.beq T 83,m:=orcBm }
theorem getD_mem' {α:Type} {l:List α} {i:Nat} {x0:α} (h:i<l.length):l.getD i x0∈l:=by
 rw[List.getD,gEe h];exact List.getElem_mem h
theorem ln_small {r:Rl} (h:RlS r) (hr:ruB r=true):(lnB r).size≤300000∧0<(lnB r).size:=by
 have hh:=hr
 unfold ruB at hh
 simp only[bAt,decide_eq_true_eq] at hh
 obtain ⟨⟨⟨⟨⟨⟨hk0,hk4⟩,hn⟩,hg⟩,hd⟩,ha⟩,hw⟩:=hh
 have hks:∀i,(kdL.getD i .empty).size≤7:=fun i=>by
  rcases i with _|_|_|_|i
  ·decide
  ·decide
  ·decide
  ·decide
  ·show (ByteArray.empty).size≤7
   decide
 have s1:=hks r.kind.toNat
 have s2:=h.nm
 have s3:=h.gr
 have s4:=fmt_small _ _ (Nat.le_refl _) ha
 have n4:=h.am.nd
 have n5:=h.wh.nd
 have c1:(ByteArray.mk #[32]).size=1:=rfl
 have c2:(ByteArray.mk #[32,105,110,32]).size=4:=rfl
 have c3:(ByteArray.mk #[58,32]).size=2:=rfl
 have c4:(ByteArray.mk #[32,105,102,32]).size=4:=rfl
 have c5:(ByteArray.mk #[59,10]).size=2:=rfl
 have c0:(ByteArray.empty).size=0:=rfl
 have g1:(if r.gr.size=0 then ByteArray.empty else ⟨#[32,105,110,32]⟩++r.gr).size≤1004:=by
  split
  ·omega
  ·rw[ByteArray.size_append];omega
 have g2:(if r.wh.k=0 then ByteArray.empty else ⟨#[32,105,102,32]⟩++fmtE r.wh).size≤120004:=by
  split
  ·omega
  ·rename_i hc
   have hs:sndE r.wh=true:=by
    rcases (Bool.or_eq_true ..).mp hw with h1|h1
    ·unfold nonB at h1
     simp only[bAt,beq_iff_eq] at h1
     exact absurd h1.1.1.1 hc
    ·exact h1
   have:=fmt_small _ _ (Nat.le_refl _) hs
   rw[ByteArray.size_append];omega
 unfold lnB
 simp only[ByteArray.size_append]
 omega
theorem cat_small {R:List Rl} (hR:∀i,i<R.length→RlS (R.getD i rl0)):∀k,k≤R.length→(∀i,i<k→ruB (R.getD i rl0)=true)→(catB R k).size≤300000*k∧(0<k→0<(catB R k).size)
 | 0,_,_=>⟨Nat.le_refl _,fun h=>absurd h (by decide)⟩
 | k+1,hk,hu=>by
  have ih:=cat_small hR k (by omega) fun i hi=>hu i (by omega)
  have h1:=ln_small (hR k hk) (hu k (by omega))
  simp only[catB,ByteArray.size_append]
  omega
theorem any_bad {R:List Rl} {k:Nat} (hk:k<R.length) (h:ruB (R.getD k rl0)=false):(R.any fun r=>!ruB r)=true:=by
 rw[List.any_eq_true]
 exact⟨_,getD_mem' hk,by rw[h];rfl⟩
def bx114 (R:List Rl) (k:Nat):List (Nat×List AV):=match Nat.beq k 0 with
 | true=>[(3,[nilP,.d (.con (.slice none 0 0))])]
 | false=>[(3,[.box 3 0,.vec 900 1 0 (catB R k).size]),(900,[.arr byteK 1 (byteD (catB R k))])]
noncomputable def S114 (R:List Rl) (k:Nat):AS:=⟨regs Tryz.f24.ntmps [(3,.tb 3 0 83),(9,.d (rlsD R)),(10,vi R.length),(11,vi k)],bx114 R k⟩
theorem f24 (hT:Tab G) (R:List Rl) (hR:∀i,i<R.length→RlS (R.getD i rl0)) (hl:R.length≤9223372036854775807):FnOK Tryz.prog G 24 [rlsD R] (ds (fmtR R)):=by
 refine FnOK.walkK (orc:=orcFm) (keep:=[]) follows Tryz.func24 rfl Tryz.call24 ?_
 refine of_tr (fun ZT ZW ZQ _=>((((decide ((↑R.length:Int)>32))=true)→(((ds (ByteArray.mk #[])):DV)=(ds (fmtR R))))∧(((decide ((↑R.length:Int)>32))=false)→ZW [cd Tryz.f24 [1,1,1,0,1,0],(.blk 0),cd Tryz.f24 [1,1,1,1]] (stS ZT [1]) ZQ))) (by kernel_rfl) ?_
 refine⟨fun h=>?_,fun h=>?_⟩
 ·have:R.length>32:=by have:=of_decide_eq_true h;omega
  unfold fmtR
  rw[if_pos this];rfl
 have hl32:¬R.length>32:=by have:=of_decide_eq_false h;omega
 refine AWP.loop (c:=cAt (bodyOf Tryz.f24) [1,1,1,0,1,0,0]) (by kernel_rfl) (S114 R) (fun k=>k≤R.length∧∀i,i<k→ruB (R.getD i rl0)=true) (fun k=>R.length-k) 0 ?_ ⟨Nat.zero_le _,fun i hi=>by omega⟩ ?_
 ·exact AS.leA (by kernel_rfl)
 ·rintro k ⟨hk,hkd⟩
  have hbad:∀k,k<R.length→(!ruB (R.getD k rl0))=true→(ds ⟨#[]⟩:DV)=ds (fmtR R):=fun k h1 h2=>by
   unfold fmtR
   rw[if_neg hl32,if_pos (any_bad h1 (by simpa using h2))];rfl
  have hgood:(∀i,i<R.length→ruB (R.getD i rl0)=true)→(R.any fun r=>!ruB r)=false:=fun h=>by
   rw[List.any_eq_false]
   intro r hr
   obtain ⟨i,hi,rfl⟩:=List.getElem_of_mem hr
   have:=h i hi
   rw[List.getD,gEe hi,Option.getD_some] at this
   rw[this];decide
  rcases k with _|k
  ·refine walkK (orc:=orcFm) (keep:=[]) (cuts:=[]) (n:=1000) follows ?_
   refine of_rd (fun ZT ZW ZQ ZK ZA _=>(fun Za=>((((decide (0<(↑R.length:Int)))=true)→((((0:Int)≤(0:Int))∧(0<(↑R.length:Int)))∧ZK 51 [Za] (db (ruB (rdR Za)))∧(((!ruB (rdR Za))=true)→(((ds (ByteArray.mk #[])):DV)=(ds (fmtR R))))∧(((!ruB (rdR Za))=false)→((ZK 53 [Za] (ds (lnB (rdR Za)))∧FnM Tryz.prog G 52 [(.tb 1000000 0 83),(vs (lnB (rdR Za)))] [(1000000,[(.d (.con (.pointer none))),(.d (.con (.slice none 0 0)))])] (.d (.tup [(di (↑(lnB (rdR Za)).size)),(.con .nilIface)])) [(1000000,[(.box 1000000 0),(.vec 14 1 0 (lnB (rdR Za)).size)]),(14,[(.arr ⟨false,5,false,none⟩ 1 (byteD (lnB (rdR Za))))])])∧(I64 (0+1))∧(ZA (stS ZT [0,1]))))))∧(((decide (0<(↑R.length:Int)))=false)→ZW [cd Tryz.f24 [1,1,1,1]] (stS ZT [1]) ZQ))) (rlD (R.getD (Int.toNat 0) rl0))) (by kernel_rfl) ?_
   refine⟨fun h1=>?_,fun h1=>?_⟩
   ·have hk2:0<R.length:=by have:=of_decide_eq_true h1;omega
    have hs:=hR 0 hk2
    rw[show Int.toNat 0=0 from rfl,ru_rd hs,ln_rd hs]
    refine⟨⟨by omega,by omega⟩,f51 hT _ hs,fun h2=>hbad 0 hk2 h2,fun h2=>?_⟩
    have h2:ruB (R.getD 0 rl0)=true:=by simpa using h2
    have hz:=ln_small hs h2
    refine⟨⟨f53 hT _ hs h2,f52a _ (by omega)⟩,⟨by omega,by omega⟩,Again.mkR [(21014,900)] rfl 1 ?_ ⟨hk2,fun i hi=>(by obtain rfl:i=0:=(by omega);exact h2)⟩ (by omega)⟩
    have e:catB R 1=lnB (rdR (rlD (R.getD 0 rl0))):=by
     rw[ln_rd hs]
     show ByteArray.empty++lnB (R.getD 0 rl0)=_
     exact ByteArray.empty_append
    refine AS.leZ [] [0,1] (b:=((T0∧T0∧T0∧T0∧True)∧((some [(.box 3 0),(.vec 900 1 0 (lnB (rdR (rlD (R.getD (↑0:Int).toNat rl0)))).size)]):(Option (List AV)))=(some [(.box 3 0),(.vec 900 1 0 (catB R 1).size)])∧((some [(.arr ⟨false,5,false,none⟩ 1 (byteD (lnB (rdR (rlD (R.getD (↑0:Int).toNat rl0))))))]):(Option (List AV)))=(some [(.arr ⟨false,5,false,none⟩ 1 (byteD (catB R 1)))])∧True)) (by kernel_rfl) (by kernel_rfl) ?_
    rw[e]
    exact⟨⟨rfl,rfl,rfl,rfl,trivial⟩,rfl,rfl,trivial⟩
   ·have h1:=of_decide_eq_false h1
    have h0:R.length=0:=by omega
    refine walkK (orc:=orcFm) (keep:=[]) (cuts:=[]) (n:=1000) follows ?_
    refine of_tr (fun _ _ _ _=>(FnM Tryz.prog G 54 [(.tb 1000000 0 83)] [(1000000,[(.d (.con (.pointer none))),(.d (.con (.slice none 0 0)))])] (vi 0) [(1000000,[(.d (.con (.pointer none))),(.d (.con (.slice none 0 0)))])]∧((false=true)→(((ds (ByteArray.mk #[])):DV)=(ds (fmtR R))))∧((false=false)→(FnM Tryz.prog G 55 [(.tb 1000000 0 83)] [(1000000,[(.d (.con (.pointer none))),(.d (.con (.slice none 0 0)))])] (vs ByteArray.empty) [(1000000,[(.d (.con (.pointer none))),(.d (.con (.slice none 0 0)))])]∧((ds ByteArray.empty):DV)=(ds (fmtR R)))))) (by kernel_rfl) ?_
    refine⟨f54n _,fun h=>(by cases h),fun _=>⟨f55n _ _ (fun β h v hv=>hv.1),?_⟩⟩
    obtain rfl:=List.eq_nil_of_length_eq_zero h0
    rfl
  ·refine walkK (orc:=orcFm) (keep:=[]) (cuts:=[]) (n:=1000) follows ?_
   refine of_rd (fun ZT ZW ZQ ZK ZA _=>(fun Za=>((((decide ((↑(k+1):Int)<↑R.length))=true)→(((0≤(↑(k+1):Int))∧((↑(k+1):Int)<↑R.length))∧ZK 51 [Za] (db (ruB (rdR Za)))∧(((!ruB (rdR Za))=true)→(((ds (ByteArray.mk #[])):DV)=(ds (fmtR R))))∧(((!ruB (rdR Za))=false)→((ZK 53 [Za] (ds (lnB (rdR Za)))∧FnM Tryz.prog G 52 [(.tb 1000000 0 83),(vs (lnB (rdR Za)))] [(1000000,[(.box 1000000 0),(.vec 1000001 1 0 (catB R (k+1)).size)]),(1000001,[(.arr ⟨false,5,false,none⟩ 1 (byteD (catB R (k+1))))])] (.d (.tup [(di ((↑(ByteArray.size (lnB (rdR (rlD (List.getD R (Int.toNat (↑(k+1):Int)) rl0))))):Int))),(.con .nilIface)])) [(1000000,[(.box 1000000 0),(.vec 14 1 0 (bB (catB R (k+1)).size (byteD (catB R (k+1)))++lnB (rdR Za)).size)]),(14,[(.arr ⟨false,5,false,none⟩ 1 (byteD (bB (catB R (k+1)).size (byteD (catB R (k+1)))++lnB (rdR Za))))])])∧(I64 (↑(k+1)+1))∧(ZA (stS ZT [0,1]))))))∧(((decide ((↑(k+1):Int)<↑R.length))=false)→ZW [cd Tryz.f24 [1,1,1,1]] (stS ZT [1]) ZQ))) (rlD (R.getD ((↑(k+1):Int)).toNat rl0))) (by kernel_rfl) ?_
   refine⟨fun h1=>?_,fun h1=>?_⟩
   ·have hk2:k+1<R.length:=by have:=of_decide_eq_true h1;omega
    have hs:=hR (k+1) hk2
    have hc:=cat_small hR (k+1) (by omega) hkd
    rw[show ((k+1:Nat):Int).toNat=k+1 from rfl,ru_rd hs,ln_rd hs,bB_eq]
    refine⟨⟨by omega,by omega⟩,f51 hT _ hs,fun h2=>hbad _ hk2 h2,fun h2=>?_⟩
    have h2:ruB (R.getD (k+1) rl0)=true:=by simpa using h2
    have hz:=ln_small hs h2
    refine⟨⟨f53 hT _ hs h2,f52b _ _ (by omega)⟩,⟨by omega,by omega⟩,Again.mkR [(21014,900)] rfl (k+1+1) ?_ ⟨hk2,fun i hi=>?_⟩ (by omega)⟩
    ·have e:catB R (k+1+1)=bB (catB R (k+1)).size (byteD (catB R (k+1)))++lnB (rdR (rlD (R.getD (k+1) rl0))):=by
      rw[ln_rd hs,bB_eq];rfl
     refine AS.leZ [] [0,1] (b:=((T0∧T0∧T0∧T0∧True)∧((some [(.box 3 0),(.vec 900 1 0 (bB (catB R (k+1)).size (byteD (catB R (k+1)))++lnB (rdR (rlD (R.getD ((↑(k+1):Int)).toNat rl0)))).size)]):(Option (List AV)))=(some [(.box 3 0),(.vec 900 1 0 (catB R (k+1+1)).size)])∧((some [(.arr ⟨false,5,false,none⟩ 1 (byteD (bB (catB R (k+1)).size (byteD (catB R (k+1)))++lnB (rdR (rlD (R.getD ((↑(k+1):Int)).toNat rl0))))))]):(Option (List AV)))=(some [(.arr ⟨false,5,false,none⟩ 1 (byteD (catB R (k+1+1))))])∧True)) (by kernel_rfl) (by kernel_rfl) ?_
     rw[e]
     exact⟨⟨rfl,rfl,rfl,rfl,trivial⟩,rfl,rfl,trivial⟩
    ·rcases Nat.lt_or_ge i (k+1) with h4|h4
     ·exact hkd i h4
     ·obtain rfl:i=k+1:=by omega
      exact h2
   ·have h1:=of_decide_eq_false h1
    obtain h0:R.length=k+1:=by omega
    have hc:=cat_small hR (k+1) (by omega) hkd
    refine walkK (orc:=orcFm) (keep:=[]) (cuts:=[]) (n:=1000) follows ?_
    refine of_tr (fun _ _ _ _=>(fun Za Zb=>(FnM Tryz.prog G 54 [(.tb 1000000 0 83)] [(1000000,[(.box 1000000 0),Zb]),(1000001,[Za])] (vi (↑(catB R (k+1)).size)) [(1000000,[(.box 1000000 0),Zb]),(1000001,[Za])]∧(((decide ((↑(catB R (k+1)).size:Int)>16384))=true)→(((ds (ByteArray.mk #[])):DV)=(ds (fmtR R))))∧(((decide ((↑(catB R (k+1)).size:Int)>16384))=false)→(FnM Tryz.prog G 55 [(.tb 1000000 0 83)] [(1000000,[(.box 1000000 0),Zb]),(1000001,[Za])] (vs (bB (catB R (k+1)).size (byteD (catB R (k+1))))) [(1000000,[(.box 1000000 0),Zb]),(1000001,[(.arr ⟨false,5,true,none⟩ 1 (byteD (catB R (k+1))))])]∧((ds (bB (catB R (k+1)).size (byteD (catB R (k+1))))):DV)=(ds (fmtR R)))))) ((.arr ⟨false,5,false,none⟩ 1 (byteD (catB R (k+1)))):AV) ((.vec 1000001 1 0 (catB R (k+1)).size):AV)) (by kernel_rfl) ?_
    try dsimp only
    have hf:fmtR R=if (catB R (k+1)).size>16384 then .empty else catB R (k+1):=by
     unfold fmtR
     rw[if_neg hl32,hgood (fun i hi=>hkd i (by omega)),if_neg (by decide),h0]
    rw[bB_eq,hf]
    refine⟨f54 _ _ _ _,fun h2=>?_,fun h2=>⟨f55a (.tb 1000000 0 83) _ (fun β h v hv=>hv.1) _ (hc.2 (by omega)) (by omega),?_⟩⟩
    ·rw[if_pos (by have:=of_decide_eq_true h2;omega)];rfl
    ·rw[if_neg (by have:=of_decide_eq_false h2;omega)]
/-! Checked rules. -/
def vaR (R:List Rl):Bool:=decide (R.length=0)||!decide ((fmtR R).size=0)
noncomputable def orc66 (R:List Rl):Oracle:=fun f a=>match f,a with
 | 24,[_]=>some (ds (fmtR R))
 | _,_=>none
theorem f25 (hT:Tab G) (R:List Rl) (hR:∀i,i<R.length→RlS (R.getD i rl0)) (hl:R.length≤9223372036854775807):FnOK Tryz.prog G 25 [rlsD R] (db (vaR R)):=by
 refine FnOK.walkK (orc:=orc66 R) (keep:=[]) follows Tryz.func25 rfl Tryz.call25 ?_
 refine of_tr (fun _ _ _ ZK=>((((!(↑R.length:Int)==0)=true)→ZK 24 [(.slc 16 R.length (rlF R))] (ds (fmtR R)))∧((db ((↑R.length:Int)==0||!(fmtR R).toList==(ByteArray.mk #[]).toList)):DV)=(db (vaR R)))) (by kernel_rfl) ?_
 refine⟨fun _=>f24 hT R hR hl,?_⟩
 rw[emp_beq,show ((R.length:Int)==0)=decide (R.length=0) by rw[Bool.eq_iff_iff];simp]
 rfl
end Go.Proofs
/- Rules that are too deep. -/
namespace Go.Proofs
open Go Go.Ab Go.RowKit
set_option maxHeartbeats 4000000
set_option maxRecDepth 100000
variable {G:IH}
def deepR (r:Rl):Bool:=!(decide ((ht r.am:Int)+1≤32)&&decide ((ht r.wh:Int)+1≤32))
theorem deep_rd {r:Rl} (h:RlS r):deepR (rdR (rlD r))=deepR r:=by rw[rdR_eq h];rfl
noncomputable def orcDp:Oracle:=fun f a=>match f,a with
 | 40,[e]=>some (db (decide ((ht (rdR e).am:Int)+1≤32)&&decide ((ht (rdR e).wh:Int)+1≤32)))
 | _,_=>none
theorem f39 (r:Rl) (h:RlS r):FnOK Tryz.prog G 39 [rlD r] (db (deepR r)):=by
 refine FnOK.walkK (orc:=orcDp) (keep:=[]) follows Tryz.func39 rfl Tryz.call39 ?_
 refine of_tr (fun _ _ _ ZK=>(fun Za=>(ZK 40 [(rlD r)] (db Za)∧((db (!Za)):DV)=(db (deepR r)))) (decide ((↑(ht (rdE (ndX (Rl.ma r) (Rl.am r)))):Int)+(1:Int)≤(32:Int))&&decide ((↑(ht (rdE (ndX (Rl.mw r) (Rl.wh r)))):Int)+(1:Int)≤(32:Int)))) (by kernel_rfl) ?_
 try dsimp only
 have e1:rdE (ndX r.ma r.am)=r.am:=rdE_eq h.ha
 have e2:rdE (ndX r.mw r.wh)=r.wh:=rdE_eq h.hw
 simp only[e1,e2]
 exact⟨f40 r h,rfl⟩
noncomputable def orcIx (p:Rl→Bool) (l:List Rl):Oracle:=fun f a=>match f,a with
 | 39,[e]=>some (db (p (rdR e)))
 | 80,[_,_]=>some (di (idI p l))
 | _,_=>none
noncomputable def S80 (R:List Rl) (k:Nat):AS:=⟨regs Tryz.f80.ntmps [(0,.d (rlsD R)),(1,.d (.con (.func (.func 39) #[] #[]))),(7,vi R.length),(8,vi k)],[]⟩
theorem f80 (R:List Rl) (hR:∀i,i<R.length→RlS (R.getD i rl0)) (hl:R.length≤1000000):FnOK Tryz.prog G 80 [rlsD R,.con (.func (.func 39) #[] #[])] (di (idI deepR R)):=by
 refine FnOK.walkK (orc:=orcIx deepR R) (keep:=[]) follows Tryz.func80 rfl Tryz.call80 ?_
 refine of_tr (fun ZT ZW ZQ _=>ZW [cd Tryz.f80 [1,0,1,0],(.blk 0),cd Tryz.f80 [1,1]] (stS ZT []) ZQ) (by kernel_rfl) ?_
 refine AWP.loop (c:=cAt (bodyOf Tryz.f80) [1,0,1,0,0]) (by kernel_rfl) (S80 R) (fun k=>k≤R.length∧∀i,i<k→deepR (R.getD i rl0)=false) (fun k=>R.length-k) 0 ?_ ⟨Nat.zero_le _,fun i hi=>by omega⟩ ?_
 ·exact AS.leA (by kernel_rfl)
 ·rintro k ⟨hk,hkd⟩
  refine walkK (orc:=orcIx deepR R) (keep:=[]) (cuts:=[]) (n:=1000) follows ?_
  refine of_rd (fun ZT ZW ZQ ZK ZA _=>(fun Za=>((((decide ((↑k:Int)<↑R.length))=true)→((((0≤(↑k:Int))∧((↑k:Int)<↑R.length))∧ZK 39 [Za] (db (deepR (rdR Za))))∧(((deepR (rdR Za))=true)→(((di (↑k)):DV)=(di (idI deepR R))))∧(((deepR (rdR Za))=false)→((I64 (↑k+1))∧(ZA (stS ZT [0,1]))))))∧(((decide ((↑k:Int)<↑R.length))=false)→ZW [cd Tryz.f80 [1,1]] (stS ZT [1]) ZQ))) (rlD (R.getD (↑k:Int).toNat rl0))) (by kernel_rfl) ?_
  try dsimp only
  simp only[Int.toNat_natCast]
  refine⟨fun h=>?_,fun h=>?_⟩
  ·have hk2:k<R.length:=by have:=of_decide_eq_true h;omega
   have e1:deepR (rdR (rlF R k))=deepR (R.getD k rl0):=deep_rd (hR k hk2)
   refine⟨⟨⟨by omega,by omega⟩,?_⟩,fun h2=>?_,fun h2=>⟨⟨by omega,by omega⟩,Again.mk (k+1) ?_ ⟨hk2,fun i hi=>?_⟩ (by omega)⟩⟩
   ·show FnOK Tryz.prog G 39 [rlF R k] (db (deepR (rdR (rlF R k))))
    rw[e1];exact f39 _ (hR k hk2)
   ·have h2:deepR (rdR (rlF R k))=true:=h2
    rw[e1] at h2
    rw[(idI_hit (x0:=rl0) hk2 hkd h2).2]
   ·exact AS.leA (by kernel_rfl)
   ·rcases Nat.lt_or_ge i k with h1|h1
    ·exact hkd i h1
    ·obtain rfl:i=k:=by omega
     rw[←e1];exact h2
  ·simp only[decide_eq_false_iff_not] at h
   have hst:=idI_none (x0:=rl0) (p:=deepR) (L:=R) fun i hi=>hkd i (by omega)
   refine walkK (orc:=orcIx deepR R) (keep:=[]) (cuts:=[]) (n:=1000) follows ?_
   refine of_tr (fun _ _ _ _=>(((di (-1)):DV)=(di (idI deepR R)))) (by kernel_rfl) ?_
   rw[hst.2]
theorem f38 (R:List Rl) (hR:∀i,i<R.length→RlS (R.getD i rl0)) (hl:R.length≤1000000):FnOK Tryz.prog G 38 [rlsD R,.con (.func (.func 39) #[] #[])] (db (R.any deepR)):=by
 refine FnOK.walkK (orc:=orcIx deepR R) (keep:=[]) follows Tryz.func38 rfl Tryz.call38 ?_
 refine of_tr (fun _ _ _ ZK=>(ZK 80 [(.slc 16 R.length (rlF R)),(.con (.func (.func 39) ⟨[]⟩ ⟨[]⟩))] (di (idI deepR R))∧((db (decide (idI deepR R≥0))):DV)=(db (R.any deepR)))) (by kernel_rfl) ?_
 refine⟨f80 R hR hl,?_⟩
 rw[idI_ge]
end Go.Proofs
