import Derived.Test.YteigabjdeaoaiaaGreatDoorAcD
import Derived.Test.YteigabjdeaoaiaaGreatDoorG0
/- The queue in its box. -/
set_option autoImplicit false
namespace Go.Proofs
open Go Go.Ab Go.RowKit
set_option maxHeartbeats 4000000
set_option maxRecDepth 100000
variable {G:IH}
structure Qm where
 ll:Int
 lt:Int
 lp:Int
 ls:Int
 tick:Int
 arr:Int
 num:Int
 W:List Wt
 L:List Ls
 D:List Jb
 sv:ByteArray→Int
 has:Value→Bool
def svF (f:ByteArray→Int) (v:Value):DV:=match v with | .string k=>di (f k)|_=>di 0
abbrev qC (q:Qm) (w l d:Nat):List AV:=[vi q.ll,vi q.lt,vi q.lp,vi q.ls,vi q.tick,vi q.arr,vi q.num,.vec w 8 0 q.W.length,.vec l 11 0 q.L.length,.vec d 5 0 q.D.length,.mapv 1000004]
abbrev rowW (W:List Wt):List AV:=[.arr wK 8 (wtF W)]
abbrev rowL (L:List Ls):List AV:=[.arr lK 11 (lsF L)]
abbrev rowD (D:List Jb):List AV:=[.arr jK 5 (jbF D)]
abbrev qP (q:Qm):List (Nat×List AV):=[(1000000,qC q 1000001 1000002 1000003),(1000001,rowW q.W),(1000002,rowL q.L),(1000003,rowD q.D),(1000004,[.mp none (svF q.sv) q.has])]
abbrev qPw (q:Qm):List (Nat×List AV):=[(1000000,qC q 900 1000002 1000003),(1000001,[.dead]),(1000002,rowL q.L),(1000003,rowD q.D),(1000004,[.mp none (svF q.sv) q.has]),(900,rowW q.W)]
def waitQ (q:Qm) (w:Wt):Qm:={ q with W:=insW q.W (posW q.W w.ar) w }
noncomputable def d51 (W:List Wt) (w:Wt):Oracle:=fun f _=>match f with
 | 66=>some (.tup [di (posW W w.ar),db (decide ((posW W w.ar:Int)<W.length)&&cmpZ (W.getD (posW W w.ar) wt0).ar w.ar==0)])
 | _=>none
noncomputable def m51 (W:List Wt) (w:Wt):FuncId→List AV→List (Nat×List AV)→Option (AV×List (Nat×List AV)):=fun f _ _=>match f with
 | 68=>some (.vec 900 8 0 (W.length+1),post68 W w (posW W w.ar))
 | _=>none
noncomputable def orc51 (W:List Wt) (w:Wt):Orc:={ d:=d51 W w,m:=m51 W w,rows:=fun n=>Nat.beq n 23 }
theorem posW_le {W:List Wt} {n:Int}:posW W n≤W.length:=List.Sublist.length_le (List.takeWhile_sublist _)
theorem f51 (q:Qm) (w:Wt) (hl:q.W.length≤1000000) (hs:q.W.Pairwise fun a b=>a.ar≤b.ar):FnM Tryz.prog G 51 [.box 1000000 0,.d (wtD w)] (qP q) (.d (.tup [])) (qPw (waitQ q w)):=by
 have h66:=(f66 (G:=G) q.W w.ar hl hs).args (xs:=[.slc 8 q.W.length (fun i=>wtF q.W (0+i)),di w.ar,c67]) fun k us hu=>DV.rels_cons (fun v hv=>DV.rel_slc_congr (fun i hi=>by rw[Nat.zero_add]) hv) (fun _ h=>h) us hu
 refine FnM.of_body (mv:=[(25900,900)]) (by kernel_rfl) Tryz.func51 rfl Tryz.call51 ?_
 refine walkK (orc:=orc51 q.W w) (keep:=[]) (cuts:=[]) (n:=1000) follows ?_
 refine of_tr (fun _ _ _ ZK=>(fun Za=>(ZK 66 [(.slc 8 q.W.length (fun i=>wtF q.W (0+i))),(di w.ar),(.con (.func (.func 67) ⟨[]⟩ ⟨[]⟩))] (.tup [(di (↑(posW q.W w.ar))),(db (decide ((↑(posW q.W w.ar):Int)<↑q.W.length)&&cmpZ (q.W.getD (posW q.W w.ar) wt0).ar w.ar==0))])∧FnM Tryz.prog G 68 [(.vec 1000000 8 0 q.W.length),(vi (↑(posW q.W w.ar))),(.vec 1000001 8 0 1)] [(1000000,[(.arr ⟨true,39,false,none⟩ 8 (wtF q.W))]),(1000001,[(.arr ⟨true,39,false,none⟩ 8 (elemF true 8 [(ds w.j.st),(ds w.j.ex),(di w.j.no),(di w.j.ve),(di w.j.pr),(di w.tr),(di w.ar),(di w.fr)]))])] (.vec 900 8 0 (q.W.length+1)) [(1000000,[.dead]),(1000001,[(.arr ⟨true,39,false,none⟩ 8 (oneF w))]),(900,[Za])]∧(ZS ((.d (.tup [])):AV))∧((some [(vi q.ll),(vi q.lt),(vi q.lp),(vi q.ls),(vi q.tick),(vi q.arr),(vi q.num),(.vec 900 8 0 (q.W.length+1)),(.vec 1000002 11 0 q.L.length),(.vec 1000003 5 0 q.D.length),(.mapv 1000004)]):(Option (List AV)))=(some [(vi q.ll),(vi q.lt),(vi q.lp),(vi q.ls),(vi q.tick),(vi q.arr),(vi q.num),(.vec 900 8 0 (insW q.W (posW q.W w.ar) w).length),(.vec 1000002 11 0 q.L.length),(.vec 1000003 5 0 q.D.length),(.mapv 1000004)])∧((some [.dead]):(Option (List AV)))=(some [.dead])∧((some [(.arr ⟨true,41,false,none⟩ 11 (lsF q.L))]):(Option (List AV)))=(some [(.arr ⟨true,41,false,none⟩ 11 (lsF q.L))])∧((some [(.arr ⟨true,35,false,none⟩ 5 (jbF q.D))]):(Option (List AV)))=(some [(.arr ⟨true,35,false,none⟩ 5 (jbF q.D))])∧((some [(.mp none (svF q.sv) q.has)]):(Option (List AV)))=(some [(.mp none (svF q.sv) q.has)])∧((some [Za]):(Option (List AV)))=(some [Za])∧True)) ((.arr ⟨true,39,false,none⟩ 8 (wtF (insW q.W (posW q.W w.ar) w))):AV)) (by kernel_rfl) ?_
 refine⟨h66,f68 q.W w (posW q.W w.ar) posW_le hl,rfl,?_,rfl,rfl,rfl,rfl,rfl,trivial⟩
 rw[insW_len posW_le]
end Go.Proofs
/- A job that failed. -/
namespace Go.Proofs
open Go Go.Ab Go.RowKit
set_option maxHeartbeats 4000000
set_option maxRecDepth 100000
variable {G:IH}
abbrev qF (q:Qm):List (Nat×List AV):=[(1000000,qC q 901 1000002 903),(901,rowW q.W),(1000002,rowL q.L),(903,rowD q.D),(1000004,[.mp none (svF q.sv) q.has])]
def againW (q:Qm) (w:Wt) (t:Int):Wt:={ w with tr:=w.tr+1,fr:=min (t+q.lp*2 ^ w.tr.toNat) 1099511627776 }
def failQ (q:Qm) (w:Wt) (t:Int):Qm:=if w.tr+1≥q.lt then { q with D:=q.D++[w.j] } else waitQ q (againW q w t)
noncomputable def m44 (q:Qm) (w:Wt):FuncId→List AV→List (Nat×List AV)→Option (AV×List (Nat×List AV)):=fun f _ _=>match f with
 | 51=>some (.d (.tup []),qPw (waitQ q w))
 | _=>none
noncomputable def orc44 (q:Qm) (w:Wt):Orc:={ d:=noO,m:=m44 q w,rows:=fun n=>Nat.beq n 25 }
theorem pow_tr {k:Nat} (h:k≤15):(1:Int)≤2 ^ k∧(2:Int) ^ k≤32768:=by
 have h1:2 ^ k≤2 ^ 15:=Nat.pow_le_pow_right (by decide) h
 have h2:0<2 ^ k:=Nat.pow_pos (by decide)
 have e:((2 ^ k:Nat):Int)=(2:Int) ^ k:=by rw[Int.natCast_pow];rfl
 omega
theorem pause_le {p:Int} {k:Nat} (h0:0≤p) (h1:p≤1048576) (h:k≤15):0≤p*2 ^ k∧p*2 ^ k≤34359738368:=by
 have ⟨a,b⟩:=pow_tr h
 refine⟨Int.mul_nonneg h0 (by omega),?_⟩
 have:=Int.mul_le_mul h1 b (by omega) (by decide)
 omega
theorem shlw {p n:Int} (h0:0≤p) (h1:p≤1048576) (h2:0≤n) (h3:n≤15):IntKind.i64.wrap (p*2 ^ min (n+1-1).toNat IntKind.i64.bits)=p*2 ^ n.toNat:=by
 rw[show n+1-1=n by omega,show min n.toNat IntKind.i64.bits=n.toNat from Nat.min_eq_left (Nat.le_trans (by omega:n.toNat≤64) (by decide))]
 have ⟨a,b⟩:=pause_le h0 h1 (by omega:n.toNat≤15)
 exact wrap_I64 ⟨by omega,by omega⟩
theorem minE {a:Int}:(if 1099511627776<a then (1099511627776:Int) else a)=min a 1099511627776:=by
 rw[Int.min_def];split<;>split<;>omega
theorem jbF_app {D:List Jb} {j:Jb} {i:Nat} (h:i<D.length+1):(bif i.blt D.length then jbF D i else elemF true 5 (jbL j) (0+(i-D.length)))=jbF (D++[j]) i:=by
 unfold jbF
 rw[List.getD,List.getD]
 by_cases h1:i<D.length
 ·rw[show i.blt D.length=true from by rw[Nat.blt_eq];exact h1,List.getElem?_append_left h1];rfl
 ·obtain rfl:i=D.length:=by omega
  rw[show D.length.blt D.length=false from by rw[Bool.eq_false_iff,ne_eq,Nat.blt_eq];omega,List.getElem?_append_right (Nat.le_refl _),Nat.sub_self];rfl
abbrev qFd (q:Qm) (n:Nat) (f:Nat→DV):List (Nat×List AV):=[(1000000,[vi q.ll,vi q.lt,vi q.lp,vi q.ls,vi q.tick,vi q.arr,vi q.num,.vec 901 8 0 q.W.length,.vec 1000002 11 0 q.L.length,.vec 903 5 0 n,.mapv 1000004]),(901,rowW q.W),(1000002,rowL q.L),(903,[.arr jK 5 f]),(1000004,[.mp none (svF q.sv) q.has])]
theorem le44 (q:Qm) (j:Jb):AS.leX ⟨[.d (.tup [])],qFd q (q.D.length+1) fun i=>bif i.blt q.D.length then jbF q.D i else elemF true 5 (jbL j) (0+(i-q.D.length))⟩ ⟨[.d (.tup [])],qF { q with D:=q.D++[j] }⟩:=by
 refine(AS.leX.rowB _ 1000000 9 903 (q.D.length+1) (agg:=jK) (sz:=5) (f:=fun i=>bif i.blt q.D.length then jbF q.D i else elemF true 5 (jbL j) (0+(i-q.D.length))) (jbF (q.D++[j])) rfl rfl (by kernel_rfl) (by kernel_rfl) rfl rfl rfl (by kernel_rfl) fun j hj=>jbF_app hj).trans (.of_le ?_)
 refine⟨⟨rfl,trivial⟩,?_,rfl,rfl,rfl,rfl,trivial⟩
 show _=some [vi q.ll,vi q.lt,vi q.lp,vi q.ls,vi q.tick,vi q.arr,vi q.num,.vec 901 8 0 q.W.length,.vec 1000002 11 0 q.L.length,.vec 903 5 0 (q.D++[j]).length,.mapv 1000004]
 rw[List.length_append];rfl
theorem f44_dead (q:Qm) (w:Wt) (t:Int) (h:w.tr+1≥q.lt) (h1:I64 (w.tr+1)) (hd:q.D.length≤1000000):FnM Tryz.prog G 44 [.box 1000000 0,.d (wtD w),.d (di t)] (qP q) (.d (.tup [])) (qF (failQ q w t)):=by
 unfold failQ
 rw[if_pos h]
 refine FnM.res (post:=qFd q (q.D.length+1) fun i=>bif i.blt q.D.length then jbF q.D i else elemF true 5 (jbL w.j) (0+(i-q.D.length))) (le44 q w.j) ?_
 refine FnM.of_body (mv:=[(26,903),(1000001,901)]) (by kernel_rfl) Tryz.func44 rfl Tryz.call44 ?_
 refine walkK (orc:=orc44 q (againW q w t)) (keep:=[]) (cuts:=[4]) (n:=1000) follows ?_
 refine of_tr (fun ZT ZW ZQ _=>(fun Za Zb=>((I64 (w.tr+1))∧(((decide (w.tr+1≥q.lt))=true)→((((q.D.length+1)*56≤1099511627776)∧(q.D.length+1≤1099511627776))∧(ZS ((.d (.tup [])):AV))∧(Zb:(Option (List AV)))=Zb∧((some [(.arr ⟨true,39,false,none⟩ 8 (wtF q.W))]):(Option (List AV)))=(some [(.arr ⟨true,39,false,none⟩ 8 (wtF q.W))])∧((some [(.arr ⟨true,41,false,none⟩ 11 (lsF q.L))]):(Option (List AV)))=(some [(.arr ⟨true,41,false,none⟩ 11 (lsF q.L))])∧(Za:(Option (List AV)))=Za∧((some [(.mp none (svF q.sv) q.has)]):(Option (List AV)))=(some [(.mp none (svF q.sv) q.has)])∧True))∧(((decide (w.tr+1≥q.lt))=false)→ZW [cd Tryz.f44 [1,1,1]] (stS ZT [1]) ZQ))) (some [(.arr ⟨true,35,false,none⟩ 5 (fun i=>bif i.blt q.D.length then jbF q.D i else elemF true 5 [ds w.j.st,ds w.j.ex,di w.j.no,di w.j.ve,di w.j.pr] (0+(i-q.D.length))))]) (some [(vi q.ll),(vi q.lt),(vi q.lp),(vi q.ls),(vi q.tick),(vi q.arr),(vi q.num),(.vec 901 8 0 q.W.length),(.vec 1000002 11 0 q.L.length),(.vec 903 5 0 (q.D.length+1)),(.mapv 1000004)])) (by kernel_rfl) ?_
 exact⟨h1,fun _=>⟨⟨by omega,by omega⟩,rfl,rfl,rfl,rfl,rfl,rfl,trivial⟩,fun hc=>absurd h (of_decide_eq_false hc)⟩
theorem f44_wait (q:Qm) (w:Wt) (t:Int) (h:¬w.tr+1≥q.lt) (hl:q.W.length≤1000000) (hs:q.W.Pairwise fun a b=>a.ar≤b.ar) (h0:0≤w.tr) (h1:q.lt≤16) (h2:0≤q.lp) (h3:q.lp≤1048576) (h4:0≤t) (h5:t≤1099511627777):FnM Tryz.prog G 44 [.box 1000000 0,.d (wtD w),.d (di t)] (qP q) (.d (.tup [])) (qF (failQ q w t)):=by
 unfold failQ
 rw[if_neg h]
 have h51:=f51 (G:=G) q (againW q w t) hl hs
 refine FnM.of_body (mv:=[(45900,901),(1000003,903)]) (by kernel_rfl) Tryz.func44 rfl Tryz.call44 ?_
 refine walkK (orc:=orc44 q (againW q w t)) (keep:=[]) (cuts:=[3]) (n:=1000) follows ?_
 refine of_tr (fun ZT ZW ZQ _=>(fun Za Zb Zc Zd Ze=>((I64 (w.tr+1))∧(((decide (w.tr+1≥q.lt))=true)→ZW [cd Tryz.f44 [1,1,0,1,0],cd Tryz.f44 [1,1,1]] (stS ZT [0]) ZQ)∧(((decide (w.tr+1≥q.lt))=false)→(((I64 (w.tr+1-1))∧(0≤w.tr+1-1)∧(I64 (t+IntKind.i64.wrap Ze)))∧FnM Tryz.prog G 51 [(.box 1000000 0),(.d (.agg [(ds w.j.st),(ds w.j.ex),(di w.j.no),(di w.j.ve),(di w.j.pr),(di (w.tr+1)),(di w.ar),(di (if 1099511627776<t+IntKind.i64.wrap Ze then 1099511627776 else t+IntKind.i64.wrap Ze))]))] [(1000000,[(vi q.ll),(vi q.lt),(vi q.lp),(vi q.ls),(vi q.tick),(vi q.arr),(vi q.num),(.vec 1000001 8 0 q.W.length),(.vec 1000002 11 0 q.L.length),(.vec 1000003 5 0 q.D.length),(.mapv 1000004)]),(1000001,[(.arr ⟨true,39,false,none⟩ 8 (wtF q.W))]),(1000002,[Zc]),(1000003,[Zd]),(1000004,[(.mp none (svF q.sv) q.has)])] (.d (.tup [])) [(1000000,[(vi q.ll),(vi q.lt),(vi q.lp),(vi q.ls),(vi q.tick),(vi q.arr),(vi q.num),(.vec 900 8 0 (insW q.W (posW q.W w.ar) (againW q w t)).length),(.vec 1000002 11 0 q.L.length),(.vec 1000003 5 0 q.D.length),(.mapv 1000004)]),(1000001,[.dead]),(1000002,[Zc]),(1000003,[Zd]),(1000004,[(.mp none (svF q.sv) q.has)]),(900,[Zb])]∧(ZS ((.d (.tup [])):AV))∧(Za:(Option (List AV)))=Za∧((some [Zb]):(Option (List AV)))=(some [Zb])∧((some [Zc]):(Option (List AV)))=(some [Zc])∧((some [Zd]):(Option (List AV)))=(some [Zd])∧((some [(.mp none (svF q.sv) q.has)]):(Option (List AV)))=(some [(.mp none (svF q.sv) q.has)])∧True)))) (some [(vi q.ll),(vi q.lt),(vi q.lp),(vi q.ls),(vi q.tick),(vi q.arr),(vi q.num),(.vec 901 8 0 (insW q.W (posW q.W w.ar) (againW q w t)).length),(.vec 1000002 11 0 q.L.length),(.vec 903 5 0 q.D.length),(.mapv 1000004)]) ((.arr ⟨true,39,false,none⟩ 8 (wtF (insW q.W (posW q.W w.ar) (againW q w t)))):AV) ((.arr ⟨true,41,false,none⟩ 11 (lsF q.L)):AV) ((.arr ⟨true,35,false,none⟩ 5 (jbF q.D)):AV) (q.lp*2 ^ min (w.tr+1-1).toNat IntKind.i64.bits)) (by kernel_rfl) ?_
 dsimp only
 have hp:=pause_le h2 h3 (by omega:w.tr.toNat≤15)
 rw[shlw h2 h3 h0 (by omega),minE]
 exact⟨⟨by omega,by omega⟩,fun hc=>absurd (of_decide_eq_true hc) h,fun _=>⟨⟨⟨by omega,by omega⟩,by omega,⟨by omega,by omega⟩⟩,h51,rfl,rfl,rfl,rfl,rfl,rfl,trivial⟩⟩
end Go.Proofs
/- The queue moves on. -/
namespace Go.Proofs
open Go Go.Ab Go.RowKit
set_option maxHeartbeats 4000000
set_option maxRecDepth 100000
variable {G:IH}
abbrev qG (q:Qm):List (Nat×List AV):=[(1000000,qC q 901 902 903),(901,rowW q.W),(902,rowL q.L),(903,rowD q.D),(1000004,[.mp none (svF q.sv) q.has])]
def overB (t:Int) (l:Ls):Bool:=decide (l.un≤t)
def failS (q:Qm) (l:Ls):Qm:=failQ q l.w l.un
def tickQ (q:Qm) (t:Int):Qm:={ q with tick:=t }
def goneQ (q:Qm) (t:Int) (L:List Ls):Qm:=(L.filter (overB t)).foldl failS (tickQ q t)
def restL (t:Int) (L:List Ls):List Ls:=L.filter fun l=>!overB t l
def moveQ (q:Qm) (t:Int):Qm:={ goneQ q t q.L with L:=restL t q.L }
noncomputable def m38 (q:Qm) (l:Ls):FuncId→List AV→List (Nat×List AV)→Option (AV×List (Nat×List AV)):=fun f _ _=>match f with
 | 44=>some (.d (.tup []),qF (failS q l))
 | _=>none
noncomputable def orc38 (q:Qm) (l:Ls):Orc:={ d:=noO,m:=m38 q l,rows:=fun n=>Nat.beq n 5||Nat.beq n 43 }
theorem f38_bad (q:Qm) (t:Int) (h:t<q.tick∨t>1099511627776):FnM Tryz.prog G 38 [.box 1000000 0,.d (di t)] (qP q) (.d (db false)) (qG q):=by
 refine FnM.of_body (mv:=[(1000001,901),(1000002,902),(1000003,903)]) (by kernel_rfl) Tryz.func38 rfl Tryz.call38 ?_
 refine walkK (orc:=orc38 q ls0) (keep:=[]) (cuts:=[3]) (n:=1000) follows ?_
 refine of_tr (fun ZT ZW ZQ _=>(fun Za=>((((decide (t<q.tick)||decide (t>1099511627776))=true)→((ZS ((vb false):AV))∧(Za:(Option (List AV)))=Za∧((some [(.arr ⟨true,39,false,none⟩ 8 (wtF q.W))]):(Option (List AV)))=(some [(.arr ⟨true,39,false,none⟩ 8 (wtF q.W))])∧((some [(.arr ⟨true,41,false,none⟩ 11 (lsF q.L))]):(Option (List AV)))=(some [(.arr ⟨true,41,false,none⟩ 11 (lsF q.L))])∧((some [(.arr ⟨true,35,false,none⟩ 5 (jbF q.D))]):(Option (List AV)))=(some [(.arr ⟨true,35,false,none⟩ 5 (jbF q.D))])∧((some [(.mp none (svF q.sv) q.has)]):(Option (List AV)))=(some [(.mp none (svF q.sv) q.has)])∧True))∧(((decide (t<q.tick)||decide (t>1099511627776))=false)→ZW [cd Tryz.f38 [1,1]] (stS ZT [1]) ZQ))) (some [(vi q.ll),(vi q.lt),(vi q.lp),(vi q.ls),(vi q.tick),(vi q.arr),(vi q.num),(.vec 901 8 0 q.W.length),(.vec 902 11 0 q.L.length),(.vec 903 5 0 q.D.length),(.mapv 1000004)])) (by kernel_rfl) ?_
 refine⟨fun _=>⟨rfl,rfl,rfl,rfl,rfl,rfl,trivial⟩,fun hc=>?_⟩
 rw[Bool.or_eq_false_iff] at hc
 have h1:=of_decide_eq_false hc.1
 have h2:=of_decide_eq_false hc.2
 omega
structure FG (q:Qm):Prop where
 lt:q.lt≤16
 lp0:0≤q.lp
 lp1:q.lp≤1048576
 W:q.W.length≤1000000
 D:q.D.length≤1000000
 srt:q.W.Pairwise fun a b=>a.ar≤b.ar
theorem f44 (q:Qm) (w:Wt) (t:Int) (hg:FG q) (h0:0≤w.tr) (h1:w.tr≤1000000) (h4:0≤t) (h5:t≤1099511627777):FnM Tryz.prog G 44 [.box 1000000 0,.d (wtD w),.d (di t)] (qP q) (.d (.tup [])) (qF (failQ q w t)):=by
 by_cases h:w.tr+1≥q.lt
 ·exact f44_dead q w t h ⟨by omega,by omega⟩ hg.D
 ·exact f44_wait q w t h hg.W hg.srt h0 hg.lt hg.lp0 hg.lp1 h4 h5
theorem failQ_L (q:Qm) (w:Wt) (t:Int):(failQ q w t).L=q.L:=by
 unfold failQ;split<;>rfl
theorem goneQ_L (q:Qm) (t:Int) (L:List Ls):(goneQ q t L).L=q.L:=by
 unfold goneQ
 generalize L.filter (overB t)=M
 suffices h:∀q,(M.foldl failS q).L=q.L from h _
 induction M with
 | nil=>intro q;rfl
 | cons l M ih=>intro q;rw[List.foldl_cons,ih];exact failQ_L _ _ _
theorem take_next {L:List Ls} {k:Nat} (h:k<L.length):L.take (k+1)=L.take k++[L.getD k ls0]:=by
 rw[List.take_succ_eq_append_getElem h,List.getD,gEe h];rfl
theorem gone_hit {q:Qm} {t:Int} {k:Nat} (h:k<q.L.length) (hb:overB t (q.L.getD k ls0)=true):goneQ q t (q.L.take (k+1))=failS (goneQ q t (q.L.take k)) (q.L.getD k ls0)∧restL t (q.L.take (k+1))=restL t (q.L.take k):=by
 unfold goneQ restL
 rw[take_next h,List.filter_append,List.filter_append,List.foldl_append]
 simp only[List.filter_cons,hb,List.filter_nil]
 exact⟨rfl,by simp⟩
theorem gone_miss {q:Qm} {t:Int} {k:Nat} (h:k<q.L.length) (hb:overB t (q.L.getD k ls0)=false):goneQ q t (q.L.take (k+1))=goneQ q t (q.L.take k)∧restL t (q.L.take (k+1))=restL t (q.L.take k)++[q.L.getD k ls0]:=by
 unfold goneQ restL
 rw[take_next h,List.filter_append,List.filter_append,List.foldl_append]
 simp only[List.filter_cons,hb,List.filter_nil]
 exact⟨rfl,by simp⟩
theorem lsF_app {L:List Ls} {l:Ls} {i:Nat} (h:i<L.length+1):(bif i.blt L.length then lsF L i else elemF true 11 (lsL l) (0+(i-L.length)))=lsF (L++[l]) i:=by
 unfold lsF
 rw[List.getD,List.getD]
 by_cases h1:i<L.length
 ·rw[show i.blt L.length=true from by rw[Nat.blt_eq];exact h1,List.getElem?_append_left h1];rfl
 ·obtain rfl:i=L.length:=by omega
  rw[show L.length.blt L.length=false from by rw[Bool.eq_false_iff,ne_eq,Nat.blt_eq];omega,List.getElem?_append_right (Nat.le_refl _),Nat.sub_self];rfl
noncomputable def S38a (q:Qm) (t:Int):AS:=⟨regs Tryz.f38.ntmps [(0,.box 1000000 0),(1,vi t),(5,.d (.con (.slice none 0 0))),(25,.vec 1000002 11 0 q.L.length),(26,vi q.L.length),(27,vi 0)],qP (tickQ q t)⟩
noncomputable def S38 (t:Int) (k:Nat) (q:Qm) (R:List Ls):AS:=⟨regs Tryz.f38.ntmps [(0,.box 1000000 0),(1,vi t),(5,.vec 905 11 0 R.length),(25,.vec 1000002 11 0 q.L.length),(26,vi q.L.length),(27,vi k)],(905,[.arr lK 11 (lsF R)]) :: qF q⟩
noncomputable def S38f (t:Int) (k:Nat) (q:Qm) (n:Nat) (f:Nat→DV):AS:=⟨regs Tryz.f38.ntmps [(0,.box 1000000 0),(1,vi t),(5,.vec 905 11 0 n),(25,.vec 1000002 11 0 q.L.length),(26,vi q.L.length),(27,vi k)],(905,[.arr lK 11 f]) :: qF q⟩
theorem f38_ok (q:Qm) (t:Int) (h0:q.tick≤t) (h1:t≤1099511627776) (hL:q.L.length≤1000000) (hg:∀k,k<q.L.length→FG (goneQ q t (q.L.take k))) (hl:∀l∈q.L,0≤l.w.tr∧l.w.tr≤1000000∧0≤l.un∧l.un≤1099511627777):FnM Tryz.prog G 38 [.box 1000000 0,.d (di t)] (qP q) (.d (db true)) (qG (moveQ q t)):=by
 refine FnM.of_body (mv:=[(905,902)]) (by kernel_rfl) Tryz.func38 rfl Tryz.call38 ?_
 refine walkK (orc:=orc38 q ls0) (keep:=[]) (cuts:=[2]) (n:=1000) follows ?_
 refine of_tr (fun ZT ZW ZQ _=>((((decide (t<q.tick)||decide (t>1099511627776))=true)→ZW [cd Tryz.f38 [1,0,1,0],cd Tryz.f38 [1,1]] (stS ZT [0]) ZQ)∧(((decide (t<q.tick)||decide (t>1099511627776))=false)→ZW [cd Tryz.f38 [1,1,1,1,0,1,0],(.blk 0),cd Tryz.f38 [1,1,1,1,1]] (stS ZT [1]) ZQ))) (by kernel_rfl) ?_
 refine⟨fun hc=>?_,fun _=>?_⟩
 ·rw[Bool.or_eq_true] at hc
  rcases hc with hc|hc
  ·have:=of_decide_eq_true hc;omega
  ·have:=of_decide_eq_true hc;omega
 refine walkK (orc:=orc38 q ls0) (keep:=[]) (cuts:=[]) (n:=1000) follows ?_
 refine of_tr (fun ZT ZW ZQ _=>ZW [cd Tryz.f38 [1,1,1,1,0,1,0],(.blk 0),cd Tryz.f38 [1,1,1,1,1]] (stS ZT []) ZQ) (by kernel_rfl) ?_
 refine AWP.weaken (st':=S38a q t) ?_ ?_
 ·exact AS.leA (by kernel_rfl)
 refine AWP.pre ((AS.leX.nilRow _ 5 905 11 lK (lsF []) rfl (by kernel_rfl)).trans (.moves [(1000001,901),(1000003,903)] _ rfl)) ?_
 refine AWP.loop (c:=cAt (bodyOf Tryz.f38) [1,1,1,1,0,1,0,0]) (by kernel_rfl) (fun k:Nat=>S38 t k (goneQ q t (q.L.take k)) (restL t (q.L.take k))) (fun k=>k≤q.L.length) (fun k=>q.L.length-k) 0 ?_ (Nat.zero_le _) ?_
 ·refine AS.leZ [] [0] (b:=((T0∧T0∧T0∧T0∧T0∧T0∧True)∧((some [(.arr ⟨true,41,false,none⟩ 11 (lsF []))]):(Option (List AV)))=(some [(.arr ⟨true,41,false,none⟩ 11 (lsF (restL t (List.take 0 q.L))))])∧T0∧T0∧T0∧T0∧T0∧True)) (by kernel_rfl) (by kernel_rfl) ?_
  exact⟨⟨rfl,rfl,rfl,rfl,rfl,rfl,trivial⟩,rfl,rfl,rfl,rfl,rfl,rfl,trivial⟩
 ·intro k hk
  have eL:=goneQ_L q t (q.L.take k)
  show AWP _ _ _ (S38 t k (goneQ q t (q.L.take k)) (restL t (q.L.take k))) _
  by_cases hk2:k<q.L.length
  ·have hg:=hg k hk2
   have hm:q.L.getD k ls0∈q.L:=by
    rw[List.getD,gEe hk2];exact List.getElem_mem hk2
   have hl:=hl _ hm
   have hb:=@gone_hit q t k hk2
   have hc:=@gone_miss q t k hk2
   have hR:(restL t (q.L.take k)).length≤k:=Nat.le_trans (List.length_filter_le ..) (by rw[List.length_take];omega)
   have h44:=f44 (G:=G) (goneQ q t (q.L.take k)) (q.L.getD k ls0).w (q.L.getD k ls0).un hg hl.1 hl.2.1 hl.2.2.1 hl.2.2.2
   dsimp only[qP,qC,rowL] at h44
   rw[eL] at h44
   have hL':=failQ_L (goneQ q t (q.L.take k)) (q.L.getD k ls0).w (q.L.getD k ls0).un
   refine walkK (orc:=orc38 (goneQ q t (q.L.take k)) (q.L.getD k ls0)) (keep:=[]) (cuts:=[12]) (n:=1000) follows ?_
   refine of_rd (fun ZT ZW ZQ _ ZA _=>(fun Za Zb=>((((decide ((↑k:Int)<↑(goneQ q t (List.take k q.L)).L.length))=true)→(((0≤(↑k:Int))∧((↑k:Int)<↑(goneQ q t (List.take k q.L)).L.length))∧(((decide (Zb.un≤t))=true)→(FnM Tryz.prog G 44 [(.box 1000000 0),(.d (.agg [(ds Zb.w.j.st),(ds Zb.w.j.ex),(di Zb.w.j.no),(di Zb.w.j.ve),(di Zb.w.j.pr),(di Zb.w.tr),(di Zb.w.ar),(di Zb.w.fr)])),(vi Zb.un)] [(1000000,[(vi (goneQ q t (List.take k q.L)).ll),(vi (goneQ q t (List.take k q.L)).lt),(vi (goneQ q t (List.take k q.L)).lp),(vi (goneQ q t (List.take k q.L)).ls),(vi (goneQ q t (List.take k q.L)).tick),(vi (goneQ q t (List.take k q.L)).arr),(vi (goneQ q t (List.take k q.L)).num),(.vec 1000001 8 0 (goneQ q t (List.take k q.L)).W.length),(.vec 1000002 11 0 (goneQ q t (List.take k q.L)).L.length),(.vec 1000003 5 0 (goneQ q t (List.take k q.L)).D.length),(.mapv 1000004)]),(1000001,[(.arr ⟨true,39,false,none⟩ 8 (wtF (goneQ q t (List.take k q.L)).W))]),(1000002,[(.arr ⟨true,41,false,none⟩ 11 (lsF (goneQ q t (List.take k q.L)).L))]),(1000003,[(.arr ⟨true,35,false,none⟩ 5 (jbF (goneQ q t (List.take k q.L)).D))]),(1000004,[(.mp none (svF (goneQ q t (List.take k q.L)).sv) (goneQ q t (List.take k q.L)).has)])] (.d (.tup [])) [(1000000,[(vi Za.ll),(vi Za.lt),(vi Za.lp),(vi Za.ls),(vi Za.tick),(vi Za.arr),(vi Za.num),(.vec 901 8 0 Za.W.length),(.vec 1000002 11 0 Za.L.length),(.vec 903 5 0 Za.D.length),(.mapv 1000004)]),(901,[(.arr ⟨true,39,false,none⟩ 8 (wtF Za.W))]),(1000002,[(.arr ⟨true,41,false,none⟩ 11 (lsF Za.L))]),(903,[(.arr ⟨true,35,false,none⟩ 5 (jbF Za.D))]),(1000004,[(.mp none (svF Za.sv) Za.has)])]∧(I64 (↑k+1))∧(ZA (stS ZT [0,0]))))∧(((decide (Zb.un≤t))=false)→(((((restL t (List.take k q.L)).length+1)*112≤1099511627776)∧((restL t (List.take k q.L)).length+1≤1099511627776))∧(I64 (↑k+1))∧(ZA (stS ZT [0,1]))))))∧(((decide ((↑k:Int)<↑(goneQ q t (List.take k q.L)).L.length))=false)→ZW [cd Tryz.f38 [1,1,1,1,1]] (stS ZT [1]) ZQ))) (failS (goneQ q t (List.take k q.L)) (q.L.getD k ls0)) ((goneQ q t (List.take k q.L)).L.getD (0+(↑k:Int).toNat) ls0)) (by kernel_rfl) ?_
   dsimp only
   rw[eL,show 0+((k:Int)).toNat=k from Nat.zero_add _]
   refine⟨fun _=>⟨⟨by omega,by omega⟩,fun hd=>⟨h44,⟨by omega,by omega⟩,?_⟩,fun hd=>⟨⟨by omega,by omega⟩,⟨by omega,by omega⟩,?_⟩⟩,fun hd=>absurd (of_decide_eq_false hd) (by omega)⟩
   ·obtain ⟨e1,e2⟩:=hb hd
    refine Again.mkR [(41901,901),(41903,903)] rfl (k+1) ?_ hk2 (by show q.L.length-(k+1)<q.L.length-k;omega)
    simp only[e1,e2]
    refine AS.leZ [3,4] [] (b:=((T0∧T0∧T0∧((.vec 1000002 11 0 (goneQ q t (List.take k q.L)).L.length):AV)=(.vec 1000002 11 0 (failS (goneQ q t (List.take k q.L)) (q.L.getD k ls0)).L.length)∧((vi (↑(goneQ q t (List.take k q.L)).L.length)):AV)=(vi (↑(failS (goneQ q t (List.take k q.L)) (q.L.getD k ls0)).L.length))∧T0∧True)∧T0∧T0∧T0∧T0∧T0∧T0∧True)) (by kernel_rfl) (by kernel_rfl) ?_
    exact⟨⟨rfl,rfl,rfl,congrArg (fun n:List Ls=>AV.vec 1000002 11 0 n.length) hL'.symm,congrArg (fun n:List Ls=>vi n.length) hL'.symm,rfl,trivial⟩,rfl,rfl,rfl,rfl,rfl,rfl,trivial⟩
   ·obtain ⟨e1,e2⟩:=hc hd
    refine⟨k+1,?_,hk2,by show q.L.length-(k+1)<q.L.length-k;omega⟩
    simp only[e1,e2]
    generalize restL t (q.L.take k)=R at hR⊢
    generalize goneQ q t (q.L.take k)=qk at eL⊢
    refine(AS.leX.moves [(44,905)] _ rfl).trans ((AS.leX.of_le (st':=S38f t (k+1) qk (R.length+1) (fun i=>bif i.blt R.length then lsF R i else elemF true 11 (lsL (q.L.getD k ls0)) (0+(i-R.length)))) ?_).trans ((AS.leX.rowF _ 5 905 (R.length+1) (agg:=lK) (sz:=11) (f:=fun i=>bif i.blt R.length then lsF R i else elemF true 11 (lsL (q.L.getD k ls0)) (0+(i-R.length))) (lsF (R++[q.L.getD k ls0])) rfl rfl rfl (by kernel_rfl) fun j hj=>lsF_app hj).trans (.of_le ?_)))
    ·refine AS.leZ [] [0] (b:=((T0∧T0∧T0∧T0∧T0∧T0∧True)∧((some [(.arr ⟨true,41,false,none⟩ 11 (fun i=>bif i.blt R.length then lsF R i else elemF true 11 [DV.con (Value.int IntKind.i64 (qk.L.getD (0+(↑k:Int).toNat) ls0).no),DV.con (Value.int IntKind.i64 (qk.L.getD (0+(↑k:Int).toNat) ls0).un),DV.con (Value.string (qk.L.getD (0+(↑k:Int).toNat) ls0).wk),DV.con (Value.string (qk.L.getD (0+(↑k:Int).toNat) ls0).w.j.st),DV.con (Value.string (qk.L.getD (0+(↑k:Int).toNat) ls0).w.j.ex),DV.con (Value.int IntKind.i64 (qk.L.getD (0+(↑k:Int).toNat) ls0).w.j.no),DV.con (Value.int IntKind.i64 (qk.L.getD (0+(↑k:Int).toNat) ls0).w.j.ve),DV.con (Value.int IntKind.i64 (qk.L.getD (0+(↑k:Int).toNat) ls0).w.j.pr),DV.con (Value.int IntKind.i64 (qk.L.getD (0+(↑k:Int).toNat) ls0).w.tr),DV.con (Value.int IntKind.i64 (qk.L.getD (0+(↑k:Int).toNat) ls0).w.ar),DV.con (Value.int IntKind.i64 (qk.L.getD (0+(↑k:Int).toNat) ls0).w.fr)] (0+(i-R.length))))]):(Option (List AV)))=(some [(.arr ⟨true,41,false,none⟩ 11 (fun i=>bif i.blt R.length then lsF R i else elemF true 11 [DV.con (Value.int IntKind.i64 (q.L.getD k ls0).no),DV.con (Value.int IntKind.i64 (q.L.getD k ls0).un),DV.con (Value.string (q.L.getD k ls0).wk),DV.con (Value.string (q.L.getD k ls0).w.j.st),DV.con (Value.string (q.L.getD k ls0).w.j.ex),DV.con (Value.int IntKind.i64 (q.L.getD k ls0).w.j.no),DV.con (Value.int IntKind.i64 (q.L.getD k ls0).w.j.ve),DV.con (Value.int IntKind.i64 (q.L.getD k ls0).w.j.pr),DV.con (Value.int IntKind.i64 (q.L.getD k ls0).w.tr),DV.con (Value.int IntKind.i64 (q.L.getD k ls0).w.ar),DV.con (Value.int IntKind.i64 (q.L.getD k ls0).w.fr)] (0+(i-R.length))))])∧T0∧T0∧T0∧T0∧T0∧True)) (by kernel_rfl) (by kernel_rfl) ?_
     rw[eL,show 0+((k:Int)).toNat=k from Nat.zero_add _]
     exact⟨⟨rfl,rfl,rfl,rfl,rfl,rfl,trivial⟩,rfl,rfl,rfl,rfl,rfl,rfl,trivial⟩
    ·refine AS.leZ [2] [] (b:=((T0∧T0∧((.vec 905 11 0 (R.length+1)):AV)=(.vec 905 11 0 (R++[q.L.getD k ls0]).length)∧T0∧T0∧T0∧True)∧T0∧T0∧T0∧T0∧T0∧T0∧True)) (by kernel_rfl) (by kernel_rfl) ?_
     exact⟨⟨rfl,rfl,congrArg (AV.vec 905 11 0) (by rw[List.length_append];rfl),rfl,rfl,rfl,trivial⟩,rfl,rfl,rfl,rfl,rfl,rfl,trivial⟩
  ·refine walkK (orc:=orc38 q ls0) (keep:=[]) (cuts:=[7]) (n:=1000) follows ?_
   refine of_rd (fun ZT ZW ZQ _ _ ZR=>((((decide ((↑k:Int)<↑(goneQ q t (List.take k q.L)).L.length))=true)→ZW [cd Tryz.f38 [1,1,1,1,0,1,0,0,1,1,0,0],(.blk 1),cd Tryz.f38 [1,1,1,1,0,1,0,0,1,1,1]] (stS ZT [0]) ZR)∧(((decide ((↑k:Int)<↑(goneQ q t (List.take k q.L)).L.length))=false)→ZW [cd Tryz.f38 [1,1,1,1,1]] (stS ZT [1]) ZQ))) (by kernel_rfl) ?_
   obtain rfl:k=q.L.length:=by omega
   rw[List.take_length] at eL
   rw[List.take_length]
   refine⟨fun hd=>absurd (of_decide_eq_true hd) (by rw[eL];omega),fun _=>?_⟩
   refine walkK (orc:=orc38 q ls0) (keep:=[]) (cuts:=[]) (n:=1000) follows ?_
   refine of_tr (fun _ _ _ _=>(fun Za=>((ZS ((vb true):AV))∧(Za:(Option (List AV)))=Za∧((some [(.arr ⟨true,39,false,none⟩ 8 (wtF (goneQ q t q.L).W))]):(Option (List AV)))=(some [(.arr ⟨true,39,false,none⟩ 8 (wtF (goneQ q t q.L).W))])∧((some [(.arr ⟨true,41,false,none⟩ 11 (lsF (restL t q.L)))]):(Option (List AV)))=(some [(.arr ⟨true,41,false,none⟩ 11 (lsF (restL t q.L)))])∧((some [(.arr ⟨true,35,false,none⟩ 5 (jbF (goneQ q t q.L).D))]):(Option (List AV)))=(some [(.arr ⟨true,35,false,none⟩ 5 (jbF (goneQ q t q.L).D))])∧((some [(.mp none (svF (goneQ q t q.L).sv) (goneQ q t q.L).has)]):(Option (List AV)))=(some [(.mp none (svF (goneQ q t q.L).sv) (goneQ q t q.L).has)])∧True)) (some [(vi (goneQ q t q.L).ll),(vi (goneQ q t q.L).lt),(vi (goneQ q t q.L).lp),(vi (goneQ q t q.L).ls),(vi (goneQ q t q.L).tick),(vi (goneQ q t q.L).arr),(vi (goneQ q t q.L).num),(.vec 901 8 0 (goneQ q t q.L).W.length),(.vec 902 11 0 (restL t q.L).length),(.vec 903 5 0 (goneQ q t q.L).D.length),(.mapv 1000004)])) (by kernel_rfl) ?_
   exact⟨rfl,rfl,rfl,rfl,rfl,rfl,trivial⟩
end Go.Proofs
/- What the queue asks. -/
namespace Go.Proofs
open Go Go.Ab Go.RowKit
set_option maxHeartbeats 4000000
set_option maxRecDepth 100000
variable {G:IH}
def inB (n a b:Int):Bool:=decide (n≥a)&&decide (n≤b)
theorem f34 (n a b:Int):FnOK Tryz.prog G 34 [di n,di a,di b] (db (inB n a b)):=by
 refine FnOK.walkK (orc:=noO) (keep:=[]) follows Tryz.func34 rfl Tryz.call34 ?_
 refine of_tr (fun _ _ _ _=>(((db (decide (n≥a)&&decide (n≤b))):DV)=(db (inB n a b)))) (by kernel_rfl) ?_
 rfl
def rightJ (j:Jb):Bool:=nameB j.st&&nameB j.ex&&inB j.no 1 16&&inB j.ve 1 1048576&&inB j.pr 0 9
noncomputable def d48:Oracle:=fun f xs=>match f,xs with
 | 39,[.con (.string s)]=>some (db (nameB s))
 | 34,[.con (.int .i64 n),.con (.int .i64 a),.con (.int .i64 b)]=>some (db (inB n a b))
 | _,_=>none
theorem f48 (j:Jb) (h1:j.st.size≤1000000) (h2:j.ex.size≤1000000):FnOK Tryz.prog G 48 [jbD j] (db (rightJ j)):=by
 refine FnOK.walkK (orc:=d48) (keep:=[]) follows Tryz.func48 rfl Tryz.call48 ?_
 refine of_tr (fun _ _ _ ZK=>((ZK 39 [(ds j.st)] (db (nameB j.st))∧(((nameB j.st)=true)→ZK 39 [(ds j.ex)] (db (nameB j.ex)))∧(((nameB j.st&&nameB j.ex)=true)→ZK 34 [(di j.no),(di 1),(di 16)] (db (inB j.no 1 16)))∧(((nameB j.st&&nameB j.ex&&inB j.no 1 16)=true)→ZK 34 [(di j.ve),(di 1),(di 1048576)] (db (inB j.ve 1 1048576)))∧(((nameB j.st&&nameB j.ex&&inB j.no 1 16&&inB j.ve 1 1048576)=true)→ZK 34 [(di j.pr),(di 0),(di 9)] (db (inB j.pr 0 9))))∧((db (nameB j.st&&nameB j.ex&&inB j.no 1 16&&inB j.ve 1 1048576&&inB j.pr 0 9)):DV)=(db (rightJ j)))) (by kernel_rfl) ?_
 exact⟨⟨f39 _ h1,fun _=>f39 _ h2,fun _=>f34 _ _ _,fun _=>f34 _ _ _,fun _=>f34 _ _ _⟩,rfl⟩
def heldN (q:Qm) (s:ByteArray):Nat:=q.L.countP fun l=>decide (l.w.j.st=s)
noncomputable def S40 (q:Qm) (s:ByteArray) (k:Nat) (n:Int):AS:=⟨regs Tryz.f40.ntmps [(0,.box 1000000 0),(1,vs s),(5,vi n),(11,.vec 1000002 11 0 q.L.length),(12,vi q.L.length),(13,vi k)],qP q⟩
theorem f40 (q:Qm) (s:ByteArray) (hl:q.L.length≤1000000):FnM Tryz.prog G 40 [.box 1000000 0,.d (ds s)] (qP q) (.d (di (heldN q s))) (qP q):=by
 refine FnM.of_body (mv:=[]) (by kernel_rfl) Tryz.func40 rfl Tryz.call40 ?_
 refine walkK (orc:=noO) (keep:=[]) (cuts:=[]) (n:=1000) follows ?_
 refine of_tr (fun ZT ZW ZQ _=>ZW [cd Tryz.f40 [1,1,0,1,0],(.blk 0),cd Tryz.f40 [1,1,1]] (stS ZT []) ZQ) (by kernel_rfl) ?_
 refine AWP.loop (c:=cAt (bodyOf Tryz.f40) [1,1,0,1,0,0]) (by kernel_rfl) (fun k:Nat=>S40 q s k ((q.L.take k).countP fun l=>decide (l.w.j.st=s))) (fun k=>k≤q.L.length) (fun k=>q.L.length-k) 0 ?_ (Nat.zero_le _) ?_
 ·exact AS.leA (by kernel_rfl)
 ·intro k hk
  show AWP _ _ _ (S40 q s k ((q.L.take k).countP fun l=>decide (l.w.j.st=s))) _
  by_cases hk2:k<q.L.length
  ·have hc:(q.L.take k).countP (fun l=>decide (l.w.j.st=s))≤k:=Nat.le_trans List.countP_le_length (by rw[List.length_take];omega)
   have e:(q.L.take (k+1)).countP (fun l=>decide (l.w.j.st=s))=(q.L.take k).countP (fun l=>decide (l.w.j.st=s))+(if (q.L.getD k ls0).w.j.st=s then 1 else 0):=by
    rw[take_next hk2,List.countP_append,List.countP_singleton]
    by_cases h:(q.L.getD k ls0).w.j.st=s<;>simp[h]
   refine walkK (orc:=noO) (keep:=[]) (cuts:=[8]) (n:=1000) follows ?_
   refine of_rd (fun ZT ZW ZQ _ ZA _=>((((decide ((↑k:Int)<↑q.L.length))=true)→(((0≤(↑k:Int))∧((↑k:Int)<↑q.L.length))∧((((q.L.getD (0+(↑k:Int).toNat) ls0).w.j.st.toList==s.toList)=true)→((I64 (↑(List.countP (fun l=>decide (l.w.j.st=s)) (List.take k q.L))+1))∧(I64 (↑k+1))∧(ZA (stS ZT [0,0]))))∧((((q.L.getD (0+(↑k:Int).toNat) ls0).w.j.st.toList==s.toList)=false)→((I64 (↑k+1))∧(ZA (stS ZT [0,1]))))))∧(((decide ((↑k:Int)<↑q.L.length))=false)→ZW [cd Tryz.f40 [1,1,1]] (stS ZT [1]) ZQ))) (by kernel_rfl) ?_
   rw[show 0+((k:Int)).toNat=k from Nat.zero_add _,toList_beq]
   refine⟨fun _=>⟨⟨by omega,by omega⟩,fun hd=>⟨⟨by omega,by omega⟩,⟨by omega,by omega⟩,?_⟩,fun hd=>⟨⟨by omega,by omega⟩,?_⟩⟩,fun hd=>absurd (of_decide_eq_false hd) (by omega)⟩
   ·refine Again.mk (k+1) ?_ hk2 (by show q.L.length-(k+1)<q.L.length-k;omega)
    simp only[e,if_pos (of_decide_eq_true hd)]
    exact AS.leA (by kernel_rfl)
   ·refine Again.mk (k+1) ?_ hk2 (by show q.L.length-(k+1)<q.L.length-k;omega)
    simp only[e,if_neg (of_decide_eq_false hd)]
    exact AS.leA (by kernel_rfl)
  ·obtain rfl:k=q.L.length:=by omega
   rw[List.take_length]
   refine walkK (orc:=noO) (keep:=[]) (cuts:=[4]) (n:=1000) follows ?_
   refine of_rd (fun ZT ZW ZQ _ _ ZR=>((((decide ((↑q.L.length:Int)<↑q.L.length))=true)→ZW [cd Tryz.f40 [1,1,0,1,0,0,1,1,0,0],(.blk 1),cd Tryz.f40 [1,1,0,1,0,0,1,1,1]] (stS ZT [0]) ZR)∧(((decide ((↑q.L.length:Int)<↑q.L.length))=false)→ZW [cd Tryz.f40 [1,1,1]] (stS ZT [1]) ZQ))) (by kernel_rfl) ?_
   refine⟨fun hd=>absurd (of_decide_eq_true hd) (by omega),fun _=>?_⟩
   refine walkK (orc:=noO) (keep:=[]) (cuts:=[]) (n:=1000) follows ?_
   refine of_tr (fun _ _ _ _=>(fun Za=>((ZS ((vi (↑(heldN q s))):AV))∧(Za:(Option (List AV)))=Za∧((some [(.arr ⟨true,39,false,none⟩ 8 (wtF q.W))]):(Option (List AV)))=(some [(.arr ⟨true,39,false,none⟩ 8 (wtF q.W))])∧((some [(.arr ⟨true,41,false,none⟩ 11 (lsF q.L))]):(Option (List AV)))=(some [(.arr ⟨true,41,false,none⟩ 11 (lsF q.L))])∧((some [(.arr ⟨true,35,false,none⟩ 5 (jbF q.D))]):(Option (List AV)))=(some [(.arr ⟨true,35,false,none⟩ 5 (jbF q.D))])∧((some [(.mp none (svF q.sv) q.has)]):(Option (List AV)))=(some [(.mp none (svF q.sv) q.has)])∧True)) (some [(vi q.ll),(vi q.lt),(vi q.lp),(vi q.ls),(vi q.tick),(vi q.arr),(vi q.num),(.vec 1000001 8 0 q.W.length),(.vec 1000002 11 0 q.L.length),(.vec 1000003 5 0 q.D.length),(.mapv 1000004)])) (by kernel_rfl) ?_
   exact⟨rfl,rfl,rfl,rfl,rfl,rfl,trivial⟩
def dimE (a b c:Int):Int:=if a≠0 then a else if b≠0 then b else c
abbrev slc3 (a b c:Int):DV:=.slc 1 3 (elemF false 1 [di a,di b,di c])
noncomputable def S56 (a b c:Int) (k:Nat):AS:=⟨regs Tryz.f56.ntmps [(0,.d (slc3 a b c)),(3,vi 0),(6,.d (slc3 a b c)),(7,vi 3),(8,vi k)],[]⟩
theorem f56 (a b c:Int):FnOK Tryz.prog G 56 [slc3 a b c] (di (dimE a b c)):=by
 refine FnOK.walkK (orc:=noO) (keep:=[]) follows Tryz.func56 rfl Tryz.call56 ?_
 refine of_tr (fun ZT ZW ZQ _=>ZW [cd Tryz.f56 [1,1,0,1,0],(.blk 0),cd Tryz.f56 [1,1,1]] (stS ZT []) ZQ) (by kernel_rfl) ?_
 refine AWP.loop (c:=cAt (bodyOf Tryz.f56) [1,1,0,1,0,0]) (by kernel_rfl) (S56 a b c) (fun k=>k≤3∧(1≤k→a=0)∧(2≤k→b=0)∧(3≤k→c=0)) (fun k=>3-k) 0 ?_ ⟨by decide,fun h=>absurd h (by decide),fun h=>absurd h (by decide),fun h=>absurd h (by decide)⟩ ?_
 ·exact AS.leA (by kernel_rfl)
 ·rintro k ⟨hk,h1,h2,h3⟩
  have hk4:k=0∨k=1∨k=2∨k=3:=by omega
  rcases hk4 with rfl|rfl|rfl|rfl
  ·refine walkK (orc:=noO) (keep:=[]) (cuts:=[8]) (n:=1000) follows ?_
   refine of_rd (fun ZT ZW ZQ _ ZA _=>(((true=true)→((((0:Int)≤(0:Int))∧(0<(↑3:Int)))∧(((a != 0)=true)→(((di a):DV)=(di (dimE a b c))))∧(((a != 0)=false)→((I64 (0+1))∧(ZA (stS ZT [0,1]))))))∧((true=false)→ZW [cd Tryz.f56 [1,1,1]] (stS ZT [1]) ZQ))) (by kernel_rfl) ?_
   refine⟨fun _=>⟨⟨by decide,by decide⟩,fun hd=>?_,fun hd=>⟨⟨by decide,by decide⟩,?_⟩⟩,fun hd=>by cases hd⟩
   ·unfold dimE
    rw[if_pos (bne_iff_ne.1 hd)]
   ·have hz:a=0:=by simpa using hd
    refine Again.mk 1 ?_ ⟨by decide,fun _=>hz,fun h=>absurd h (by decide),fun h=>absurd h (by decide)⟩ (by decide)
    exact AS.leA (by kernel_rfl)
  ·refine walkK (orc:=noO) (keep:=[]) (cuts:=[8]) (n:=1000) follows ?_
   refine of_rd (fun ZT ZW ZQ _ ZA _=>(((true=true)→((((0:Int)≤(1:Int))∧(1<(↑3:Int)))∧(((b != 0)=true)→(((di b):DV)=(di (dimE a b c))))∧(((b != 0)=false)→((I64 (1+1))∧(ZA (stS ZT [0,1]))))))∧((true=false)→ZW [cd Tryz.f56 [1,1,1]] (stS ZT [1]) ZQ))) (by kernel_rfl) ?_
   refine⟨fun _=>⟨⟨by decide,by decide⟩,fun hd=>?_,fun hd=>⟨⟨by decide,by decide⟩,?_⟩⟩,fun hd=>by cases hd⟩
   ·unfold dimE
    rw[if_neg (fun h=>h (h1 (by decide))),if_pos (bne_iff_ne.1 hd)]
   ·have hz:b=0:=by simpa using hd
    refine Again.mk 2 ?_ ⟨by decide,fun _=>h1 (by decide),fun _=>hz,fun h=>absurd h (by decide)⟩ (by decide)
    exact AS.leA (by kernel_rfl)
  ·refine walkK (orc:=noO) (keep:=[]) (cuts:=[8]) (n:=1000) follows ?_
   refine of_rd (fun ZT ZW ZQ _ ZA _=>(((true=true)→((((0:Int)≤(2:Int))∧(2<(↑3:Int)))∧(((c != 0)=true)→(((di c):DV)=(di (dimE a b c))))∧(((c != 0)=false)→((I64 (2+1))∧(ZA (stS ZT [0,1]))))))∧((true=false)→ZW [cd Tryz.f56 [1,1,1]] (stS ZT [1]) ZQ))) (by kernel_rfl) ?_
   refine⟨fun _=>⟨⟨by decide,by decide⟩,fun hd=>?_,fun hd=>⟨⟨by decide,by decide⟩,?_⟩⟩,fun hd=>by cases hd⟩
   ·unfold dimE
    rw[if_neg (fun h=>h (h1 (by decide))),if_neg (fun h=>h (h2 (by decide)))]
   ·have hz:c=0:=by simpa using hd
    refine Again.mk 3 ?_ ⟨by decide,fun _=>h1 (by decide),fun _=>h2 (by decide),fun _=>hz⟩ (by decide)
    exact AS.leA (by kernel_rfl)
  ·refine walkK (orc:=noO) (keep:=[]) (cuts:=[4]) (n:=1000) follows ?_
   refine of_rd (fun ZT ZW ZQ _ _ ZR=>(((false=true)→ZW [cd Tryz.f56 [1,1,0,1,0,0,1,1,0,0],(.blk 1),cd Tryz.f56 [1,1,0,1,0,0,1,1,1]] (stS ZT [0]) ZR)∧((false=false)→ZW [cd Tryz.f56 [1,1,1]] (stS ZT [1]) ZQ))) (by kernel_rfl) ?_
   refine⟨fun hd=>(by cases hd),fun _=>?_⟩
   refine walkK (orc:=noO) (keep:=[]) (cuts:=[]) (n:=1000) follows ?_
   refine of_tr (fun _ _ _ _=>(((di 0):DV)=(di (dimE a b c)))) (by kernel_rfl) ?_
   unfold dimE
   rw[if_neg (fun h=>h (h1 (by decide))),if_neg (fun h=>h (h2 (by decide))),h3 (by decide)]
def beforeN (q:Qm) (a b:Wt):Int:=dimE (cmpZ b.j.pr a.j.pr) (cmpZ (q.sv a.j.st) (q.sv b.j.st)) (cmpZ a.ar b.ar)
def HasOK (q:Qm):Prop:=∀k,q.has (.string k)=false→q.sv k=0
theorem HasOK.imp {q:Qm} (h:HasOK q) (k:ByteArray) (e:q.has (.string k)=false):(di 0).imp (svF q.sv (.string k)):=by
 show (di 0).imp (di (q.sv k))
 rw[h k e]
 exact fun _ _ h=>h
noncomputable def d41 (q:Qm) (u v:Wt):Oracle:=fun f xs=>match f,xs with
 | 57,[.con (.int .i64 a),.con (.int .i64 b)]=>some (di (cmpZ a b))
 | 56,_=>some (di (beforeN q u v))
 | _,_=>none
theorem f41 (q:Qm) (a b:Wt) (hh:HasOK q):FnM Tryz.prog G 41 [.box 1000000 0,.d (wtD a),.d (wtD b)] (qP q) (.d (di (beforeN q a b))) (qP q):=by
 refine FnM.of_body (mv:=[]) (by kernel_rfl) Tryz.func41 rfl Tryz.call41 ?_
 refine walkK (orc:=d41 q a b) (keep:=[]) (cuts:=[]) (n:=1000) follows ?_
 refine of_tr (fun _ _ _ ZK=>(fun Za=>((ZK 57 [(di b.j.pr),(di a.j.pr)] (di (cmpZ b.j.pr a.j.pr))∧(((q.has (Value.string a.j.st))=false)→((di 0).imp (svF q.sv (Value.string a.j.st))))∧(((q.has (Value.string b.j.st))=false)→((di 0).imp (svF q.sv (Value.string b.j.st))))∧ZK 57 [(di (q.sv a.j.st)),(di (q.sv b.j.st))] (di (cmpZ (q.sv a.j.st) (q.sv b.j.st)))∧ZK 57 [(di a.ar),(di b.ar)] (di (cmpZ a.ar b.ar))∧ZK 56 [(.slc 1 3 (elemF false 1 [(di (cmpZ b.j.pr a.j.pr)),(di (cmpZ (q.sv a.j.st) (q.sv b.j.st))),(di (cmpZ a.ar b.ar))]))] (di (beforeN q a b)))∧(ZS ((vi (beforeN q a b)):AV))∧(Za:(Option (List AV)))=Za∧((some [(.arr ⟨true,39,false,none⟩ 8 (wtF q.W))]):(Option (List AV)))=(some [(.arr ⟨true,39,false,none⟩ 8 (wtF q.W))])∧((some [(.arr ⟨true,41,false,none⟩ 11 (lsF q.L))]):(Option (List AV)))=(some [(.arr ⟨true,41,false,none⟩ 11 (lsF q.L))])∧((some [(.arr ⟨true,35,false,none⟩ 5 (jbF q.D))]):(Option (List AV)))=(some [(.arr ⟨true,35,false,none⟩ 5 (jbF q.D))])∧((some [(.mp none (svF q.sv) q.has)]):(Option (List AV)))=(some [(.mp none (svF q.sv) q.has)])∧True)) (some [(vi q.ll),(vi q.lt),(vi q.lp),(vi q.ls),(vi q.tick),(vi q.arr),(vi q.num),(.vec 1000001 8 0 q.W.length),(.vec 1000002 11 0 q.L.length),(.vec 1000003 5 0 q.D.length),(.mapv 1000004)])) (by kernel_rfl) ?_
 exact⟨⟨f57 _ _,hh.imp _,hh.imp _,f57 _ _,f57 _ _,f56 _ _ _⟩,rfl,rfl,rfl,rfl,rfl,rfl,trivial⟩
end Go.Proofs
/- Is a job anywhere? -/
namespace Go.Proofs
open Go Go.Ab Go.RowKit
set_option maxHeartbeats 4000000
set_option maxRecDepth 100000
variable {G:IH}
def hasB (q:Qm) (k:Jb) (v:Int):Bool:=q.W.any (fun w=>sameB k v w.j)||q.L.any (fun l=>sameB k v l.w.j)||q.D.any (sameB k v)
noncomputable def d49 (q:Qm) (k:Jb) (v:Int):Oracle:=fun f _=>match f with
 | 60=>some (db (q.W.any fun w=>sameB k v w.j))
 | 62=>some (db (q.L.any fun l=>sameB k v l.w.j))
 | 64=>some (db (q.D.any (sameB k v)))
 | _=>none
theorem zadd {f:Nat→DV} {n sz:Nat} {r:DV} {g:FuncId} {xs:List DV} (h:FnOK Tryz.prog G g (.slc sz n f :: xs) r):FnOK Tryz.prog G g (.slc sz n (fun i=>f (0+i)) :: xs) r:=
 h.args fun k us hu=>DV.rels_cons (fun v hv=>DV.rel_slc_congr (fun i hi=>by rw[Nat.zero_add]) hv) (fun _ h=>h) us hu
theorem f49 (q:Qm) (k:Jb) (v:Int) (h1:q.W.length≤1000000) (h2:q.L.length≤1000000) (h3:q.D.length≤1000000):FnM Tryz.prog G 49 [.box 1000000 0,.d (sameC k v)] (qP q) (.d (db (hasB q k v))) (qP q):=by
 refine FnM.of_body (mv:=[]) (by kernel_rfl) Tryz.func49 rfl Tryz.call49 ?_
 refine walkK (orc:=d49 q k v) (keep:=[]) (cuts:=[1]) (n:=1000) follows ?_
 refine of_tr (fun ZT ZW ZQ _=>ZW [cd Tryz.f49 [1]] (stS ZT []) ZQ) (by kernel_rfl) ?_
 refine AWP.freezeB (dl:=[sameC k v]) 3 (by kernel_rfl) rfl ?_
 refine walkK (orc:=d49 q k v) (keep:=[]) (cuts:=[]) (n:=1000) follows ?_
 refine of_tr (fun _ _ _ ZK=>(fun Za Zb=>((ZK 60 [(.slc 8 q.W.length (fun i=>wtF q.W (0+i))),(.clo (.func 61) [] [(.ptr [Zb])])] (db (q.W.any fun w=>sameB k v w.j))∧(((!q.W.any fun w=>sameB k v w.j)=true)→ZK 62 [(.slc 11 q.L.length (fun i=>lsF q.L (0+i))),(.clo (.func 63) [] [(.ptr [Zb])])] (db (q.L.any fun l=>sameB k v l.w.j)))∧(((!((q.W.any fun w=>sameB k v w.j)||q.L.any fun l=>sameB k v l.w.j))=true)→ZK 64 [(.slc 5 q.D.length (fun i=>jbF q.D (0+i))),Zb] (db (q.D.any (sameB k v)))))∧((vb (((q.W.any fun w=>sameB k v w.j)||q.L.any fun l=>sameB k v l.w.j)||q.D.any (sameB k v))):AV)=(vb (hasB q k v))∧(Za:(Option (List AV)))=Za∧((some [(.arr ⟨true,39,false,none⟩ 8 (wtF q.W))]):(Option (List AV)))=(some [(.arr ⟨true,39,false,none⟩ 8 (wtF q.W))])∧((some [(.arr ⟨true,41,false,none⟩ 11 (lsF q.L))]):(Option (List AV)))=(some [(.arr ⟨true,41,false,none⟩ 11 (lsF q.L))])∧((some [(.arr ⟨true,35,false,none⟩ 5 (jbF q.D))]):(Option (List AV)))=(some [(.arr ⟨true,35,false,none⟩ 5 (jbF q.D))])∧((some [(.mp none (svF q.sv) q.has)]):(Option (List AV)))=(some [(.mp none (svF q.sv) q.has)])∧True)) (some [(vi q.ll),(vi q.lt),(vi q.lp),(vi q.ls),(vi q.tick),(vi q.arr),(vi q.num),(.vec 1000001 8 0 q.W.length),(.vec 1000002 11 0 q.L.length),(.vec 1000003 5 0 q.D.length),(.mapv 1000004)]) ((.clo (.func 65) [] [(.ptr [(ds k.st),(ds k.ex),(di k.no)]),(.ptr [(di v)])]):DV)) (by kernel_rfl) ?_
 refine⟨⟨zadd (f60 61 (.ptr [sameC k v]) (fun w=>sameB k v w.j) q.W h1 fun i hi=>f61 _ _ _ (q.W.getD i wt0) (f65 _ _ _)),fun _=>zadd (f62 63 (.ptr [sameC k v]) (fun l=>sameB k v l.w.j) q.L h2 fun i hi=>f63 _ _ _ (q.L.getD i ls0) (f65 _ _ _)),fun _=>zadd (f64b 65 (.ptr (keyL k)) (.ptr [di v]) (sameB k v) q.D h3 fun i hi=>f65 (q.D.getD i jb0) _ _)⟩,rfl,rfl,rfl,rfl,rfl,rfl,trivial⟩
end Go.Proofs
/- The end of a lease. -/
namespace Go.Proofs
open Go Go.Ab Go.RowKit
set_option maxHeartbeats 4000000
set_option maxRecDepth 100000
variable {G:IH}
def badT (q:Qm) (t:Int):Bool:=decide (t<q.tick)||decide (t>1099511627776)
def noI (q:Qm) (n:Int):Int:=idxI (fun l=>l.no==n) q.L
noncomputable def d43 (q:Qm) (n:Int):Oracle:=fun f _=>match f with
 | 46=>some (di (noI q n))
 | _=>none
noncomputable def m43 (b:Bool) (q:Qm) (i:Nat):FuncId→List AV→List (Nat×List AV)→Option (AV×List (Nat×List AV)):=fun f _ _=>match f with
 | 38=>some (.d (db b),qG q)
 | 59=>some (.vec 900 11 0 (q.L.length-1),[(1000000,[.dead]),(900,[.arr lK 11 (lsF (q.L.eraseIdx i))])])
 | _=>none
noncomputable def orc43 (b:Bool) (q:Qm) (n:Int) (i:Nat):Orc:={ d:=d43 q n,m:=m43 b q i }
theorem f43_bad (q:Qm) (n t:Int) (h:badT q t=true) (h38:FnM Tryz.prog G 38 [.box 1000000 0,.d (di t)] (qP q) (.d (db false)) (qG q)):FnM Tryz.prog G 43 [.box 1000000 0,.d (di n),.d (di t)] (qP q) (.d (.tup [lsD ls0,di 2])) (qG q):=by
 refine FnM.of_body (mv:=[(13901,901),(13902,902),(13903,903)]) (by kernel_rfl) Tryz.func43 rfl Tryz.call43 ?_
 refine walkK (orc:=orc43 false q n 0) (keep:=[]) (cuts:=[3]) (n:=1000) follows ?_
 refine of_tr (fun ZT ZW ZQ _=>(fun Za Zb Zc Zd=>(FnM Tryz.prog G 38 [(.box 1000000 0),(vi t)] [(1000000,[(vi q.ll),(vi q.lt),(vi q.lp),(vi q.ls),(vi q.tick),(vi q.arr),(vi q.num),(.vec 1000001 8 0 q.W.length),(.vec 1000002 11 0 q.L.length),(.vec 1000003 5 0 q.D.length),(.mapv 1000004)]),(1000001,[Zc]),(1000002,[Zb]),(1000003,[Zd]),(1000004,[(.mp none (svF q.sv) q.has)])] (vb false) [(1000000,[(vi q.ll),(vi q.lt),(vi q.lp),(vi q.ls),(vi q.tick),(vi q.arr),(vi q.num),(.vec 901 8 0 q.W.length),(.vec 902 11 0 q.L.length),(.vec 903 5 0 q.D.length),(.mapv 1000004)]),(901,[Zc]),(902,[Zb]),(903,[Zd]),(1000004,[(.mp none (svF q.sv) q.has)])]∧((true=true)→(((.d (.tup [(.agg [(di 0),(di 0),(ds (ByteArray.mk #[])),(ds (ByteArray.mk #[])),(ds (ByteArray.mk #[])),(di 0),(di 0),(di 0),(di 0),(di 0),(di 0)]),(di 2)])):AV)=(.d (.tup [(.agg [(di 0),(di 0),(ds ByteArray.empty),(ds ByteArray.empty),(ds ByteArray.empty),(di 0),(di 0),(di 0),(di 0),(di 0),(di 0)]),(di 2)]))∧(Za:(Option (List AV)))=Za∧((some [Zc]):(Option (List AV)))=(some [Zc])∧((some [Zb]):(Option (List AV)))=(some [Zb])∧((some [Zd]):(Option (List AV)))=(some [Zd])∧((some [(.mp none (svF q.sv) q.has)]):(Option (List AV)))=(some [(.mp none (svF q.sv) q.has)])∧True))∧((true=false)→ZW [cd Tryz.f43 [1,1]] (stS ZT [1]) ZQ))) (some [(vi q.ll),(vi q.lt),(vi q.lp),(vi q.ls),(vi q.tick),(vi q.arr),(vi q.num),(.vec 901 8 0 q.W.length),(.vec 902 11 0 q.L.length),(.vec 903 5 0 q.D.length),(.mapv 1000004)]) ((.arr ⟨true,41,false,none⟩ 11 (lsF q.L)):AV) ((.arr ⟨true,39,false,none⟩ 8 (wtF q.W)):AV) ((.arr ⟨true,35,false,none⟩ 5 (jbF q.D)):AV)) (by kernel_rfl) ?_
 exact⟨h38,fun _=>⟨rfl,rfl,rfl,rfl,rfl,rfl,trivial⟩,fun h=>by cases h⟩
theorem f43_none (q q1:Qm) (n t:Int) (hi:noI q1 n<0) (hl:q1.L.length≤1000000) (h38:FnM Tryz.prog G 38 [.box 1000000 0,.d (di t)] (qP q) (.d (db true)) (qG q1)):FnM Tryz.prog G 43 [.box 1000000 0,.d (di n),.d (di t)] (qP q) (.d (.tup [lsD ls0,di 7])) (qG q1):=by
 have h46:=zadd (f46 (G:=G) 58 (.ptr [di n]) (fun l=>l.no==n) q1.L hl fun i hi=>f58 n (q1.L.getD i ls0))
 refine FnM.of_body (mv:=[(13901,901),(13902,902),(13903,903)]) (by kernel_rfl) Tryz.func43 rfl Tryz.call43 ?_
 refine walkK (orc:=orc43 true q1 n 0) (keep:=[]) (cuts:=[3]) (n:=1000) follows ?_
 refine of_tr (fun ZT ZW ZQ _=>(fun Za Zb Zc Zd=>(FnM Tryz.prog G 38 [(.box 1000000 0),(vi t)] [(1000000,[(vi q.ll),(vi q.lt),(vi q.lp),(vi q.ls),(vi q.tick),(vi q.arr),(vi q.num),(.vec 1000001 8 0 q.W.length),(.vec 1000002 11 0 q.L.length),(.vec 1000003 5 0 q.D.length),(.mapv 1000004)]),(1000001,[(.arr ⟨true,39,false,none⟩ 8 (wtF q.W))]),(1000002,[(.arr ⟨true,41,false,none⟩ 11 (lsF q.L))]),(1000003,[(.arr ⟨true,35,false,none⟩ 5 (jbF q.D))]),(1000004,[(.mp none (svF q.sv) q.has)])] (vb true) [(1000000,[(vi q1.ll),(vi q1.lt),(vi q1.lp),(vi q1.ls),(vi q1.tick),(vi q1.arr),(vi q1.num),(.vec 901 8 0 q1.W.length),(.vec 902 11 0 q1.L.length),(.vec 903 5 0 q1.D.length),(.mapv 1000004)]),(901,[Zc]),(902,[Zb]),(903,[Zd]),(1000004,[(.mp none (svF q1.sv) q1.has)])]∧((false=true)→(((.d (.tup [(.agg [(di 0),(di 0),(ds (ByteArray.mk #[])),(ds (ByteArray.mk #[])),(ds (ByteArray.mk #[])),(di 0),(di 0),(di 0),(di 0),(di 0),(di 0)]),(di 2)])):AV)=(.d (.tup [(.agg [(di 0),(di 0),(ds ByteArray.empty),(ds ByteArray.empty),(ds ByteArray.empty),(di 0),(di 0),(di 0),(di 0),(di 0),(di 0)]),(di 7)]))∧(Za:(Option (List AV)))=Za∧((some [Zc]):(Option (List AV)))=(some [Zc])∧((some [Zb]):(Option (List AV)))=(some [Zb])∧((some [Zd]):(Option (List AV)))=(some [Zd])∧((some [(.mp none (svF q1.sv) q1.has)]):(Option (List AV)))=(some [(.mp none (svF q1.sv) q1.has)])∧True))∧((false=false)→ZW [cd Tryz.f43 [1,1]] (stS ZT [1]) ZQ))) (some [(vi q1.ll),(vi q1.lt),(vi q1.lp),(vi q1.ls),(vi q1.tick),(vi q1.arr),(vi q1.num),(.vec 901 8 0 q1.W.length),(.vec 902 11 0 q1.L.length),(.vec 903 5 0 q1.D.length),(.mapv 1000004)]) ((.arr ⟨true,41,false,none⟩ 11 (lsF q1.L)):AV) ((.arr ⟨true,39,false,none⟩ 8 (wtF q1.W)):AV) ((.arr ⟨true,35,false,none⟩ 5 (jbF q1.D)):AV)) (by kernel_rfl) ?_
 refine⟨h38,fun h=>(by cases h),fun _=>?_⟩
 refine AWP.freezeB (dl:=[di n]) 4 (by kernel_rfl) rfl ?_
 refine walkK (orc:=orc43 true q1 n 0) (keep:=[]) (cuts:=[6]) (n:=1000) follows ?_
 refine of_tr (fun ZT ZW ZQ ZK=>(fun Za=>(ZK 46 [(.slc 11 q1.L.length (fun i=>lsF q1.L (0+i))),(.clo (.func 58) [] [(.ptr [(di n)])])] (di (noI q1 n))∧(((decide (noI q1 n<0))=true)→(((.d (.tup [(.agg [(di 0),(di 0),(ds (ByteArray.mk #[])),(ds (ByteArray.mk #[])),(ds (ByteArray.mk #[])),(di 0),(di 0),(di 0),(di 0),(di 0),(di 0)]),(di 7)])):AV)=(.d (.tup [(.agg [(di 0),(di 0),(ds ByteArray.empty),(ds ByteArray.empty),(ds ByteArray.empty),(di 0),(di 0),(di 0),(di 0),(di 0),(di 0)]),(di 7)]))∧(Za:(Option (List AV)))=Za∧((some [(.arr ⟨true,39,false,none⟩ 8 (wtF q1.W))]):(Option (List AV)))=(some [(.arr ⟨true,39,false,none⟩ 8 (wtF q1.W))])∧((some [(.arr ⟨true,41,false,none⟩ 11 (lsF q1.L))]):(Option (List AV)))=(some [(.arr ⟨true,41,false,none⟩ 11 (lsF q1.L))])∧((some [(.arr ⟨true,35,false,none⟩ 5 (jbF q1.D))]):(Option (List AV)))=(some [(.arr ⟨true,35,false,none⟩ 5 (jbF q1.D))])∧((some [(.mp none (svF q1.sv) q1.has)]):(Option (List AV)))=(some [(.mp none (svF q1.sv) q1.has)])∧True))∧(((decide (noI q1 n<0))=false)→ZW [cd Tryz.f43 [1,1,1,1]] (stS ZT [1]) ZQ))) (some [(vi q1.ll),(vi q1.lt),(vi q1.lp),(vi q1.ls),(vi q1.tick),(vi q1.arr),(vi q1.num),(.vec 901 8 0 q1.W.length),(.vec 902 11 0 q1.L.length),(.vec 903 5 0 q1.D.length),(.mapv 1000004)])) (by kernel_rfl) ?_
 exact⟨h46,fun _=>⟨rfl,rfl,rfl,rfl,rfl,rfl,trivial⟩,fun h=>absurd hi (of_decide_eq_false h)⟩
theorem f43_hit (q q1:Qm) (n t:Int) (i:Nat) (hi:noI q1 n=i) (hi2:i<q1.L.length) (hl:q1.L.length≤1000000) (h38:FnM Tryz.prog G 38 [.box 1000000 0,.d (di t)] (qP q) (.d (db true)) (qG q1)):FnM Tryz.prog G 43 [.box 1000000 0,.d (di n),.d (di t)] (qP q) (.d (.tup [lsD (q1.L.getD i ls0),di 0])) (qG { q1 with L:=q1.L.eraseIdx i }):=by
 have h46:FnOK Tryz.prog G 46 _ (di (noI q1 n)):=zadd (f46 (G:=G) 58 (.ptr [di n]) (fun l=>l.no==n) q1.L hl fun i hi=>f58 n (q1.L.getD i ls0))
 refine FnM.of_body (mv:=[(13901,901),(40900,902),(13903,903)]) (by kernel_rfl) Tryz.func43 rfl Tryz.call43 ?_
 refine walkK (orc:=orc43 true q1 n i) (keep:=[]) (cuts:=[3]) (n:=1000) follows ?_
 refine of_tr (fun ZT ZW ZQ _=>(fun Za Zb=>(FnM Tryz.prog G 38 [(.box 1000000 0),(vi t)] [(1000000,[(vi q.ll),(vi q.lt),(vi q.lp),(vi q.ls),(vi q.tick),(vi q.arr),(vi q.num),(.vec 1000001 8 0 q.W.length),(.vec 1000002 11 0 q.L.length),(.vec 1000003 5 0 q.D.length),(.mapv 1000004)]),(1000001,[(.arr ⟨true,39,false,none⟩ 8 (wtF q.W))]),(1000002,[(.arr ⟨true,41,false,none⟩ 11 (lsF q.L))]),(1000003,[(.arr ⟨true,35,false,none⟩ 5 (jbF q.D))]),(1000004,[(.mp none (svF q.sv) q.has)])] (vb true) [(1000000,[(vi q1.ll),(vi q1.lt),(vi q1.lp),(vi q1.ls),(vi q1.tick),(vi q1.arr),(vi q1.num),(.vec 901 8 0 q1.W.length),(.vec 902 11 0 q1.L.length),(.vec 903 5 0 q1.D.length),(.mapv 1000004)]),(901,[Za]),(902,[(.arr ⟨true,41,false,none⟩ 11 (lsF q1.L))]),(903,[Zb]),(1000004,[(.mp none (svF q1.sv) q1.has)])]∧((false=true)→(((.d (.tup [(.agg [(di 0),(di 0),(ds (ByteArray.mk #[])),(ds (ByteArray.mk #[])),(ds (ByteArray.mk #[])),(di 0),(di 0),(di 0),(di 0),(di 0),(di 0)]),(di 2)])):AV)=(.d (.tup [(.agg [(di (q1.L.getD i ls0).no),(di (q1.L.getD i ls0).un),(ds (q1.L.getD i ls0).wk),(ds (q1.L.getD i ls0).w.j.st),(ds (q1.L.getD i ls0).w.j.ex),(di (q1.L.getD i ls0).w.j.no),(di (q1.L.getD i ls0).w.j.ve),(di (q1.L.getD i ls0).w.j.pr),(di (q1.L.getD i ls0).w.tr),(di (q1.L.getD i ls0).w.ar),(di (q1.L.getD i ls0).w.fr)]),(di 0)]))∧((some [(vi q1.ll),(vi q1.lt),(vi q1.lp),(vi q1.ls),(vi q1.tick),(vi q1.arr),(vi q1.num),(.vec 901 8 0 q1.W.length),(.vec 13902 11 0 q1.L.length),(.vec 903 5 0 q1.D.length),(.mapv 1000004)]):(Option (List AV)))=(some [(vi q1.ll),(vi q1.lt),(vi q1.lp),(vi q1.ls),(vi q1.tick),(vi q1.arr),(vi q1.num),(.vec 901 8 0 q1.W.length),(.vec 902 11 0 (q1.L.eraseIdx i).length),(.vec 903 5 0 q1.D.length),(.mapv 1000004)])∧((some [Za]):(Option (List AV)))=(some [Za])∧(none:(Option (List AV)))=(some [(.arr ⟨true,41,false,none⟩ 11 (lsF (q1.L.eraseIdx i)))])∧((some [Zb]):(Option (List AV)))=(some [Zb])∧((some [(.mp none (svF q1.sv) q1.has)]):(Option (List AV)))=(some [(.mp none (svF q1.sv) q1.has)])∧True))∧((false=false)→ZW [cd Tryz.f43 [1,1]] (stS ZT [1]) ZQ))) ((.arr ⟨true,39,false,none⟩ 8 (wtF q1.W)):AV) ((.arr ⟨true,35,false,none⟩ 5 (jbF q1.D)):AV)) (by kernel_rfl) ?_
 refine⟨h38,fun h=>(by cases h),fun _=>?_⟩
 refine AWP.freezeB (dl:=[di n]) 4 (by kernel_rfl) rfl ?_
 refine walkK (orc:=orc43 true q1 n i) (keep:=[]) (cuts:=[6]) (n:=1000) follows ?_
 refine of_tr (fun ZT ZW ZQ ZK=>(ZK 46 [(.slc 11 q1.L.length (fun i=>lsF q1.L (0+i))),(.clo (.func 58) [] [(.ptr [(di n)])])] (di (noI q1 n))∧(((decide (noI q1 n<0))=true)→(((.d (.tup [(.agg [(di 0),(di 0),(ds (ByteArray.mk #[])),(ds (ByteArray.mk #[])),(ds (ByteArray.mk #[])),(di 0),(di 0),(di 0),(di 0),(di 0),(di 0)]),(di 7)])):AV)=(.d (.tup [(.agg [(di (q1.L.getD i ls0).no),(di (q1.L.getD i ls0).un),(ds (q1.L.getD i ls0).wk),(ds (q1.L.getD i ls0).w.j.st),(ds (q1.L.getD i ls0).w.j.ex),(di (q1.L.getD i ls0).w.j.no),(di (q1.L.getD i ls0).w.j.ve),(di (q1.L.getD i ls0).w.j.pr),(di (q1.L.getD i ls0).w.tr),(di (q1.L.getD i ls0).w.ar),(di (q1.L.getD i ls0).w.fr)]),(di 0)]))∧((some [(vi q1.ll),(vi q1.lt),(vi q1.lp),(vi q1.ls),(vi q1.tick),(vi q1.arr),(vi q1.num),(.vec 901 8 0 q1.W.length),(.vec 13902 11 0 q1.L.length),(.vec 903 5 0 q1.D.length),(.mapv 1000004)]):(Option (List AV)))=(some [(vi q1.ll),(vi q1.lt),(vi q1.lp),(vi q1.ls),(vi q1.tick),(vi q1.arr),(vi q1.num),(.vec 901 8 0 q1.W.length),(.vec 902 11 0 (q1.L.eraseIdx i).length),(.vec 903 5 0 q1.D.length),(.mapv 1000004)])∧((some [(.arr ⟨true,39,false,none⟩ 8 (wtF q1.W))]):(Option (List AV)))=(some [(.arr ⟨true,39,false,none⟩ 8 (wtF q1.W))])∧(none:(Option (List AV)))=(some [(.arr ⟨true,41,false,none⟩ 11 (lsF (q1.L.eraseIdx i)))])∧((some [(.arr ⟨true,35,false,none⟩ 5 (jbF q1.D))]):(Option (List AV)))=(some [(.arr ⟨true,35,false,none⟩ 5 (jbF q1.D))])∧((some [(.mp none (svF q1.sv) q1.has)]):(Option (List AV)))=(some [(.mp none (svF q1.sv) q1.has)])∧True))∧(((decide (noI q1 n<0))=false)→ZW [cd Tryz.f43 [1,1,1,1]] (stS ZT [1]) ZQ))) (by kernel_rfl) ?_
 rw[hi] at h46⊢
 refine⟨h46,fun h=>absurd (of_decide_eq_true h) (by omega),fun _=>?_⟩
 refine walkK (orc:=orc43 true q1 n i) (keep:=[]) (cuts:=[]) (n:=1000) follows ?_
 refine of_tr (fun _ _ _ _=>(fun Za Zb=>(((0≤noI q1 n)∧(noI q1 n<↑q1.L.length))∧((I64 (noI q1 n+1))∧FnM Tryz.prog G 59 [(.vec 1000000 11 0 q1.L.length),(vi (noI q1 n)),(vi (noI q1 n+1))] [(1000000,[(.arr ⟨true,41,false,none⟩ 11 (lsF q1.L))])] (.vec 900 11 0 (q1.L.length-1)) [(1000000,[.dead]),(900,[Zb])])∧((.d (.tup [(.agg [(di Za.no),(di Za.un),(ds Za.wk),(ds Za.w.j.st),(ds Za.w.j.ex),(di Za.w.j.no),(di Za.w.j.ve),(di Za.w.j.pr),(di Za.w.tr),(di Za.w.ar),(di Za.w.fr)]),(di 0)])):AV)=(.d (.tup [(.agg [(di (q1.L.getD i ls0).no),(di (q1.L.getD i ls0).un),(ds (q1.L.getD i ls0).wk),(ds (q1.L.getD i ls0).w.j.st),(ds (q1.L.getD i ls0).w.j.ex),(di (q1.L.getD i ls0).w.j.no),(di (q1.L.getD i ls0).w.j.ve),(di (q1.L.getD i ls0).w.j.pr),(di (q1.L.getD i ls0).w.tr),(di (q1.L.getD i ls0).w.ar),(di (q1.L.getD i ls0).w.fr)]),(di 0)]))∧((some [(vi q1.ll),(vi q1.lt),(vi q1.lp),(vi q1.ls),(vi q1.tick),(vi q1.arr),(vi q1.num),(.vec 901 8 0 q1.W.length),(.vec 902 11 0 (q1.L.length-1)),(.vec 903 5 0 q1.D.length),(.mapv 1000004)]):(Option (List AV)))=(some [(vi q1.ll),(vi q1.lt),(vi q1.lp),(vi q1.ls),(vi q1.tick),(vi q1.arr),(vi q1.num),(.vec 901 8 0 q1.W.length),(.vec 902 11 0 (q1.L.eraseIdx i).length),(.vec 903 5 0 q1.D.length),(.mapv 1000004)])∧((some [(.arr ⟨true,39,false,none⟩ 8 (wtF q1.W))]):(Option (List AV)))=(some [(.arr ⟨true,39,false,none⟩ 8 (wtF q1.W))])∧((some [Zb]):(Option (List AV)))=(some [Zb])∧((some [(.arr ⟨true,35,false,none⟩ 5 (jbF q1.D))]):(Option (List AV)))=(some [(.arr ⟨true,35,false,none⟩ 5 (jbF q1.D))])∧((some [(.mp none (svF q1.sv) q1.has)]):(Option (List AV)))=(some [(.mp none (svF q1.sv) q1.has)])∧True)) (q1.L.getD (0+(noI q1 n).toNat) ls0) ((.arr ⟨true,41,false,none⟩ 11 (lsF (q1.L.eraseIdx i))):AV)) (by kernel_rfl) ?_
 dsimp only
 rw[hi,show 0+((i:Int)).toNat=i from Nat.zero_add _,List.length_eraseIdx_of_lt hi2]
 exact⟨⟨by omega,by omega⟩,⟨⟨by omega,by omega⟩,f59 q1.L i hi2 hl⟩,rfl,rfl,rfl,rfl,rfl,rfl,trivial⟩
end Go.Proofs
/- Done,failed,removed,added. -/
namespace Go.Proofs
open Go Go.Ab Go.RowKit
set_option maxHeartbeats 4000000
set_option maxRecDepth 100000
variable {G:IH}
noncomputable def m22 (q:Qm) (l:Ls) (e:Int) (q2:Qm):FuncId→List AV→List (Nat×List AV)→Option (AV×List (Nat×List AV)):=fun f _ _=>match f with
 | 43=>some (.d (.tup [lsD l,di e]),qG q)
 | 44=>some (.d (.tup []),qF q2)
 | _=>none
noncomputable def orc22 (q:Qm) (l:Ls) (e:Int) (q2:Qm):Orc:={ d:=noO,m:=m22 q l e q2 }
theorem f22 (q q1:Qm) (n t e:Int) (l:Ls) (h43:FnM Tryz.prog G 43 [.box 1000000 0,.d (di n),.d (di t)] (qP q) (.d (.tup [lsD l,di e])) (qG q1)):FnM Tryz.prog G 22 [.box 1000000 0,.d (di n),.d (di t)] (qP q) (.d (.tup [jbD l.w.j,di e])) (qG q1):=by
 refine FnM.of_body (mv:=[(15901,901),(15902,902),(15903,903)]) (by kernel_rfl) Tryz.func22 rfl Tryz.call22 ?_
 refine walkK (orc:=orc22 q1 l e q1) (keep:=[]) (cuts:=[]) (n:=1000) follows ?_
 refine of_tr (fun _ _ _ _=>(fun Za Zb Zc Zd=>(FnM Tryz.prog G 43 [(.box 1000000 0),(vi n),(vi t)] [(1000000,[(vi q.ll),(vi q.lt),(vi q.lp),(vi q.ls),(vi q.tick),(vi q.arr),(vi q.num),(.vec 1000001 8 0 q.W.length),(.vec 1000002 11 0 q.L.length),(.vec 1000003 5 0 q.D.length),(.mapv 1000004)]),(1000001,[(.arr ⟨true,39,false,none⟩ 8 (wtF q.W))]),(1000002,[(.arr ⟨true,41,false,none⟩ 11 (lsF q.L))]),(1000003,[(.arr ⟨true,35,false,none⟩ 5 (jbF q.D))]),(1000004,[(.mp none (svF q.sv) q.has)])] (.d (.tup [(.agg [(di l.no),(di l.un),(ds l.wk),(ds l.w.j.st),(ds l.w.j.ex),(di l.w.j.no),(di l.w.j.ve),(di l.w.j.pr),(di l.w.tr),(di l.w.ar),(di l.w.fr)]),(di e)])) [(1000000,[(vi q1.ll),(vi q1.lt),(vi q1.lp),(vi q1.ls),(vi q1.tick),(vi q1.arr),(vi q1.num),(.vec 901 8 0 q1.W.length),(.vec 902 11 0 q1.L.length),(.vec 903 5 0 q1.D.length),(.mapv 1000004)]),(901,[Zc]),(902,[Zb]),(903,[Zd]),(1000004,[(.mp none (svF q1.sv) q1.has)])]∧(ZS ((.d (.tup [(.agg [(ds l.w.j.st),(ds l.w.j.ex),(di l.w.j.no),(di l.w.j.ve),(di l.w.j.pr)]),(di e)])):AV))∧(Za:(Option (List AV)))=Za∧((some [Zc]):(Option (List AV)))=(some [Zc])∧((some [Zb]):(Option (List AV)))=(some [Zb])∧((some [Zd]):(Option (List AV)))=(some [Zd])∧((some [(.mp none (svF q1.sv) q1.has)]):(Option (List AV)))=(some [(.mp none (svF q1.sv) q1.has)])∧True)) (some [(vi q1.ll),(vi q1.lt),(vi q1.lp),(vi q1.ls),(vi q1.tick),(vi q1.arr),(vi q1.num),(.vec 901 8 0 q1.W.length),(.vec 902 11 0 q1.L.length),(.vec 903 5 0 q1.D.length),(.mapv 1000004)]) ((.arr ⟨true,41,false,none⟩ 11 (lsF q1.L)):AV) ((.arr ⟨true,39,false,none⟩ 8 (wtF q1.W)):AV) ((.arr ⟨true,35,false,none⟩ 5 (jbF q1.D)):AV)) (by kernel_rfl) ?_
 exact⟨h43,rfl,rfl,rfl,rfl,rfl,rfl,trivial⟩
theorem f23_no (q q1:Qm) (n t e:Int) (l:Ls) (he:e≠0) (h43:FnM Tryz.prog G 43 [.box 1000000 0,.d (di n),.d (di t)] (qP q) (.d (.tup [lsD l,di e])) (qG q1)):FnM Tryz.prog G 23 [.box 1000000 0,.d (di n),.d (di t)] (qP q) (.d (di e)) (qG q1):=by
 refine FnM.of_body (mv:=[(14901,901),(14902,902),(14903,903)]) (by kernel_rfl) Tryz.func23 rfl Tryz.call23 ?_
 refine walkK (orc:=orc22 q1 l e q1) (keep:=[]) (cuts:=[3]) (n:=1000) follows ?_
 refine of_tr (fun ZT ZW ZQ _=>(fun Za Zb Zc Zd=>(FnM Tryz.prog G 43 [(.box 1000000 0),(vi n),(vi t)] [(1000000,[(vi q.ll),(vi q.lt),(vi q.lp),(vi q.ls),(vi q.tick),(vi q.arr),(vi q.num),(.vec 1000001 8 0 q.W.length),(.vec 1000002 11 0 q.L.length),(.vec 1000003 5 0 q.D.length),(.mapv 1000004)]),(1000001,[(.arr ⟨true,39,false,none⟩ 8 (wtF q.W))]),(1000002,[(.arr ⟨true,41,false,none⟩ 11 (lsF q.L))]),(1000003,[(.arr ⟨true,35,false,none⟩ 5 (jbF q.D))]),(1000004,[(.mp none (svF q.sv) q.has)])] (.d (.tup [(.agg [(di l.no),(di l.un),(ds l.wk),(ds l.w.j.st),(ds l.w.j.ex),(di l.w.j.no),(di l.w.j.ve),(di l.w.j.pr),(di l.w.tr),(di l.w.ar),(di l.w.fr)]),(di e)])) [(1000000,[(vi q1.ll),(vi q1.lt),(vi q1.lp),(vi q1.ls),(vi q1.tick),(vi q1.arr),(vi q1.num),(.vec 901 8 0 q1.W.length),(.vec 902 11 0 q1.L.length),(.vec 903 5 0 q1.D.length),(.mapv 1000004)]),(901,[Zc]),(902,[Zb]),(903,[Zd]),(1000004,[(.mp none (svF q1.sv) q1.has)])]∧(((e==0)=true)→ZW [cd Tryz.f23 [1,1,0,1,0],cd Tryz.f23 [1,1,1]] (stS ZT [0]) ZQ)∧(((e==0)=false)→((ZS ((vi e):AV))∧(Za:(Option (List AV)))=Za∧((some [Zc]):(Option (List AV)))=(some [Zc])∧((some [Zb]):(Option (List AV)))=(some [Zb])∧((some [Zd]):(Option (List AV)))=(some [Zd])∧((some [(.mp none (svF q1.sv) q1.has)]):(Option (List AV)))=(some [(.mp none (svF q1.sv) q1.has)])∧True)))) (some [(vi q1.ll),(vi q1.lt),(vi q1.lp),(vi q1.ls),(vi q1.tick),(vi q1.arr),(vi q1.num),(.vec 901 8 0 q1.W.length),(.vec 902 11 0 q1.L.length),(.vec 903 5 0 q1.D.length),(.mapv 1000004)]) ((.arr ⟨true,41,false,none⟩ 11 (lsF q1.L)):AV) ((.arr ⟨true,39,false,none⟩ 8 (wtF q1.W)):AV) ((.arr ⟨true,35,false,none⟩ 5 (jbF q1.D)):AV)) (by kernel_rfl) ?_
 exact⟨h43,fun h=>absurd (eq_of_beq h) he,fun _=>⟨rfl,rfl,rfl,rfl,rfl,rfl,trivial⟩⟩
theorem f23_hit (q q1 q2:Qm) (n t:Int) (l:Ls) (h43:FnM Tryz.prog G 43 [.box 1000000 0,.d (di n),.d (di t)] (qP q) (.d (.tup [lsD l,di 0])) (qG q1)) (h44:FnM Tryz.prog G 44 [.box 1000000 0,.d (wtD l.w),.d (di t)] (qP q1) (.d (.tup [])) (qF q2)):FnM Tryz.prog G 23 [.box 1000000 0,.d (di n),.d (di t)] (qP q) (.d (di 0)) (qG q2):=by
 refine FnM.of_body (mv:=[(23901,901),(14902,902),(23903,903)]) (by kernel_rfl) Tryz.func23 rfl Tryz.call23 ?_
 refine walkK (orc:=orc22 q1 l 0 q2) (keep:=[]) (cuts:=[]) (n:=1000) follows ?_
 refine of_tr (fun _ _ _ _=>(fun Za Zb Zc Zd Ze Zf=>(FnM Tryz.prog G 43 [(.box 1000000 0),(vi n),(vi t)] [(1000000,[(vi q.ll),(vi q.lt),(vi q.lp),(vi q.ls),(vi q.tick),(vi q.arr),(vi q.num),(.vec 1000001 8 0 q.W.length),(.vec 1000002 11 0 q.L.length),(.vec 1000003 5 0 q.D.length),(.mapv 1000004)]),(1000001,[(.arr ⟨true,39,false,none⟩ 8 (wtF q.W))]),(1000002,[(.arr ⟨true,41,false,none⟩ 11 (lsF q.L))]),(1000003,[(.arr ⟨true,35,false,none⟩ 5 (jbF q.D))]),(1000004,[(.mp none (svF q.sv) q.has)])] (.d (.tup [(.agg [(di l.no),(di l.un),(ds l.wk),(ds l.w.j.st),(ds l.w.j.ex),(di l.w.j.no),(di l.w.j.ve),(di l.w.j.pr),(di l.w.tr),(di l.w.ar),(di l.w.fr)]),(di 0)])) [(1000000,[(vi q1.ll),(vi q1.lt),(vi q1.lp),(vi q1.ls),(vi q1.tick),(vi q1.arr),(vi q1.num),(.vec 901 8 0 q1.W.length),(.vec 902 11 0 q1.L.length),(.vec 903 5 0 q1.D.length),(.mapv 1000004)]),(901,[(.arr ⟨true,39,false,none⟩ 8 (wtF q1.W))]),(902,[Ze]),(903,[(.arr ⟨true,35,false,none⟩ 5 (jbF q1.D))]),(1000004,[(.mp none (svF q1.sv) q1.has)])]∧((true=true)→(FnM Tryz.prog G 44 [(.box 1000000 0),(.d (.agg [(ds l.w.j.st),(ds l.w.j.ex),(di l.w.j.no),(di l.w.j.ve),(di l.w.j.pr),(di l.w.tr),(di l.w.ar),(di l.w.fr)])),(vi t)] [(1000000,[(vi q1.ll),(vi q1.lt),(vi q1.lp),(vi q1.ls),(vi q1.tick),(vi q1.arr),(vi q1.num),(.vec 1000001 8 0 q1.W.length),(.vec 1000002 11 0 q1.L.length),(.vec 1000003 5 0 q1.D.length),(.mapv 1000004)]),(1000001,[(.arr ⟨true,39,false,none⟩ 8 (wtF q1.W))]),(1000002,[Ze]),(1000003,[(.arr ⟨true,35,false,none⟩ 5 (jbF q1.D))]),(1000004,[(.mp none (svF q1.sv) q1.has)])] (.d (.tup [])) [(1000000,[(vi q2.ll),(vi q2.lt),(vi q2.lp),(vi q2.ls),(vi q2.tick),(vi q2.arr),(vi q2.num),(.vec 901 8 0 q2.W.length),(.vec 1000002 11 0 q2.L.length),(.vec 903 5 0 q2.D.length),(.mapv 1000004)]),(901,[Zc]),(1000002,[Zb]),(903,[Zd]),(1000004,[(.mp none (svF q2.sv) q2.has)])]∧(ZS ((vi 0):AV))∧(Za:(Option (List AV)))=Za∧((some [Zc]):(Option (List AV)))=(some [Zc])∧((some [Zb]):(Option (List AV)))=(some [Zb])∧((some [Zd]):(Option (List AV)))=(some [Zd])∧(Zf:(Option (List AV)))=Zf∧True))∧((true=false)→((ZS ((vi 0):AV))∧((some [(vi q1.ll),(vi q1.lt),(vi q1.lp),(vi q1.ls),(vi q1.tick),(vi q1.arr),(vi q1.num),(.vec 14901 8 0 q1.W.length),(.vec 902 11 0 q1.L.length),(.vec 14903 5 0 q1.D.length),(.mapv 1000004)]):(Option (List AV)))=Za∧(none:(Option (List AV)))=(some [Zc])∧((some [Ze]):(Option (List AV)))=(some [Zb])∧(none:(Option (List AV)))=(some [Zd])∧((some [(.mp none (svF q1.sv) q1.has)]):(Option (List AV)))=Zf∧True)))) (some [(vi q2.ll),(vi q2.lt),(vi q2.lp),(vi q2.ls),(vi q2.tick),(vi q2.arr),(vi q2.num),(.vec 901 8 0 q2.W.length),(.vec 902 11 0 q2.L.length),(.vec 903 5 0 q2.D.length),(.mapv 1000004)]) ((.arr ⟨true,41,false,none⟩ 11 (lsF q2.L)):AV) ((.arr ⟨true,39,false,none⟩ 8 (wtF q2.W)):AV) ((.arr ⟨true,35,false,none⟩ 5 (jbF q2.D)):AV) ((.arr ⟨true,41,false,none⟩ 11 (lsF q1.L)):AV) (some [(.mp none (svF q2.sv) q2.has)])) (by kernel_rfl) ?_
 exact⟨h43,fun _=>⟨h44,rfl,rfl,rfl,rfl,rfl,rfl,trivial⟩,fun h=>(by cases h)⟩
end Go.Proofs
/- A job is added. -/
namespace Go.Proofs
open Go Go.Ab Go.RowKit
set_option maxHeartbeats 4000000
set_option maxRecDepth 100000
variable {G:IH}
def bigB (q:Qm):Bool:=decide (((q.W.length:Int)+q.L.length+q.D.length)≥256)
def addE (b:Bool) (q:Qm) (j:Jb):Int:=if b=false then 2 else if rightJ j=false then 1 else if hasB q j j.ve=true then 6 else if bigB q=true then 8 else 0
def addW (q:Qm) (j:Jb) (t:Int):Wt:=⟨j,0,q.arr+1,t⟩
def nextQ (q:Qm):Qm:={ q with arr:=q.arr+1 }
noncomputable def d32 (j:Jb):Oracle:=fun f _=>match f with
 | 48=>some (db (rightJ j))
 | 50=>some (sameC j j.ve)
 | _=>none
noncomputable def m32 (b:Bool) (q:Qm) (j:Jb) (t:Int):FuncId→List AV→List (Nat×List AV)→Option (AV×List (Nat×List AV)):=fun f _ _=>match f with
 | 38=>some (.d (db b),qG q)
 | 49=>some (.d (db (hasB q j j.ve)),qP q)
 | 51=>some (.d (.tup []),qPw (waitQ (nextQ q) (addW q j t)))
 | _=>none
noncomputable def orc32 (b:Bool) (q:Qm) (j:Jb) (t:Int):Orc:={ d:=d32 j,m:=m32 b q j t }
theorem f32_no (b:Bool) (q q1:Qm) (j:Jb) (t:Int) (h38:FnM Tryz.prog G 38 [.box 1000000 0,.d (di t)] (qP q) (.d (db b)) (qG q1)) (he:addE b q1 j≠0) (hj1:j.st.size≤1000000) (hj2:j.ex.size≤1000000) (h1:q1.W.length≤1000000) (h2:q1.L.length≤1000000) (h3:q1.D.length≤1000000):FnM Tryz.prog G 32 [.box 1000000 0,.d (jbD j),.d (di t)] (qP q) (.d (di (addE b q1 j))) (qG q1):=by
 refine FnM.of_body (mv:=[(11901,901),(11902,902),(11903,903)]) (by kernel_rfl) Tryz.func32 rfl Tryz.call32 ?_
 refine walkK (orc:=orc32 b q1 j t) (keep:=[]) (cuts:=[9]) (n:=1000) follows ?_
 refine of_tr (fun ZT ZW ZQ ZK=>(fun Za Zb Zc Zd Ze Zf Zg=>(FnM Tryz.prog G 38 [(.box 1000000 0),(vi t)] [(1000000,[(vi q.ll),(vi q.lt),(vi q.lp),(vi q.ls),(vi q.tick),(vi q.arr),(vi q.num),(.vec 1000001 8 0 q.W.length),(.vec 1000002 11 0 q.L.length),(.vec 1000003 5 0 q.D.length),(.mapv 1000004)]),(1000001,[(.arr ⟨true,39,false,none⟩ 8 (wtF q.W))]),(1000002,[(.arr ⟨true,41,false,none⟩ 11 (lsF q.L))]),(1000003,[(.arr ⟨true,35,false,none⟩ 5 (jbF q.D))]),(1000004,[(.mp none (svF q.sv) q.has)])] (vb b) [(1000000,[(vi q1.ll),(vi q1.lt),(vi q1.lp),(vi q1.ls),(vi q1.tick),(vi q1.arr),(vi q1.num),(.vec 901 8 0 q1.W.length),(.vec 902 11 0 q1.L.length),(.vec 903 5 0 q1.D.length),(.mapv 1000004)]),(901,[Zc]),(902,[Zb]),(903,[Zd]),(1000004,[(.mp none (svF q1.sv) q1.has)])]∧(((!b)=true)→(((vi 2):AV)=(vi (addE b q1 j))∧(Za:(Option (List AV)))=Za∧((some [Zc]):(Option (List AV)))=(some [Zc])∧((some [Zb]):(Option (List AV)))=(some [Zb])∧((some [Zd]):(Option (List AV)))=(some [Zd])∧(Ze:(Option (List AV)))=Ze∧True))∧(((!b)=false)→(ZK 48 [(.agg [(ds j.st),(ds j.ex),(di j.no),(di j.ve),(di j.pr)])] (db (rightJ j))∧(((!rightJ j)=true)→(((vi 1):AV)=(vi (addE b q1 j))∧(Za:(Option (List AV)))=Za∧((some [Zc]):(Option (List AV)))=(some [Zc])∧((some [Zb]):(Option (List AV)))=(some [Zb])∧((some [Zd]):(Option (List AV)))=(some [Zd])∧(Ze:(Option (List AV)))=Ze∧True))∧(((!rightJ j)=false)→((ZK 50 [(.agg [(ds j.st),(ds j.ex),(di j.no)]),(di j.ve)] Zf∧FnM Tryz.prog G 49 [(.box 1000000 0),(.d Zf)] [(1000000,[(vi q1.ll),(vi q1.lt),(vi q1.lp),(vi q1.ls),(vi q1.tick),(vi q1.arr),(vi q1.num),(.vec 1000001 8 0 q1.W.length),(.vec 1000002 11 0 q1.L.length),(.vec 1000003 5 0 q1.D.length),(.mapv 1000004)]),(1000001,[Zc]),(1000002,[Zb]),(1000003,[Zd]),(1000004,[(.mp none (svF q1.sv) q1.has)])] (vb (hasB q1 j j.ve)) [(1000000,[(vi q1.ll),(vi q1.lt),(vi q1.lp),(vi q1.ls),(vi q1.tick),(vi q1.arr),(vi q1.num),(.vec 1000001 8 0 q1.W.length),(.vec 1000002 11 0 q1.L.length),(.vec 1000003 5 0 q1.D.length),(.mapv 1000004)]),(1000001,[Zc]),(1000002,[Zb]),(1000003,[Zd]),(1000004,[(.mp none (svF q1.sv) q1.has)])])∧(((hasB q1 j j.ve)=true)→(((vi 6):AV)=(vi (addE b q1 j))∧(Za:(Option (List AV)))=Za∧((some [Zc]):(Option (List AV)))=(some [Zc])∧((some [Zb]):(Option (List AV)))=(some [Zb])∧((some [Zd]):(Option (List AV)))=(some [Zd])∧(Ze:(Option (List AV)))=Ze∧True))∧(((hasB q1 j j.ve)=false)→(((I64 (↑q1.W.length + ↑q1.L.length))∧(I64 (↑q1.W.length + ↑q1.L.length + ↑q1.D.length)))∧((Zg=true)→(((vi 8):AV)=(vi (addE b q1 j))∧(Za:(Option (List AV)))=Za∧((some [Zc]):(Option (List AV)))=(some [Zc])∧((some [Zb]):(Option (List AV)))=(some [Zb])∧((some [Zd]):(Option (List AV)))=(some [Zd])∧(Ze:(Option (List AV)))=Ze∧True))∧((Zg=false)→ZW [cd Tryz.f32 [1,1]] (stS ZT [1,1,1,1]) ZQ))))))))) (some [(vi q1.ll),(vi q1.lt),(vi q1.lp),(vi q1.ls),(vi q1.tick),(vi q1.arr),(vi q1.num),(.vec 901 8 0 q1.W.length),(.vec 902 11 0 q1.L.length),(.vec 903 5 0 q1.D.length),(.mapv 1000004)]) ((.arr ⟨true,41,false,none⟩ 11 (lsF q1.L)):AV) ((.arr ⟨true,39,false,none⟩ 8 (wtF q1.W)):AV) ((.arr ⟨true,35,false,none⟩ 5 (jbF q1.D)):AV) (some [(.mp none (svF q1.sv) q1.has)]) ((.clo (.func 65) [] [(.ptr [(ds j.st),(ds j.ex),(di j.no)]),(.ptr [(di j.ve)])]):DV) (decide ((↑q1.W.length:Int) + ↑q1.L.length + ↑q1.D.length≥256))) (by kernel_rfl) ?_
 refine⟨h38,fun c=>?_,fun c=>⟨f48 j hj1 hj2,fun d=>?_,fun d=>⟨⟨f50 j j.ve,f49 q1 j j.ve h1 h2 h3⟩,fun x=>?_,fun x=>⟨⟨⟨by omega,by omega⟩,⟨by omega,by omega⟩⟩,fun y=>?_,fun y=>absurd ?_ he⟩⟩⟩⟩
 ·have c:b=false:=by simpa using c
  have e:addE b q1 j=2:=by unfold addE;rw[if_pos c]
  rw[e]
  exact⟨rfl,rfl,rfl,rfl,rfl,rfl,trivial⟩
 all_goals
  have c:b=true:=by simpa using c
  subst c
 ·have d:rightJ j=false:=by simpa using d
  have e:addE true q1 j=1:=by unfold addE;rw[if_neg (by decide),if_pos d]
  rw[e]
  exact⟨rfl,rfl,rfl,rfl,rfl,rfl,trivial⟩
 all_goals
  have d:¬rightJ j=false:=by simpa using d
 ·have e:addE true q1 j=6:=by unfold addE;rw[if_neg (by decide),if_neg d,if_pos x]
  rw[e]
  exact⟨rfl,rfl,rfl,rfl,rfl,rfl,trivial⟩
 ·have e:addE true q1 j=8:=by unfold addE bigB;rw[if_neg (by decide),if_neg d,if_neg (by rw[x];decide),if_pos y]
  rw[e]
  exact⟨rfl,rfl,rfl,rfl,rfl,rfl,trivial⟩
 ·unfold addE bigB
  rw[if_neg (by decide),if_neg d,if_neg (by rw[x];decide),if_neg (by rw[y];decide)]
theorem f32_ok (q q1:Qm) (j:Jb) (t:Int) (h38:FnM Tryz.prog G 38 [.box 1000000 0,.d (di t)] (qP q) (.d (db true)) (qG q1)) (he:addE true q1 j=0) (hj1:j.st.size≤1000000) (hj2:j.ex.size≤1000000) (h1:q1.W.length≤1000000) (h2:q1.L.length≤1000000) (h3:q1.D.length≤1000000) (hs:q1.W.Pairwise fun a b=>a.ar≤b.ar) (ha:I64 (q1.arr+1)):FnM Tryz.prog G 32 [.box 1000000 0,.d (jbD j),.d (di t)] (qP q) (.d (di 0)) (qG (waitQ (nextQ q1) (addW q1 j t))):=by
 refine FnM.of_body (mv:=[(59900,901),(11902,902),(11903,903)]) (by kernel_rfl) Tryz.func32 rfl Tryz.call32 ?_
 refine walkK (orc:=orc32 true q1 j t) (keep:=[]) (cuts:=[9]) (n:=1000) follows ?_
 refine of_tr (fun ZT ZW ZQ ZK=>(fun Za Zb Zc Zd Ze Zf Zg Zh Zi=>(FnM Tryz.prog G 38 [(.box 1000000 0),(vi t)] [(1000000,[(vi q.ll),(vi q.lt),(vi q.lp),(vi q.ls),(vi q.tick),(vi q.arr),(vi q.num),(.vec 1000001 8 0 q.W.length),(.vec 1000002 11 0 q.L.length),(.vec 1000003 5 0 q.D.length),(.mapv 1000004)]),(1000001,[(.arr ⟨true,39,false,none⟩ 8 (wtF q.W))]),(1000002,[(.arr ⟨true,41,false,none⟩ 11 (lsF q.L))]),(1000003,[(.arr ⟨true,35,false,none⟩ 5 (jbF q.D))]),(1000004,[(.mp none (svF q.sv) q.has)])] (vb true) [(1000000,[(vi q1.ll),(vi q1.lt),(vi q1.lp),(vi q1.ls),(vi q1.tick),(vi q1.arr),(vi q1.num),(.vec 901 8 0 q1.W.length),(.vec 902 11 0 q1.L.length),(.vec 903 5 0 q1.D.length),(.mapv 1000004)]),(901,[Zg]),(902,[Zc]),(903,[Zd]),(1000004,[(.mp none (svF q1.sv) q1.has)])]∧((false=true)→(((vi 2):AV)=(vi 0)∧Zb=Za∧(none:(Option (List AV)))=Ze∧((some [Zc]):(Option (List AV)))=(some [Zc])∧((some [Zd]):(Option (List AV)))=(some [Zd])∧(Zf:(Option (List AV)))=Zf∧True))∧((false=false)→(ZK 48 [(.agg [(ds j.st),(ds j.ex),(di j.no),(di j.ve),(di j.pr)])] (db (rightJ j))∧(((!rightJ j)=true)→(((vi 1):AV)=(vi 0)∧Zb=Za∧(none:(Option (List AV)))=Ze∧((some [Zc]):(Option (List AV)))=(some [Zc])∧((some [Zd]):(Option (List AV)))=(some [Zd])∧(Zf:(Option (List AV)))=Zf∧True))∧(((!rightJ j)=false)→((ZK 50 [(.agg [(ds j.st),(ds j.ex),(di j.no)]),(di j.ve)] Zh∧FnM Tryz.prog G 49 [(.box 1000000 0),(.d Zh)] [(1000000,[(vi q1.ll),(vi q1.lt),(vi q1.lp),(vi q1.ls),(vi q1.tick),(vi q1.arr),(vi q1.num),(.vec 1000001 8 0 q1.W.length),(.vec 1000002 11 0 q1.L.length),(.vec 1000003 5 0 q1.D.length),(.mapv 1000004)]),(1000001,[Zg]),(1000002,[Zc]),(1000003,[Zd]),(1000004,[(.mp none (svF q1.sv) q1.has)])] (vb (hasB q1 j j.ve)) [(1000000,[(vi q1.ll),(vi q1.lt),(vi q1.lp),(vi q1.ls),(vi q1.tick),(vi q1.arr),(vi q1.num),(.vec 1000001 8 0 q1.W.length),(.vec 1000002 11 0 q1.L.length),(.vec 1000003 5 0 q1.D.length),(.mapv 1000004)]),(1000001,[Zg]),(1000002,[Zc]),(1000003,[Zd]),(1000004,[(.mp none (svF q1.sv) q1.has)])])∧(((hasB q1 j j.ve)=true)→(((vi 6):AV)=(vi 0)∧Zb=Za∧(none:(Option (List AV)))=Ze∧((some [Zc]):(Option (List AV)))=(some [Zc])∧((some [Zd]):(Option (List AV)))=(some [Zd])∧(Zf:(Option (List AV)))=Zf∧True))∧(((hasB q1 j j.ve)=false)→(((I64 (↑q1.W.length + ↑q1.L.length))∧(I64 (↑q1.W.length + ↑q1.L.length + ↑q1.D.length)))∧((Zi=true)→(((vi 8):AV)=(vi 0)∧Zb=Za∧(none:(Option (List AV)))=Ze∧((some [Zc]):(Option (List AV)))=(some [Zc])∧((some [Zd]):(Option (List AV)))=(some [Zd])∧(Zf:(Option (List AV)))=Zf∧True))∧((Zi=false)→ZW [cd Tryz.f32 [1,1]] (stS ZT [1,1,1,1]) ZQ))))))))) (some [(vi q1.ll),(vi q1.lt),(vi q1.lp),(vi q1.ls),(vi q1.tick),(vi (q1.arr+1)),(vi q1.num),(.vec 901 8 0 (insW q1.W (posW q1.W (q1.arr+1)) (addW q1 j t)).length),(.vec 902 11 0 q1.L.length),(.vec 903 5 0 q1.D.length),(.mapv 1000004)]) ((some [(vi q1.ll),(vi q1.lt),(vi q1.lp),(vi q1.ls),(vi q1.tick),(vi q1.arr),(vi q1.num),(.vec 11901 8 0 q1.W.length),(.vec 902 11 0 q1.L.length),(.vec 903 5 0 q1.D.length),(.mapv 1000004)]):(Option (List AV))) ((.arr ⟨true,41,false,none⟩ 11 (lsF q1.L)):AV) ((.arr ⟨true,35,false,none⟩ 5 (jbF q1.D)):AV) (some [(.arr ⟨true,39,false,none⟩ 8 (wtF (insW q1.W (posW q1.W (q1.arr+1)) (addW q1 j t))))]) (some [(.mp none (svF q1.sv) q1.has)]) ((.arr ⟨true,39,false,none⟩ 8 (wtF q1.W)):AV) ((.clo (.func 65) [] [(.ptr [(ds j.st),(ds j.ex),(di j.no)]),(.ptr [(di j.ve)])]):DV) (decide ((↑q1.W.length:Int) + ↑q1.L.length + ↑q1.D.length≥256))) (by kernel_rfl) ?_
 dsimp only
 have hr:rightJ j=true:=by
  cases h:rightJ j with
  | true=>rfl
  | false=>unfold addE at he;rw[if_neg (by decide),if_pos h] at he;exact absurd he (by decide)
 have hh:hasB q1 j j.ve=false:=by
  cases h:hasB q1 j j.ve with
  | false=>rfl
  | true=>unfold addE at he;rw[if_neg (by decide),if_neg (by rw[hr];decide),if_pos h] at he;exact absurd he (by decide)
 have hb:bigB q1=false:=by
  cases h:bigB q1 with
  | false=>rfl
  | true=>unfold addE at he;rw[if_neg (by decide),if_neg (by rw[hr];decide),if_neg (by rw[hh];decide),if_pos h] at he;exact absurd he (by decide)
 have h51:=f51 (G:=G) (nextQ q1) (addW q1 j t) h1 hs
 refine⟨h38,fun c=>(by cases c),fun _=>⟨f48 j hj1 hj2,fun d=>absurd d (by rw[hr];decide),fun _=>⟨⟨f50 j j.ve,f49 q1 j j.ve h1 h2 h3⟩,fun x=>absurd x (by rw[hh];decide),fun _=>⟨⟨⟨by omega,by omega⟩,⟨by omega,by omega⟩⟩,fun y=>absurd (hb▸y:false=true) (by decide),fun _=>?_⟩⟩⟩⟩
 refine walkK (orc:=orc32 true q1 j t) (keep:=[]) (cuts:=[]) (n:=1000) follows ?_
 refine of_tr (fun _ _ _ _=>(fun Za Zb Zc Zd=>((I64 (q1.arr+1))∧FnM Tryz.prog G 51 [(.box 1000000 0),(.d (.agg [(ds j.st),(ds j.ex),(di j.no),(di j.ve),(di j.pr),(di 0),(di (q1.arr+1)),(di t)]))] [(1000000,[(vi q1.ll),(vi q1.lt),(vi q1.lp),(vi q1.ls),(vi q1.tick),(vi (q1.arr+1)),(vi q1.num),(.vec 1000001 8 0 q1.W.length),(.vec 1000002 11 0 q1.L.length),(.vec 1000003 5 0 q1.D.length),(.mapv 1000004)]),(1000001,[(.arr ⟨true,39,false,none⟩ 8 (wtF q1.W))]),(1000002,[Zc]),(1000003,[Zd]),(1000004,[(.mp none (svF q1.sv) q1.has)])] (.d (.tup [])) [(1000000,[(vi q1.ll),(vi q1.lt),(vi q1.lp),(vi q1.ls),(vi q1.tick),(vi (q1.arr+1)),(vi q1.num),(.vec 900 8 0 (insW q1.W (posW q1.W (q1.arr+1)) (addW q1 j t)).length),(.vec 1000002 11 0 q1.L.length),(.vec 1000003 5 0 q1.D.length),(.mapv 1000004)]),(1000001,[.dead]),(1000002,[Zc]),(1000003,[Zd]),(1000004,[(.mp none (svF q1.sv) q1.has)]),(900,[Zb])]∧(ZS ((vi 0):AV))∧(Za:(Option (List AV)))=Za∧((some [Zb]):(Option (List AV)))=(some [Zb])∧((some [Zc]):(Option (List AV)))=(some [Zc])∧((some [Zd]):(Option (List AV)))=(some [Zd])∧((some [(.mp none (svF q1.sv) q1.has)]):(Option (List AV)))=(some [(.mp none (svF q1.sv) q1.has)])∧True)) (some [(vi q1.ll),(vi q1.lt),(vi q1.lp),(vi q1.ls),(vi q1.tick),(vi (q1.arr+1)),(vi q1.num),(.vec 901 8 0 (insW q1.W (posW q1.W (q1.arr+1)) (addW q1 j t)).length),(.vec 902 11 0 q1.L.length),(.vec 903 5 0 q1.D.length),(.mapv 1000004)]) ((.arr ⟨true,39,false,none⟩ 8 (wtF (insW q1.W (posW q1.W (q1.arr+1)) (addW q1 j t)))):AV) ((.arr ⟨true,41,false,none⟩ 11 (lsF q1.L)):AV) ((.arr ⟨true,35,false,none⟩ 5 (jbF q1.D)):AV)) (by kernel_rfl) ?_
 exact⟨ha,h51,rfl,rfl,rfl,rfl,rfl,rfl,trivial⟩
end Go.Proofs
/- A job is removed. -/
namespace Go.Proofs
open Go Go.Ab Go.RowKit
set_option maxHeartbeats 4000000
set_option maxRecDepth 100000
variable {G:IH}
def delQ (q:Qm) (k:Jb) (v:Int):Qm:={ q with W:=q.W.filter fun w=>!sameB k v w.j,L:=q.L.filter fun l=>!sameB k v l.w.j,D:=q.D.filter fun j=>!sameB k v j }
noncomputable def d35 (k:Jb) (v:Int):Oracle:=fun f _=>match f with
 | 50=>some (sameC k v)
 | _=>none
noncomputable def m35 (b:Bool) (q:Qm) (k:Jb) (v:Int):FuncId→List AV→List (Nat×List AV)→Option (AV×List (Nat×List AV)):=fun f _ _=>match f with
 | 38=>some (.d (db b),qG q)
 | 49=>some (.d (db (hasB q k v)),qP q)
 | 52=>some (.vec 1000000 8 0 (delQ q k v).W.length,[(1000000,rowW (delQ q k v).W)])
 | 28=>some (.vec 1000000 11 0 (delQ q k v).L.length,[(1000000,rowL (delQ q k v).L)])
 | 14=>some (.vec 1000000 5 0 (delQ q k v).D.length,[(1000000,rowD (delQ q k v).D)])
 | _=>none
noncomputable def orc35 (b:Bool) (q:Qm) (k:Jb) (v:Int):Orc:={ d:=d35 k v,m:=m35 b q k v }
def delE (b:Bool) (q:Qm) (k:Jb) (v:Int):Int:=if b=false then 2 else if hasB q k v=false then 7 else 0
theorem f35_no (b:Bool) (q q1:Qm) (k:Jb) (v t:Int) (h38:FnM Tryz.prog G 38 [.box 1000000 0,.d (di t)] (qP q) (.d (db b)) (qG q1)) (he:delE b q1 k v≠0) (h1:q1.W.length≤1000000) (h2:q1.L.length≤1000000) (h3:q1.D.length≤1000000):FnM Tryz.prog G 35 [.box 1000000 0,.d (.agg (keyL k)),.d (di v),.d (di t)] (qP q) (.d (di (delE b q1 k v))) (qG q1):=by
 refine FnM.of_body (mv:=[(17901,901),(17902,902),(17903,903)]) (by kernel_rfl) Tryz.func35 rfl Tryz.call35 ?_
 refine walkK (orc:=orc35 b q1 k v) (keep:=[]) (cuts:=[6]) (n:=1000) follows ?_
 refine of_tr (fun ZT ZW ZQ ZK=>(fun Za Zb Zc Zd Ze Zf=>(ZK 50 [(.agg [(ds k.st),(ds k.ex),(di k.no)]),(di v)] Zf∧FnM Tryz.prog G 38 [(.box 1000000 0),(vi t)] [(1000000,[(vi q.ll),(vi q.lt),(vi q.lp),(vi q.ls),(vi q.tick),(vi q.arr),(vi q.num),(.vec 1000001 8 0 q.W.length),(.vec 1000002 11 0 q.L.length),(.vec 1000003 5 0 q.D.length),(.mapv 1000004)]),(1000001,[(.arr ⟨true,39,false,none⟩ 8 (wtF q.W))]),(1000002,[(.arr ⟨true,41,false,none⟩ 11 (lsF q.L))]),(1000003,[(.arr ⟨true,35,false,none⟩ 5 (jbF q.D))]),(1000004,[(.mp none (svF q.sv) q.has)])] (vb b) [(1000000,[(vi q1.ll),(vi q1.lt),(vi q1.lp),(vi q1.ls),(vi q1.tick),(vi q1.arr),(vi q1.num),(.vec 901 8 0 q1.W.length),(.vec 902 11 0 q1.L.length),(.vec 903 5 0 q1.D.length),(.mapv 1000004)]),(901,[Zc]),(902,[Zb]),(903,[Zd]),(1000004,[(.mp none (svF q1.sv) q1.has)])]∧(((!b)=true)→(((vi 2):AV)=(vi (delE b q1 k v))∧(Za:(Option (List AV)))=Za∧((some [Zc]):(Option (List AV)))=(some [Zc])∧((some [Zb]):(Option (List AV)))=(some [Zb])∧((some [Zd]):(Option (List AV)))=(some [Zd])∧(Ze:(Option (List AV)))=Ze∧True))∧(((!b)=false)→(FnM Tryz.prog G 49 [(.box 1000000 0),(.d Zf)] [(1000000,[(vi q1.ll),(vi q1.lt),(vi q1.lp),(vi q1.ls),(vi q1.tick),(vi q1.arr),(vi q1.num),(.vec 1000001 8 0 q1.W.length),(.vec 1000002 11 0 q1.L.length),(.vec 1000003 5 0 q1.D.length),(.mapv 1000004)]),(1000001,[Zc]),(1000002,[Zb]),(1000003,[Zd]),(1000004,[(.mp none (svF q1.sv) q1.has)])] (vb (hasB q1 k v)) [(1000000,[(vi q1.ll),(vi q1.lt),(vi q1.lp),(vi q1.ls),(vi q1.tick),(vi q1.arr),(vi q1.num),(.vec 1000001 8 0 q1.W.length),(.vec 1000002 11 0 q1.L.length),(.vec 1000003 5 0 q1.D.length),(.mapv 1000004)]),(1000001,[Zc]),(1000002,[Zb]),(1000003,[Zd]),(1000004,[(.mp none (svF q1.sv) q1.has)])]∧(((!hasB q1 k v)=true)→(((vi 7):AV)=(vi (delE b q1 k v))∧(Za:(Option (List AV)))=Za∧((some [Zc]):(Option (List AV)))=(some [Zc])∧((some [Zb]):(Option (List AV)))=(some [Zb])∧((some [Zd]):(Option (List AV)))=(some [Zd])∧(Ze:(Option (List AV)))=Ze∧True))∧(((!hasB q1 k v)=false)→ZW [cd Tryz.f35 [1,1,1]] (stS ZT [1,1]) ZQ))))) (some [(vi q1.ll),(vi q1.lt),(vi q1.lp),(vi q1.ls),(vi q1.tick),(vi q1.arr),(vi q1.num),(.vec 901 8 0 q1.W.length),(.vec 902 11 0 q1.L.length),(.vec 903 5 0 q1.D.length),(.mapv 1000004)]) ((.arr ⟨true,41,false,none⟩ 11 (lsF q1.L)):AV) ((.arr ⟨true,39,false,none⟩ 8 (wtF q1.W)):AV) ((.arr ⟨true,35,false,none⟩ 5 (jbF q1.D)):AV) (some [(.mp none (svF q1.sv) q1.has)]) ((.clo (.func 65) [] [(.ptr [(ds k.st),(ds k.ex),(di k.no)]),(.ptr [(di v)])]):DV)) (by kernel_rfl) ?_
 refine⟨f50 k v,h38,fun c=>?_,fun c=>⟨f49 q1 k v h1 h2 h3,fun d=>?_,fun d=>absurd ?_ he⟩⟩
 ·have c:b=false:=by simpa using c
  have e:delE b q1 k v=2:=by unfold delE;rw[if_pos c]
  rw[e]
  exact⟨rfl,rfl,rfl,rfl,rfl,rfl,trivial⟩
 all_goals
  have c:b=true:=by simpa using c
  subst c
 ·have d:hasB q1 k v=false:=by simpa using d
  have e:delE true q1 k v=7:=by unfold delE;rw[if_neg (by decide),if_pos d]
  rw[e]
  exact⟨rfl,rfl,rfl,rfl,rfl,rfl,trivial⟩
 ·have d:¬hasB q1 k v=false:=by simpa using d
  unfold delE;rw[if_neg (by decide),if_neg d]
theorem f35_ok (q q1:Qm) (k:Jb) (v t:Int) (h38:FnM Tryz.prog G 38 [.box 1000000 0,.d (di t)] (qP q) (.d (db true)) (qG q1)) (he:hasB q1 k v=true) (h1:q1.W.length≤1000000) (h2:q1.L.length≤1000000) (h3:q1.D.length≤1000000):FnM Tryz.prog G 35 [.box 1000000 0,.d (.agg (keyL k)),.d (di v),.d (di t)] (qP q) (.d (di 0)) (qG (delQ q1 k v)):=by
 refine FnM.of_body (mv:=[(17901,901),(17902,902),(17903,903)]) (by kernel_rfl) Tryz.func35 rfl Tryz.call35 ?_
 refine walkK (orc:=orc35 true q1 k v) (keep:=[]) (cuts:=[6]) (n:=1000) follows ?_
 refine of_tr (fun ZT ZW ZQ ZK=>(fun Za Zb Zc Zd Ze Zf Zg Zh Zi=>(ZK 50 [(.agg [(ds k.st),(ds k.ex),(di k.no)]),(di v)] (.clo (.func 65) [] [(.ptr [(ds k.st),(ds k.ex),(di k.no)]),(.ptr [(di v)])])∧FnM Tryz.prog G 38 [(.box 1000000 0),(vi t)] [(1000000,[(vi q.ll),(vi q.lt),(vi q.lp),(vi q.ls),(vi q.tick),(vi q.arr),(vi q.num),(.vec 1000001 8 0 q.W.length),(.vec 1000002 11 0 q.L.length),(.vec 1000003 5 0 q.D.length),(.mapv 1000004)]),(1000001,[(.arr ⟨true,39,false,none⟩ 8 (wtF q.W))]),(1000002,[(.arr ⟨true,41,false,none⟩ 11 (lsF q.L))]),(1000003,[(.arr ⟨true,35,false,none⟩ 5 (jbF q.D))]),(1000004,[(.mp none (svF q.sv) q.has)])] (vb true) [(1000000,[(vi q1.ll),(vi q1.lt),(vi q1.lp),(vi q1.ls),(vi q1.tick),(vi q1.arr),(vi q1.num),(.vec 901 8 0 q1.W.length),(.vec 902 11 0 q1.L.length),(.vec 903 5 0 q1.D.length),(.mapv 1000004)]),(901,[Zd]),(902,[Zc]),(903,[Ze]),(1000004,[(.mp none (svF q1.sv) q1.has)])]∧((false=true)→(((vi 2):AV)=(vi 0)∧Zb=Za∧((some [Zd]):(Option (List AV)))=Zh∧((some [Zc]):(Option (List AV)))=Zg∧((some [Ze]):(Option (List AV)))=Zi∧(Zf:(Option (List AV)))=Zf∧True))∧((false=false)→(FnM Tryz.prog G 49 [(.box 1000000 0),(.d (.clo (.func 65) [] [(.ptr [(ds k.st),(ds k.ex),(di k.no)]),(.ptr [(di v)])]))] [(1000000,[(vi q1.ll),(vi q1.lt),(vi q1.lp),(vi q1.ls),(vi q1.tick),(vi q1.arr),(vi q1.num),(.vec 1000001 8 0 q1.W.length),(.vec 1000002 11 0 q1.L.length),(.vec 1000003 5 0 q1.D.length),(.mapv 1000004)]),(1000001,[Zd]),(1000002,[Zc]),(1000003,[Ze]),(1000004,[(.mp none (svF q1.sv) q1.has)])] (vb (hasB q1 k v)) [(1000000,[(vi q1.ll),(vi q1.lt),(vi q1.lp),(vi q1.ls),(vi q1.tick),(vi q1.arr),(vi q1.num),(.vec 1000001 8 0 q1.W.length),(.vec 1000002 11 0 q1.L.length),(.vec 1000003 5 0 q1.D.length),(.mapv 1000004)]),(1000001,[Zd]),(1000002,[Zc]),(1000003,[Ze]),(1000004,[(.mp none (svF q1.sv) q1.has)])]∧(((!hasB q1 k v)=true)→(((vi 7):AV)=(vi 0)∧Zb=Za∧((some [Zd]):(Option (List AV)))=Zh∧((some [Zc]):(Option (List AV)))=Zg∧((some [Ze]):(Option (List AV)))=Zi∧(Zf:(Option (List AV)))=Zf∧True))∧(((!hasB q1 k v)=false)→ZW [cd Tryz.f35 [1,1,1]] (stS ZT [1,1]) ZQ))))) (some [(vi q1.ll),(vi q1.lt),(vi q1.lp),(vi q1.ls),(vi q1.tick),(vi q1.arr),(vi q1.num),(.vec 901 8 0 (List.filter (fun w=>!sameB k v w.j) q1.W).length),(.vec 902 11 0 (List.filter (fun l=>!sameB k v l.w.j) q1.L).length),(.vec 903 5 0 (List.filter (fun j=>!sameB k v j) q1.D).length),(.mapv 1000004)]) ((some [(vi q1.ll),(vi q1.lt),(vi q1.lp),(vi q1.ls),(vi q1.tick),(vi q1.arr),(vi q1.num),(.vec 901 8 0 q1.W.length),(.vec 902 11 0 q1.L.length),(.vec 903 5 0 q1.D.length),(.mapv 1000004)]):(Option (List AV))) ((.arr ⟨true,41,false,none⟩ 11 (lsF q1.L)):AV) ((.arr ⟨true,39,false,none⟩ 8 (wtF q1.W)):AV) ((.arr ⟨true,35,false,none⟩ 5 (jbF q1.D)):AV) (some [(.mp none (svF q1.sv) q1.has)]) (some [(.arr ⟨true,41,false,none⟩ 11 (lsF (List.filter (fun l=>!sameB k v l.w.j) q1.L)))]) (some [(.arr ⟨true,39,false,none⟩ 8 (wtF (List.filter (fun w=>!sameB k v w.j) q1.W)))]) (some [(.arr ⟨true,35,false,none⟩ 5 (jbF (List.filter (fun j=>!sameB k v j) q1.D)))])) (by kernel_rfl) ?_
 refine⟨f50 k v,h38,fun c=>(by cases c),fun _=>⟨f49 q1 k v h1 h2 h3,fun d=>absurd d (by rw[he];decide),fun _=>?_⟩⟩
 refine AWP.freezeB (dl:=[sameC k v]) 9 (by kernel_rfl) rfl ?_
 refine walkK (orc:=orc35 true q1 k v) (keep:=[]) (cuts:=[]) (n:=1000) follows ?_
 refine of_tr (fun _ _ _ _=>(fun Za Zb Zc Zd Ze=>(FnM Tryz.prog G 52 [(.vec 1000000 8 0 q1.W.length),(.d (.clo (.func 53) [] [(.ptr [Ze])]))] [(1000000,[(.arr ⟨true,39,false,none⟩ 8 (wtF q1.W))])] (.vec 1000000 8 0 (List.filter (fun w=>!sameB k v w.j) q1.W).length) [(1000000,[Zc])]∧FnM Tryz.prog G 28 [(.vec 1000000 11 0 q1.L.length),(.d (.clo (.func 54) [] [(.ptr [Ze])]))] [(1000000,[(.arr ⟨true,41,false,none⟩ 11 (lsF q1.L))])] (.vec 1000000 11 0 (List.filter (fun l=>!sameB k v l.w.j) q1.L).length) [(1000000,[Zb])]∧FnM Tryz.prog G 14 [(.vec 1000000 5 0 q1.D.length),(.d Ze)] [(1000000,[(.arr ⟨true,35,false,none⟩ 5 (jbF q1.D))])] (.vec 1000000 5 0 (List.filter (fun j=>!sameB k v j) q1.D).length) [(1000000,[Zd])]∧(ZS ((vi 0):AV))∧(Za:(Option (List AV)))=Za∧((some [Zc]):(Option (List AV)))=(some [Zc])∧((some [Zb]):(Option (List AV)))=(some [Zb])∧((some [Zd]):(Option (List AV)))=(some [Zd])∧((some [(.mp none (svF q1.sv) q1.has)]):(Option (List AV)))=(some [(.mp none (svF q1.sv) q1.has)])∧True)) (some [(vi q1.ll),(vi q1.lt),(vi q1.lp),(vi q1.ls),(vi q1.tick),(vi q1.arr),(vi q1.num),(.vec 901 8 0 (List.filter (fun w=>!sameB k v w.j) q1.W).length),(.vec 902 11 0 (List.filter (fun l=>!sameB k v l.w.j) q1.L).length),(.vec 903 5 0 (List.filter (fun j=>!sameB k v j) q1.D).length),(.mapv 1000004)]) ((.arr ⟨true,41,false,none⟩ 11 (lsF (List.filter (fun l=>!sameB k v l.w.j) q1.L))):AV) ((.arr ⟨true,39,false,none⟩ 8 (wtF (List.filter (fun w=>!sameB k v w.j) q1.W))):AV) ((.arr ⟨true,35,false,none⟩ 5 (jbF (List.filter (fun j=>!sameB k v j) q1.D))):AV) ((.clo (.func 65) [] [(.ptr [(ds k.st),(ds k.ex),(di k.no)]),(.ptr [(di v)])]):DV)) (by kernel_rfl) ?_
 exact⟨f52 53 (.ptr [sameC k v]) (fun w=>sameB k v w.j) q1.W h1 fun i hi=>f53 _ _ _ (q1.W.getD i wt0) (f65 _ _ _),f28 54 (.ptr [sameC k v]) (fun l=>sameB k v l.w.j) q1.L h2 fun i hi=>f54 _ _ _ (q1.L.getD i ls0) (f65 _ _ _),f14b 65 (.ptr (keyL k)) (.ptr [di v]) (sameB k v) q1.D h3 fun i hi=>f65 (q1.D.getD i jb0) _ _,rfl,rfl,rfl,rfl,rfl,rfl,trivial⟩
end Go.Proofs
