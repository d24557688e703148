import Derived.Test.YteigabjdeaoaiaaGreatDoorAcD
import Derived.Test.YteigabjdeaoaiaaGreatDoorG1
/- A job is leased. -/
set_option autoImplicit false
namespace Go.Proofs
open Go Go.Ab Go.RowKit
set_option maxHeartbeats 4000000
set_option maxRecDepth 100000
variable {G:IH}
def mayB (q:Qm) (t:Int) (w:Wt):Bool:=decide (w.fr≤t)&&decide ((heldN q w.j.st:Int)<q.ls)
def bestS (q:Qm) (t:Int) (b:Int) (k:Nat):Int:=if (mayB q t (q.W.getD k wt0)&&(decide (b<0)||decide (beforeN q (q.W.getD k wt0) (q.W.getD b.toNat wt0)<0)))=true then k else b
def bestI (q:Qm) (t:Int):Nat→Int
 | 0=>-1
 | k+1=>bestS q t (bestI q t k) k
theorem bestI_le (q:Qm) (t:Int):∀k,-1≤bestI q t k∧bestI q t k<k
 | 0=>⟨Int.le_refl _,(by decide:(-1:Int)<0)⟩
 | k+1=>by
  have ⟨h1,h2⟩:=bestI_le q t k
  show -1≤bestS q t (bestI q t k) k∧bestS q t (bestI q t k) k<_
  unfold bestS
  split<;>omega
noncomputable def d20 (wk:ByteArray):Oracle:=fun f _=>match f with
 | 39=>some (db (nameB wk))
 | _=>none
noncomputable def m20 (b:Bool) (q:Qm) (h:Int) (c:Int) (i:Nat):FuncId→List AV→List (Nat×List AV)→Option (AV×List (Nat×List AV)):=fun f _ _=>match f with
 | 38=>some (.d (db b),qG q)
 | 40=>some (.d (di h),qP q)
 | 41=>some (.d (di c),qP q)
 | 42=>some (.vec 900 8 0 (q.W.length-1),[(1000000,[.dead]),(900,[.arr wK 8 (wtF (q.W.eraseIdx i))])])
 | _=>none
noncomputable def orc20 (wk:ByteArray) (b:Bool) (q:Qm) (h:Int) (c:Int) (i:Nat):Orc:={ d:=d20 wk,m:=m20 b q h c i,rows:=fun n=>Nat.beq n 118,ro:=fun f=>Nat.beq f 40||Nat.beq f 41 }
def leaseE (b:Bool) (wk:ByteArray):Int:=if b=false then 2 else 1
theorem f20_no (b:Bool) (q q1:Qm) (wk:ByteArray) (t:Int) (h38:FnM Tryz.prog G 38 [.box 1000000 0,.d (di t)] (qP q) (.d (db b)) (qG q1)) (he:b=true→nameB wk=false) (hw:wk.size≤1000000):FnM Tryz.prog G 20 [.box 1000000 0,.d (ds wk),.d (di t)] (qP q) (.d (.tup [lsD ls0,di (leaseE b wk)])) (qG q1):=by
 refine FnM.of_body (mv:=[(16901,901),(16902,902),(16903,903)]) (by kernel_rfl) Tryz.func20 rfl Tryz.call20 ?_
 refine walkK (orc:=orc20 wk b q1 0 0 0) (keep:=[]) (cuts:=[5]) (n:=1000) follows ?_
 refine of_tr (fun ZT ZW ZQ ZK=>(fun Za Zb Zc Zd Ze Zf Zg=>(FnM Tryz.prog G 38 [(.box 1000000 0),(vi t)] [(1000000,[(vi q.ll),(vi q.lt),(vi q.lp),(vi q.ls),(vi q.tick),(vi q.arr),(vi q.num),(.vec 1000001 8 0 q.W.length),(.vec 1000002 11 0 q.L.length),(.vec 1000003 5 0 q.D.length),(.mapv 1000004)]),(1000001,[(.arr ⟨true,39,false,none⟩ 8 (wtF q.W))]),(1000002,[(.arr ⟨true,41,false,none⟩ 11 (lsF q.L))]),(1000003,[(.arr ⟨true,35,false,none⟩ 5 (jbF q.D))]),(1000004,[(.mp none (svF q.sv) q.has)])] (vb b) [(1000000,[(vi q1.ll),(vi q1.lt),(vi q1.lp),(vi q1.ls),(vi q1.tick),(vi q1.arr),(vi q1.num),(.vec 901 8 0 q1.W.length),(.vec 902 11 0 q1.L.length),(.vec 903 5 0 q1.D.length),(.mapv 1000004)]),(901,[Zc]),(902,[Zb]),(903,[Zd]),(1000004,[(.mp none (svF q1.sv) q1.has)])]∧(((!b)=true)→(((.d (.tup [Zf,(di 2)])):AV)=Ze∧(Za:(Option (List AV)))=Za∧((some [Zc]):(Option (List AV)))=(some [Zc])∧((some [Zb]):(Option (List AV)))=(some [Zb])∧((some [Zd]):(Option (List AV)))=(some [Zd])∧(Zg:(Option (List AV)))=Zg∧True))∧(((!b)=false)→(ZK 39 [(ds wk)] (db (nameB wk))∧(((!nameB wk)=true)→(((.d (.tup [Zf,(di 1)])):AV)=Ze∧(Za:(Option (List AV)))=Za∧((some [Zc]):(Option (List AV)))=(some [Zc])∧((some [Zb]):(Option (List AV)))=(some [Zb])∧((some [Zd]):(Option (List AV)))=(some [Zd])∧(Zg:(Option (List AV)))=Zg∧True))∧(((!nameB wk)=false)→ZW [cd Tryz.f20 [1,1]] (stS ZT [1,1]) ZQ))))) (some [(vi q1.ll),(vi q1.lt),(vi q1.lp),(vi q1.ls),(vi q1.tick),(vi q1.arr),(vi q1.num),(.vec 901 8 0 q1.W.length),(.vec 902 11 0 q1.L.length),(.vec 903 5 0 q1.D.length),(.mapv 1000004)]) ((.arr ⟨true,41,false,none⟩ 11 (lsF q1.L)):AV) ((.arr ⟨true,39,false,none⟩ 8 (wtF q1.W)):AV) ((.arr ⟨true,35,false,none⟩ 5 (jbF q1.D)):AV) ((.d (.tup [(.agg [(di 0),(di 0),(ds ByteArray.empty),(ds ByteArray.empty),(ds ByteArray.empty),(di 0),(di 0),(di 0),(di 0),(di 0),(di 0)]),(di (leaseE b wk))])):AV) ((.agg [(di 0),(di 0),(ds (ByteArray.mk #[])),(ds (ByteArray.mk #[])),(ds (ByteArray.mk #[])),(di 0),(di 0),(di 0),(di 0),(di 0),(di 0)]):DV) (some [(.mp none (svF q1.sv) q1.has)])) (by kernel_rfl) ?_
 refine⟨h38,fun c=>?_,fun c=>⟨f39 wk hw,fun d=>?_,fun d=>absurd (he (by simpa using c)) (by rw[show nameB wk=true by simpa using d];decide)⟩⟩
 ·have c:b=false:=by simpa using c
  subst c
  exact⟨rfl,rfl,rfl,rfl,rfl,rfl,trivial⟩
 ·have c:b=true:=by simpa using c
  subst c
  exact⟨rfl,rfl,rfl,rfl,rfl,rfl,trivial⟩
noncomputable def S20 (q:Qm) (wk:ByteArray) (t b:Int) (k:Nat):AS:=⟨regs Tryz.f20.ntmps [(0,.box 1000000 0),(1,vs wk),(2,vi t),(6,.box 6 0),(7,vi 0),(8,vi b),(26,.vec 901 8 0 q.W.length),(27,vi q.W.length),(28,vi k)],(6,(lsL ls0).map .d) :: qG q⟩
theorem may_eq (q:Qm) (t b:Int) (k:Nat):(decide ((q.W.getD k wt0).fr≤t)&&decide ((heldN q (q.W.getD k wt0).j.st:Int)<q.ls)&&(decide (b<0)||decide (beforeN q (q.W.getD k wt0) (q.W.getD b.toNat wt0)<0)))=(mayB q t (q.W.getD k wt0)&&(decide (b<0)||decide (beforeN q (q.W.getD k wt0) (q.W.getD b.toNat wt0)<0))):=rfl
theorem f20_round {K:List It} {Q:Exit→AS→Prop} (q:Qm) (wk:ByteArray) (t:Int) (k:Nat) (hk:k<q.W.length) (hW:q.W.length≤1000000) (hL:q.L.length≤1000000) (hh:HasOK q):AWP Tryz.prog G [.code (cAt (bodyOf Tryz.f20) [1,1,1,0,1,0,0])] (S20 q wk t (bestI q t k) k) (RoundQ Tryz.prog G K Q (fun k=>S20 q wk t (bestI q t k) k) (fun k=>k≤q.W.length) (fun k=>q.W.length-k) k):=by
 have hb:=bestI_le q t k
 have e:bestI q t (k+1)=bestS q t (bestI q t k) k:=rfl
 revert hb e
 generalize bestI q t k=b
 intro hb e
 have h40:=f40 (G:=G) q (q.W.getD k wt0).j.st hL
 have h41:=f41 (G:=G) q (q.W.getD k wt0) (q.W.getD b.toNat wt0) hh
 refine walkK (orc:=orc20 wk true q (heldN q (q.W.getD k wt0).j.st) (beforeN q (q.W.getD k wt0) (q.W.getD b.toNat wt0)) 0) (keep:=[]) (cuts:=[12]) (n:=1000) follows ?_
 refine of_rd (fun ZT _ _ _ ZA _=>(fun Za Zb Zc Zd Ze Zf Zg Zh Zi=>((((decide ((↑k:Int)<↑q.W.length))=true)→(((0≤(↑k:Int))∧((↑k:Int)<↑q.W.length))∧((((decide (Zb.fr≤t))=true)→FnM Tryz.prog G 40 [(.box 1000000 0),(vs Zb.j.st)] [(1000000,[(vi q.ll),(vi q.lt),(vi q.lp),(vi q.ls),(vi q.tick),(vi q.arr),(vi q.num),(.vec 1000001 8 0 q.W.length),Zh,(.vec 1000003 5 0 q.D.length),(.mapv 1000004)]),(1000001,[Zd]),(1000002,[Zc]),(1000003,[Ze]),(1000004,[(.mp none (svF q.sv) q.has)])] (vi (↑Zf)) [(1000000,[(vi q.ll),(vi q.lt),(vi q.lp),(vi q.ls),(vi q.tick),(vi q.arr),(vi q.num),(.vec 1000001 8 0 q.W.length),Zh,(.vec 1000003 5 0 q.D.length),(.mapv 1000004)]),(1000001,[Zd]),(1000002,[Zc]),(1000003,[Ze]),(1000004,[(.mp none (svF q.sv) q.has)])])∧(((decide (Zb.fr≤t))=true)→(Zg=[(vi q.ll),(vi q.lt),(vi q.lp),(vi q.ls),(vi q.tick),(vi q.arr),(vi q.num),(.vec 901 8 0 q.W.length),(.vec 902 11 0 q.L.length),(.vec 903 5 0 q.D.length),(.mapv 1000004)]))∧(((decide (Zb.fr≤t))=true)→(([Zd]:(List AV))=[Zd]))∧(((decide (Zb.fr≤t))=true)→(([Zc]:(List AV))=[Zc]))∧(((decide (Zb.fr≤t))=true)→(([Ze]:(List AV))=[Ze]))∧(((decide (Zb.fr≤t))=true)→(([(.mp none (svF q.sv) q.has)]:(List AV))=[(.mp none (svF q.sv) q.has)]))∧(((decide (Zb.fr≤t)&&decide (↑Zf<q.ls)&&!decide (b<0))=true)→((0≤b)∧(b<↑q.W.length)))∧(((decide (Zb.fr≤t)&&decide (↑Zf<q.ls)&&!decide (b<0))=true)→FnM Tryz.prog G 41 [(.box 1000000 0),(.d (.agg [(ds Zb.j.st),(ds Zb.j.ex),(di Zb.j.no),(di Zb.j.ve),(di Zb.j.pr),(di Zb.tr),(di Zb.ar),(di Zb.fr)])),(.d (.agg [(ds (q.W.getD (0+b.toNat) wt0).j.st),(ds (q.W.getD (0+b.toNat) wt0).j.ex),(di (q.W.getD (0+b.toNat) wt0).j.no),(di (q.W.getD (0+b.toNat) wt0).j.ve),(di (q.W.getD (0+b.toNat) wt0).j.pr),(di (q.W.getD (0+b.toNat) wt0).tr),(di (q.W.getD (0+b.toNat) wt0).ar),(di (q.W.getD (0+b.toNat) wt0).fr)]))] [(1000000,[(vi q.ll),(vi q.lt),(vi q.lp),(vi q.ls),(vi q.tick),(vi q.arr),(vi q.num),(.vec 1000001 8 0 q.W.length),Zh,(.vec 1000003 5 0 q.D.length),(.mapv 1000004)]),(1000001,[Zd]),(1000002,[Zc]),(1000003,[Ze]),(1000004,[(.mp none (svF q.sv) q.has)])] (vi (beforeN q (q.W.getD k wt0) (q.W.getD b.toNat wt0))) [(1000000,[(vi q.ll),(vi q.lt),(vi q.lp),(vi q.ls),(vi q.tick),(vi q.arr),(vi q.num),(.vec 1000001 8 0 q.W.length),Zh,(.vec 1000003 5 0 q.D.length),(.mapv 1000004)]),(1000001,[Zd]),(1000002,[Zc]),(1000003,[Ze]),(1000004,[(.mp none (svF q.sv) q.has)])])∧(((decide (Zb.fr≤t)&&decide (↑Zf<q.ls)&&!decide (b<0))=true)→(Zg=[(vi q.ll),(vi q.lt),(vi q.lp),(vi q.ls),(vi q.tick),(vi q.arr),(vi q.num),(.vec 901 8 0 q.W.length),(.vec 902 11 0 q.L.length),(.vec 903 5 0 q.D.length),(.mapv 1000004)]))∧(((decide (Zb.fr≤t)&&decide (↑Zf<q.ls)&&!decide (b<0))=true)→(([Zd]:(List AV))=[Zd]))∧(((decide (Zb.fr≤t)&&decide (↑Zf<q.ls)&&!decide (b<0))=true)→(([Zc]:(List AV))=[Zc]))∧(((decide (Zb.fr≤t)&&decide (↑Zf<q.ls)&&!decide (b<0))=true)→(([Ze]:(List AV))=[Ze]))∧(((decide (Zb.fr≤t)&&decide (↑Zf<q.ls)&&!decide (b<0))=true)→(([(.mp none (svF q.sv) q.has)]:(List AV))=[(.mp none (svF q.sv) q.has)])))∧(((decide (Zb.fr≤t)&&decide (↑Zf<q.ls)&&Zi)=true)→((I64 (↑k+1))∧(ZA (stS ZT [0,0]))))∧(((decide (Zb.fr≤t)&&decide (↑Zf<q.ls)&&Zi)=false)→((I64 (↑k+1))∧(ZA (stS ZT [0,1]))))))∧(((decide ((↑k:Int)<↑q.W.length))=false)→(match popTo 1 K with|some k'=>AWP Tryz.prog G k' Za Q|none=>Q (Exit.exit 1) Za)))) (AS.mk [AV.box 1000000 0,AV.d (ds wk),vi t,AV.any,AV.any,AV.any,AV.box 6 0,vi 0,vi b,AV.any,AV.any,AV.any,AV.any,AV.any,AV.any,AV.any,AV.any,AV.any,AV.any,AV.any,AV.any,AV.any,AV.any,AV.any,AV.any,AV.any,AV.vec 901 8 0 q.W.length,AV.d (DV.con (Value.int IntKind.i64 ↑q.W.length)),AV.d (DV.con (Value.int IntKind.i64 ↑k)),AV.d (DV.con (Value.bool false)),AV.any,AV.any,AV.any,AV.any,AV.any,AV.any,AV.any,AV.any,AV.any,AV.any,AV.any,AV.any,AV.any,AV.any,AV.any,AV.any,AV.any,AV.any,AV.any,AV.any,AV.any,AV.any,AV.any,AV.any,AV.any,AV.any,AV.any,AV.any,AV.any,AV.any,AV.any,AV.any,AV.any,AV.any,AV.any,AV.any,AV.any,AV.any,AV.any,AV.any,AV.any,AV.any,AV.any,AV.any,AV.any,AV.any,AV.any,AV.any,AV.any,AV.any,AV.any,AV.any,AV.any,AV.any,AV.any,AV.any,AV.any,AV.any,AV.any,AV.any,AV.any,AV.any,AV.any,AV.any,AV.any,AV.any,AV.any,AV.any,AV.any,AV.any,AV.any,AV.any,AV.any,AV.any,AV.any,AV.any,AV.any,AV.any,AV.any,AV.any,AV.any,AV.any,AV.any,AV.any,AV.any,AV.any,AV.any,AV.any,AV.any,AV.any,AV.any,AV.any,AV.any,AV.any,AV.any,AV.any,AV.any,AV.any,AV.any,AV.any,AV.any,AV.any,AV.any,AV.any] [(6,[vi 0,vi 0,AV.d (ds ByteArray.empty),AV.d (ds ByteArray.empty),AV.d (ds ByteArray.empty),vi 0,vi 0,vi 0,vi 0,vi 0,vi 0]),(1000000,[vi q.ll,vi q.lt,vi q.lp,vi q.ls,vi q.tick,vi q.arr,vi q.num,AV.vec 901 8 0 q.W.length,AV.vec 902 11 0 q.L.length,AV.vec 903 5 0 q.D.length,AV.mapv 1000004]),(901,[AV.arr (RK.mk true 39 false none) 8 (wtF q.W)]),(902,[AV.arr (RK.mk true 41 false none) 11 (lsF q.L)]),(903,[AV.arr (RK.mk true 35 false none) 5 (jbF q.D)]),(1000004,[AV.mp none (svF q.sv) q.has])]) (q.W.getD (0+(↑k:Int).toNat) wt0) ((.arr ⟨true,41,false,none⟩ 11 (lsF q.L)):AV) ((.arr ⟨true,39,false,none⟩ 8 (wtF q.W)):AV) ((.arr ⟨true,35,false,none⟩ 5 (jbF q.D)):AV) (heldN q (q.W.getD k wt0).j.st) ([(vi q.ll),(vi q.lt),(vi q.lp),(vi q.ls),(vi q.tick),(vi q.arr),(vi q.num),(.vec 901 8 0 q.W.length),(.vec 902 11 0 q.L.length),(.vec 903 5 0 q.D.length),(.mapv 1000004)]:(List AV)) ((.vec 1000002 11 0 q.L.length):AV) (decide (b<0)||decide (beforeN q (q.W.getD k wt0) (q.W.getD b.toNat wt0)<0))) (by kernel_rfl) ?_
 dsimp only
 rw[show 0+((k:Int)).toNat=k from Nat.zero_add _,show 0+b.toNat=b.toNat from Nat.zero_add _]
 refine⟨fun _=>⟨⟨by omega,by omega⟩,⟨fun _=>h40,fun _=>rfl,fun _=>rfl,fun _=>rfl,fun _=>rfl,fun _=>rfl,fun c=>?_,fun _=>h41,fun _=>rfl,fun _=>rfl,fun _=>rfl,fun _=>rfl,fun _=>rfl⟩,fun c=>⟨⟨by omega,by omega⟩,?_⟩,fun c=>⟨⟨by omega,by omega⟩,?_⟩⟩,fun hd=>absurd (of_decide_eq_false hd) (by omega)⟩
 ·simp only[bAt,Bool.not_eq_true',decide_eq_false_iff_not] at c
  omega
 ·refine Again.mk (k+1) ?_ hk (by show q.W.length-(k+1)<q.W.length-k;omega)
  rw[may_eq] at c
  have e2:bestS q t b k=k:=by unfold bestS;rw[if_pos c]
  simp only[e,e2]
  exact AS.leA (by kernel_rfl)
 ·refine Again.mk (k+1) ?_ hk (by show q.W.length-(k+1)<q.W.length-k;omega)
  rw[may_eq] at c
  have e2:bestS q t b k=b:=by unfold bestS;rw[if_neg (by rw[c];decide)]
  simp only[e,e2]
  exact AS.leA (by kernel_rfl)
end Go.Proofs
/- A lease. -/
namespace Go.Proofs
open Go Go.Ab Go.RowKit
set_option maxHeartbeats 4000000
set_option maxRecDepth 100000
variable {G:IH}
noncomputable def S20a (q:Qm) (wk:ByteArray) (t:Int):AS:=⟨regs Tryz.f20.ntmps [(0,.box 1000000 0),(1,vs wk),(2,vi t),(6,.box 6 0),(7,vi 0),(8,vi (-1)),(26,.vec 16901 8 0 q.W.length),(27,vi q.W.length),(28,vi 0)],[(6,(lsL ls0).map .d),(1000000,qC q 16901 16902 16903),(16901,rowW q.W),(16902,rowL q.L),(16903,rowD q.D),(1000004,[.mp none (svF q.sv) q.has])]⟩
def leasE (q:Qm) (wk:ByteArray) (t:Int) (i:Nat):Ls:=⟨q.num+1,min (t+q.ll) 1099511627777,wk,q.W.getD i wt0⟩
def leasQ (q:Qm) (wk:ByteArray) (t:Int) (i:Nat):Qm:={ q with num:=q.num+1,W:=q.W.eraseIdx i,L:=q.L++[leasE q wk t i],sv:=fun k=>if k=(q.W.getD i wt0).j.st then q.sv k+1 else q.sv k,has:=putH (.string (q.W.getD i wt0).j.st) q.has }
theorem sv_put (f:ByteArray→Int) (s:ByteArray):putF (.string s) (di (f s+1)) (svF f)=svF fun k=>if k=s then f k+1 else f k:=by
 funext k
 unfold putF
 cases k with
 | string a=>
  show (bif keyEq (.string a) (.string s) then _ else _)=di (if a=s then f a+1 else f a)
  by_cases h:a=s
  ·subst h
   rw[if_pos rfl,show keyEq (.string a) (.string a)=true from by simp[keyEq]];rfl
  ·rw[if_neg h,show keyEq (.string a) (.string s)=false from by simp[keyEq,h]];rfl
 | _=>rfl
abbrev qGl (q:Qm) (n:Nat) (f:Nat→DV):List (Nat×List AV):=[(1000000,[vi q.ll,vi q.lt,vi q.lp,vi q.ls,vi q.tick,vi q.arr,vi q.num,.vec 901 8 0 q.W.length,.vec 902 11 0 n,.vec 903 5 0 q.D.length,.mapv 1000004]),(901,rowW q.W),(902,[.arr lK 11 f]),(903,rowD q.D),(1000004,[.mp none (svF q.sv) q.has])]
theorem le20 (q:Qm) (L:List Ls) (l:Ls) (r:DV):AS.leX ⟨[.d r],qGl q (L.length+1) fun i=>bif i.blt L.length then lsF L i else elemF true 11 (lsL l) (0+(i-L.length))⟩ ⟨[.d r],qG { q with L:=L++[l] }⟩:=by
 refine(AS.leX.rowB _ 1000000 8 902 (L.length+1) (agg:=lK) (sz:=11) (f:=fun i=>bif i.blt L.length then lsF L i else elemF true 11 (lsL l) (0+(i-L.length))) (lsF (L++[l])) rfl rfl (by kernel_rfl) (by kernel_rfl) rfl rfl rfl (by kernel_rfl) fun j hj=>lsF_app hj).trans (.of_le ?_)
 refine⟨⟨rfl,trivial⟩,?_,rfl,rfl,rfl,rfl,trivial⟩
 show _=some [vi q.ll,vi q.lt,vi q.lp,vi q.ls,vi q.tick,vi q.arr,vi q.num,.vec 901 8 0 q.W.length,.vec 902 11 0 (L++[l]).length,.vec 903 5 0 q.D.length,.mapv 1000004]
 rw[List.length_append];rfl
theorem minL {a:Int}:(if 1099511627777<a then (1099511627777:Int) else a)=min a 1099511627777:=by
 rw[Int.min_def];split<;>split<;>omega
theorem f20_none (q q1:Qm) (wk:ByteArray) (t:Int) (h38:FnM Tryz.prog G 38 [.box 1000000 0,.d (di t)] (qP q) (.d (db true)) (qG q1)) (hn:nameB wk=true) (hw:wk.size≤1000000) (hW:q1.W.length≤1000000) (hL:q1.L.length≤1000000) (hh:HasOK q1) (hb:bestI q1 t q1.W.length<0):FnM Tryz.prog G 20 [.box 1000000 0,.d (ds wk),.d (di t)] (qP q) (.d (.tup [lsD ls0,di 7])) (qG q1):=by
 refine FnM.of_body (mv:=[]) (by kernel_rfl) Tryz.func20 rfl Tryz.call20 ?_
 refine walkK (orc:=orc20 wk true q1 0 0 0) (keep:=[]) (cuts:=[5]) (n:=1000) follows ?_
 refine of_tr (fun ZT ZW ZQ ZK=>(fun Za Zb Zc Zd Ze Zf Zg Zh=>(FnM Tryz.prog G 38 [(.box 1000000 0),(vi t)] [(1000000,[(vi q.ll),(vi q.lt),(vi q.lp),(vi q.ls),(vi q.tick),(vi q.arr),(vi q.num),(.vec 1000001 8 0 q.W.length),(.vec 1000002 11 0 q.L.length),(.vec 1000003 5 0 q.D.length),(.mapv 1000004)]),(1000001,[(.arr ⟨true,39,false,none⟩ 8 (wtF q.W))]),(1000002,[(.arr ⟨true,41,false,none⟩ 11 (lsF q.L))]),(1000003,[(.arr ⟨true,35,false,none⟩ 5 (jbF q.D))]),(1000004,[(.mp none (svF q.sv) q.has)])] (vb true) [(1000000,[(vi q1.ll),(vi q1.lt),(vi q1.lp),(vi q1.ls),(vi q1.tick),(vi q1.arr),(vi q1.num),(.vec 901 8 0 q1.W.length),(.vec 902 11 0 q1.L.length),(.vec 903 5 0 q1.D.length),(.mapv 1000004)]),(901,[Zg]),(902,[Zf]),(903,[Zh]),(1000004,[(.mp none (svF q1.sv) q1.has)])]∧((false=true)→(((.d (.tup [Zd,(di 2)])):AV)=Zc∧Za=Zb∧(none:(Option (List AV)))=(some [Zg])∧(none:(Option (List AV)))=(some [Zf])∧(none:(Option (List AV)))=(some [Zh])∧(Ze:(Option (List AV)))=Ze∧True))∧((false=false)→(ZK 39 [(ds wk)] (db (nameB wk))∧(((!nameB wk)=true)→(((.d (.tup [Zd,(di 1)])):AV)=Zc∧Za=Zb∧(none:(Option (List AV)))=(some [Zg])∧(none:(Option (List AV)))=(some [Zf])∧(none:(Option (List AV)))=(some [Zh])∧(Ze:(Option (List AV)))=Ze∧True))∧(((!nameB wk)=false)→ZW [cd Tryz.f20 [1,1]] (stS ZT [1,1]) ZQ))))) ((some [(vi q1.ll),(vi q1.lt),(vi q1.lp),(vi q1.ls),(vi q1.tick),(vi q1.arr),(vi q1.num),(.vec 16901 8 0 q1.W.length),(.vec 16902 11 0 q1.L.length),(.vec 16903 5 0 q1.D.length),(.mapv 1000004)]):(Option (List AV))) (some [(vi q1.ll),(vi q1.lt),(vi q1.lp),(vi q1.ls),(vi q1.tick),(vi q1.arr),(vi q1.num),(.vec 901 8 0 q1.W.length),(.vec 902 11 0 q1.L.length),(.vec 903 5 0 q1.D.length),(.mapv 1000004)]) ((.d (.tup [(.agg [(di 0),(di 0),(ds ByteArray.empty),(ds ByteArray.empty),(ds ByteArray.empty),(di 0),(di 0),(di 0),(di 0),(di 0),(di 0)]),(di 7)])):AV) ((.agg [(di 0),(di 0),(ds (ByteArray.mk #[])),(ds (ByteArray.mk #[])),(ds (ByteArray.mk #[])),(di 0),(di 0),(di 0),(di 0),(di 0),(di 0)]):DV) (some [(.mp none (svF q1.sv) q1.has)]) ((.arr ⟨true,41,false,none⟩ 11 (lsF q1.L)):AV) ((.arr ⟨true,39,false,none⟩ 8 (wtF q1.W)):AV) ((.arr ⟨true,35,false,none⟩ 5 (jbF q1.D)):AV)) (by kernel_rfl) ?_
 refine⟨h38,fun c=>(by cases c),fun c=>⟨f39 wk hw,fun d=>absurd d (by rw[hn];decide),fun d=>?_⟩⟩
 refine walkK (orc:=orc20 wk true q1 0 0 0) (keep:=[]) (cuts:=[]) (n:=1000) follows ?_
 refine of_tr (fun ZT ZW ZQ _=>ZW [cd Tryz.f20 [1,1,1,0,1,0],(.blk 1),cd Tryz.f20 [1,1,1,1]] (stS ZT []) ZQ) (by kernel_rfl) ?_
 refine AWP.weaken (st':=S20a q1 wk t) ?_ ?_
 ·refine AS.leZ [] [0] (b:=((T0∧T0∧T0∧T0∧T0∧T0∧T0∧T0∧T0∧True)∧((some [(vi 0),(vi 0),(vs (ByteArray.mk #[])),(vs (ByteArray.mk #[])),(vs (ByteArray.mk #[])),(vi 0),(vi 0),(vi 0),(vi 0),(vi 0),(vi 0)]):(Option (List AV)))=(some [(vi 0),(vi 0),(vs ByteArray.empty),(vs ByteArray.empty),(vs ByteArray.empty),(vi 0),(vi 0),(vi 0),(vi 0),(vi 0),(vi 0)])∧T0∧T0∧T0∧T0∧T0∧True)) (by kernel_rfl) (by kernel_rfl) ?_
  exact⟨⟨rfl,rfl,rfl,rfl,rfl,rfl,rfl,rfl,rfl,trivial⟩,rfl,rfl,rfl,rfl,rfl,rfl,trivial⟩
 refine AWP.pre (.moves [(16901,901),(16902,902),(16903,903)] _ rfl) ?_
 refine AWP.loop (c:=cAt (bodyOf Tryz.f20) [1,1,1,0,1,0,0]) (by kernel_rfl) (fun k:Nat=>S20 q1 wk t (bestI q1 t k) k) (fun k=>k≤q1.W.length) (fun k=>q1.W.length-k) 0 ?_ (Nat.zero_le _) ?_
 ·refine AS.leZ [5] [] (b:=((T0∧T0∧T0∧T0∧T0∧((vi (-1)):AV)=(vi (bestI q1 t 0))∧T0∧T0∧T0∧True)∧T0∧T0∧T0∧T0∧T0∧T0∧True)) (by kernel_rfl) (by kernel_rfl) ?_
  exact⟨⟨rfl,rfl,rfl,rfl,rfl,rfl,rfl,rfl,rfl,trivial⟩,rfl,rfl,rfl,rfl,rfl,rfl,trivial⟩
 ·intro k hk
  by_cases hk2:k<q1.W.length
  ·exact f20_round q1 wk t k hk2 hW hL hh
  ·have hk:k≤q1.W.length:=hk
   obtain rfl:k=q1.W.length:=by omega
   show AWP _ _ _ (S20 q1 wk t (bestI q1 t q1.W.length) q1.W.length) _
   revert hb
   generalize bestI q1 t q1.W.length=b
   intro hb
   refine walkK (orc:=orc20 wk true q1 0 0 0) (keep:=[]) (cuts:=[8]) (n:=1000) follows ?_
   refine of_rd (fun ZT ZW ZQ _ _ ZR=>((((decide ((↑q1.W.length:Int)<↑q1.W.length))=true)→ZW [cd Tryz.f20 [1,1,1,0,1,0,0,1,1,0,0],(.blk 2),cd Tryz.f20 [1,1,1,0,1,0,0,1,1,1]] (stS ZT [0]) ZR)∧(((decide ((↑q1.W.length:Int)<↑q1.W.length))=false)→ZW [cd Tryz.f20 [1,1,1,1]] (stS ZT [1]) ZQ))) (by kernel_rfl) ?_
   refine⟨fun hd=>absurd (of_decide_eq_true hd) (by omega),fun _=>?_⟩
   refine walkK (orc:=orc20 wk true q1 0 0 0) (keep:=[]) (cuts:=[14]) (n:=1000) follows ?_
   refine of_tr (fun ZT ZW ZQ _=>(fun Za=>((((decide (b<0))=true)→(((.d (.tup [(.agg [(di 0),(di 0),(ds (ByteArray.mk #[])),(ds (ByteArray.mk #[])),(ds (ByteArray.mk #[])),(di 0),(di 0),(di 0),(di 0),(di 0),(di 0)]),(di 7)])):AV)=(.d (.tup [(.agg [(di 0),(di 0),(ds ByteArray.empty),(ds ByteArray.empty),(ds ByteArray.empty),(di 0),(di 0),(di 0),(di 0),(di 0),(di 0)]),(di 7)]))∧(Za:(Option (List AV)))=Za∧((some [(.arr ⟨true,39,false,none⟩ 8 (wtF q1.W))]):(Option (List AV)))=(some [(.arr ⟨true,39,false,none⟩ 8 (wtF q1.W))])∧((some [(.arr ⟨true,41,false,none⟩ 11 (lsF q1.L))]):(Option (List AV)))=(some [(.arr ⟨true,41,false,none⟩ 11 (lsF q1.L))])∧((some [(.arr ⟨true,35,false,none⟩ 5 (jbF q1.D))]):(Option (List AV)))=(some [(.arr ⟨true,35,false,none⟩ 5 (jbF q1.D))])∧((some [(.mp none (svF q1.sv) q1.has)]):(Option (List AV)))=(some [(.mp none (svF q1.sv) q1.has)])∧True))∧(((decide (b<0))=false)→ZW [cd Tryz.f20 [1,1,1,1,1]] (stS ZT [1]) ZQ))) (some [(vi q1.ll),(vi q1.lt),(vi q1.lp),(vi q1.ls),(vi q1.tick),(vi q1.arr),(vi q1.num),(.vec 901 8 0 q1.W.length),(.vec 902 11 0 q1.L.length),(.vec 903 5 0 q1.D.length),(.mapv 1000004)])) (by kernel_rfl) ?_
   exact⟨fun _=>⟨rfl,rfl,rfl,rfl,rfl,rfl,trivial⟩,fun hd=>absurd hb (of_decide_eq_false hd)⟩
theorem f20_hit (q q1:Qm) (wk:ByteArray) (t:Int) (h38:FnM Tryz.prog G 38 [.box 1000000 0,.d (di t)] (qP q) (.d (db true)) (qG q1)) (hn:nameB wk=true) (hw:wk.size≤1000000) (hW:q1.W.length≤1000000) (hL:q1.L.length≤1000000) (hh:HasOK q1) (i:Nat) (hb:bestI q1 t q1.W.length=i) (hi:i<q1.W.length) (h0:0≤q1.ll) (h1:q1.ll≤1099511627776) (h2:0≤t) (h3:t≤1099511627776) (hq:I64 (q1.num+1)) (hv:I64 (q1.sv (q1.W.getD i wt0).j.st+1)):FnM Tryz.prog G 20 [.box 1000000 0,.d (ds wk),.d (di t)] (qP q) (.d (.tup [lsD (leasE q1 wk t i),di 0])) (qG (leasQ q1 wk t i)):=by
 refine FnM.res (post:=qGl (leasQ q1 wk t i) (q1.L.length+1) fun j=>bif j.blt q1.L.length then lsF q1.L j else elemF true 11 (lsL (leasE q1 wk t i)) (0+(j-q1.L.length))) (le20 (leasQ q1 wk t i) q1.L (leasE q1 wk t i) _) ?_
 refine FnM.of_body (mv:=[(110900,901),(119,902)]) (by kernel_rfl) Tryz.func20 rfl Tryz.call20 ?_
 refine walkK (orc:=orc20 wk true q1 0 0 0) (keep:=[]) (cuts:=[5]) (n:=1000) follows ?_
 refine of_tr (fun ZT ZW ZQ ZK=>(fun Za Zb Zc Zd Ze Zf=>(FnM Tryz.prog G 38 [(.box 1000000 0),(vi t)] [(1000000,[(vi q.ll),(vi q.lt),(vi q.lp),(vi q.ls),(vi q.tick),(vi q.arr),(vi q.num),(.vec 1000001 8 0 q.W.length),(.vec 1000002 11 0 q.L.length),(.vec 1000003 5 0 q.D.length),(.mapv 1000004)]),(1000001,[(.arr ⟨true,39,false,none⟩ 8 (wtF q.W))]),(1000002,[(.arr ⟨true,41,false,none⟩ 11 (lsF q.L))]),(1000003,[(.arr ⟨true,35,false,none⟩ 5 (jbF q.D))]),(1000004,[(.mp none (svF q.sv) q.has)])] (vb true) [(1000000,[(vi q1.ll),(vi q1.lt),(vi q1.lp),(vi q1.ls),(vi q1.tick),(vi q1.arr),(vi q1.num),(.vec 901 8 0 q1.W.length),(.vec 902 11 0 q1.L.length),(.vec 903 5 0 q1.D.length),(.mapv 1000004)]),(901,[(.arr ⟨true,39,false,none⟩ 8 (wtF q1.W))]),(902,[(.arr ⟨true,41,false,none⟩ 11 (lsF q1.L))]),(903,[Zf]),(1000004,[(.mp none (svF q1.sv) q1.has)])]∧((false=true)→(((.d (.tup [Ze,(di 2)])):AV)=Zb∧Zc=Zd∧(none:(Option (List AV)))=(some [(.arr ⟨true,39,false,none⟩ 8 (wtF (q1.W.eraseIdx i)))])∧(none:(Option (List AV)))=Za∧(none:(Option (List AV)))=(some [Zf])∧((some [(.mp none (svF q1.sv) q1.has)]):(Option (List AV)))=(some [(.mp none (svF fun k=>if k=(q1.W.getD i wt0).j.st then q1.sv k+1 else q1.sv k) (putH (Value.string (q1.W.getD i wt0).j.st) q1.has))])∧True))∧((false=false)→(ZK 39 [(ds wk)] (db (nameB wk))∧(((!nameB wk)=true)→(((.d (.tup [Ze,(di 1)])):AV)=Zb∧Zc=Zd∧(none:(Option (List AV)))=(some [(.arr ⟨true,39,false,none⟩ 8 (wtF (q1.W.eraseIdx i)))])∧(none:(Option (List AV)))=Za∧(none:(Option (List AV)))=(some [Zf])∧((some [(.mp none (svF q1.sv) q1.has)]):(Option (List AV)))=(some [(.mp none (svF fun k=>if k=(q1.W.getD i wt0).j.st then q1.sv k+1 else q1.sv k) (putH (Value.string (q1.W.getD i wt0).j.st) q1.has))])∧True))∧(((!nameB wk)=false)→ZW [cd Tryz.f20 [1,1]] (stS ZT [1,1]) ZQ))))) (some [(.arr ⟨true,41,false,none⟩ 11 (fun j=>bif j.blt q1.L.length then lsF q1.L j else elemF true 11 [di (q1.num+1),DV.con (Value.int IntKind.i64 (min (t+q1.ll) 1099511627777)),ds wk,DV.con (Value.string (q1.W.getD i wt0).j.st),DV.con (Value.string (q1.W.getD i wt0).j.ex),DV.con (Value.int IntKind.i64 (q1.W.getD i wt0).j.no),DV.con (Value.int IntKind.i64 (q1.W.getD i wt0).j.ve),DV.con (Value.int IntKind.i64 (q1.W.getD i wt0).j.pr),DV.con (Value.int IntKind.i64 (q1.W.getD i wt0).tr),DV.con (Value.int IntKind.i64 (q1.W.getD i wt0).ar),DV.con (Value.int IntKind.i64 (q1.W.getD i wt0).fr)] (0+(j-q1.L.length))))]) ((.d (.tup [(.agg [(di (q1.num+1)),(di (min (t+q1.ll) 1099511627777)),(ds wk),(ds (q1.W.getD i wt0).j.st),(ds (q1.W.getD i wt0).j.ex),(di (q1.W.getD i wt0).j.no),(di (q1.W.getD i wt0).j.ve),(di (q1.W.getD i wt0).j.pr),(di (q1.W.getD i wt0).tr),(di (q1.W.getD i wt0).ar),(di (q1.W.getD i wt0).fr)]),(di 0)])):AV) ((some [(vi q1.ll),(vi q1.lt),(vi q1.lp),(vi q1.ls),(vi q1.tick),(vi q1.arr),(vi q1.num),(.vec 16901 8 0 q1.W.length),(.vec 16902 11 0 q1.L.length),(.vec 16903 5 0 q1.D.length),(.mapv 1000004)]):(Option (List AV))) (some [(vi q1.ll),(vi q1.lt),(vi q1.lp),(vi q1.ls),(vi q1.tick),(vi q1.arr),(vi (q1.num+1)),(.vec 901 8 0 (q1.W.eraseIdx i).length),(.vec 902 11 0 (q1.L.length+1)),(.vec 903 5 0 q1.D.length),(.mapv 1000004)]) ((.agg [(di 0),(di 0),(ds (ByteArray.mk #[])),(ds (ByteArray.mk #[])),(ds (ByteArray.mk #[])),(di 0),(di 0),(di 0),(di 0),(di 0),(di 0)]):DV) ((.arr ⟨true,35,false,none⟩ 5 (jbF q1.D)):AV)) (by kernel_rfl) ?_
 refine⟨h38,fun c=>(by cases c),fun c=>⟨f39 wk hw,fun d=>absurd d (by rw[hn];decide),fun d=>?_⟩⟩
 refine walkK (orc:=orc20 wk true q1 0 0 0) (keep:=[]) (cuts:=[]) (n:=1000) follows ?_
 refine of_tr (fun ZT ZW ZQ _=>ZW [cd Tryz.f20 [1,1,1,0,1,0],(.blk 1),cd Tryz.f20 [1,1,1,1]] (stS ZT []) ZQ) (by kernel_rfl) ?_
 refine AWP.weaken (st':=S20a q1 wk t) ?_ ?_
 ·refine AS.leZ [] [0] (b:=((T0∧T0∧T0∧T0∧T0∧T0∧T0∧T0∧T0∧True)∧((some [(vi 0),(vi 0),(vs (ByteArray.mk #[])),(vs (ByteArray.mk #[])),(vs (ByteArray.mk #[])),(vi 0),(vi 0),(vi 0),(vi 0),(vi 0),(vi 0)]):(Option (List AV)))=(some [(vi 0),(vi 0),(vs ByteArray.empty),(vs ByteArray.empty),(vs ByteArray.empty),(vi 0),(vi 0),(vi 0),(vi 0),(vi 0),(vi 0)])∧T0∧T0∧T0∧T0∧T0∧True)) (by kernel_rfl) (by kernel_rfl) ?_
  exact⟨⟨rfl,rfl,rfl,rfl,rfl,rfl,rfl,rfl,rfl,trivial⟩,rfl,rfl,rfl,rfl,rfl,rfl,trivial⟩
 refine AWP.pre (.moves [(16901,901),(16902,902),(16903,903)] _ rfl) ?_
 refine AWP.loop (c:=cAt (bodyOf Tryz.f20) [1,1,1,0,1,0,0]) (by kernel_rfl) (fun k:Nat=>S20 q1 wk t (bestI q1 t k) k) (fun k=>k≤q1.W.length) (fun k=>q1.W.length-k) 0 ?_ (Nat.zero_le _) ?_
 ·refine AS.leZ [5] [] (b:=((T0∧T0∧T0∧T0∧T0∧((vi (-1)):AV)=(vi (bestI q1 t 0))∧T0∧T0∧T0∧True)∧T0∧T0∧T0∧T0∧T0∧T0∧True)) (by kernel_rfl) (by kernel_rfl) ?_
  exact⟨⟨rfl,rfl,rfl,rfl,rfl,rfl,rfl,rfl,rfl,trivial⟩,rfl,rfl,rfl,rfl,rfl,rfl,trivial⟩
 ·intro k hk
  by_cases hk2:k<q1.W.length
  ·exact f20_round q1 wk t k hk2 hW hL hh
  ·have hk:k≤q1.W.length:=hk
   obtain rfl:k=q1.W.length:=by omega
   show AWP _ _ _ (S20 q1 wk t (bestI q1 t q1.W.length) q1.W.length) _
   rw[hb]
   have h42:=f42 (G:=G) q1.W i hi hW
   refine walkK (orc:=orc20 wk true q1 0 0 i) (keep:=[]) (cuts:=[8]) (n:=1000) follows ?_
   refine of_rd (fun ZT ZW ZQ _ _ ZR=>((((decide ((↑q1.W.length:Int)<↑q1.W.length))=true)→ZW [cd Tryz.f20 [1,1,1,0,1,0,0,1,1,0,0],(.blk 2),cd Tryz.f20 [1,1,1,0,1,0,0,1,1,1]] (stS ZT [0]) ZR)∧(((decide ((↑q1.W.length:Int)<↑q1.W.length))=false)→ZW [cd Tryz.f20 [1,1,1,1]] (stS ZT [1]) ZQ))) (by kernel_rfl) ?_
   refine⟨fun hd=>absurd (of_decide_eq_true hd) (by omega),fun _=>?_⟩
   refine walkK (orc:=orc20 wk true q1 0 0 i) (keep:=[]) (cuts:=[13]) (n:=1000) follows ?_
   refine of_tr (fun ZT ZW ZQ _=>(fun Za Zb=>((((decide ((↑i:Int)<0))=true)→ZW [cd Tryz.f20 [1,1,1,1,0,1,0],cd Tryz.f20 [1,1,1,1,1]] (stS ZT [0]) ZQ)∧(((decide ((↑i:Int)<0))=false)→((I64 (q1.num+1))∧((I64 (t+q1.ll))∧(0≤(↑i:Int))∧((↑i:Int)<↑q1.W.length))∧((I64 (↑i+1))∧FnM Tryz.prog G 42 [(.vec 1000000 8 0 q1.W.length),(vi (↑i)),(vi (↑i+1))] [(1000000,[(.arr ⟨true,39,false,none⟩ 8 (wtF q1.W))])] (.vec 900 8 0 (q1.W.length-1)) [(1000000,[.dead]),(900,[Zb])])∧(((q1.L.length+1)*112≤1099511627776)∧(q1.L.length+1≤1099511627776))∧((((q1.has (Value.string Za.j.st))=false)→((di 0).imp (svF q1.sv (Value.string Za.j.st))))∧(I64 (q1.sv Za.j.st+1)))∧((.d (.tup [(.agg [(di (q1.num+1)),(di (if 1099511627777<t+q1.ll then 1099511627777 else t+q1.ll)),(ds wk),(ds Za.j.st),(ds Za.j.ex),(di Za.j.no),(di Za.j.ve),(di Za.j.pr),(di Za.tr),(di Za.ar),(di Za.fr)]),(di 0)])):AV)=(.d (.tup [(.agg [(di (q1.num+1)),(di (min (t+q1.ll) 1099511627777)),(ds wk),(ds (q1.W.getD i wt0).j.st),(ds (q1.W.getD i wt0).j.ex),(di (q1.W.getD i wt0).j.no),(di (q1.W.getD i wt0).j.ve),(di (q1.W.getD i wt0).j.pr),(di (q1.W.getD i wt0).tr),(di (q1.W.getD i wt0).ar),(di (q1.W.getD i wt0).fr)]),(di 0)]))∧((some [(vi q1.ll),(vi q1.lt),(vi q1.lp),(vi q1.ls),(vi q1.tick),(vi q1.arr),(vi (q1.num+1)),(.vec 901 8 0 (q1.W.length-1)),(.vec 902 11 0 (q1.L.length+1)),(.vec 903 5 0 q1.D.length),(.mapv 1000004)]):(Option (List AV)))=(some [(vi q1.ll),(vi q1.lt),(vi q1.lp),(vi q1.ls),(vi q1.tick),(vi q1.arr),(vi (q1.num+1)),(.vec 901 8 0 (q1.W.eraseIdx i).length),(.vec 902 11 0 (q1.L.length+1)),(.vec 903 5 0 q1.D.length),(.mapv 1000004)])∧((some [Zb]):(Option (List AV)))=(some [Zb])∧((some [(.arr ⟨true,41,false,none⟩ 11 (fun i_1=>bif i_1.blt q1.L.length then lsF q1.L i_1 else elemF true 11 [di (q1.num+1),di (if 1099511627777<t+q1.ll then 1099511627777 else t+q1.ll),ds wk,ds Za.j.st,ds Za.j.ex,di Za.j.no,di Za.j.ve,di Za.j.pr,di Za.tr,di Za.ar,di Za.fr] (0+(i_1-q1.L.length))))]):(Option (List AV)))=(some [(.arr ⟨true,41,false,none⟩ 11 (fun j=>bif j.blt q1.L.length then lsF q1.L j else elemF true 11 [di (q1.num+1),DV.con (Value.int IntKind.i64 (min (t+q1.ll) 1099511627777)),ds wk,DV.con (Value.string (q1.W.getD i wt0).j.st),DV.con (Value.string (q1.W.getD i wt0).j.ex),DV.con (Value.int IntKind.i64 (q1.W.getD i wt0).j.no),DV.con (Value.int IntKind.i64 (q1.W.getD i wt0).j.ve),DV.con (Value.int IntKind.i64 (q1.W.getD i wt0).j.pr),DV.con (Value.int IntKind.i64 (q1.W.getD i wt0).tr),DV.con (Value.int IntKind.i64 (q1.W.getD i wt0).ar),DV.con (Value.int IntKind.i64 (q1.W.getD i wt0).fr)] (0+(j-q1.L.length))))])∧((some [(.arr ⟨true,35,false,none⟩ 5 (jbF q1.D))]):(Option (List AV)))=(some [(.arr ⟨true,35,false,none⟩ 5 (jbF q1.D))])∧((some [(.mp none (putF (Value.string Za.j.st) (di (q1.sv Za.j.st+1)) (svF q1.sv)) (putH (Value.string Za.j.st) q1.has))]):(Option (List AV)))=(some [(.mp none (svF fun k=>if k=(q1.W.getD i wt0).j.st then q1.sv k+1 else q1.sv k) (putH (Value.string (q1.W.getD i wt0).j.st) q1.has))])∧True)))) (q1.W.getD (0+(↑i:Int).toNat) wt0) ((.arr ⟨true,39,false,none⟩ 8 (wtF (q1.W.eraseIdx i))):AV)) (by kernel_rfl) ?_
   dsimp only
   rw[show 0+((i:Int)).toNat=i from Nat.zero_add _,minL]
   refine⟨fun hd=>absurd (of_decide_eq_true hd) (by omega),fun _=>⟨hq,⟨⟨by omega,by omega⟩,by omega,by omega⟩,⟨⟨by omega,by omega⟩,h42⟩,⟨by omega,by omega⟩,⟨hh.imp _,hv⟩,rfl,?_,rfl,rfl,rfl,?_,trivial⟩⟩
   ·rw[List.length_eraseIdx_of_lt hi]
   ·rw[sv_put]
end Go.Proofs
/- The tick;a contract for each value. -/
namespace Go.Proofs
open Go Go.Ab Go.RowKit
set_option maxHeartbeats 4000000
set_option maxRecDepth 100000
variable {G:IH}
theorem f21 (q:Qm):FnM Tryz.prog G 21 [.box 1000000 0] (qP q) (.d (di q.tick)) (qP q):=by
 refine FnM.of_body (mv:=[]) (by kernel_rfl) Tryz.func21 rfl Tryz.call21 ?_
 refine walkK (orc:=noO) (keep:=[]) (cuts:=[]) (n:=1000) follows ?_
 refine of_tr (fun _ _ _ _=>(fun Za=>((ZS ((vi q.tick):AV))∧(Za:(Option (List AV)))=Za∧((some [(.arr ⟨true,39,false,none⟩ 8 (wtF q.W))]):(Option (List AV)))=(some [(.arr ⟨true,39,false,none⟩ 8 (wtF q.W))])∧((some [(.arr ⟨true,41,false,none⟩ 11 (lsF q.L))]):(Option (List AV)))=(some [(.arr ⟨true,41,false,none⟩ 11 (lsF q.L))])∧((some [(.arr ⟨true,35,false,none⟩ 5 (jbF q.D))]):(Option (List AV)))=(some [(.arr ⟨true,35,false,none⟩ 5 (jbF q.D))])∧((some [(.mp none (svF q.sv) q.has)]):(Option (List AV)))=(some [(.mp none (svF q.sv) q.has)])∧True)) (some [(vi q.ll),(vi q.lt),(vi q.lp),(vi q.ls),(vi q.tick),(vi q.arr),(vi q.num),(.vec 1000001 8 0 q.W.length),(.vec 1000002 11 0 q.L.length),(.vec 1000003 5 0 q.D.length),(.mapv 1000004)])) (by kernel_rfl) ?_
 exact⟨rfl,rfl,rfl,rfl,rfl,rfl,trivial⟩
theorem FnOK.each {f:FuncId} {d r:DV} {xs:List DV} (v0:Value) (h0:FnOK Tryz.prog G f (.con v0 :: xs) r) (h:∀k v,d.rel k v→FnOK Tryz.prog G f (.con v :: xs) r):FnOK Tryz.prog G f (d :: xs) r:=by
 refine⟨h0.1,fun w k us hG hw hu=>?_⟩
 obtain ⟨v,vs,rfl,h1,h2⟩:=hu
 exact(h k v h1).2 w k _ hG hw ⟨v,vs,rfl,rfl,h2⟩
end Go.Proofs
/- Copies. -/
namespace Go.Proofs
open Go Go.Ab Go.RowKit
set_option maxHeartbeats 4000000
set_option maxRecDepth 100000
variable {G:IH}
theorem FnOK.imp {f:FuncId} {xs:List DV} {r r':DV} (h:FnOK Tryz.prog G f xs r) (hr:∀(k:IH) (v:Value),r.rel k v→r'.rel k v):FnOK Tryz.prog G f xs r':=
 ⟨h.1,fun w k us hG hw hu=>(h.2 w k us hG hw hu).mono fun e w' ⟨v,h',e1,e2,e3⟩=>⟨v,h',e1,hr _ _ e2,e3⟩⟩
end Go.Proofs
/- Copies of rows that are lent. -/
namespace Go.Proofs
open Go Go.Ab Go.RowKit
set_option maxHeartbeats 4000000
set_option maxRecDepth 100000
variable {G:IH}
theorem FnM.resD {f:FuncId} {args:List AV} {pre post:List (Nat×List AV)} {d d':DV} (hd:∀(h:IH) (v:Value),d.rel h v→d'.rel h v) (h:FnM Tryz.prog G f args pre (.d d) post):FnM Tryz.prog G f args pre (.d d') post:=
 FnM.res (AS.leX.reg ⟨[.d d],post⟩ 0 (.d d') fun _ h v hv=>hd h v hv) h
theorem f36r_some (l:List Wt) (h0:0<l.length) (hl:l.length≤1000000):FnM Tryz.prog G 36 [.vec 1000000 8 0 l.length] [(1000000,rowW l)] (.d (wtsD l)) [(1000000,rowW l)]:=by
 refine FnM.resD (fun h v hv=>?_) (FnM.freeze (s:=900) (agg:=wK) (sz:=8) (g:=fun i=>wtF l (0+i-0)) rfl (r:=.vec 900 8 0 l.length) (post:=[(900,[.arr wK 8 fun i=>wtF l (0+i-0)]),(1000000,rowW l)]) ?_)
 ·refine DV.rel_slc_congr (fun i hi=>?_) hv
  show wtF l (0+(0+i)-0)=wtF l i
  rw[Nat.sub_zero,Nat.zero_add,Nat.zero_add]
 refine FnM.of_body (mv:=[(7,900)]) (by kernel_rfl) Tryz.func36 rfl Tryz.call36 ?_
 refine walkK (orc:=noO) (keep:=[]) (cuts:=[]) (n:=1000) follows ?_
 refine of_tr (fun _ _ _ _=>(fun Za Zb=>((0<l.length)∧((false=true)→(((.d (.con (.slice none 0 0))):AV)=(.vec 900 8 0 l.length)∧(none:(Option (List AV)))=Zb∧(Za:(Option (List AV)))=Za∧True))∧((false=false)→((((0+l.length)*80≤1099511627776)∧(0+l.length≤1099511627776))∧((.vec 900 8 0 (0+l.length)):AV)=(.vec 900 8 0 l.length)∧((some [(.arr ⟨true,39,false,none⟩ 8 (fun i=>bif i.blt 0 then DV.con undef else wtF l (0+(i-0))))]):(Option (List AV)))=Zb∧(Za:(Option (List AV)))=Za∧True)))) (some [(.arr ⟨true,39,false,none⟩ 8 (wtF l))]) (some [(.arr ⟨true,39,false,none⟩ 8 (fun i=>wtF l (0+i-0)))])) (by kernel_rfl) ?_
 exact⟨h0,fun h=>(by cases h),fun _=>⟨⟨by omega,by omega⟩,by rw[Nat.zero_add],rfl,rfl,trivial⟩⟩
theorem f36r_nil (c:Nat):FnM Tryz.prog G 36 [.d (.con (.slice none 0 c))] [(1000000,rowW [])] (.d (wtsD [])) [(1000000,rowW [])]:=by
 refine FnM.resD (d:=.con (.slice none 0 0)) (fun h v hv=>⟨none,0,hv,Nat.le_refl _,.inl rfl⟩) ?_
 refine FnM.of_body (mv:=[]) (by kernel_rfl) Tryz.func36 rfl Tryz.call36 ?_
 refine walkK (orc:=noO) (keep:=[]) (cuts:=[]) (n:=1000) follows ?_
 refine of_tr (fun _ _ _ _=>(fun Za=>(((true=true)→((ZS ((.d (.con (.slice none 0 0))):AV))∧(Za:(Option (List AV)))=Za∧True))∧((true=false)→((((0+0)*80≤1099511627776)∧(0+0≤1099511627776))∧((.vec 7 8 0 0):AV)=(.d (.con (.slice none 0 0)))∧(Za:(Option (List AV)))=Za∧True)))) (some [(.arr ⟨true,39,false,none⟩ 8 (wtF []))])) (by kernel_rfl) ?_
 exact⟨fun _=>⟨rfl,rfl,trivial⟩,fun h=>(by cases h)⟩
theorem f36r_emp (p:Addr) (c:Nat):FnM Tryz.prog G 36 [.d (.con (.slice (some p) 0 c))] [(1000000,rowW [])] (.d (wtsD [])) [(1000000,rowW [])]:=by
 refine FnM.resD (fun h v hv=>?_) (FnM.freeze (s:=900) (agg:=wK) (sz:=8) (g:=fun i=>bif (0+i).blt 0 then DV.con undef else DV.con undef) rfl (r:=.vec 900 8 0 0) (post:=[(900,[.arr wK 8 fun i=>bif (0+i).blt 0 then DV.con undef else DV.con undef]),(1000000,rowW [])]) ?_)
 ·exact DV.rel_slc_congr (fun i hi=>absurd hi (Nat.not_lt_zero _)) hv
 refine FnM.of_body (mv:=[(7,900)]) (by kernel_rfl) Tryz.func36 rfl Tryz.call36 ?_
 refine walkK (orc:=noO) (keep:=[]) (cuts:=[]) (n:=1000) follows ?_
 refine of_tr (fun _ _ _ _=>(fun Za Zb=>(((false=true)→(((.d (.con (.slice none 0 0))):AV)=(.vec 900 8 0 0)∧(none:(Option (List AV)))=Zb∧(Za:(Option (List AV)))=Za∧True))∧((false=false)→((((0+0)*80≤1099511627776)∧(0+0≤1099511627776))∧(ZS ((.vec 900 8 0 0):AV))∧((some [(.arr ⟨true,39,false,none⟩ 8 (fun i=>bif i.blt 0 then DV.con undef else DV.con undef))]):(Option (List AV)))=Zb∧(Za:(Option (List AV)))=Za∧True)))) (some [(.arr ⟨true,39,false,none⟩ 8 (wtF []))]) (some [(.arr ⟨true,39,false,none⟩ 8 (fun i=>bif (0+i).blt 0 then DV.con undef else DV.con undef))])) (by kernel_rfl) ?_
 exact⟨fun h=>(by cases h),fun _=>⟨⟨by omega,by omega⟩,rfl,rfl,rfl,trivial⟩⟩
theorem f36r (l:List Wt) (hl:l.length≤1000000):FnM Tryz.prog G 36 [.vec 1000000 8 0 l.length] [(1000000,rowW l)] (.d (wtsD l)) [(1000000,rowW l)]:=by
 rcases Nat.eq_zero_or_pos l.length with h|h
 ·obtain rfl:l=[]:=List.eq_nil_of_length_eq_zero h
  refine FnM.each (.slice none 0 0) (f36r_nil 0) fun β h v hv=>?_
  obtain ⟨-,-,p,rfl,-⟩:=hv
  cases p with
  | none=>exact f36r_nil _
  | some p=>exact f36r_emp p _
 ·exact f36r_some l h hl
theorem f29r_some (l:List Ls) (h0:0<l.length) (hl:l.length≤1000000):FnM Tryz.prog G 29 [.vec 1000000 11 0 l.length] [(1000000,rowL l)] (.d (lssD l)) [(1000000,rowL l)]:=by
 refine FnM.resD (fun h v hv=>?_) (FnM.freeze (s:=900) (agg:=lK) (sz:=11) (g:=fun i=>lsF l (0+i-0)) rfl (r:=.vec 900 11 0 l.length) (post:=[(900,[.arr lK 11 fun i=>lsF l (0+i-0)]),(1000000,rowL l)]) ?_)
 ·refine DV.rel_slc_congr (fun i hi=>?_) hv
  show lsF l (0+(0+i)-0)=lsF l i
  rw[Nat.sub_zero,Nat.zero_add,Nat.zero_add]
 refine FnM.of_body (mv:=[(7,900)]) (by kernel_rfl) Tryz.func29 rfl Tryz.call29 ?_
 refine walkK (orc:=noO) (keep:=[]) (cuts:=[]) (n:=1000) follows ?_
 refine of_tr (fun _ _ _ _=>(fun Za Zb=>((0<l.length)∧((false=true)→(((.d (.con (.slice none 0 0))):AV)=(.vec 900 11 0 l.length)∧(none:(Option (List AV)))=Zb∧(Za:(Option (List AV)))=Za∧True))∧((false=false)→((((0+l.length)*112≤1099511627776)∧(0+l.length≤1099511627776))∧((.vec 900 11 0 (0+l.length)):AV)=(.vec 900 11 0 l.length)∧((some [(.arr ⟨true,41,false,none⟩ 11 (fun i=>bif i.blt 0 then DV.con undef else lsF l (0+(i-0))))]):(Option (List AV)))=Zb∧(Za:(Option (List AV)))=Za∧True)))) (some [(.arr ⟨true,41,false,none⟩ 11 (lsF l))]) (some [(.arr ⟨true,41,false,none⟩ 11 (fun i=>lsF l (0+i-0)))])) (by kernel_rfl) ?_
 exact⟨h0,fun h=>(by cases h),fun _=>⟨⟨by omega,by omega⟩,by rw[Nat.zero_add],rfl,rfl,trivial⟩⟩
theorem f29r_nil (c:Nat):FnM Tryz.prog G 29 [.d (.con (.slice none 0 c))] [(1000000,rowL [])] (.d (lssD [])) [(1000000,rowL [])]:=by
 refine FnM.resD (d:=.con (.slice none 0 0)) (fun h v hv=>⟨none,0,hv,Nat.le_refl _,.inl rfl⟩) ?_
 refine FnM.of_body (mv:=[]) (by kernel_rfl) Tryz.func29 rfl Tryz.call29 ?_
 refine walkK (orc:=noO) (keep:=[]) (cuts:=[]) (n:=1000) follows ?_
 refine of_tr (fun _ _ _ _=>(fun Za=>(((true=true)→((ZS ((.d (.con (.slice none 0 0))):AV))∧(Za:(Option (List AV)))=Za∧True))∧((true=false)→((((0+0)*112≤1099511627776)∧(0+0≤1099511627776))∧((.vec 7 11 0 0):AV)=(.d (.con (.slice none 0 0)))∧(Za:(Option (List AV)))=Za∧True)))) (some [(.arr ⟨true,41,false,none⟩ 11 (lsF []))])) (by kernel_rfl) ?_
 exact⟨fun _=>⟨rfl,rfl,trivial⟩,fun h=>(by cases h)⟩
theorem f29r_emp (p:Addr) (c:Nat):FnM Tryz.prog G 29 [.d (.con (.slice (some p) 0 c))] [(1000000,rowL [])] (.d (lssD [])) [(1000000,rowL [])]:=by
 refine FnM.resD (fun h v hv=>?_) (FnM.freeze (s:=900) (agg:=lK) (sz:=11) (g:=fun i=>bif (0+i).blt 0 then DV.con undef else DV.con undef) rfl (r:=.vec 900 11 0 0) (post:=[(900,[.arr lK 11 fun i=>bif (0+i).blt 0 then DV.con undef else DV.con undef]),(1000000,rowL [])]) ?_)
 ·exact DV.rel_slc_congr (fun i hi=>absurd hi (Nat.not_lt_zero _)) hv
 refine FnM.of_body (mv:=[(7,900)]) (by kernel_rfl) Tryz.func29 rfl Tryz.call29 ?_
 refine walkK (orc:=noO) (keep:=[]) (cuts:=[]) (n:=1000) follows ?_
 refine of_tr (fun _ _ _ _=>(fun Za Zb=>(((false=true)→(((.d (.con (.slice none 0 0))):AV)=(.vec 900 11 0 0)∧(none:(Option (List AV)))=Zb∧(Za:(Option (List AV)))=Za∧True))∧((false=false)→((((0+0)*112≤1099511627776)∧(0+0≤1099511627776))∧(ZS ((.vec 900 11 0 0):AV))∧((some [(.arr ⟨true,41,false,none⟩ 11 (fun i=>bif i.blt 0 then DV.con undef else DV.con undef))]):(Option (List AV)))=Zb∧(Za:(Option (List AV)))=Za∧True)))) (some [(.arr ⟨true,41,false,none⟩ 11 (lsF []))]) (some [(.arr ⟨true,41,false,none⟩ 11 (fun i=>bif (0+i).blt 0 then DV.con undef else DV.con undef))])) (by kernel_rfl) ?_
 exact⟨fun h=>(by cases h),fun _=>⟨⟨by omega,by omega⟩,rfl,rfl,rfl,trivial⟩⟩
theorem f29r (l:List Ls) (hl:l.length≤1000000):FnM Tryz.prog G 29 [.vec 1000000 11 0 l.length] [(1000000,rowL l)] (.d (lssD l)) [(1000000,rowL l)]:=by
 rcases Nat.eq_zero_or_pos l.length with h|h
 ·obtain rfl:l=[]:=List.eq_nil_of_length_eq_zero h
  refine FnM.each (.slice none 0 0) (f29r_nil 0) fun β h v hv=>?_
  obtain ⟨-,-,p,rfl,-⟩:=hv
  cases p with
  | none=>exact f29r_nil _
  | some p=>exact f29r_emp p _
 ·exact f29r_some l h hl
theorem f45r_some (l:List Jb) (h0:0<l.length) (hl:l.length≤1000000):FnM Tryz.prog G 45 [.vec 1000000 5 0 l.length] [(1000000,rowD l)] (.d (jbsD l)) [(1000000,rowD l)]:=by
 refine FnM.resD (fun h v hv=>?_) (FnM.freeze (s:=900) (agg:=jK) (sz:=5) (g:=fun i=>jbF l (0+i-0)) rfl (r:=.vec 900 5 0 l.length) (post:=[(900,[.arr jK 5 fun i=>jbF l (0+i-0)]),(1000000,rowD l)]) ?_)
 ·refine DV.rel_slc_congr (fun i hi=>?_) hv
  show jbF l (0+(0+i)-0)=jbF l i
  rw[Nat.sub_zero,Nat.zero_add,Nat.zero_add]
 refine FnM.of_body (mv:=[(7,900)]) (by kernel_rfl) Tryz.func45 rfl Tryz.call45 ?_
 refine walkK (orc:=noO) (keep:=[]) (cuts:=[]) (n:=1000) follows ?_
 refine of_tr (fun _ _ _ _=>(fun Za Zb=>((0<l.length)∧((false=true)→(((.d (.con (.slice none 0 0))):AV)=(.vec 900 5 0 l.length)∧(none:(Option (List AV)))=Zb∧(Za:(Option (List AV)))=Za∧True))∧((false=false)→((((0+l.length)*56≤1099511627776)∧(0+l.length≤1099511627776))∧((.vec 900 5 0 (0+l.length)):AV)=(.vec 900 5 0 l.length)∧((some [(.arr ⟨true,35,false,none⟩ 5 (fun i=>bif i.blt 0 then DV.con undef else jbF l (0+(i-0))))]):(Option (List AV)))=Zb∧(Za:(Option (List AV)))=Za∧True)))) (some [(.arr ⟨true,35,false,none⟩ 5 (jbF l))]) (some [(.arr ⟨true,35,false,none⟩ 5 (fun i=>jbF l (0+i-0)))])) (by kernel_rfl) ?_
 exact⟨h0,fun h=>(by cases h),fun _=>⟨⟨by omega,by omega⟩,by rw[Nat.zero_add],rfl,rfl,trivial⟩⟩
theorem f45r_nil (c:Nat):FnM Tryz.prog G 45 [.d (.con (.slice none 0 c))] [(1000000,rowD [])] (.d (jbsD [])) [(1000000,rowD [])]:=by
 refine FnM.resD (d:=.con (.slice none 0 0)) (fun h v hv=>⟨none,0,hv,Nat.le_refl _,.inl rfl⟩) ?_
 refine FnM.of_body (mv:=[]) (by kernel_rfl) Tryz.func45 rfl Tryz.call45 ?_
 refine walkK (orc:=noO) (keep:=[]) (cuts:=[]) (n:=1000) follows ?_
 refine of_tr (fun _ _ _ _=>(fun Za=>(((true=true)→((ZS ((.d (.con (.slice none 0 0))):AV))∧(Za:(Option (List AV)))=Za∧True))∧((true=false)→((((0+0)*56≤1099511627776)∧(0+0≤1099511627776))∧((.vec 7 5 0 0):AV)=(.d (.con (.slice none 0 0)))∧(Za:(Option (List AV)))=Za∧True)))) (some [(.arr ⟨true,35,false,none⟩ 5 (jbF []))])) (by kernel_rfl) ?_
 exact⟨fun _=>⟨rfl,rfl,trivial⟩,fun h=>(by cases h)⟩
theorem f45r_emp (p:Addr) (c:Nat):FnM Tryz.prog G 45 [.d (.con (.slice (some p) 0 c))] [(1000000,rowD [])] (.d (jbsD [])) [(1000000,rowD [])]:=by
 refine FnM.resD (fun h v hv=>?_) (FnM.freeze (s:=900) (agg:=jK) (sz:=5) (g:=fun i=>bif (0+i).blt 0 then DV.con undef else DV.con undef) rfl (r:=.vec 900 5 0 0) (post:=[(900,[.arr jK 5 fun i=>bif (0+i).blt 0 then DV.con undef else DV.con undef]),(1000000,rowD [])]) ?_)
 ·exact DV.rel_slc_congr (fun i hi=>absurd hi (Nat.not_lt_zero _)) hv
 refine FnM.of_body (mv:=[(7,900)]) (by kernel_rfl) Tryz.func45 rfl Tryz.call45 ?_
 refine walkK (orc:=noO) (keep:=[]) (cuts:=[]) (n:=1000) follows ?_
 refine of_tr (fun _ _ _ _=>(fun Za Zb=>(((false=true)→(((.d (.con (.slice none 0 0))):AV)=(.vec 900 5 0 0)∧(none:(Option (List AV)))=Zb∧(Za:(Option (List AV)))=Za∧True))∧((false=false)→((((0+0)*56≤1099511627776)∧(0+0≤1099511627776))∧(ZS ((.vec 900 5 0 0):AV))∧((some [(.arr ⟨true,35,false,none⟩ 5 (fun i=>bif i.blt 0 then DV.con undef else DV.con undef))]):(Option (List AV)))=Zb∧(Za:(Option (List AV)))=Za∧True)))) (some [(.arr ⟨true,35,false,none⟩ 5 (jbF []))]) (some [(.arr ⟨true,35,false,none⟩ 5 (fun i=>bif (0+i).blt 0 then DV.con undef else DV.con undef))])) (by kernel_rfl) ?_
 exact⟨fun h=>(by cases h),fun _=>⟨⟨by omega,by omega⟩,rfl,rfl,rfl,trivial⟩⟩
theorem f45r (l:List Jb) (hl:l.length≤1000000):FnM Tryz.prog G 45 [.vec 1000000 5 0 l.length] [(1000000,rowD l)] (.d (jbsD l)) [(1000000,rowD l)]:=by
 rcases Nat.eq_zero_or_pos l.length with h|h
 ·obtain rfl:l=[]:=List.eq_nil_of_length_eq_zero h
  refine FnM.each (.slice none 0 0) (f45r_nil 0) fun β h v hv=>?_
  obtain ⟨-,-,p,rfl,-⟩:=hv
  cases p with
  | none=>exact f45r_nil _
  | some p=>exact f45r_emp p _
 ·exact f45r_some l h hl
noncomputable def m13 (q:Qm):FuncId→List AV→List (Nat×List AV)→Option (AV×List (Nat×List AV)):=fun f _ _=>match f with
 | 36=>some (.d (wtsD q.W),[(1000000,rowW q.W)])
 | _=>none
noncomputable def orc13 (q:Qm):Orc:={ d:=noO,m:=m13 q }
theorem f13 (q:Qm) (h:q.W.length≤1000000):FnM Tryz.prog G 13 [.box 1000000 0] (qP q) (.d (wtsD q.W)) (qP q):=by
 refine FnM.of_body (mv:=[]) (by kernel_rfl) Tryz.func13 rfl Tryz.call13 ?_
 refine walkK (orc:=orc13 q) (keep:=[]) (cuts:=[]) (n:=1000) follows ?_
 refine of_tr (fun _ _ _ _=>(fun Za Zb=>(FnM Tryz.prog G 36 [(.vec 1000000 8 0 q.W.length)] [(1000000,[Zb])] (.d (.slc 8 q.W.length (wtF q.W))) [(1000000,[Zb])]∧(ZS ((.d (.slc 8 q.W.length (wtF q.W))):AV))∧(Za:(Option (List AV)))=Za∧((some [Zb]):(Option (List AV)))=(some [Zb])∧((some [(.arr ⟨true,41,false,none⟩ 11 (lsF q.L))]):(Option (List AV)))=(some [(.arr ⟨true,41,false,none⟩ 11 (lsF q.L))])∧((some [(.arr ⟨true,35,false,none⟩ 5 (jbF q.D))]):(Option (List AV)))=(some [(.arr ⟨true,35,false,none⟩ 5 (jbF q.D))])∧((some [(.mp none (svF q.sv) q.has)]):(Option (List AV)))=(some [(.mp none (svF q.sv) q.has)])∧True)) (some [(vi q.ll),(vi q.lt),(vi q.lp),(vi q.ls),(vi q.tick),(vi q.arr),(vi q.num),(.vec 1000001 8 0 q.W.length),(.vec 1000002 11 0 q.L.length),(.vec 1000003 5 0 q.D.length),(.mapv 1000004)]) ((.arr ⟨true,39,false,none⟩ 8 (wtF q.W)):AV)) (by kernel_rfl) ?_
 exact⟨f36r q.W h,rfl,rfl,rfl,rfl,rfl,rfl,trivial⟩
noncomputable def m12 (q:Qm):FuncId→List AV→List (Nat×List AV)→Option (AV×List (Nat×List AV)):=fun f _ _=>match f with
 | 29=>some (.d (lssD q.L),[(1000000,rowL q.L)])
 | _=>none
noncomputable def orc12 (q:Qm):Orc:={ d:=noO,m:=m12 q }
theorem f12 (q:Qm) (h:q.L.length≤1000000):FnM Tryz.prog G 12 [.box 1000000 0] (qP q) (.d (lssD q.L)) (qP q):=by
 refine FnM.of_body (mv:=[]) (by kernel_rfl) Tryz.func12 rfl Tryz.call12 ?_
 refine walkK (orc:=orc12 q) (keep:=[]) (cuts:=[]) (n:=1000) follows ?_
 refine of_tr (fun _ _ _ _=>(fun Za Zb=>(FnM Tryz.prog G 29 [(.vec 1000000 11 0 q.L.length)] [(1000000,[Zb])] (.d (.slc 11 q.L.length (lsF q.L))) [(1000000,[Zb])]∧(ZS ((.d (.slc 11 q.L.length (lsF q.L))):AV))∧(Za:(Option (List AV)))=Za∧((some [(.arr ⟨true,39,false,none⟩ 8 (wtF q.W))]):(Option (List AV)))=(some [(.arr ⟨true,39,false,none⟩ 8 (wtF q.W))])∧((some [Zb]):(Option (List AV)))=(some [Zb])∧((some [(.arr ⟨true,35,false,none⟩ 5 (jbF q.D))]):(Option (List AV)))=(some [(.arr ⟨true,35,false,none⟩ 5 (jbF q.D))])∧((some [(.mp none (svF q.sv) q.has)]):(Option (List AV)))=(some [(.mp none (svF q.sv) q.has)])∧True)) (some [(vi q.ll),(vi q.lt),(vi q.lp),(vi q.ls),(vi q.tick),(vi q.arr),(vi q.num),(.vec 1000001 8 0 q.W.length),(.vec 1000002 11 0 q.L.length),(.vec 1000003 5 0 q.D.length),(.mapv 1000004)]) ((.arr ⟨true,41,false,none⟩ 11 (lsF q.L)):AV)) (by kernel_rfl) ?_
 exact⟨f29r q.L h,rfl,rfl,rfl,rfl,rfl,rfl,trivial⟩
noncomputable def m24 (q:Qm):FuncId→List AV→List (Nat×List AV)→Option (AV×List (Nat×List AV)):=fun f _ _=>match f with
 | 45=>some (.d (jbsD q.D),[(1000000,rowD q.D)])
 | _=>none
noncomputable def orc24 (q:Qm):Orc:={ d:=noO,m:=m24 q }
theorem f24 (q:Qm) (h:q.D.length≤1000000):FnM Tryz.prog G 24 [.box 1000000 0] (qP q) (.d (jbsD q.D)) (qP q):=by
 refine FnM.of_body (mv:=[]) (by kernel_rfl) Tryz.func24 rfl Tryz.call24 ?_
 refine walkK (orc:=orc24 q) (keep:=[]) (cuts:=[]) (n:=1000) follows ?_
 refine of_tr (fun _ _ _ _=>(fun Za Zb=>(FnM Tryz.prog G 45 [(.vec 1000000 5 0 q.D.length)] [(1000000,[Zb])] (.d (.slc 5 q.D.length (jbF q.D))) [(1000000,[Zb])]∧(ZS ((.d (.slc 5 q.D.length (jbF q.D))):AV))∧(Za:(Option (List AV)))=Za∧((some [(.arr ⟨true,39,false,none⟩ 8 (wtF q.W))]):(Option (List AV)))=(some [(.arr ⟨true,39,false,none⟩ 8 (wtF q.W))])∧((some [(.arr ⟨true,41,false,none⟩ 11 (lsF q.L))]):(Option (List AV)))=(some [(.arr ⟨true,41,false,none⟩ 11 (lsF q.L))])∧((some [Zb]):(Option (List AV)))=(some [Zb])∧((some [(.mp none (svF q.sv) q.has)]):(Option (List AV)))=(some [(.mp none (svF q.sv) q.has)])∧True)) (some [(vi q.ll),(vi q.lt),(vi q.lp),(vi q.ls),(vi q.tick),(vi q.arr),(vi q.num),(.vec 1000001 8 0 q.W.length),(.vec 1000002 11 0 q.L.length),(.vec 1000003 5 0 q.D.length),(.mapv 1000004)]) ((.arr ⟨true,35,false,none⟩ 5 (jbF q.D)):AV)) (by kernel_rfl) ?_
 exact⟨f45r q.D h,rfl,rfl,rfl,rfl,rfl,rfl,trivial⟩
end Go.Proofs
/- The next tick. -/
namespace Go.Proofs
open Go Go.Ab Go.RowKit
set_option maxHeartbeats 4000000
set_option maxRecDepth 100000
variable {G:IH}
def lookN (t0:Int) (s:Int×Bool) (t:Int):Int×Bool:=if (decide (t>t0)&&(!s.2||decide (t<s.1)))=true then (t,true) else s
def nextL (q:Qm) (k:Nat):Int×Bool:=(q.L.take k).foldl (fun s l=>lookN q.tick s l.un) (0,false)
def nextW (q:Qm) (k:Nat):Int×Bool:=(q.W.take k).foldl (fun s w=>lookN q.tick s w.fr) (nextL q q.L.length)
def nextR (q:Qm):Int×Bool:=nextW q q.W.length
end Go.Proofs
/- What holds of a queue,plain. -/
namespace Go.Proofs
open Go Go.Ab
def kv (j:Jb):ByteArray×ByteArray×Int×Int:=(j.st,j.ex,j.no,j.ve)
theorem sameB_iff {k:Jb} {v:Int} {j:Jb}:sameB k v j=true↔kv j=(k.st,k.ex,k.no,v):=by
 unfold sameB kv
 simp only[bAt,decide_eq_true_eq,beq_iff_eq,pMi]
 constructor
 ·rintro ⟨⟨a,b,c⟩,d⟩;exact⟨a,b,c,d⟩
 ·rintro ⟨a,b,c,d⟩;exact⟨⟨a,b,c⟩,d⟩
def jobsWD (q:Qm):List Jb:=q.W.map (·.j)++q.D
def jobsQ (q:Qm):List Jb:=q.W.map (·.j)++q.L.map (·.w.j)++q.D
theorem jobsQ_perm (q:Qm):(jobsQ q).Perm (q.L.map (·.w.j)++jobsWD q):=by
 unfold jobsQ jobsWD
 rw[←List.append_assoc]
 exact(List.perm_append_comm).append_right _
structure Base (n:Nat) (q:Qm):Prop where
 ll:1≤q.ll∧q.ll≤1099511627776
 lt:1≤q.lt∧q.lt≤16
 lp:0≤q.lp∧q.lp≤1048576
 ls:1≤q.ls
 tick:0≤q.tick∧q.tick≤1099511627776
 arr:0≤q.arr∧q.arr≤n
 num:0≤q.num∧q.num≤n
 srt:q.W.Pairwise fun a b=>a.ar≤b.ar
 tr:∀w∈q.W,0≤w.tr∧w.tr<q.lt
 sv:∀k,0≤q.sv k∧q.sv k≤n
 has:HasOK q
structure Inv (n:Nat) (q:Qm):Prop where
 base:Base n q
 len:q.W.length+q.L.length+q.D.length≤n
 L:∀l∈q.L,(0≤l.w.tr∧l.w.tr<q.lt)∧(q.tick<l.un∧l.un≤1099511627777)∧1≤l.no∧l.no≤q.num
 nos:q.L.Pairwise fun a b=>a.no<b.no
 nd:((jobsQ q).map kv).Nodup
/-! waiting -/
theorem take_pos (W:List Wt) (n:Int):W.take (posW W n)=W.takeWhile fun w=>decide (w.ar<n):=
 (List.prefix_iff_eq_take.1 (List.takeWhile_prefix _)).symm
theorem drop_pos (W:List Wt) (n:Int):W.drop (posW W n)=W.dropWhile fun w=>decide (w.ar<n):=by
 have h:W.drop (posW W n)=(W.takeWhile (fun w=>decide (w.ar<n))++W.dropWhile fun w=>decide (w.ar<n)).drop (posW W n):=by rw[List.takeWhile_append_dropWhile]
 rw[h]
 exact List.drop_left
theorem takeWhile_lt {n:Int}:∀{W:List Wt} {w:Wt},w∈W.takeWhile (fun w=>decide (w.ar<n))→w.ar<n
 | [],_,h=>by simp at h
 | c :: W,w,h=>by
  rw[List.takeWhile_cons] at h
  by_cases hc:c.ar<n
  ·rw[if_pos (by simpa using hc)] at h
   rcases List.mem_cons.1 h with rfl|h
   ·exact hc
   ·exact takeWhile_lt h
  ·rw[if_neg (by simpa using hc)] at h;simp at h
theorem dropWhile_ge {n:Int}:∀{W:List Wt} {w:Wt},(W.Pairwise fun a b=>a.ar≤b.ar)→w∈W.dropWhile (fun w=>decide (w.ar<n))→n≤w.ar
 | [],_,_,h=>by simp at h
 | c :: W,w,hs,h=>by
  rw[List.dropWhile_cons] at h
  rw[List.pairwise_cons] at hs
  by_cases hc:c.ar<n
  ·rw[if_pos (by simpa using hc)] at h
   exact dropWhile_ge hs.2 h
  ·rw[if_neg (by simpa using hc)] at h
   rcases List.mem_cons.1 h with rfl|h
   ·omega
   ·have:=hs.1 w h;omega
theorem insW_perm (W:List Wt) (i:Nat) (w:Wt):(insW W i w).Perm (w :: W):=by
 unfold insW
 refine List.perm_middle.trans ?_
 rw[List.take_append_drop]
theorem insW_srt {W:List Wt} (hs:W.Pairwise fun a b=>a.ar≤b.ar) (w:Wt):(insW W (posW W w.ar) w).Pairwise fun a b=>a.ar≤b.ar:=by
 unfold insW
 rw[take_pos,drop_pos,List.pairwise_append]
 refine⟨hs.sublist (List.takeWhile_sublist _),List.pairwise_cons.2 ⟨fun b hb=>dropWhile_ge hs hb,hs.sublist (List.dropWhile_sublist _)⟩,fun a ha b hb=>?_⟩
 have h1:=takeWhile_lt ha
 rcases List.mem_cons.1 hb with rfl|hb
 ·omega
 ·have:=dropWhile_ge hs hb;omega
theorem wait_base {n:Nat} {q:Qm} {w:Wt} (h:Base n q) (hw:0≤w.tr∧w.tr<q.lt):Base n (waitQ q w):=
 ⟨h.ll,h.lt,h.lp,h.ls,h.tick,h.arr,h.num,insW_srt h.srt w,fun x hx=>by
  rcases List.mem_cons.1 ((insW_perm _ _ _).mem_iff.1 hx) with rfl|hx
  ·exact hw
  ·exact h.tr x hx,h.sv,h.has⟩
theorem wait_jobs (q:Qm) (w:Wt):(jobsWD (waitQ q w)).Perm (w.j :: jobsWD q):=((insW_perm q.W _ w).map (·.j)).append_right _
theorem wait_len (q:Qm) (w:Wt):(waitQ q w).W.length=q.W.length+1:=insW_len posW_le
/-! failing -/
theorem fail_frame (q:Qm) (w:Wt) (t:Int):failQ q w t={ q with W:=(failQ q w t).W,D:=(failQ q w t).D }:=by
 unfold failQ;split<;>rfl
theorem fail_base {n:Nat} {q:Qm} {w:Wt} {t:Int} (h:Base n q) (hw:0≤w.tr):Base n (failQ q w t):=by
 unfold failQ
 split
 ·exact⟨h.ll,h.lt,h.lp,h.ls,h.tick,h.arr,h.num,h.srt,h.tr,h.sv,h.has⟩
 ·exact wait_base h ⟨by show 0≤w.tr+1;omega,by show w.tr+1<q.lt;omega⟩
theorem fail_jobs (q:Qm) (w:Wt) (t:Int):(jobsWD (failQ q w t)).Perm (w.j :: jobsWD q):=by
 unfold failQ
 split
 ·unfold jobsWD
  rw[←List.append_assoc]
  exact List.perm_append_comm
 ·exact wait_jobs q _
theorem jobsWD_len (q:Qm):(jobsWD q).length=q.W.length+q.D.length:=by unfold jobsWD;simp
theorem jobsQ_len (q:Qm):(jobsQ q).length=q.W.length+q.L.length+q.D.length:=by unfold jobsQ;simp;omega
theorem fold_frame:∀(M:List Ls) (q:Qm),M.foldl failS q={ q with W:=(M.foldl failS q).W,D:=(M.foldl failS q).D }
 | [],_=>rfl
 | l :: M,q=>by
  rw[List.foldl_cons,fold_frame M (failS q l)]
  unfold failS
  rw[fail_frame q l.w l.un]
theorem fold_base {n:Nat}:∀(M:List Ls) {q:Qm},Base n q→(∀l∈M,0≤l.w.tr)→Base n (M.foldl failS q)
 | [],_,h,_=>h
 | l :: M,_,h,hM=>fold_base M (fail_base h (hM l (by simp))) fun x hx=>hM x (by simp[hx])
theorem fold_jobs:∀(M:List Ls) (q:Qm),(jobsWD (M.foldl failS q)).Perm (M.map (·.w.j)++jobsWD q)
 | [],_=>List.Perm.refl _
 | l :: M,q=>by
  rw[List.foldl_cons]
  refine(fold_jobs M (failS q l)).trans ?_
  refine((fail_jobs q l.w l.un).append_left _).trans ?_
  exact List.perm_middle
/-! moving -/
theorem tick_base {n:Nat} {q:Qm} {t:Int} (h:Base n q) (h0:0≤t) (h1:t≤1099511627776):Base n (tickQ q t):=
 ⟨h.ll,h.lt,h.lp,h.ls,⟨h0,h1⟩,h.arr,h.num,h.srt,h.tr,h.sv,h.has⟩
theorem move_frame (q:Qm) (t:Int):moveQ q t={ q with tick:=t,W:=(moveQ q t).W,D:=(moveQ q t).D,L:=restL t q.L }:=by
 have h:=fold_frame (q.L.filter (overB t)) (tickQ q t)
 unfold moveQ goneQ
 generalize List.foldl failS (tickQ q t) (q.L.filter (overB t))=x at h⊢
 rw[h];rfl
theorem base_L {n:Nat} {q:Qm} {L:List Ls} (h:Base n q):Base n { q with L:=L }:=
 ⟨h.ll,h.lt,h.lp,h.ls,h.tick,h.arr,h.num,h.srt,h.tr,h.sv,h.has⟩
theorem move_jobs (q:Qm) (t:Int):(jobsQ (moveQ q t)).Perm (jobsQ q):=by
 refine(jobsQ_perm _).trans (List.Perm.trans ?_ (jobsQ_perm _).symm)
 have h1:jobsWD (moveQ q t)=jobsWD (goneQ q t q.L):=rfl
 have h2:(moveQ q t).L=restL t q.L:=rfl
 rw[h1,h2]
 refine((fold_jobs (q.L.filter (overB t)) (tickQ q t)).append_left _).trans ?_
 rw[←List.append_assoc,←List.map_append]
 refine List.Perm.append_right _ (List.Perm.map _ ?_)
 refine List.perm_append_comm.trans ?_
 exact List.filter_append_perm _ _
theorem badT_iff {q:Qm} {t:Int}:badT q t=false↔q.tick≤t∧t≤1099511627776:=by
 unfold badT
 rw[Bool.or_eq_false_iff,decide_eq_false_iff_not,decide_eq_false_iff_not]
 omega
theorem len_of_jobs {q q':Qm} (h:(jobsQ q').Perm (jobsQ q)):q'.W.length+q'.L.length+q'.D.length=q.W.length+q.L.length+q.D.length:=by
 rw[←jobsQ_len,←jobsQ_len];exact h.length_eq
theorem nd_of_jobs {q q':Qm} (h:(jobsQ q').Perm (jobsQ q)) (hn:((jobsQ q).map kv).Nodup):((jobsQ q').map kv).Nodup:=
 ((h.map kv).nodup_iff).2 hn
theorem move_inv {n:Nat} {q:Qm} {t:Int} (h:Inv n q) (hb:badT q t=false):Inv n (moveQ q t):=by
 obtain ⟨h1,h2⟩:=badT_iff.1 hb
 have hj:=move_jobs q t
 refine⟨base_L (fold_base _ (tick_base h.base (by have:=h.base.tick;omega) h2) fun l hl=>(h.L l (List.mem_filter.1 hl).1).1.1),?_,fun l hl=>?_,?_,nd_of_jobs hj h.nd⟩
 ·rw[len_of_jobs hj];exact h.len
 ·have e:=move_frame q t
  rw[e] at hl⊢
  have hl:l∈restL t q.L:=hl
  obtain ⟨ha,hb⟩:=List.mem_filter.1 hl
  have:=h.L l ha
  unfold overB at hb
  simp only[Bool.not_eq_true',decide_eq_false_iff_not] at hb
  exact⟨this.1,⟨by show t<l.un;omega,this.2.1.2⟩,this.2.2⟩
 ·exact h.nos.sublist List.filter_sublist
end Go.Proofs
/- What the calls do,plain. -/
namespace Go.Proofs
open Go Go.Ab
theorem Base.up {n m:Nat} {q:Qm} (h:Base n q) (hm:n≤m):Base m q:=
 ⟨h.ll,h.lt,h.lp,h.ls,h.tick,⟨h.arr.1,by have:=h.arr.2;omega⟩,⟨h.num.1,by have:=h.num.2;omega⟩,h.srt,h.tr,fun k=>⟨(h.sv k).1,by have:=(h.sv k).2;omega⟩,h.has⟩
theorem Inv.up {n m:Nat} {q:Qm} (h:Inv n q) (hm:n≤m):Inv m q:=⟨h.base.up hm,by have:=h.len;omega,h.L,h.nos,h.nd⟩
def mvQ (q:Qm) (t:Int):Qm:=if badT q t=true then q else moveQ q t
theorem mv_inv {n:Nat} {q:Qm} (h:Inv n q) (t:Int):Inv n (mvQ q t):=by
 unfold mvQ
 split
 ·exact h
 ·exact move_inv h (by simpa using ‹¬badT q t=true›)
theorem mv_jobs (q:Qm) (t:Int):(jobsQ (mvQ q t)).Perm (jobsQ q):=by
 unfold mvQ
 split
 ·exact .refl _
 ·exact move_jobs q t
/-! adding -/
def addR (q:Qm) (j:Jb) (t:Int):Int×Qm:=
 let e:=addE (!badT q t) (mvQ q t) j
 (e,if e=0 then waitQ (nextQ (mvQ q t)) (addW (mvQ q t) j t) else mvQ q t)
theorem has_iff {q:Qm} {k:Jb} {v:Int}:hasB q k v=(jobsQ q).any (sameB k v):=by
 unfold hasB jobsQ
 rw[List.any_append,List.any_append,List.any_map,List.any_map];rfl
theorem has_no {q:Qm} {j:Jb} (h:hasB q j j.ve=false):kv j∉(jobsQ q).map kv:=by
 rw[has_iff,List.any_eq_false] at h
 intro hm
 obtain ⟨x,hx,e⟩:=List.mem_map.1 hm
 exact h x hx (sameB_iff.2 e)
theorem addE_0 {b:Bool} {q:Qm} {j:Jb} (h:addE b q j=0):b=true∧rightJ j=true∧hasB q j j.ve=false:=by
 unfold addE at h
 split at h
 ·cases h
 ·split at h
  ·cases h
  ·split at h
   ·cases h
   ·refine⟨by simp_all,by simp_all,by simp_all⟩
theorem next_base {n:Nat} {q:Qm} (h:Base n q):Base (n+1) (nextQ q):=
 ⟨h.ll,h.lt,h.lp,h.ls,h.tick,⟨by have:=h.arr.1;show 0≤q.arr+1;omega,by have:=h.arr.2;show q.arr+1≤_;omega⟩,⟨h.num.1,by have:=h.num.2;show q.num≤_;omega⟩,h.srt,h.tr,fun k=>⟨(h.sv k).1,by have:=(h.sv k).2;show q.sv k≤_;omega⟩,h.has⟩
theorem addq_jobs (q:Qm) (w:Wt):(jobsQ (waitQ (nextQ q) w)).Perm (w.j :: jobsQ q):=by
 refine(jobsQ_perm _).trans ?_
 refine((wait_jobs (nextQ q) w).append_left _).trans ?_
 refine List.perm_middle.trans ?_
 exact((jobsQ_perm q).symm).cons _
theorem addq_inv {n:Nat} {q:Qm} {w:Wt} (h:Inv n q) (hw:0≤w.tr∧w.tr<q.lt) (hj:kv w.j∉(jobsQ q).map kv):Inv (n+1) (waitQ (nextQ q) w):=by
 refine⟨wait_base (next_base h.base) hw,?_,h.L,h.nos,?_⟩
 ·have:=h.len
  rw[wait_len]
  show q.W.length+1+q.L.length+q.D.length≤n+1
  omega
 ·refine(((addq_jobs q w).map kv).nodup_iff).2 ?_
  exact List.nodup_cons.2 ⟨hj,h.nd⟩
theorem mv_lt (q:Qm) (t:Int):(mvQ q t).lt=q.lt:=by
 unfold mvQ
 split
 ·rfl
 ·rw[move_frame]
theorem add_inv {n:Nat} {q:Qm} (h:Inv n q) (j:Jb) (t:Int):Inv (n+1) (addR q j t).2:=by
 have h1:=mv_inv h t
 unfold addR
 dsimp only
 split
 ·rename_i he
  obtain ⟨hb,hr,hh⟩:=addE_0 he
  exact addq_inv h1 ⟨Int.le_refl _,by have:=h1.base.lt.1;show (0:Int)<(mvQ q t).lt;omega⟩ (has_no hh)
 ·exact h1.up (by omega)
/-! leasing -/
def leaR (q:Qm) (wk:ByteArray) (t:Int):Ls×Int×Qm:=
 let q1:=mvQ q t
 if badT q t=true then (ls0,2,q1) else if nameB wk=false then (ls0,1,q1) else if bestI q1 t q1.W.length<0 then (ls0,7,q1) else (leasE q1 wk t (bestI q1 t q1.W.length).toNat,0,leasQ q1 wk t (bestI q1 t q1.W.length).toNat)
theorem erase_perm {α β:Type} (f:α→β) (x0:α):∀(l:List α) (i:Nat),i<l.length→(l.map f).Perm (f (l.getD i x0) :: (l.eraseIdx i).map f)
 | [],i,h=>absurd h (Nat.not_lt_zero _)
 | x :: l,0,_=>List.Perm.refl _
 | x :: l,i+1,h=>by
  have ih:=erase_perm f x0 l i (by simpa using h)
  show (f x :: l.map f).Perm (f (l.getD i x0) :: f x :: (l.eraseIdx i).map f)
  exact(ih.cons _).trans (List.Perm.swap _ _ _)
theorem getD_mem {α:Type} {l:List α} {x0:α} {i:Nat} (h:i<l.length):l.getD i x0∈l:=by
 rw[List.getD,gEe h];exact List.getElem_mem h
theorem lease_jobs (q:Qm) (wk:ByteArray) (t:Int) (i:Nat) (hi:i<q.W.length):(jobsQ (leasQ q wk t i)).Perm (jobsQ q):=by
 unfold jobsQ leasQ
 dsimp only
 refine List.Perm.append_right _ ?_
 rw[List.map_append,←List.append_assoc]
 refine List.perm_append_comm.trans ?_
 rw[←List.append_assoc]
 exact((erase_perm (·.j) wt0 q.W i hi).symm).append_right _
theorem lease_inv {n:Nat} {q:Qm} (h:Inv n q) (wk:ByteArray) (t:Int) (i:Nat) (hi:i<q.W.length) (ht:q.tick=t):Inv (n+1) (leasQ q wk t i):=by
 have hj:=lease_jobs q wk t i hi
 have b:=h.base
 have hm:q.W.getD i wt0∈q.W:=getD_mem hi
 refine⟨⟨b.ll,b.lt,b.lp,b.ls,b.tick,⟨b.arr.1,by have:=b.arr.2;show q.arr≤_;omega⟩,⟨by have:=b.num.1;show 0≤q.num+1;omega,by have:=b.num.2;show q.num+1≤_;omega⟩,b.srt.sublist (List.eraseIdx_sublist ..),fun w hw=>b.tr w (List.mem_of_mem_eraseIdx hw),fun k=>?_,?_⟩,?_,fun l hl=>?_,?_,nd_of_jobs hj h.nd⟩
 ·have:=b.sv k
  show 0≤(if k=(q.W.getD i wt0).j.st then q.sv k+1 else q.sv k)∧(if k=(q.W.getD i wt0).j.st then q.sv k+1 else q.sv k)≤((n+1:Nat):Int)
  split<;>omega
 ·intro k hk
  have hk:putH (.string (q.W.getD i wt0).j.st) q.has (.string k)=false:=hk
  unfold putH at hk
  show (if k=(q.W.getD i wt0).j.st then q.sv k+1 else q.sv k)=0
  by_cases hkk:k=(q.W.getD i wt0).j.st
  ·subst hkk
   simp[keyEq] at hk
  ·rw[if_neg hkk]
   apply b.has k
   simp[keyEq] at hk
   exact hk.2
 ·rw[len_of_jobs hj];have:=h.len;omega
 ·rcases List.mem_append.1 (show l∈q.L++[leasE q wk t i] from hl) with hl|hl
  ·obtain ⟨a,b,c,d⟩:=h.L l hl
   exact⟨a,b,c,by show l.no≤q.num+1;omega⟩
  ·obtain rfl:l=leasE q wk t i:=by simpa using hl
   refine⟨b.tr _ hm,⟨?_,?_⟩,?_,?_⟩
   ·show q.tick<min (t+q.ll) 1099511627777
    have h1:=b.ll;have h2:=b.tick;omega
   ·show min (t+q.ll) 1099511627777≤1099511627777
    omega
   ·show 1≤q.num+1
    have:=b.num;omega
   ·exact Int.le_refl _
 ·show (q.L++[leasE q wk t i]).Pairwise _
  rw[List.pairwise_append]
  refine⟨h.nos,List.pairwise_singleton _ _,fun a ha c hc=>?_⟩
  obtain rfl:c=leasE q wk t i:=by simpa using hc
  have:=(h.L a ha).2.2.2
  show a.no<q.num+1
  omega
theorem mv_tick {q:Qm} {t:Int} (h:badT q t=false):(mvQ q t).tick=t:=by
 unfold mvQ
 rw[if_neg (by rw[h];decide),move_frame]
theorem best_lt (q:Qm) (t:Int) (h:¬bestI q t q.W.length<0):(bestI q t q.W.length).toNat<q.W.length:=by
 have:=bestI_le q t q.W.length
 omega
theorem lea_inv {n:Nat} {q:Qm} (h:Inv n q) (wk:ByteArray) (t:Int):Inv (n+1) (leaR q wk t).2.2:=by
 have h1:=mv_inv h t
 unfold leaR
 dsimp only
 split
 ·exact h1.up (by omega)
 ·split
  ·exact h1.up (by omega)
  ·split
   ·exact h1.up (by omega)
   ·exact lease_inv h1 wk t _ (best_lt _ _ ‹_›) (mv_tick (by simpa using ‹¬badT q t=true›))
/-! the end of a lease -/
def endR (q:Qm) (m t:Int):Ls×Int×Qm:=
 let q1:=mvQ q t
 if badT q t=true then (ls0,2,q1) else if noI q1 m<0 then (ls0,7,q1) else (q1.L.getD (noI q1 m).toNat ls0,0,{ q1 with L:=q1.L.eraseIdx (noI q1 m).toNat })
theorem noI_lt {q:Qm} {m:Int} (h:¬noI q m<0):(noI q m).toNat<q.L.length:=by
 have:=idxI_lt (p:=fun l:Ls=>l.no==m) (l:=q.L)
 unfold noI at h⊢
 omega
theorem drop_jobs (q:Qm) (i:Nat) (hi:i<q.L.length):(jobsQ q).Perm ((q.L.getD i ls0).w.j :: jobsQ { q with L:=q.L.eraseIdx i }):=by
 refine(jobsQ_perm q).trans ?_
 refine((erase_perm (·.w.j) ls0 q.L i hi).append_right _).trans ?_
 exact((jobsQ_perm { q with L:=q.L.eraseIdx i }).symm).cons _
theorem drop_inv {n:Nat} {q:Qm} (h:Inv n q) (i:Nat) (hi:i<q.L.length):Inv n { q with L:=q.L.eraseIdx i }:=by
 have hj:=drop_jobs q i hi
 refine⟨base_L h.base,?_,fun l hl=>h.L l (List.mem_of_mem_eraseIdx hl),h.nos.sublist (List.eraseIdx_sublist ..),?_⟩
 ·have:=h.len
  have e:=List.length_eraseIdx_of_lt hi
  show q.W.length+(q.L.eraseIdx i).length+q.D.length≤n
  omega
 ·have:=((hj.map kv).nodup_iff).1 h.nd
  exact(List.nodup_cons.1 this).2
theorem end_inv {n:Nat} {q:Qm} (h:Inv n q) (m t:Int):Inv n (endR q m t).2.2:=by
 have h1:=mv_inv h t
 unfold endR
 dsimp only
 split
 ·exact h1
 ·split
  ·exact h1
  ·exact drop_inv h1 _ (noI_lt ‹_›)
theorem end_jobs {q:Qm} (m t:Int):(jobsQ q).Perm (if (endR q m t).2.1=0 then (endR q m t).1.w.j :: jobsQ (endR q m t).2.2 else jobsQ (endR q m t).2.2):=by
 unfold endR
 dsimp only
 split
 ·show (jobsQ q).Perm (jobsQ (mvQ q t));exact(mv_jobs q t).symm
 ·split
  ·show (jobsQ q).Perm (jobsQ (mvQ q t));exact(mv_jobs q t).symm
  ·rw[if_pos rfl];exact(mv_jobs q t).symm.trans (drop_jobs _ _ (noI_lt ‹_›))
theorem end_l {n:Nat} {q:Qm} (h:Inv n q) (m t:Int) (he:(endR q m t).2.1=0):0≤(endR q m t).1.w.tr∧(endR q m t).1.w.tr<q.lt:=by
 have h1:=mv_inv h t
 unfold endR at he⊢
 dsimp only at he⊢
 split at he
 ·cases he
 ·split at he
  ·cases he
  ·rename_i a b
   rw[if_neg a,if_neg b]
   have:=(h1.L _ (getD_mem (x0:=ls0) (noI_lt b))).1
   rwa [mv_lt] at this
def failR (q:Qm) (m t:Int):Int×Qm:=
 let r:=endR q m t
 (r.2.1,if r.2.1=0 then failQ r.2.2 r.1.w t else r.2.2)
theorem failq_inv {n:Nat} {q:Qm} {w:Wt} {t:Int} (h:Inv n q) (hw:0≤w.tr) (hl:q.W.length+q.L.length+q.D.length+1≤n) (hj:((w.j :: jobsQ q).map kv).Nodup):Inv n (failQ q w t):=by
 have e:=fail_frame q w t
 have hp:(jobsQ (failQ q w t)).Perm (w.j :: jobsQ q):=by
  refine(jobsQ_perm _).trans ?_
  have e1:(failQ q w t).L=q.L:=failQ_L q w t
  rw[e1]
  refine((fail_jobs q w t).append_left _).trans ?_
  refine List.perm_middle.trans ?_
  exact((jobsQ_perm q).symm).cons _
 refine⟨fail_base h.base hw,?_,?_,?_,nd_of_jobs (q:={ q with D:=w.j :: q.D }) ?_ ?_⟩
 ·have:=hp.length_eq
  rw[jobsQ_len,List.length_cons,jobsQ_len] at this
  omega
 ·rw[e];exact h.L
 ·rw[e];exact h.nos
 ·refine hp.trans ?_
  show (w.j :: jobsQ q).Perm (q.W.map (·.j)++q.L.map (·.w.j)++w.j :: q.D)
  exact List.perm_middle.symm
 ·have:(jobsQ { q with D:=w.j :: q.D }).Perm (w.j :: jobsQ q):=by
   show (q.W.map (·.j)++q.L.map (·.w.j)++w.j :: q.D).Perm (w.j :: jobsQ q)
   exact List.perm_middle
  exact((this.map kv).nodup_iff).2 hj
theorem failR_inv {n:Nat} {q:Qm} (h:Inv n q) (m t:Int):Inv n (failR q m t).2:=by
 have h1:=end_inv h m t
 have h2:=end_jobs (q:=q) m t
 have h3:=end_l h m t
 unfold failR
 dsimp only
 split
 ·rename_i he
  rw[if_pos he] at h2
  have hl:=h2.length_eq
  rw[jobsQ_len,List.length_cons,jobsQ_len] at hl
  exact failq_inv h1 (h3 he).1 (by have:=h.len;omega) (((h2.map kv).nodup_iff).1 h.nd)
 ·exact h1
/-! removing -/
def remR (q:Qm) (k:Jb) (v t:Int):Int×Qm:=
 let e:=delE (!badT q t) (mvQ q t) k v
 (e,if e=0 then delQ (mvQ q t) k v else mvQ q t)
theorem del_jobs (q:Qm) (k:Jb) (v:Int):jobsQ (delQ q k v)=(jobsQ q).filter fun j=>!sameB k v j:=by
 unfold jobsQ delQ
 simp only[List.filter_append,List.filter_map];rfl
theorem del_inv {n:Nat} {q:Qm} (h:Inv n q) (k:Jb) (v:Int):Inv n (delQ q k v):=by
 have b:=h.base
 refine⟨⟨b.ll,b.lt,b.lp,b.ls,b.tick,b.arr,b.num,b.srt.sublist List.filter_sublist,fun w hw=>b.tr w (List.mem_filter.1 hw).1,b.sv,b.has⟩,?_,fun l hl=>h.L l (List.mem_filter.1 hl).1,h.nos.sublist List.filter_sublist,?_⟩
 ·have h1:=List.length_filter_le (fun w:Wt=>!sameB k v w.j) q.W
  have h2:=List.length_filter_le (fun l:Ls=>!sameB k v l.w.j) q.L
  have h3:=List.length_filter_le (fun j:Jb=>!sameB k v j) q.D
  have:=h.len
  show (q.W.filter _).length+(q.L.filter _).length+(q.D.filter _).length≤n
  omega
 ·rw[del_jobs]
  exact h.nd.sublist (List.filter_sublist.map _)
theorem rem_inv {n:Nat} {q:Qm} (h:Inv n q) (k:Jb) (v t:Int):Inv n (remR q k v t).2:=by
 have h1:=mv_inv h t
 unfold remR
 dsimp only
 split
 ·exact del_inv h1 k v
 ·exact h1
end Go.Proofs
/- The calls,whole. -/
namespace Go.Proofs
open Go Go.Ab Go.RowKit
set_option maxHeartbeats 4000000
set_option maxRecDepth 100000
variable {G:IH}
theorem f38T {n:Nat} {q:Qm} (h:Inv n q) (hn:n≤100000) (t:Int):FnM Tryz.prog G 38 [.box 1000000 0,.d (di t)] (qP q) (.d (db (!badT q t))) (qG (mvQ q t)):=by
 have hl:=h.len
 unfold mvQ
 by_cases hb:badT q t=true
 ·rw[if_pos hb,hb]
  refine f38_bad q t ?_
  unfold badT at hb
  rw[Bool.or_eq_true,decide_eq_true_eq,decide_eq_true_eq] at hb
  exact hb
 ·rw[if_neg hb,Bool.eq_false_iff.2 hb]
  obtain ⟨h1,h2⟩:=badT_iff.1 (Bool.eq_false_iff.2 hb)
  refine f38_ok q t h1 h2 (by omega) (fun k hk=>?_) fun l hl=>?_
  ·have hb:=tick_base h.base (t:=t) (by have:=h.base.tick;omega) h2
   have b:Base n (goneQ q t (q.L.take k)):=fold_base _ hb fun l hl=>(h.L l (List.mem_of_mem_take (List.mem_filter.1 hl).1)).1.1
   have hj:=(fold_jobs ((q.L.take k).filter (overB t)) (tickQ q t)).length_eq
   rw[List.length_append,List.length_map,jobsWD_len,jobsWD_len] at hj
   have hf:((q.L.take k).filter (overB t)).length≤q.L.length:=Nat.le_trans (List.length_filter_le ..) (by rw[List.length_take];omega)
   have e:(goneQ q t (q.L.take k)).W.length+(goneQ q t (q.L.take k)).D.length=((q.L.take k).filter (overB t)).length+(q.W.length+q.D.length):=hj
   exact⟨b.lt.2,b.lp.1,b.lp.2,by omega,by omega,b.srt⟩
  ·obtain ⟨a,b,c⟩:=h.L l hl
   have:=h.base.lt
   have:=h.base.tick
   exact⟨a.1,by omega,by omega,b.2⟩
theorem f32T {n:Nat} {q:Qm} (h:Inv n q) (hn:n≤100000) (j:Jb) (t:Int) (hj1:j.st.size≤1000000) (hj2:j.ex.size≤1000000):FnM Tryz.prog G 32 [.box 1000000 0,.d (jbD j),.d (di t)] (qP q) (.d (di (addR q j t).1)) (qG (addR q j t).2):=by
 have h1:=mv_inv h t
 have hl:=h1.len
 have h38:=f38T (G:=G) h hn t
 unfold addR
 dsimp only
 split
 ·rename_i he
  obtain ⟨hb,-,-⟩:=addE_0 he
  rw[he]
  rw[hb] at h38 he
  exact f32_ok q (mvQ q t) j t h38 he hj1 hj2 (by omega) (by omega) (by omega) h1.base.srt ⟨by have:=h1.base.arr;omega,by have:=h1.base.arr;omega⟩
 ·exact f32_no _ q (mvQ q t) j t h38 ‹_› hj1 hj2 (by omega) (by omega) (by omega)
theorem f20T {n:Nat} {q:Qm} (h:Inv n q) (hn:n≤100000) (wk:ByteArray) (t:Int) (hw:wk.size≤1000000):FnM Tryz.prog G 20 [.box 1000000 0,.d (ds wk),.d (di t)] (qP q) (.d (.tup [lsD (leaR q wk t).1,di (leaR q wk t).2.1])) (qG (leaR q wk t).2.2):=by
 have h1:=mv_inv h t
 have hl:=h1.len
 have h38:=f38T (G:=G) h hn t
 unfold leaR
 dsimp only
 split
 ·rename_i hb
  rw[hb] at h38
  exact f20_no false q (mvQ q t) wk t h38 (fun h=>(by cases h)) hw
 ·rename_i hb
  rw[Bool.eq_false_iff.2 hb] at h38
  split
  ·exact f20_no true q (mvQ q t) wk t h38 (fun _=>‹_›) hw
  ·rename_i hn2
   have hn2:nameB wk=true:=by simpa using hn2
   split
   ·exact f20_none q (mvQ q t) wk t h38 hn2 hw (by omega) (by omega) h1.base.has ‹_›
   ·rename_i hbb
    have hlt:=best_lt _ _ hbb
    have hm:(mvQ q t).W.getD (bestI (mvQ q t) t (mvQ q t).W.length).toNat wt0∈(mvQ q t).W:=getD_mem hlt
    have b:=h1.base
    have ht:=b.tick
    rw[mv_tick (Bool.eq_false_iff.2 hb)] at ht
    have hs:=b.sv ((mvQ q t).W.getD (bestI (mvQ q t) t (mvQ q t).W.length).toNat wt0).j.st
    exact f20_hit q (mvQ q t) wk t h38 hn2 hw (by omega) (by omega) b.has _ (by omega) hlt (by have:=b.ll;omega) b.ll.2 ht.1 ht.2 ⟨by have:=b.num;omega,by have:=b.num;omega⟩ ⟨by omega,by omega⟩
theorem f43T {n:Nat} {q:Qm} (h:Inv n q) (hn:n≤100000) (m t:Int):FnM Tryz.prog G 43 [.box 1000000 0,.d (di m),.d (di t)] (qP q) (.d (.tup [lsD (endR q m t).1,di (endR q m t).2.1])) (qG (endR q m t).2.2):=by
 have h1:=mv_inv h t
 have hl:=h1.len
 have h38:=f38T (G:=G) h hn t
 unfold endR
 dsimp only
 split
 ·rename_i hb
  rw[hb] at h38
  have e:mvQ q t=q:=if_pos hb
  rw[e] at h38⊢
  exact f43_bad q m t hb h38
 ·rename_i hb
  rw[Bool.eq_false_iff.2 hb] at h38
  split
  ·exact f43_none q (mvQ q t) m t ‹_› (by omega) h38
  ·have hlt:=noI_lt ‹_›
   exact f43_hit q (mvQ q t) m t _ (by omega) hlt (by omega) h38
theorem f22T {n:Nat} {q:Qm} (h:Inv n q) (hn:n≤100000) (m t:Int):FnM Tryz.prog G 22 [.box 1000000 0,.d (di m),.d (di t)] (qP q) (.d (.tup [jbD (endR q m t).1.w.j,di (endR q m t).2.1])) (qG (endR q m t).2.2):=
 f22 q _ m t _ _ (f43T h hn m t)
theorem f23T {n:Nat} {q:Qm} (h:Inv n q) (hn:n≤100000) (m t:Int):FnM Tryz.prog G 23 [.box 1000000 0,.d (di m),.d (di t)] (qP q) (.d (di (failR q m t).1)) (qG (failR q m t).2):=by
 have h43:=f43T (G:=G) h hn m t
 have h1:=end_inv h m t
 have hl:=h1.len
 have h3:=end_l h m t
 unfold failR
 dsimp only
 split
 ·rename_i he
  rw[he] at h43⊢
  have hlt:=h3 he
  have b:=h1.base
  have hb:badT q t=false:=by
   cases hb:badT q t with
   | false=>rfl
   | true=>unfold endR at he;dsimp only at he;rw[if_pos hb] at he;cases he
  have:=badT_iff.1 hb
  have:=h.base.tick
  have:=h.base.lt
  exact f23_hit q _ _ m t _ h43 (f44 _ _ t ⟨b.lt.2,b.lp.1,b.lp.2,by omega,by omega,b.srt⟩ hlt.1 (by omega) (by omega) (by omega))
 ·exact f23_no q _ m t _ _ ‹_› h43
theorem f35T {n:Nat} {q:Qm} (h:Inv n q) (hn:n≤100000) (k:Jb) (v t:Int):FnM Tryz.prog G 35 [.box 1000000 0,.d (.agg (keyL k)),.d (di v),.d (di t)] (qP q) (.d (di (remR q k v t).1)) (qG (remR q k v t).2):=by
 have h1:=mv_inv h t
 have hl:=h1.len
 have h38:=f38T (G:=G) h hn t
 unfold remR
 dsimp only
 split
 ·rename_i he
  rw[he]
  have hh:badT q t=false∧hasB (mvQ q t) k v=true:=by
   unfold delE at he
   cases hb:badT q t<;>cases hc:hasB (mvQ q t) k v<;>rw[hb,hc] at he<;>first|exact⟨rfl,rfl⟩|cases he
  rw[hh.1] at h38
  exact f35_ok q (mvQ q t) k v t h38 hh.2 (by omega) (by omega) (by omega)
 ·exact f35_no _ q (mvQ q t) k v t h38 ‹_› (by omega) (by omega) (by omega)
end Go.Proofs
