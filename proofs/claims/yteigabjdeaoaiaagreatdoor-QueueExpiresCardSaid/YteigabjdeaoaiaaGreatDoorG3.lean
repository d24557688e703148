import Derived.Test.YteigabjdeaoaiaaGreatDoorAcD
import Derived.Test.YteigabjdeaoaiaaGreatDoorG2
/- A call. -/
set_option autoImplicit false
namespace Go.Proofs
open Go Go.Ab Go.RowKit
set_option maxHeartbeats 4000000
set_option maxRecDepth 100000
variable {G:IH}
structure Ac where
 kd:Int
 tk:Int
 nu:Int
 j:Jb
 wk:ByteArray
 deriving DecidableEq
abbrev acL (a:Ac):List DV:=[di a.kd,di a.tk,di a.nu,ds a.j.st,ds a.j.ex,di a.j.no,di a.j.ve,di a.j.pr,ds a.wk]
abbrev acD (a:Ac):DV:=.agg (acL a)
abbrev ac0:Ac:=⟨0,0,0,jb0,.empty⟩
def acF (l:List Ac) (i:Nat):DV:=acD (l.getD i ac0)
abbrev acsD (l:List Ac):DV:=.slc 9 l.length (acF l)
def doR (q:Qm) (a:Ac):(Ls×Jb×Int)×Qm:=
 if a.kd=0 then ((ls0,jb0,(addR q a.j a.tk).1),(addR q a.j a.tk).2)
 else if a.kd=1 then (((leaR q a.wk a.tk).1,jb0,(leaR q a.wk a.tk).2.1),(leaR q a.wk a.tk).2.2)
 else if a.kd=2 then ((ls0,(endR q a.nu a.tk).1.w.j,(endR q a.nu a.tk).2.1),(endR q a.nu a.tk).2.2)
 else if a.kd=3 then ((ls0,jb0,(failR q a.nu a.tk).1),(failR q a.nu a.tk).2)
 else if a.kd=4 then ((ls0,jb0,(remR q a.j a.j.ve a.tk).1),(remR q a.j a.j.ve a.tk).2)
 else ((ls0,jb0,0),q)
noncomputable def m11 (q1:Qm) (l:Ls) (j:Jb) (e:Int):FuncId→List AV→List (Nat×List AV)→Option (AV×List (Nat×List AV)):=fun f _ _=>match f with
 | 32=>some (.d (di e),qG q1)
 | 20=>some (.d (.tup [lsD l,di e]),qG q1)
 | 22=>some (.d (.tup [jbD j,di e]),qG q1)
 | 23=>some (.d (di e),qG q1)
 | 35=>some (.d (di e),qG q1)
 | _=>none
noncomputable def orc11 (q1:Qm) (l:Ls) (j:Jb) (e:Int):Orc:={ d:=noO,m:=m11 q1 l j e }
theorem f11_0 (q q1:Qm) (tk nu:Int) (j0:Jb) (wk:ByteArray) (l:Ls) (j:Jb) (e:Int) (h:FnM Tryz.prog G 32 [.box 1000000 0,.d (jbD j0),.d (di tk)] (qP q) (.d (di e)) (qG q1)):FnM Tryz.prog G 11 [.box 1000000 0,.d (acD ⟨0,tk,nu,j0,wk⟩)] (qP q) (.d (.tup [lsD ls0,jbD jb0,di e])) (qG q1):=by
 refine FnM.of_body (mv:=[(23901,901),(23902,902),(23903,903)]) (by kernel_rfl) Tryz.func11 rfl Tryz.call11 ?_
 refine walkK (orc:=orc11 q1 l j e) (keep:=[]) (cuts:=[5,8,11,13,14]) (n:=1000) follows ?_
 refine of_tr (fun ZT ZW ZQ _=>(fun Za Zb Zc Zd=>(((true=true)→(FnM Tryz.prog G 32 [(.box 1000000 0),(.d (.agg [(ds j0.st),(ds j0.ex),(di j0.no),(di j0.ve),(di j0.pr)])),(vi tk)] [(1000000,[(vi q.ll),(vi q.lt),(vi q.lp),(vi q.ls),(vi q.tick),(vi q.arr),(vi q.num),(.vec 1000001 8 0 q.W.length),(.vec 1000002 11 0 q.L.length),(.vec 1000003 5 0 q.D.length),(.mapv 1000004)]),(1000001,[(.arr ⟨true,39,false,none⟩ 8 (wtF q.W))]),(1000002,[(.arr ⟨true,41,false,none⟩ 11 (lsF q.L))]),(1000003,[(.arr ⟨true,35,false,none⟩ 5 (jbF q.D))]),(1000004,[(.mp none (svF q.sv) q.has)])] (vi e) [(1000000,[(vi q1.ll),(vi q1.lt),(vi q1.lp),(vi q1.ls),(vi q1.tick),(vi q1.arr),(vi q1.num),(.vec 901 8 0 q1.W.length),(.vec 902 11 0 q1.L.length),(.vec 903 5 0 q1.D.length),(.mapv 1000004)]),(901,[Zc]),(902,[Zb]),(903,[Zd]),(1000004,[(.mp none (svF q1.sv) q1.has)])]∧((.d (.tup [(.agg [(di 0),(di 0),(ds (ByteArray.mk #[])),(ds (ByteArray.mk #[])),(ds (ByteArray.mk #[])),(di 0),(di 0),(di 0),(di 0),(di 0),(di 0)]),(.agg [(ds (ByteArray.mk #[])),(ds (ByteArray.mk #[])),(di 0),(di 0),(di 0)]),(di e)])):AV)=(.d (.tup [(.agg [(di 0),(di 0),(ds ByteArray.empty),(ds ByteArray.empty),(ds ByteArray.empty),(di 0),(di 0),(di 0),(di 0),(di 0),(di 0)]),(.agg [(ds ByteArray.empty),(ds ByteArray.empty),(di 0),(di 0),(di 0)]),(di e)]))∧(Za:(Option (List AV)))=Za∧((some [Zc]):(Option (List AV)))=(some [Zc])∧((some [Zb]):(Option (List AV)))=(some [Zb])∧((some [Zd]):(Option (List AV)))=(some [Zd])∧((some [(.mp none (svF q1.sv) q1.has)]):(Option (List AV)))=(some [(.mp none (svF q1.sv) q1.has)])∧True))∧((true=false)→(((false=true)→ZW [cd Tryz.f11 [1,0,1,0,1,1,1,0],(.blk 0),cd Tryz.f11 [1,1]] (stS ZT [1,0]) ZQ)∧((false=false)→(((false=true)→ZW [cd Tryz.f11 [1,0,1,0,1,1,1,1,1,0],(.blk 0),cd Tryz.f11 [1,1]] (stS ZT [1,1,0]) ZQ)∧((false=false)→(((false=true)→ZW [cd Tryz.f11 [1,0,1,0,1,1,1,1,1,1,1,0],(.blk 0),cd Tryz.f11 [1,1]] (stS ZT [1,1,1,0]) ZQ)∧((false=false)→(((false=true)→ZW [cd Tryz.f11 [1,0,1,0,1,1,1,1,1,1,1,1,1,0],(.blk 0),cd Tryz.f11 [1,1]] (stS ZT [1,1,1,1,0]) ZQ)∧((false=false)→ZW [cd Tryz.f11 [1,1]] (stS ZT [1,1,1,1,1]) ZQ))))))))))) (some [(vi q1.ll),(vi q1.lt),(vi q1.lp),(vi q1.ls),(vi q1.tick),(vi q1.arr),(vi q1.num),(.vec 901 8 0 q1.W.length),(.vec 902 11 0 q1.L.length),(.vec 903 5 0 q1.D.length),(.mapv 1000004)]) ((.arr ⟨true,41,false,none⟩ 11 (lsF q1.L)):AV) ((.arr ⟨true,39,false,none⟩ 8 (wtF q1.W)):AV) ((.arr ⟨true,35,false,none⟩ 5 (jbF q1.D)):AV)) (by kernel_rfl) ?_
 exact⟨fun _=>⟨h,rfl,rfl,rfl,rfl,rfl,rfl,trivial⟩,fun c=>(by cases c)⟩
theorem f11_1 (q q1:Qm) (tk nu:Int) (j0:Jb) (wk:ByteArray) (l:Ls) (j:Jb) (e:Int) (h:FnM Tryz.prog G 20 [.box 1000000 0,.d (ds wk),.d (di tk)] (qP q) (.d (.tup [lsD l,di e])) (qG q1)):FnM Tryz.prog G 11 [.box 1000000 0,.d (acD ⟨1,tk,nu,j0,wk⟩)] (qP q) (.d (.tup [lsD l,jbD jb0,di e])) (qG q1):=by
 refine FnM.of_body (mv:=[(32901,901),(32902,902),(32903,903)]) (by kernel_rfl) Tryz.func11 rfl Tryz.call11 ?_
 refine walkK (orc:=orc11 q1 l j e) (keep:=[]) (cuts:=[3,8,11,13,14]) (n:=1000) follows ?_
 refine of_tr (fun ZT ZW ZQ _=>(fun Za Zb Zc Zd Ze=>(((false=true)→ZW [cd Tryz.f11 [1,0,1,0,1,0],(.blk 0),cd Tryz.f11 [1,1]] (stS ZT [0]) ZQ)∧((false=false)→(((true=true)→(FnM Tryz.prog G 20 [(.box 1000000 0),(vs wk),(vi tk)] [(1000000,[(vi q.ll),(vi q.lt),(vi q.lp),(vi q.ls),(vi q.tick),(vi q.arr),(vi q.num),(.vec 1000001 8 0 q.W.length),(.vec 1000002 11 0 q.L.length),(.vec 1000003 5 0 q.D.length),(.mapv 1000004)]),(1000001,[(.arr ⟨true,39,false,none⟩ 8 (wtF q.W))]),(1000002,[(.arr ⟨true,41,false,none⟩ 11 (lsF q.L))]),(1000003,[(.arr ⟨true,35,false,none⟩ 5 (jbF q.D))]),(1000004,[(.mp none (svF q.sv) q.has)])] (.d (.tup [Za,(di e)])) [(1000000,[(vi q1.ll),(vi q1.lt),(vi q1.lp),(vi q1.ls),(vi q1.tick),(vi q1.arr),(vi q1.num),(.vec 901 8 0 q1.W.length),(.vec 902 11 0 q1.L.length),(.vec 903 5 0 q1.D.length),(.mapv 1000004)]),(901,[Zd]),(902,[Zc]),(903,[Ze]),(1000004,[(.mp none (svF q1.sv) q1.has)])]∧((.d (.tup [Za,(.agg [(ds (ByteArray.mk #[])),(ds (ByteArray.mk #[])),(di 0),(di 0),(di 0)]),(di e)])):AV)=(.d (.tup [Za,(.agg [(ds ByteArray.empty),(ds ByteArray.empty),(di 0),(di 0),(di 0)]),(di e)]))∧(Zb:(Option (List AV)))=Zb∧((some [Zd]):(Option (List AV)))=(some [Zd])∧((some [Zc]):(Option (List AV)))=(some [Zc])∧((some [Ze]):(Option (List AV)))=(some [Ze])∧((some [(.mp none (svF q1.sv) q1.has)]):(Option (List AV)))=(some [(.mp none (svF q1.sv) q1.has)])∧True))∧((true=false)→(((false=true)→ZW [cd Tryz.f11 [1,0,1,0,1,1,1,1,1,0],(.blk 0),cd Tryz.f11 [1,1]] (stS ZT [1,1,0]) ZQ)∧((false=false)→(((false=true)→ZW [cd Tryz.f11 [1,0,1,0,1,1,1,1,1,1,1,0],(.blk 0),cd Tryz.f11 [1,1]] (stS ZT [1,1,1,0]) ZQ)∧((false=false)→(((false=true)→ZW [cd Tryz.f11 [1,0,1,0,1,1,1,1,1,1,1,1,1,0],(.blk 0),cd Tryz.f11 [1,1]] (stS ZT [1,1,1,1,0]) ZQ)∧((false=false)→ZW [cd Tryz.f11 [1,1]] (stS ZT [1,1,1,1,1]) ZQ))))))))))) ((.agg [(di l.no),(di l.un),(ds l.wk),(ds l.w.j.st),(ds l.w.j.ex),(di l.w.j.no),(di l.w.j.ve),(di l.w.j.pr),(di l.w.tr),(di l.w.ar),(di l.w.fr)]):DV) (some [(vi q1.ll),(vi q1.lt),(vi q1.lp),(vi q1.ls),(vi q1.tick),(vi q1.arr),(vi q1.num),(.vec 901 8 0 q1.W.length),(.vec 902 11 0 q1.L.length),(.vec 903 5 0 q1.D.length),(.mapv 1000004)]) ((.arr ⟨true,41,false,none⟩ 11 (lsF q1.L)):AV) ((.arr ⟨true,39,false,none⟩ 8 (wtF q1.W)):AV) ((.arr ⟨true,35,false,none⟩ 5 (jbF q1.D)):AV)) (by kernel_rfl) ?_
 exact⟨fun c=>(by cases c),fun _=>⟨fun _=>⟨h,rfl,rfl,rfl,rfl,rfl,rfl,trivial⟩,fun c=>(by cases c)⟩⟩
theorem f11_2 (q q1:Qm) (tk nu:Int) (j0:Jb) (wk:ByteArray) (l:Ls) (j:Jb) (e:Int) (h:FnM Tryz.prog G 22 [.box 1000000 0,.d (di nu),.d (di tk)] (qP q) (.d (.tup [jbD j,di e])) (qG q1)):FnM Tryz.prog G 11 [.box 1000000 0,.d (acD ⟨2,tk,nu,j0,wk⟩)] (qP q) (.d (.tup [lsD ls0,jbD j,di e])) (qG q1):=by
 refine FnM.of_body (mv:=[(46901,901),(46902,902),(46903,903)]) (by kernel_rfl) Tryz.func11 rfl Tryz.call11 ?_
 refine walkK (orc:=orc11 q1 l j e) (keep:=[]) (cuts:=[3,5,11,13,14]) (n:=1000) follows ?_
 refine of_tr (fun ZT ZW ZQ _=>(fun Za Zb Zc Zd Ze=>(((false=true)→ZW [cd Tryz.f11 [1,0,1,0,1,0],(.blk 0),cd Tryz.f11 [1,1]] (stS ZT [0]) ZQ)∧((false=false)→(((false=true)→ZW [cd Tryz.f11 [1,0,1,0,1,1,1,0],(.blk 0),cd Tryz.f11 [1,1]] (stS ZT [1,0]) ZQ)∧((false=false)→(((true=true)→(FnM Tryz.prog G 22 [(.box 1000000 0),(vi nu),(vi tk)] [(1000000,[(vi q.ll),(vi q.lt),(vi q.lp),(vi q.ls),(vi q.tick),(vi q.arr),(vi q.num),(.vec 1000001 8 0 q.W.length),(.vec 1000002 11 0 q.L.length),(.vec 1000003 5 0 q.D.length),(.mapv 1000004)]),(1000001,[(.arr ⟨true,39,false,none⟩ 8 (wtF q.W))]),(1000002,[(.arr ⟨true,41,false,none⟩ 11 (lsF q.L))]),(1000003,[(.arr ⟨true,35,false,none⟩ 5 (jbF q.D))]),(1000004,[(.mp none (svF q.sv) q.has)])] (.d (.tup [Zb,(di e)])) [(1000000,[(vi q1.ll),(vi q1.lt),(vi q1.lp),(vi q1.ls),(vi q1.tick),(vi q1.arr),(vi q1.num),(.vec 901 8 0 q1.W.length),(.vec 902 11 0 q1.L.length),(.vec 903 5 0 q1.D.length),(.mapv 1000004)]),(901,[Zd]),(902,[Zc]),(903,[Ze]),(1000004,[(.mp none (svF q1.sv) q1.has)])]∧((.d (.tup [(.agg [(di 0),(di 0),(ds (ByteArray.mk #[])),(ds (ByteArray.mk #[])),(ds (ByteArray.mk #[])),(di 0),(di 0),(di 0),(di 0),(di 0),(di 0)]),Zb,(di e)])):AV)=(.d (.tup [(.agg [(di 0),(di 0),(ds ByteArray.empty),(ds ByteArray.empty),(ds ByteArray.empty),(di 0),(di 0),(di 0),(di 0),(di 0),(di 0)]),Zb,(di e)]))∧(Za:(Option (List AV)))=Za∧((some [Zd]):(Option (List AV)))=(some [Zd])∧((some [Zc]):(Option (List AV)))=(some [Zc])∧((some [Ze]):(Option (List AV)))=(some [Ze])∧((some [(.mp none (svF q1.sv) q1.has)]):(Option (List AV)))=(some [(.mp none (svF q1.sv) q1.has)])∧True))∧((true=false)→(((false=true)→ZW [cd Tryz.f11 [1,0,1,0,1,1,1,1,1,1,1,0],(.blk 0),cd Tryz.f11 [1,1]] (stS ZT [1,1,1,0]) ZQ)∧((false=false)→(((false=true)→ZW [cd Tryz.f11 [1,0,1,0,1,1,1,1,1,1,1,1,1,0],(.blk 0),cd Tryz.f11 [1,1]] (stS ZT [1,1,1,1,0]) ZQ)∧((false=false)→ZW [cd Tryz.f11 [1,1]] (stS ZT [1,1,1,1,1]) ZQ))))))))))) (some [(vi q1.ll),(vi q1.lt),(vi q1.lp),(vi q1.ls),(vi q1.tick),(vi q1.arr),(vi q1.num),(.vec 901 8 0 q1.W.length),(.vec 902 11 0 q1.L.length),(.vec 903 5 0 q1.D.length),(.mapv 1000004)]) ((.agg [(ds j.st),(ds j.ex),(di j.no),(di j.ve),(di j.pr)]):DV) ((.arr ⟨true,41,false,none⟩ 11 (lsF q1.L)):AV) ((.arr ⟨true,39,false,none⟩ 8 (wtF q1.W)):AV) ((.arr ⟨true,35,false,none⟩ 5 (jbF q1.D)):AV)) (by kernel_rfl) ?_
 exact⟨fun c=>(by cases c),fun _=>⟨fun c=>(by cases c),fun _=>⟨fun _=>⟨h,rfl,rfl,rfl,rfl,rfl,rfl,trivial⟩,fun c=>(by cases c)⟩⟩⟩
theorem f11_3 (q q1:Qm) (tk nu:Int) (j0:Jb) (wk:ByteArray) (l:Ls) (j:Jb) (e:Int) (h:FnM Tryz.prog G 23 [.box 1000000 0,.d (di nu),.d (di tk)] (qP q) (.d (di e)) (qG q1)):FnM Tryz.prog G 11 [.box 1000000 0,.d (acD ⟨3,tk,nu,j0,wk⟩)] (qP q) (.d (.tup [lsD ls0,jbD jb0,di e])) (qG q1):=by
 refine FnM.of_body (mv:=[(61901,901),(61902,902),(61903,903)]) (by kernel_rfl) Tryz.func11 rfl Tryz.call11 ?_
 refine walkK (orc:=orc11 q1 l j e) (keep:=[]) (cuts:=[3,5,8,13,14]) (n:=1000) follows ?_
 refine of_tr (fun ZT ZW ZQ _=>(fun Za Zb Zc Zd=>(((false=true)→ZW [cd Tryz.f11 [1,0,1,0,1,0],(.blk 0),cd Tryz.f11 [1,1]] (stS ZT [0]) ZQ)∧((false=false)→(((false=true)→ZW [cd Tryz.f11 [1,0,1,0,1,1,1,0],(.blk 0),cd Tryz.f11 [1,1]] (stS ZT [1,0]) ZQ)∧((false=false)→(((false=true)→ZW [cd Tryz.f11 [1,0,1,0,1,1,1,1,1,0],(.blk 0),cd Tryz.f11 [1,1]] (stS ZT [1,1,0]) ZQ)∧((false=false)→(((true=true)→(FnM Tryz.prog G 23 [(.box 1000000 0),(vi nu),(vi tk)] [(1000000,[(vi q.ll),(vi q.lt),(vi q.lp),(vi q.ls),(vi q.tick),(vi q.arr),(vi q.num),(.vec 1000001 8 0 q.W.length),(.vec 1000002 11 0 q.L.length),(.vec 1000003 5 0 q.D.length),(.mapv 1000004)]),(1000001,[(.arr ⟨true,39,false,none⟩ 8 (wtF q.W))]),(1000002,[(.arr ⟨true,41,false,none⟩ 11 (lsF q.L))]),(1000003,[(.arr ⟨true,35,false,none⟩ 5 (jbF q.D))]),(1000004,[(.mp none (svF q.sv) q.has)])] (vi e) [(1000000,[(vi q1.ll),(vi q1.lt),(vi q1.lp),(vi q1.ls),(vi q1.tick),(vi q1.arr),(vi q1.num),(.vec 901 8 0 q1.W.length),(.vec 902 11 0 q1.L.length),(.vec 903 5 0 q1.D.length),(.mapv 1000004)]),(901,[Zc]),(902,[Zb]),(903,[Zd]),(1000004,[(.mp none (svF q1.sv) q1.has)])]∧((.d (.tup [(.agg [(di 0),(di 0),(ds (ByteArray.mk #[])),(ds (ByteArray.mk #[])),(ds (ByteArray.mk #[])),(di 0),(di 0),(di 0),(di 0),(di 0),(di 0)]),(.agg [(ds (ByteArray.mk #[])),(ds (ByteArray.mk #[])),(di 0),(di 0),(di 0)]),(di e)])):AV)=(.d (.tup [(.agg [(di 0),(di 0),(ds ByteArray.empty),(ds ByteArray.empty),(ds ByteArray.empty),(di 0),(di 0),(di 0),(di 0),(di 0),(di 0)]),(.agg [(ds ByteArray.empty),(ds ByteArray.empty),(di 0),(di 0),(di 0)]),(di e)]))∧(Za:(Option (List AV)))=Za∧((some [Zc]):(Option (List AV)))=(some [Zc])∧((some [Zb]):(Option (List AV)))=(some [Zb])∧((some [Zd]):(Option (List AV)))=(some [Zd])∧((some [(.mp none (svF q1.sv) q1.has)]):(Option (List AV)))=(some [(.mp none (svF q1.sv) q1.has)])∧True))∧((true=false)→(((false=true)→ZW [cd Tryz.f11 [1,0,1,0,1,1,1,1,1,1,1,1,1,0],(.blk 0),cd Tryz.f11 [1,1]] (stS ZT [1,1,1,1,0]) ZQ)∧((false=false)→ZW [cd Tryz.f11 [1,1]] (stS ZT [1,1,1,1,1]) ZQ))))))))))) (some [(vi q1.ll),(vi q1.lt),(vi q1.lp),(vi q1.ls),(vi q1.tick),(vi q1.arr),(vi q1.num),(.vec 901 8 0 q1.W.length),(.vec 902 11 0 q1.L.length),(.vec 903 5 0 q1.D.length),(.mapv 1000004)]) ((.arr ⟨true,41,false,none⟩ 11 (lsF q1.L)):AV) ((.arr ⟨true,39,false,none⟩ 8 (wtF q1.W)):AV) ((.arr ⟨true,35,false,none⟩ 5 (jbF q1.D)):AV)) (by kernel_rfl) ?_
 exact⟨fun c=>(by cases c),fun _=>⟨fun c=>(by cases c),fun _=>⟨fun c=>(by cases c),fun _=>⟨fun _=>⟨h,rfl,rfl,rfl,rfl,rfl,rfl,trivial⟩,fun c=>(by cases c)⟩⟩⟩⟩
theorem f11_4 (q q1:Qm) (tk nu:Int) (j0:Jb) (wk:ByteArray) (l:Ls) (j:Jb) (e:Int) (h:FnM Tryz.prog G 35 [.box 1000000 0,.d (.agg (keyL j0)),.d (di j0.ve),.d (di tk)] (qP q) (.d (di e)) (qG q1)):FnM Tryz.prog G 11 [.box 1000000 0,.d (acD ⟨4,tk,nu,j0,wk⟩)] (qP q) (.d (.tup [lsD ls0,jbD jb0,di e])) (qG q1):=by
 refine FnM.of_body (mv:=[(75901,901),(75902,902),(75903,903)]) (by kernel_rfl) Tryz.func11 rfl Tryz.call11 ?_
 refine walkK (orc:=orc11 q1 l j e) (keep:=[]) (cuts:=[3,5,8,11,14]) (n:=1000) follows ?_
 refine of_tr (fun ZT ZW ZQ _=>(fun Za Zb Zc Zd=>(((false=true)→ZW [cd Tryz.f11 [1,0,1,0,1,0],(.blk 0),cd Tryz.f11 [1,1]] (stS ZT [0]) ZQ)∧((false=false)→(((false=true)→ZW [cd Tryz.f11 [1,0,1,0,1,1,1,0],(.blk 0),cd Tryz.f11 [1,1]] (stS ZT [1,0]) ZQ)∧((false=false)→(((false=true)→ZW [cd Tryz.f11 [1,0,1,0,1,1,1,1,1,0],(.blk 0),cd Tryz.f11 [1,1]] (stS ZT [1,1,0]) ZQ)∧((false=false)→(((false=true)→ZW [cd Tryz.f11 [1,0,1,0,1,1,1,1,1,1,1,0],(.blk 0),cd Tryz.f11 [1,1]] (stS ZT [1,1,1,0]) ZQ)∧((false=false)→(((true=true)→(FnM Tryz.prog G 35 [(.box 1000000 0),(.d (.agg [(ds j0.st),(ds j0.ex),(di j0.no)])),(vi j0.ve),(vi tk)] [(1000000,[(vi q.ll),(vi q.lt),(vi q.lp),(vi q.ls),(vi q.tick),(vi q.arr),(vi q.num),(.vec 1000001 8 0 q.W.length),(.vec 1000002 11 0 q.L.length),(.vec 1000003 5 0 q.D.length),(.mapv 1000004)]),(1000001,[(.arr ⟨true,39,false,none⟩ 8 (wtF q.W))]),(1000002,[(.arr ⟨true,41,false,none⟩ 11 (lsF q.L))]),(1000003,[(.arr ⟨true,35,false,none⟩ 5 (jbF q.D))]),(1000004,[(.mp none (svF q.sv) q.has)])] (vi e) [(1000000,[(vi q1.ll),(vi q1.lt),(vi q1.lp),(vi q1.ls),(vi q1.tick),(vi q1.arr),(vi q1.num),(.vec 901 8 0 q1.W.length),(.vec 902 11 0 q1.L.length),(.vec 903 5 0 q1.D.length),(.mapv 1000004)]),(901,[Zc]),(902,[Zb]),(903,[Zd]),(1000004,[(.mp none (svF q1.sv) q1.has)])]∧((.d (.tup [(.agg [(di 0),(di 0),(ds (ByteArray.mk #[])),(ds (ByteArray.mk #[])),(ds (ByteArray.mk #[])),(di 0),(di 0),(di 0),(di 0),(di 0),(di 0)]),(.agg [(ds (ByteArray.mk #[])),(ds (ByteArray.mk #[])),(di 0),(di 0),(di 0)]),(di e)])):AV)=(.d (.tup [(.agg [(di 0),(di 0),(ds ByteArray.empty),(ds ByteArray.empty),(ds ByteArray.empty),(di 0),(di 0),(di 0),(di 0),(di 0),(di 0)]),(.agg [(ds ByteArray.empty),(ds ByteArray.empty),(di 0),(di 0),(di 0)]),(di e)]))∧(Za:(Option (List AV)))=Za∧((some [Zc]):(Option (List AV)))=(some [Zc])∧((some [Zb]):(Option (List AV)))=(some [Zb])∧((some [Zd]):(Option (List AV)))=(some [Zd])∧((some [(.mp none (svF q1.sv) q1.has)]):(Option (List AV)))=(some [(.mp none (svF q1.sv) q1.has)])∧True))∧((true=false)→ZW [cd Tryz.f11 [1,1]] (stS ZT [1,1,1,1,1]) ZQ))))))))))) (some [(vi q1.ll),(vi q1.lt),(vi q1.lp),(vi q1.ls),(vi q1.tick),(vi q1.arr),(vi q1.num),(.vec 901 8 0 q1.W.length),(.vec 902 11 0 q1.L.length),(.vec 903 5 0 q1.D.length),(.mapv 1000004)]) ((.arr ⟨true,41,false,none⟩ 11 (lsF q1.L)):AV) ((.arr ⟨true,39,false,none⟩ 8 (wtF q1.W)):AV) ((.arr ⟨true,35,false,none⟩ 5 (jbF q1.D)):AV)) (by kernel_rfl) ?_
 exact⟨fun c=>(by cases c),fun _=>⟨fun c=>(by cases c),fun _=>⟨fun c=>(by cases c),fun _=>⟨fun c=>(by cases c),fun _=>⟨fun _=>⟨h,rfl,rfl,rfl,rfl,rfl,rfl,trivial⟩,fun c=>(by cases c)⟩⟩⟩⟩⟩
theorem f11_5 (q:Qm) (a:Ac) (h0:a.kd≠0) (h1:a.kd≠1) (h2:a.kd≠2) (h3:a.kd≠3) (h4:a.kd≠4):FnM Tryz.prog G 11 [.box 1000000 0,.d (acD a)] (qP q) (.d (.tup [lsD ls0,jbD jb0,di 0])) (qG q):=by
 refine FnM.of_body (mv:=[(1000001,901),(1000002,902),(1000003,903)]) (by kernel_rfl) Tryz.func11 rfl Tryz.call11 ?_
 refine walkK (orc:=orc11 q ls0 jb0 0) (keep:=[]) (cuts:=[3,5,8,11,13]) (n:=1000) follows ?_
 refine of_tr (fun ZT ZW ZQ _=>(fun Za=>((((a.kd==0)=true)→ZW [cd Tryz.f11 [1,0,1,0,1,0],(.blk 0),cd Tryz.f11 [1,1]] (stS ZT [0]) ZQ)∧(((a.kd==0)=false)→((((a.kd==1)=true)→ZW [cd Tryz.f11 [1,0,1,0,1,1,1,0],(.blk 0),cd Tryz.f11 [1,1]] (stS ZT [1,0]) ZQ)∧(((a.kd==1)=false)→((((a.kd==2)=true)→ZW [cd Tryz.f11 [1,0,1,0,1,1,1,1,1,0],(.blk 0),cd Tryz.f11 [1,1]] (stS ZT [1,1,0]) ZQ)∧(((a.kd==2)=false)→((((a.kd==3)=true)→ZW [cd Tryz.f11 [1,0,1,0,1,1,1,1,1,1,1,0],(.blk 0),cd Tryz.f11 [1,1]] (stS ZT [1,1,1,0]) ZQ)∧(((a.kd==3)=false)→((((a.kd==4)=true)→ZW [cd Tryz.f11 [1,0,1,0,1,1,1,1,1,1,1,1,1,0],(.blk 0),cd Tryz.f11 [1,1]] (stS ZT [1,1,1,1,0]) ZQ)∧(((a.kd==4)=false)→(((.d (.tup [(.agg [(di 0),(di 0),(ds (ByteArray.mk #[])),(ds (ByteArray.mk #[])),(ds (ByteArray.mk #[])),(di 0),(di 0),(di 0),(di 0),(di 0),(di 0)]),(.agg [(ds (ByteArray.mk #[])),(ds (ByteArray.mk #[])),(di 0),(di 0),(di 0)]),(di 0)])):AV)=(.d (.tup [(.agg [(di 0),(di 0),(ds ByteArray.empty),(ds ByteArray.empty),(ds ByteArray.empty),(di 0),(di 0),(di 0),(di 0),(di 0),(di 0)]),(.agg [(ds ByteArray.empty),(ds ByteArray.empty),(di 0),(di 0),(di 0)]),(di 0)]))∧(Za:(Option (List AV)))=Za∧((some [(.arr ⟨true,39,false,none⟩ 8 (wtF q.W))]):(Option (List AV)))=(some [(.arr ⟨true,39,false,none⟩ 8 (wtF q.W))])∧((some [(.arr ⟨true,41,false,none⟩ 11 (lsF q.L))]):(Option (List AV)))=(some [(.arr ⟨true,41,false,none⟩ 11 (lsF q.L))])∧((some [(.arr ⟨true,35,false,none⟩ 5 (jbF q.D))]):(Option (List AV)))=(some [(.arr ⟨true,35,false,none⟩ 5 (jbF q.D))])∧((some [(.mp none (svF q.sv) q.has)]):(Option (List AV)))=(some [(.mp none (svF q.sv) q.has)])∧True)))))))))))) (some [(vi q.ll),(vi q.lt),(vi q.lp),(vi q.ls),(vi q.tick),(vi q.arr),(vi q.num),(.vec 901 8 0 q.W.length),(.vec 902 11 0 q.L.length),(.vec 903 5 0 q.D.length),(.mapv 1000004)])) (by kernel_rfl) ?_
 exact⟨fun c=>absurd (eq_of_beq c) h0,fun _=>⟨fun c=>absurd (eq_of_beq c) h1,fun _=>⟨fun c=>absurd (eq_of_beq c) h2,fun _=>⟨fun c=>absurd (eq_of_beq c) h3,fun _=>⟨fun c=>absurd (eq_of_beq c) h4,fun _=>⟨rfl,rfl,rfl,rfl,rfl,rfl,trivial⟩⟩⟩⟩⟩⟩
def SmallA (a:Ac):Prop:=a.wk.size≤40∧a.j.st.size≤40∧a.j.ex.size≤40
theorem f11T {n:Nat} {q:Qm} (h:Inv n q) (hn:n≤100000) (a:Ac) (hs:SmallA a):FnM Tryz.prog G 11 [.box 1000000 0,.d (acD a)] (qP q) (.d (.tup [lsD (doR q a).1.1,jbD (doR q a).1.2.1,di (doR q a).1.2.2])) (qG (doR q a).2):=by
 obtain ⟨s1,s2,s3⟩:=hs
 obtain ⟨kd,tk,nu,j,wk⟩:=a
 by_cases h0:kd=0
 ·subst h0
  exact f11_0 q _ tk nu j wk ls0 jb0 _ (f32T h hn j tk (Nat.le_trans s2 (by decide)) (Nat.le_trans s3 (by decide)))
 by_cases h1:kd=1
 ·subst h1
  exact f11_1 q _ tk nu j wk _ jb0 _ (f20T h hn wk tk (Nat.le_trans s1 (by decide)))
 by_cases h2:kd=2
 ·subst h2
  exact f11_2 q _ tk nu j wk ls0 _ _ (f22T h hn nu tk)
 by_cases h3:kd=3
 ·subst h3
  exact f11_3 q _ tk nu j wk ls0 jb0 _ (f23T h hn nu tk)
 by_cases h4:kd=4
 ·subst h4
  exact f11_4 q _ tk nu j wk ls0 jb0 _ (f35T h hn j j.ve tk)
 have e:doR q ⟨kd,tk,nu,j,wk⟩=((ls0,jb0,0),q):=by
  unfold doR
  rw[if_neg h0,if_neg h1,if_neg h2,if_neg h3,if_neg h4]
 rw[e]
 exact f11_5 q ⟨kd,tk,nu,j,wk⟩ h0 h1 h2 h3 h4
theorem do_inv {n:Nat} {q:Qm} (h:Inv n q) (a:Ac):Inv (n+1) (doR q a).2:=by
 unfold doR
 split
 ·exact add_inv h _ _
 ·split
  ·exact lea_inv h _ _
  ·split
   ·exact(end_inv h _ _).up (by omega)
   ·split
    ·exact(failR_inv h _ _).up (by omega)
    ·split
     ·exact(rem_inv h _ _ _).up (by omega)
     ·exact h.up (by omega)
end Go.Proofs
/- A new queue. -/
namespace Go.Proofs
open Go Go.Ab Go.RowKit
set_option maxHeartbeats 4000000
set_option maxRecDepth 100000
variable {G:IH}
abbrev lmD (a b c d:Int):DV:=.agg [di a,di b,di c,di d]
def newB (a b c d:Int):Bool:=inB a 1 1099511627776&&inB b 1 16&&inB c 0 1048576&&inB d 1 64
noncomputable def d10:Oracle:=fun f xs=>match f,xs with
 | 34,[.con (.int .i64 n),.con (.int .i64 a),.con (.int .i64 b)]=>some (db (inB n a b))
 | _,_=>none
def newQ (a b c d:Int):Qm:=⟨a,b,c,d,0,0,0,[],[],[],fun _=>0,fun _=>false⟩
theorem sv_zero:svF (fun _=>0)=fun _=>di 0:=by
 funext v;cases v<;>rfl
abbrev qAt (b:Nat) (q:Qm):List (Nat×List AV):=[(b,[vi q.ll,vi q.lt,vi q.lp,vi q.ls,vi q.tick,vi q.arr,vi q.num,.vec (b+1) 8 0 q.W.length,.vec (b+2) 11 0 q.L.length,.vec (b+3) 5 0 q.D.length,.mapv (b+4)]),(b+1,rowW q.W),(b+2,rowL q.L),(b+3,rowD q.D),(b+4,[.mp none (svF q.sv) q.has])]
theorem new_le (a b c d:Int):AS.leX ⟨[.tup [.box 900 0,vi 0]],[(900,[vi a,vi b,vi c,vi d,vi 0,vi 0,vi 0,.d (.con (.slice none 0 0)),.d (.con (.slice none 0 0)),.d (.con (.slice none 0 0)),.mapv 904]),(904,[.mp none (fun _=>di 0) fun _=>false])]⟩ ⟨[.tup [.box 900 0,vi 0]],qAt 900 (newQ a b c d)⟩:=by
 refine(AS.leX.nilCell _ 900 7 901 8 wK (wtF []) (by kernel_rfl) (by kernel_rfl)).trans ((AS.leX.nilCell _ 900 8 902 11 lK (lsF []) (by kernel_rfl) (by kernel_rfl)).trans ((AS.leX.nilCell _ 900 9 903 5 jK (jbF []) (by kernel_rfl) (by kernel_rfl)).trans (.of_le ?_)))
 refine⟨⟨rfl,trivial⟩,rfl,rfl,rfl,rfl,?_,trivial⟩
 show _=some [AV.mp none (svF fun _=>0) _]
 rw[sv_zero];rfl
theorem f10_ok (a b c d:Int) (h:newB a b c d=true):FnM Tryz.prog G 10 [.d (lmD a b c d)] [] (.tup [.box 900 0,vi 0]) (qAt 900 (newQ a b c d)):=by
 refine FnM.res (new_le a b c d) ?_
 refine FnM.of_body (mv:=[(29,900),(27,904)]) (by kernel_rfl) Tryz.func10 rfl Tryz.call10 ?_
 refine walkK (orc:=d10) (keep:=[]) (cuts:=[3]) (n:=1000) follows ?_
 refine of_tr (fun ZT ZW ZQ ZK=>(fun Za=>((ZK 34 [(di a),(di 1),(di 1099511627776)] (db (inB a 1 1099511627776))∧(((!!inB a 1 1099511627776)=true)→ZK 34 [(di b),(di 1),(di 16)] (db (inB b 1 16)))∧(((!(!inB a 1 1099511627776||!inB b 1 16))=true)→ZK 34 [(di c),(di 0),(di 1048576)] (db (inB c 0 1048576)))∧(((!(!inB a 1 1099511627776||!inB b 1 16||!inB c 0 1048576))=true)→ZK 34 [(di d),(di 1),(di 64)] (db (inB d 1 64))))∧((Za=true)→(((.d (.tup [(.con (.pointer none)),(di 1)])):AV)=(.tup [(.box 900 0),(vi 0)])∧(none:(Option (List AV)))=(some [(vi a),(vi b),(vi c),(vi d),(vi 0),(vi 0),(vi 0),(.d (.con (.slice none 0 0))),(.d (.con (.slice none 0 0))),(.d (.con (.slice none 0 0))),(.mapv 904)])∧(none:(Option (List AV)))=(some [(.mp none (fun x=>di 0) (fun x=>false))])∧True))∧((Za=false)→ZW [cd Tryz.f10 [1,1]] (stS ZT [1]) ZQ))) (!inB a 1 1099511627776||!inB b 1 16||!inB c 0 1048576||!inB d 1 64)) (by kernel_rfl) ?_
 unfold newB at h
 simp only[bAt] at h
 obtain ⟨⟨⟨h1,h2⟩,h3⟩,h4⟩:=h
 refine⟨⟨f34 _ _ _,fun _=>f34 _ _ _,fun _=>f34 _ _ _,fun _=>f34 _ _ _⟩,fun c=>absurd c (by rw[h1,h2,h3,h4];decide),fun _=>?_⟩
 refine walkK (orc:=d10) (keep:=[]) (cuts:=[]) (n:=1000) follows ?_
 refine of_tr (fun _ _ _ _=>(fun Za Zb=>((ZS ((.tup [(.box 900 0),(vi 0)]):AV))∧(Za:(Option (List AV)))=Za∧(Zb:(Option (List AV)))=Zb∧True)) (some [(vi a),(vi b),(vi c),(vi d),(vi 0),(vi 0),(vi 0),(.d (.con (.slice none 0 0))),(.d (.con (.slice none 0 0))),(.d (.con (.slice none 0 0))),(.mapv 904)]) (some [(.mp none (fun x=>di 0) (fun x=>false))])) (by kernel_rfl) ?_
 exact⟨rfl,rfl,rfl,trivial⟩
theorem f10_no (a b c d:Int) (h:newB a b c d=false):FnOK Tryz.prog G 10 [lmD a b c d] (.tup [.con (.pointer none),di 1]):=by
 refine FnOK.walkK (orc:=d10) (keep:=[]) follows Tryz.func10 rfl Tryz.call10 ?_
 refine of_tr (fun _ _ _ ZK=>(fun Za=>((ZK 34 [(di a),(di 1),(di 1099511627776)] (db (inB a 1 1099511627776))∧(((!!inB a 1 1099511627776)=true)→ZK 34 [(di b),(di 1),(di 16)] (db (inB b 1 16)))∧(((!(!inB a 1 1099511627776||!inB b 1 16))=true)→ZK 34 [(di c),(di 0),(di 1048576)] (db (inB c 0 1048576)))∧(((!(!inB a 1 1099511627776||!inB b 1 16||!inB c 0 1048576))=true)→ZK 34 [(di d),(di 1),(di 64)] (db (inB d 1 64))))∧((Za=true)→(ZS ((.tup [(.con (.pointer none)),(di 1)]):DV)))∧((Za=false)→(((.tup [(.ptr [(di a),(di b),(di c),(di d),(di 0),(di 0),(di 0),(.con (.slice none 0 0)),(.con (.slice none 0 0)),(.con (.slice none 0 0)),(.mp none (fun x=>di 0) (fun x=>false))]),(di 0)]):DV)=(.tup [(.con (.pointer none)),(di 1)]))))) (!inB a 1 1099511627776||!inB b 1 16||!inB c 0 1048576||!inB d 1 64)) (by kernel_rfl) ?_
 refine⟨⟨f34 _ _ _,fun _=>f34 _ _ _,fun _=>f34 _ _ _,fun _=>f34 _ _ _⟩,fun _=>rfl,fun e=>?_⟩
 unfold newB at h
 revert h e
 cases inB a 1 1099511627776<;>cases inB b 1 16<;>cases inB c 0 1048576<;>cases inB d 1 64<;>intro h e<;>first|exact absurd h (by decide)|exact absurd e (by decide)
theorem new_inv {a b c d:Int} (h:newB a b c d=true):Inv 0 (newQ a b c d):=by
 unfold newB inB at h
 simp only[bAt,decide_eq_true_eq] at h
 obtain ⟨⟨⟨h1,h2⟩,h3⟩,h4⟩:=h
 exact⟨⟨⟨h1.1,h1.2⟩,⟨h2.1,h2.2⟩,⟨h3.1,h3.2⟩,h4.1,⟨Int.le_refl 0,(by decide:(0:Int)≤1099511627776)⟩,⟨Int.le_refl 0,Int.le_refl 0⟩,⟨Int.le_refl 0,Int.le_refl 0⟩,List.Pairwise.nil,fun w hw=>(by cases hw),fun k=>⟨Int.le_refl 0,Int.le_refl 0⟩,fun k _=>rfl⟩,Nat.le_refl 0,fun l hl=>(by cases hl),List.Pairwise.nil,List.Pairwise.nil⟩
end Go.Proofs
/- Calls that are few. -/
namespace Go.Proofs
open Go Go.Ab Go.RowKit
set_option maxHeartbeats 4000000
set_option maxRecDepth 100000
variable {G:IH}
abbrev sFib:ByteArray:=⟨#[102,105,98]⟩
abbrev sAda:ByteArray:=⟨#[97,100,97]⟩
abbrev sBob:ByteArray:=⟨#[98,111,98]⟩
abbrev sW:ByteArray:=⟨#[119]⟩
theorem f33 (s:ByteArray) (n:Int):FnOK Tryz.prog G 33 [ds s,di n] (jbD ⟨s,sFib,n,1,0⟩):=by
 refine FnOK.walkK (orc:=noO) (keep:=[]) follows Tryz.func33 rfl Tryz.call33 ?_
 refine of_tr (fun _ _ _ _=>(ZS ((jbD (Jb.mk s sFib n 1 0)):DV))) (by kernel_rfl) ?_
 rfl
def smallB (a:Ac):Bool:=decide (a.wk.size≤40)&&decide (a.j.st.size≤40)&&decide (a.j.ex.size≤40)
def fewA (l:List Ac) (m:Int):Bool:=l.all smallB&&decide ((l.length:Int)≤m)
theorem small_of {l:List Ac} {m:Int} (h:fewA l m=true):(∀a∈l,SmallA a)∧(l.length:Int)≤m:=by
 unfold fewA at h
 rw[bAt,List.all_eq_true,decide_eq_true_eq] at h
 refine⟨fun a ha=>?_,h.2⟩
 have:=h.1 a ha
 unfold smallB at this
 simp only[bAt,decide_eq_true_eq] at this
 exact⟨this.1.1,this.1.2,this.2⟩
noncomputable def S9 (l:List Ac) (m:Int) (k:Nat):AS:=⟨regs Tryz.f9.ntmps [(0,.d (acsD l)),(1,vi m),(4,vb false),(5,vi k)],[]⟩
theorem f9 (l:List Ac) (m:Int) (hl:l.length≤9223372036854775807):FnOK Tryz.prog G 9 [acsD l,di m] (db (fewA l m)):=by
 refine FnOK.walkK (orc:=noO) (keep:=[]) follows Tryz.func9 rfl Tryz.call9 ?_
 refine of_tr (fun ZT ZW ZQ _=>ZW [cd Tryz.f9 [1,0,1,0],(.blk 0),cd Tryz.f9 [1,1]] (stS ZT []) ZQ) (by kernel_rfl) ?_
 refine AWP.loop (c:=cAt (bodyOf Tryz.f9) [1,0,1,0,0]) (by kernel_rfl) (S9 l m) (fun k=>k≤l.length∧∀i,i<k→smallB (l.getD i ac0)=true) (fun k=>l.length-k) 0 ?_ ⟨Nat.zero_le _,fun i hi=>absurd hi (Nat.not_lt_zero _)⟩ ?_
 ·exact AS.leA (by kernel_rfl)
 ·rintro k ⟨hk,hs⟩
  by_cases hk2:k<l.length
  ·have e:smallB (l.getD k ac0) = !(decide (((l.getD k ac0).wk.size:Int)>40)||decide (((l.getD k ac0).j.st.size:Int)>40)||decide (((l.getD k ac0).j.ex.size:Int)>40)):=by
    unfold smallB
    rw[Bool.not_or,Bool.not_or,←decide_not,←decide_not,←decide_not]
    congr 1
    ·congr 1<;>exact decide_eq_decide.2 (by omega)
    ·exact decide_eq_decide.2 (by omega)
   refine walkK (orc:=noO) (keep:=[]) (cuts:=[6]) (n:=1000) follows ?_
   refine of_rd (fun ZT ZW ZQ _ ZA _=>(fun Za=>((((decide ((↑k:Int)<↑l.length))=true)→((((0≤(↑k:Int))∧((↑k:Int)<↑l.length))∧(((!decide ((↑(l.getD (↑k:Int).toNat ac0).wk.size:Int)>40))=true)→((0≤(↑k:Int))∧((↑k:Int)<↑l.length)))∧(((!(decide ((↑(l.getD (↑k:Int).toNat ac0).wk.size:Int)>40)||decide ((↑(l.getD (↑k:Int).toNat ac0).j.st.size:Int)>40)))=true)→((0≤(↑k:Int))∧((↑k:Int)<↑l.length))))∧((Za=true)→(((db false):DV)=(db (fewA l m))))∧((Za=false)→((I64 (↑k+1))∧(ZA (stS ZT [0,1]))))))∧(((decide ((↑k:Int)<↑l.length))=false)→ZW [cd Tryz.f9 [1,1]] (stS ZT [1]) ZQ))) (decide ((↑(l.getD (↑k:Int).toNat ac0).wk.size:Int)>40)||decide ((↑(l.getD (↑k:Int).toNat ac0).j.st.size:Int)>40)||decide ((↑(l.getD (↑k:Int).toNat ac0).j.ex.size:Int)>40))) (by kernel_rfl) ?_
   dsimp only
   rw[show ((k:Int)).toNat=k from rfl]
   refine⟨fun _=>⟨⟨⟨by omega,by omega⟩,fun _=>⟨by omega,by omega⟩,fun _=>⟨by omega,by omega⟩⟩,fun c=>?_,fun c=>⟨⟨by omega,by omega⟩,?_⟩⟩,fun hd=>absurd (of_decide_eq_false hd) (by omega)⟩
   ·have h1:smallB (l.getD k ac0)=false:=by rw[e,c];rfl
    have:fewA l m=false:=by
     unfold fewA
     rw[List.all_eq_false.2 ⟨l.getD k ac0,getD_mem hk2,by rw[h1];decide⟩];rfl
    rw[this]
   ·have h1:smallB (l.getD k ac0)=true:=by rw[e,c];rfl
    refine Again.mk (k+1) ?_ ⟨hk2,fun i hi=>?_⟩ (by show l.length-(k+1)<l.length-k;omega)
    ·exact AS.leA (by kernel_rfl)
    ·by_cases h:i=k
     ·subst h;exact h1
     ·exact hs i (by omega)
  ·obtain rfl:k=l.length:=by omega
   refine walkK (orc:=noO) (keep:=[]) (cuts:=[4,6]) (n:=1000) follows ?_
   refine of_rd (fun ZT ZW ZQ _ _ ZR=>((((decide ((↑l.length:Int)<↑l.length))=true)→ZW [cd Tryz.f9 [1,0,1,0,0,1,0,0],(.blk 1),cd Tryz.f9 [1,0,1,0,0,1,1]] (stS ZT [0]) ZR)∧(((decide ((↑l.length:Int)<↑l.length))=false)→ZW [cd Tryz.f9 [1,1]] (stS ZT [1]) ZQ))) (by kernel_rfl) ?_
   refine⟨fun hd=>absurd (of_decide_eq_true hd) (by omega),fun _=>?_⟩
   refine walkK (orc:=noO) (keep:=[]) (cuts:=[]) (n:=1000) follows ?_
   refine of_tr (fun _ _ _ _=>(((db (decide (↑l.length≤m))):DV)=(db (fewA l m)))) (by kernel_rfl) ?_
   have:l.all smallB=true:=List.all_eq_true.2 fun a ha=>by
    obtain ⟨i,hi,rfl⟩:=List.getElem_of_mem ha
    have:=hs i hi
    rwa [List.getD,gEe hi] at this
   unfold fewA
   rw[this,Bool.true_and]
end Go.Proofs
/- The example of the chapter. -/
namespace Go.Proofs
open Go Go.Ab Go.RowKit
set_option maxHeartbeats 4000000
set_option maxRecDepth 100000
variable {G:IH}
abbrev jA1:Jb:=⟨sAda,sFib,1,1,0⟩
abbrev jA2:Jb:=⟨sAda,sFib,2,1,0⟩
abbrev jB1:Jb:=⟨sBob,sFib,1,1,0⟩
noncomputable def d8:Oracle:=fun f xs=>match f,xs with
 | 33,[.con (.string s),.con (.int _ n)]=>some (jbD ⟨s,sFib,n,1,0⟩)
 | _,_=>none
def w8 (xs:List AV):Nat:=match xs with
 | [_,.d (.agg [.con (.string s),_,.con (.int _ n),_,_]),_]=>if s.get! 0=97 then n.toNat else 3
 | _=>0
noncomputable def m8 (A1 A2 A3:Qm) (q:Qm):FuncId→List AV→List (Nat×List AV)→Option (AV×List (Nat×List AV)):=fun f xs _=>match f,w8 xs with
 | 10,_=>some (.tup [.box 900 0,vi 0],qAt 900 q)
 | 32,1=>some (.d (di 0),qG A1)
 | 32,2=>some (.d (di 0),qG A2)
 | 32,3=>some (.d (di 0),qG A3)
 | _,_=>none
noncomputable def orc8 (A1 A2 A3 q:Qm):Orc:={ d:=d8,m:=m8 A1 A2 A3 q }
noncomputable def m8b (l:Ls) (j:Jb) (e:Int) (q:Qm):FuncId→List AV→List (Nat×List AV)→Option (AV×List (Nat×List AV)):=fun f _ _=>match f with
 | 20=>some (.d (.tup [lsD l,di e]),qG q)
 | 22=>some (.d (.tup [jbD j,di e]),qG q)
 | 13=>some (.d (wtsD q.W),qP q)
 | _=>none
noncomputable def orc8b (l:Ls) (j:Jb) (e:Int) (q:Qm):Orc:={ d:=d8,m:=m8b l j e q,ro:=fun f=>Nat.beq f 13 }
noncomputable def S8 (q:Qm) (w l d:Nat) (R:List (Nat×AV)) (B:List (Nat×List AV)):AS:=⟨regs Tryz.f8.ntmps ((1,.box 13900 0) :: R),[(13900,[vi q.ll,vi q.lt,vi q.lp,vi q.ls,vi q.tick,vi q.arr,vi q.num,.vec w 8 0 q.W.length,.vec l 11 0 q.L.length,.vec d 5 0 q.D.length,.mapv 13904]),(w,rowW q.W),(l,rowL q.L),(d,rowD q.D),(13904,[.mp none (svF q.sv) q.has])]++B⟩
theorem f8w (A0 A1 A2 A3 B1 B2 B3 C:Qm) (n1 u1 n2 u2 n3 u3 t1 a1 f1 t2 a2 f2 t3 a3 f3:Int) (k1 k2 k3:ByteArray) (j:Jb) (hC:C.W.length=3) (h0:FnM Tryz.prog G 10 [.d (lmD 10 3 0 4)] [] (.tup [.box 900 0,vi 0]) (qAt 900 A0))
  (h1:FnM Tryz.prog G 32 [.box 1000000 0,.d (jbD jA1),.d (di 0)] (qP A0) (.d (di 0)) (qG A1)) (h2:FnM Tryz.prog G 32 [.box 1000000 0,.d (jbD jA2),.d (di 0)] (qP A1) (.d (di 0)) (qG A2)) (h3:FnM Tryz.prog G 32 [.box 1000000 0,.d (jbD jB1),.d (di 0)] (qP A2) (.d (di 0)) (qG A3))
  (g1:FnM Tryz.prog G 20 [.box 1000000 0,.d (ds sW),.d (di 5)] (qP A3) (.d (.tup [lsD ⟨n1,u1,k1,⟨jA1,t1,a1,f1⟩⟩,di 0])) (qG B1)) (g2:FnM Tryz.prog G 20 [.box 1000000 0,.d (ds sW),.d (di 5)] (qP B1) (.d (.tup [lsD ⟨n2,u2,k2,⟨jB1,t2,a2,f2⟩⟩,di 0])) (qG B2)) (g3:FnM Tryz.prog G 20 [.box 1000000 0,.d (ds sW),.d (di 5)] (qP B2) (.d (.tup [lsD ⟨n3,u3,k3,⟨jA2,t3,a3,f3⟩⟩,di 0])) (qG B3))
  (hf:FnM Tryz.prog G 22 [.box 1000000 0,.d (di 1),.d (di 15)] (qP B3) (.d (.tup [jbD j,di 7])) (qG C)) (hw:FnM Tryz.prog G 13 [.box 1000000 0] (qP C) (.d (wtsD C.W)) (qP C)):FnOK Tryz.prog G 8 [] (db true):=by
 refine FnOK.of_body Tryz.func8 rfl Tryz.call8 ?_
 refine walkK (orc:=orc8 A1 A2 A3 A0) (keep:=[]) (cuts:=[4]) (n:=1000) follows ?_
 refine of_tr (fun ZT ZW ZQ ZK=>(fun Za Zb=>(FnM Tryz.prog G 10 [(.d (.agg [(di 10),(di 3),(di 0),(di 4)]))] [] (.tup [(.box 900 0),(vi 0)]) [(900,[(vi A0.ll),(vi A0.lt),(vi A0.lp),(vi A0.ls),(vi A0.tick),(vi A0.arr),(vi A0.num),(.vec 901 8 0 A0.W.length),(.vec 902 11 0 A0.L.length),(.vec 903 5 0 A0.D.length),(.mapv 904)]),(901,[(.arr ⟨true,39,false,none⟩ 8 (wtF A0.W))]),(902,[(.arr ⟨true,41,false,none⟩ 11 (lsF A0.L))]),(903,[(.arr ⟨true,35,false,none⟩ 5 (jbF A0.D))]),(904,[(.mp none (svF A0.sv) A0.has)])]∧(((true=true)→ZK 33 [Za,(di 1)] (.agg [Za,(ds sFib),(di 1),(di 1),(di 0)]))∧FnM Tryz.prog G 32 [(.box 1000000 0),(.d (.agg [Za,(ds sFib),(di 1),(di 1),(di 0)])),(vi 0)] [(1000000,[(vi A0.ll),(vi A0.lt),(vi A0.lp),(vi A0.ls),(vi A0.tick),(vi A0.arr),(vi A0.num),(.vec 1000001 8 0 A0.W.length),(.vec 1000002 11 0 A0.L.length),(.vec 1000003 5 0 A0.D.length),(.mapv 1000004)]),(1000001,[(.arr ⟨true,39,false,none⟩ 8 (wtF A0.W))]),(1000002,[(.arr ⟨true,41,false,none⟩ 11 (lsF A0.L))]),(1000003,[(.arr ⟨true,35,false,none⟩ 5 (jbF A0.D))]),(1000004,[(.mp none (svF A0.sv) A0.has)])] (vi 0) [(1000000,[(vi A1.ll),(vi A1.lt),(vi A1.lp),(vi A1.ls),(vi A1.tick),(vi A1.arr),(vi A1.num),(.vec 901 8 0 A1.W.length),(.vec 902 11 0 A1.L.length),(.vec 903 5 0 A1.D.length),(.mapv 1000004)]),(901,[(.arr ⟨true,39,false,none⟩ 8 (wtF A1.W))]),(902,[(.arr ⟨true,41,false,none⟩ 11 (lsF A1.L))]),(903,[(.arr ⟨true,35,false,none⟩ 5 (jbF A1.D))]),(1000004,[(.mp none (svF A1.sv) A1.has)])]∧((true=true)→ZK 33 [Za,(di 2)] (.agg [Za,(ds sFib),(di 2),(di 1),(di 0)]))∧FnM Tryz.prog G 32 [(.box 1000000 0),(.d (.agg [Za,(ds sFib),(di 2),(di 1),(di 0)])),(vi 0)] [(1000000,[(vi A1.ll),(vi A1.lt),(vi A1.lp),(vi A1.ls),(vi A1.tick),(vi A1.arr),(vi A1.num),(.vec 1000001 8 0 A1.W.length),(.vec 1000002 11 0 A1.L.length),(.vec 1000003 5 0 A1.D.length),(.mapv 1000004)]),(1000001,[(.arr ⟨true,39,false,none⟩ 8 (wtF A1.W))]),(1000002,[(.arr ⟨true,41,false,none⟩ 11 (lsF A1.L))]),(1000003,[(.arr ⟨true,35,false,none⟩ 5 (jbF A1.D))]),(1000004,[(.mp none (svF A1.sv) A1.has)])] (vi 0) [(1000000,[(vi A2.ll),(vi A2.lt),(vi A2.lp),(vi A2.ls),(vi A2.tick),(vi A2.arr),(vi A2.num),(.vec 901 8 0 A2.W.length),(.vec 902 11 0 A2.L.length),(.vec 903 5 0 A2.D.length),(.mapv 1000004)]),(901,[(.arr ⟨true,39,false,none⟩ 8 (wtF A2.W))]),(902,[(.arr ⟨true,41,false,none⟩ 11 (lsF A2.L))]),(903,[(.arr ⟨true,35,false,none⟩ 5 (jbF A2.D))]),(1000004,[(.mp none (svF A2.sv) A2.has)])]∧((true=true)→ZK 33 [(ds (ByteArray.mk #[98,111,98])),(di 1)] Zb)∧FnM Tryz.prog G 32 [(.box 1000000 0),(.d Zb),(vi 0)] [(1000000,[(vi A2.ll),(vi A2.lt),(vi A2.lp),(vi A2.ls),(vi A2.tick),(vi A2.arr),(vi A2.num),(.vec 1000001 8 0 A2.W.length),(.vec 1000002 11 0 A2.L.length),(.vec 1000003 5 0 A2.D.length),(.mapv 1000004)]),(1000001,[(.arr ⟨true,39,false,none⟩ 8 (wtF A2.W))]),(1000002,[(.arr ⟨true,41,false,none⟩ 11 (lsF A2.L))]),(1000003,[(.arr ⟨true,35,false,none⟩ 5 (jbF A2.D))]),(1000004,[(.mp none (svF A2.sv) A2.has)])] (vi 0) [(1000000,[(vi A3.ll),(vi A3.lt),(vi A3.lp),(vi A3.ls),(vi A3.tick),(vi A3.arr),(vi A3.num),(.vec 901 8 0 A3.W.length),(.vec 902 11 0 A3.L.length),(.vec 903 5 0 A3.D.length),(.mapv 1000004)]),(901,[(.arr ⟨true,39,false,none⟩ 8 (wtF A3.W))]),(902,[(.arr ⟨true,41,false,none⟩ 11 (lsF A3.L))]),(903,[(.arr ⟨true,35,false,none⟩ 5 (jbF A3.D))]),(1000004,[(.mp none (svF A3.sv) A3.has)])])∧((false=true)→(((db false):DV)=(db true)))∧((false=false)→ZW [cd Tryz.f8 [1,1,1]] (stS ZT [1]) ZQ))) (ds (ByteArray.mk #[97,100,97])) ((.agg [(ds (ByteArray.mk #[98,111,98])),(ds sFib),(di 1),(di 1),(di 0)]):DV)) (by kernel_rfl) ?_
 refine⟨h0,⟨fun _=>f33 _ _,h1,fun _=>f33 _ _,h2,fun _=>f33 _ _,h3⟩,fun c=>(by cases c),fun _=>?_⟩
 refine AWP.weaken (st':=S8 A3 37901 37902 37903 [(2,vi 0)] []) ?_ ?_
 ·exact AS.leA (by kernel_rfl)
 refine walkK (orc:=orc8b ⟨n1,u1,k1,⟨jA1,t1,a1,f1⟩⟩ j 0 B1) (keep:=[]) (cuts:=[5]) (n:=1000) follows ?_
 refine of_tr (fun ZT ZW ZQ _=>(FnM Tryz.prog G 20 [(.box 1000000 0),(vs (ByteArray.mk #[119])),(vi 5)] [(1000000,[(vi A3.ll),(vi A3.lt),(vi A3.lp),(vi A3.ls),(vi A3.tick),(vi A3.arr),(vi A3.num),(.vec 1000001 8 0 A3.W.length),(.vec 1000002 11 0 A3.L.length),(.vec 1000003 5 0 A3.D.length),(.mapv 1000004)]),(1000001,[(.arr ⟨true,39,false,none⟩ 8 (wtF A3.W))]),(1000002,[(.arr ⟨true,41,false,none⟩ 11 (lsF A3.L))]),(1000003,[(.arr ⟨true,35,false,none⟩ 5 (jbF A3.D))]),(1000004,[(.mp none (svF A3.sv) A3.has)])] (.d (.tup [(.agg [(di n1),(di u1),(ds k1),(ds sAda),(ds sFib),(di 1),(di 1),(di 0),(di t1),(di a1),(di f1)]),(di 0)])) [(1000000,[(vi B1.ll),(vi B1.lt),(vi B1.lp),(vi B1.ls),(vi B1.tick),(vi B1.arr),(vi B1.num),(.vec 901 8 0 B1.W.length),(.vec 902 11 0 B1.L.length),(.vec 903 5 0 B1.D.length),(.mapv 1000004)]),(901,[(.arr ⟨true,39,false,none⟩ 8 (wtF B1.W))]),(902,[(.arr ⟨true,41,false,none⟩ 11 (lsF B1.L))]),(903,[(.arr ⟨true,35,false,none⟩ 5 (jbF B1.D))]),(1000004,[(.mp none (svF B1.sv) B1.has)])]∧ZW [cd Tryz.f8 [1,1,1,1]] (stS ZT []) ZQ)) (by kernel_rfl) ?_
 refine⟨g1,?_⟩
 refine AWP.weaken (st':=S8 B1 42901 42902 42903 [(2,vi 0),(3,.box 3 0)] [(3,(lsL ⟨n1,u1,k1,⟨jA1,t1,a1,f1⟩⟩).map .d)]) ?_ ?_
 ·exact AS.leA (by kernel_rfl)
 refine walkK (orc:=orc8b ⟨n2,u2,k2,⟨jB1,t2,a2,f2⟩⟩ j 0 B2) (keep:=[]) (cuts:=[6]) (n:=1000) follows ?_
 refine of_tr (fun ZT ZW ZQ _=>(FnM Tryz.prog G 20 [(.box 1000000 0),(vs (ByteArray.mk #[119])),(vi 5)] [(1000000,[(vi B1.ll),(vi B1.lt),(vi B1.lp),(vi B1.ls),(vi B1.tick),(vi B1.arr),(vi B1.num),(.vec 1000001 8 0 B1.W.length),(.vec 1000002 11 0 B1.L.length),(.vec 1000003 5 0 B1.D.length),(.mapv 1000004)]),(1000001,[(.arr ⟨true,39,false,none⟩ 8 (wtF B1.W))]),(1000002,[(.arr ⟨true,41,false,none⟩ 11 (lsF B1.L))]),(1000003,[(.arr ⟨true,35,false,none⟩ 5 (jbF B1.D))]),(1000004,[(.mp none (svF B1.sv) B1.has)])] (.d (.tup [(.agg [(di n2),(di u2),(ds k2),(ds sBob),(ds sFib),(di 1),(di 1),(di 0),(di t2),(di a2),(di f2)]),(di 0)])) [(1000000,[(vi B2.ll),(vi B2.lt),(vi B2.lp),(vi B2.ls),(vi B2.tick),(vi B2.arr),(vi B2.num),(.vec 901 8 0 B2.W.length),(.vec 902 11 0 B2.L.length),(.vec 903 5 0 B2.D.length),(.mapv 1000004)]),(901,[(.arr ⟨true,39,false,none⟩ 8 (wtF B2.W))]),(902,[(.arr ⟨true,41,false,none⟩ 11 (lsF B2.L))]),(903,[(.arr ⟨true,35,false,none⟩ 5 (jbF B2.D))]),(1000004,[(.mp none (svF B2.sv) B2.has)])]∧ZW [cd Tryz.f8 [1,1,1,1,1]] (stS ZT []) ZQ)) (by kernel_rfl) ?_
 refine⟨g2,?_⟩
 refine AWP.weaken (st':=S8 B2 47901 47902 47903 [(2,vi 0),(3,.box 3 0),(4,.box 4 0),(5,vi 0)] [(3,(lsL ⟨n1,u1,k1,⟨jA1,t1,a1,f1⟩⟩).map .d),(4,(lsL ⟨n2,u2,k2,⟨jB1,t2,a2,f2⟩⟩).map .d)]) ?_ ?_
 ·exact AS.leA (by kernel_rfl)
 refine walkK (orc:=orc8b ⟨n3,u3,k3,⟨jA2,t3,a3,f3⟩⟩ j 0 B3) (keep:=[]) (cuts:=[7]) (n:=1000) follows ?_
 refine of_tr (fun ZT ZW ZQ _=>(FnM Tryz.prog G 20 [(.box 1000000 0),(vs (ByteArray.mk #[119])),(vi 5)] [(1000000,[(vi B2.ll),(vi B2.lt),(vi B2.lp),(vi B2.ls),(vi B2.tick),(vi B2.arr),(vi B2.num),(.vec 1000001 8 0 B2.W.length),(.vec 1000002 11 0 B2.L.length),(.vec 1000003 5 0 B2.D.length),(.mapv 1000004)]),(1000001,[(.arr ⟨true,39,false,none⟩ 8 (wtF B2.W))]),(1000002,[(.arr ⟨true,41,false,none⟩ 11 (lsF B2.L))]),(1000003,[(.arr ⟨true,35,false,none⟩ 5 (jbF B2.D))]),(1000004,[(.mp none (svF B2.sv) B2.has)])] (.d (.tup [(.agg [(di n3),(di u3),(ds k3),(ds sAda),(ds sFib),(di 2),(di 1),(di 0),(di t3),(di a3),(di f3)]),(di 0)])) [(1000000,[(vi B3.ll),(vi B3.lt),(vi B3.lp),(vi B3.ls),(vi B3.tick),(vi B3.arr),(vi B3.num),(.vec 901 8 0 B3.W.length),(.vec 902 11 0 B3.L.length),(.vec 903 5 0 B3.D.length),(.mapv 1000004)]),(901,[(.arr ⟨true,39,false,none⟩ 8 (wtF B3.W))]),(902,[(.arr ⟨true,41,false,none⟩ 11 (lsF B3.L))]),(903,[(.arr ⟨true,35,false,none⟩ 5 (jbF B3.D))]),(1000004,[(.mp none (svF B3.sv) B3.has)])]∧ZW [cd Tryz.f8 [1,1,1,1,1,1]] (stS ZT []) ZQ)) (by kernel_rfl) ?_
 refine⟨g3,?_⟩
 refine AWP.weaken (st':=S8 B3 52901 52902 52903 [(2,vi 0),(3,.box 3 0),(4,.box 4 0),(5,vi 0),(6,.box 6 0),(7,vi 0)] [(3,(lsL ⟨n1,u1,k1,⟨jA1,t1,a1,f1⟩⟩).map .d),(4,(lsL ⟨n2,u2,k2,⟨jB1,t2,a2,f2⟩⟩).map .d),(6,(lsL ⟨n3,u3,k3,⟨jA2,t3,a3,f3⟩⟩).map .d)]) ?_ ?_
 ·exact AS.leA (by kernel_rfl)
 refine walkK (orc:=orc8b ls0 j 7 C) (keep:=[]) (cuts:=[8]) (n:=1000) follows ?_
 refine of_tr (fun ZT ZW ZQ _=>(FnM Tryz.prog G 22 [(.box 1000000 0),(vi 1),(vi 15)] [(1000000,[(vi B3.ll),(vi B3.lt),(vi B3.lp),(vi B3.ls),(vi B3.tick),(vi B3.arr),(vi B3.num),(.vec 1000001 8 0 B3.W.length),(.vec 1000002 11 0 B3.L.length),(.vec 1000003 5 0 B3.D.length),(.mapv 1000004)]),(1000001,[(.arr ⟨true,39,false,none⟩ 8 (wtF B3.W))]),(1000002,[(.arr ⟨true,41,false,none⟩ 11 (lsF B3.L))]),(1000003,[(.arr ⟨true,35,false,none⟩ 5 (jbF B3.D))]),(1000004,[(.mp none (svF B3.sv) B3.has)])] (.d (.tup [(.agg [(ds j.st),(ds j.ex),(di j.no),(di j.ve),(di j.pr)]),(di 7)])) [(1000000,[(vi C.ll),(vi C.lt),(vi C.lp),(vi C.ls),(vi C.tick),(vi C.arr),(vi C.num),(.vec 901 8 0 C.W.length),(.vec 902 11 0 C.L.length),(.vec 903 5 0 C.D.length),(.mapv 1000004)]),(901,[(.arr ⟨true,39,false,none⟩ 8 (wtF C.W))]),(902,[(.arr ⟨true,41,false,none⟩ 11 (lsF C.L))]),(903,[(.arr ⟨true,35,false,none⟩ 5 (jbF C.D))]),(1000004,[(.mp none (svF C.sv) C.has)])]∧ZW [cd Tryz.f8 [1,1,1,1,1,1,1]] (stS ZT []) ZQ)) (by kernel_rfl) ?_
 refine⟨hf,?_⟩
 refine AWP.weaken (st':=S8 C 57901 57902 57903 [(2,vi 0),(3,.box 3 0),(4,.box 4 0),(5,vi 0),(6,.box 6 0),(7,vi 0),(9,vi 7)] [(3,(lsL ⟨n1,u1,k1,⟨jA1,t1,a1,f1⟩⟩).map .d),(4,(lsL ⟨n2,u2,k2,⟨jB1,t2,a2,f2⟩⟩).map .d),(6,(lsL ⟨n3,u3,k3,⟨jA2,t3,a3,f3⟩⟩).map .d)]) ?_ ?_
 ·exact AS.leA (by kernel_rfl)
 refine walkK (orc:=orc8b ls0 j 7 C) (keep:=[]) (cuts:=[]) (n:=1000) follows ?_
 refine of_tr (fun _ _ _ ZK=>(fun Za Zb Zc Zd=>((((true=true)→ZK 33 [Zd,(di 1)] (.agg [Zd,(ds sFib),(di 1),(di 1),(di 0)]))∧((true=true)→ZK 33 [(ds (ByteArray.mk #[98,111,98])),(di 1)] (.agg [(ds (ByteArray.mk #[98,111,98])),(ds sFib),(di 1),(di 1),(di 0)]))∧((true=true)→ZK 33 [Zd,(di 2)] (.agg [Zd,(ds sFib),(di 2),(di 1),(di 0)]))∧((true=true)→FnM Tryz.prog G 13 [(.box 1000000 0)] [(1000000,[(vi C.ll),(vi C.lt),(vi C.lp),(vi C.ls),(vi C.tick),(vi C.arr),(vi C.num),(.vec 1000001 8 0 C.W.length),(.vec 1000002 11 0 C.L.length),(.vec 1000003 5 0 C.D.length),(.mapv 1000004)]),(1000001,[Zb]),(1000002,[Za]),(1000003,[Zc]),(1000004,[(.mp none (svF C.sv) C.has)])] (.d (.slc 8 C.W.length (wtF C.W))) [(1000000,[(vi C.ll),(vi C.lt),(vi C.lp),(vi C.ls),(vi C.tick),(vi C.arr),(vi C.num),(.vec 1000001 8 0 C.W.length),(.vec 1000002 11 0 C.L.length),(.vec 1000003 5 0 C.D.length),(.mapv 1000004)]),(1000001,[Zb]),(1000002,[Za]),(1000003,[Zc]),(1000004,[(.mp none (svF C.sv) C.has)])])∧((true=true)→(([(vi C.ll),(vi C.lt),(vi C.lp),(vi C.ls),(vi C.tick),(vi C.arr),(vi C.num),(.vec 57901 8 0 C.W.length),(.vec 57902 11 0 C.L.length),(.vec 57903 5 0 C.D.length),(.mapv 13904)]:(List AV))=[(vi C.ll),(vi C.lt),(vi C.lp),(vi C.ls),(vi C.tick),(vi C.arr),(vi C.num),(.vec 57901 8 0 C.W.length),(.vec 57902 11 0 C.L.length),(.vec 57903 5 0 C.D.length),(.mapv 13904)]))∧((true=true)→(([Zb]:(List AV))=[Zb]))∧((true=true)→(([Za]:(List AV))=[Za]))∧((true=true)→(([Zc]:(List AV))=[Zc]))∧((true=true)→(([(.mp none (svF C.sv) C.has)]:(List AV))=[(.mp none (svF C.sv) C.has)])))∧((db ((0:Int)==(0:Int)&&(0:Int)==(0:Int)&&(0:Int)==(0:Int)&&true&&true&&true&&(7:Int)==(7:Int)&&(↑(List.length (Qm.W C)):Int)==(3:Int))):DV)=(db true))) ((.arr ⟨true,41,false,none⟩ 11 (lsF C.L)):AV) ((.arr ⟨true,39,false,none⟩ 8 (wtF C.W)):AV) ((.arr ⟨true,35,false,none⟩ 5 (jbF C.D)):AV) (ds (ByteArray.mk #[97,100,97]))) (by kernel_rfl) ?_
 exact⟨⟨fun _=>f33 _ _,fun _=>f33 _ _,fun _=>f33 _ _,fun _=>hw,fun _=>rfl,fun _=>rfl,fun _=>rfl,fun _=>rfl,fun _=>rfl⟩,by rw[hC];rfl⟩
def x0:Qm:=newQ 10 3 0 4
def x1:Qm:=(addR x0 jA1 0).2
def x2:Qm:=(addR x1 jA2 0).2
def x3:Qm:=(addR x2 jB1 0).2
def x4:Qm:=(leaR x3 sW 5).2.2
def x5:Qm:=(leaR x4 sW 5).2.2
def x6:Qm:=(leaR x5 sW 5).2.2
def x7:Qm:=(endR x6 1 15).2.2
theorem x1_e:(addR x0 jA1 0).1=0:=by kernel_rfl
theorem x2_e:(addR x1 jA2 0).1=0:=by kernel_rfl
theorem x3_e:(addR x2 jB1 0).1=0:=by kernel_rfl
theorem x4_e:leaR x3 sW 5=(⟨1,15,sW,⟨jA1,0,1,0⟩⟩,0,x4):=by kernel_rfl
theorem x5_e:leaR x4 sW 5=(⟨2,15,sW,⟨jB1,0,3,0⟩⟩,0,x5):=by kernel_rfl
theorem x6_e:leaR x5 sW 5=(⟨3,15,sW,⟨jA2,0,2,0⟩⟩,0,x6):=by kernel_rfl
theorem x7_e:(endR x6 1 15).2.1=7:=by kernel_rfl
theorem x7_w:x7.W.length=3:=by kernel_rfl
theorem x0_inv:Inv 0 x0:=new_inv (by kernel_rfl)
theorem x1_inv:Inv 1 x1:=add_inv x0_inv _ _
theorem x2_inv:Inv 2 x2:=add_inv x1_inv _ _
theorem x3_inv:Inv 3 x3:=add_inv x2_inv _ _
theorem x4_inv:Inv 4 x4:=lea_inv x3_inv _ _
theorem x5_inv:Inv 5 x5:=lea_inv x4_inv _ _
theorem x6_inv:Inv 6 x6:=lea_inv x5_inv _ _
theorem f8:FnOK Tryz.prog G 8 [] (db true):=by
 have h1:=f32T (G:=G) x0_inv (by decide) jA1 0 (by decide) (by decide)
 have h2:=f32T (G:=G) x1_inv (by decide) jA2 0 (by decide) (by decide)
 have h3:=f32T (G:=G) x2_inv (by decide) jB1 0 (by decide) (by decide)
 have g1:=f20T (G:=G) x3_inv (by decide) sW 5 (by decide)
 have g2:=f20T (G:=G) x4_inv (by decide) sW 5 (by decide)
 have g3:=f20T (G:=G) x5_inv (by decide) sW 5 (by decide)
 have hf:=f22T (G:=G) x6_inv (by decide) 1 15
 have hw:=f13 (G:=G) x7 (Nat.le_trans (Nat.le_of_eq x7_w) (by decide))
 rw[x1_e] at h1
 rw[x2_e] at h2
 rw[x3_e] at h3
 rw[x4_e] at g1
 rw[x5_e] at g2
 rw[x6_e] at g3
 rw[x7_e] at hf
 exact f8w x0 x1 x2 x3 x4 x5 x6 x7 _ _ _ _ _ _ _ _ _ _ _ _ _ _ _ _ _ _ _ x7_w (f10_ok 10 3 0 4 (by kernel_rfl)) h1 h2 h3 g1 g2 g3 hf hw
end Go.Proofs
/- All jobs. -/
namespace Go.Proofs
open Go Go.Ab Go.RowKit
set_option maxHeartbeats 4000000
set_option maxRecDepth 100000
variable {G:IH}
noncomputable def m18 (q:Qm):FuncId→List AV→List (Nat×List AV)→Option (AV×List (Nat×List AV)):=fun f _ _=>match f with
 | 13=>some (.d (wtsD q.W),qP q)
 | 12=>some (.d (lssD q.L),qP q)
 | 24=>some (.d (jbsD q.D),qP q)
 | _=>none
noncomputable def orc18 (q:Qm):Orc:={ d:=noO,m:=m18 q,rows:=fun n=>Nat.beq n 18||Nat.beq n 32 }
noncomputable def S18 (q:Qm) (k:Nat) (f:Nat→DV) (n:Nat):AS:=⟨regs Tryz.f18.ntmps [(0,.box 1000000 0),(3,.vec 903 5 0 n),(9,.d (wtsD q.W)),(10,vi q.W.length),(11,vi k)],(903,[.arr jK 5 f]) :: qP q⟩
noncomputable def S18b (q:Qm) (k:Nat) (f:Nat→DV) (n:Nat):AS:=⟨regs Tryz.f18.ntmps [(0,.box 1000000 0),(3,.vec 903 5 0 n),(22,.d (lssD q.L)),(23,vi q.L.length),(24,vi k)],(903,[.arr jK 5 f]) :: qP q⟩
noncomputable def S18a (q:Qm):AS:=⟨regs Tryz.f18.ntmps [(0,.box 1000000 0),(3,.d (.con (.slice none 0 0))),(9,.d (wtsD q.W)),(10,vi q.W.length),(11,vi 0)],qP q⟩
def jW (q:Qm) (k:Nat):List Jb:=(q.W.take k).map (·.j)
def jL (q:Qm) (k:Nat):List Jb:=q.W.map (·.j)++(q.L.take k).map (·.w.j)
theorem jW_next {q:Qm} {k:Nat} (h:k<q.W.length):jW q (k+1)=jW q k++[(q.W.getD k wt0).j]:=by
 unfold jW
 rw[List.take_succ_eq_append_getElem h,List.getD,gEe h,List.map_append];rfl
theorem jL_next {q:Qm} {k:Nat} (h:k<q.L.length):jL q (k+1)=jL q k++[(q.L.getD k ls0).w.j]:=by
 unfold jL
 rw[List.take_succ_eq_append_getElem h,List.getD,gEe h,List.map_append,←List.append_assoc];rfl
theorem jW_len {q:Qm} {k:Nat} (h:k≤q.W.length):(jW q k).length=k:=by unfold jW;rw[List.length_map,List.length_take];omega
theorem jL_len {q:Qm} {k:Nat} (h:k≤q.L.length):(jL q k).length=q.W.length+k:=by unfold jL;rw[List.length_append,List.length_map,List.length_map,List.length_take];omega
theorem jL_0 {q:Qm}:jL q 0=jW q q.W.length:=by unfold jL jW;rw[List.take_zero,List.take_length,List.map_nil,List.append_nil]
theorem jL_all {q:Qm} {i:Nat} (h:i<(jL q q.L.length).length+q.D.length):(bif i.blt (jL q q.L.length).length then jbF (jL q q.L.length) i else jbF q.D (i-(jL q q.L.length).length))=jbF (jobsQ q) i:=by
 have e:jobsQ q=jL q q.L.length++q.D:=by unfold jobsQ jL;rw[List.take_length]
 rw[e]
 unfold jbF
 rw[List.getD,List.getD,List.getD]
 by_cases h1:i<(jL q q.L.length).length
 ·rw[show i.blt (jL q q.L.length).length=true from by rw[Nat.blt_eq];exact h1,List.getElem?_append_left h1];rfl
 ·rw[show i.blt (jL q q.L.length).length=false from by rw[Bool.eq_false_iff,ne_eq,Nat.blt_eq];exact h1,List.getElem?_append_right (by omega)];rfl
theorem f18 (q:Qm) (h1:q.W.length≤100000) (h2:q.L.length≤100000) (h3:q.D.length≤100000):FnM Tryz.prog G 18 [.box 1000000 0] (qP q) (.d (jbsD (jobsQ q))) (qP q):=by
 refine FnM.resD (fun h v hv=>?_) (FnM.freeze (s:=900) (agg:=jK) (sz:=5) (g:=fun i=>bif i.blt (jL q q.L.length).length then jbF (jL q q.L.length) i else jbF q.D (i-(jL q q.L.length).length)) rfl (r:=.vec 900 5 0 ((jL q q.L.length).length+q.D.length)) (post:=(900,[.arr jK 5 fun i=>bif i.blt (jL q q.L.length).length then jbF (jL q q.L.length) i else jbF q.D (i-(jL q q.L.length).length)]) :: qP q) ?_)
 ·have e:(jobsQ q).length=(jL q q.L.length).length+q.D.length:=by unfold jobsQ jL;rw[List.take_length,List.length_append]
  show DV.rel h (.slc 5 (jobsQ q).length (jbF (jobsQ q))) v
  rw[e]
  refine DV.rel_slc_congr (fun i hi=>?_) hv
  show (bif (0+i).blt _ then _ else _)=_
  rw[Nat.zero_add]
  exact jL_all hi
 refine FnM.of_body (mv:=[(38,900)]) (by kernel_rfl) Tryz.func18 rfl Tryz.call18 ?_
 refine walkK (orc:=orc18 q) (keep:=[]) (cuts:=[]) (n:=1000) follows ?_
 refine of_tr (fun ZT ZW ZQ _=>(FnM Tryz.prog G 13 [(.box 1000000 0)] [(1000000,[(vi q.ll),(vi q.lt),(vi q.lp),(vi q.ls),(vi q.tick),(vi q.arr),(vi q.num),(.vec 1000001 8 0 q.W.length),(.vec 1000002 11 0 q.L.length),(.vec 1000003 5 0 q.D.length),(.mapv 1000004)]),(1000001,[(.arr ⟨true,39,false,none⟩ 8 (wtF q.W))]),(1000002,[(.arr ⟨true,41,false,none⟩ 11 (lsF q.L))]),(1000003,[(.arr ⟨true,35,false,none⟩ 5 (jbF q.D))]),(1000004,[(.mp none (svF q.sv) q.has)])] (.d (.slc 8 q.W.length (wtF q.W))) [(1000000,[(vi q.ll),(vi q.lt),(vi q.lp),(vi q.ls),(vi q.tick),(vi q.arr),(vi q.num),(.vec 1000001 8 0 q.W.length),(.vec 1000002 11 0 q.L.length),(.vec 1000003 5 0 q.D.length),(.mapv 1000004)]),(1000001,[(.arr ⟨true,39,false,none⟩ 8 (wtF q.W))]),(1000002,[(.arr ⟨true,41,false,none⟩ 11 (lsF q.L))]),(1000003,[(.arr ⟨true,35,false,none⟩ 5 (jbF q.D))]),(1000004,[(.mp none (svF q.sv) q.has)])]∧ZW [cd Tryz.f18 [1,1,0,1,0],(.blk 0),cd Tryz.f18 [1,1,1]] (stS ZT []) ZQ)) (by kernel_rfl) ?_
 refine⟨f13 q (by omega),?_⟩
 refine AWP.weaken (st':=S18a q) ?_ ?_
 ·exact AS.leA (by kernel_rfl)
 refine AWP.pre (.nilRow _ 3 903 5 jK (jbF []) rfl (by kernel_rfl)) ?_
 refine AWP.loop (c:=cAt (bodyOf Tryz.f18) [1,1,0,1,0,0]) (by kernel_rfl) (fun k:Nat=>S18 q k (jbF (jW q k)) (jW q k).length) (fun k=>k≤q.W.length) (fun k=>q.W.length-k) 0 ?_ (Nat.zero_le _) ?_
 ·refine AS.leZ [] [0] (b:=((T0∧T0∧T0∧T0∧T0∧True)∧((some [(.arr ⟨true,35,false,none⟩ 5 (jbF []))]):(Option (List AV)))=(some [(.arr ⟨true,35,false,none⟩ 5 (jbF (jW q 0)))])∧T0∧T0∧T0∧T0∧T0∧True)) (by kernel_rfl) (by kernel_rfl) ?_
  exact⟨⟨rfl,rfl,rfl,rfl,rfl,trivial⟩,rfl,rfl,rfl,rfl,rfl,rfl,trivial⟩
 ·intro k hk
  show AWP _ _ _ (S18 q k (jbF (jW q k)) (jW q k).length) _
  by_cases hk2:k<q.W.length
  ·have e:=jW_next hk2
   have hn:=jW_len (Nat.le_of_lt hk2)
   revert e hn
   generalize jW q k=J
   intro e hn
   refine walkK (orc:=orc18 q) (keep:=[]) (cuts:=[7]) (n:=1000) follows ?_
   refine of_rd (fun ZT ZW ZQ _ ZA _=>((((decide ((↑k:Int)<↑q.W.length))=true)→(((0≤(↑k:Int))∧((↑k:Int)<↑q.W.length))∧(((J.length+1)*56≤1099511627776)∧(J.length+1≤1099511627776))∧(I64 (↑k+1))∧(ZA (stS ZT [0]))))∧(((decide ((↑k:Int)<↑q.W.length))=false)→ZW [cd Tryz.f18 [1,1,1]] (stS ZT [1]) ZQ))) (by kernel_rfl) ?_
   refine⟨fun _=>⟨⟨by omega,by omega⟩,⟨by omega,by omega⟩,⟨by omega,by omega⟩,?_⟩,fun hd=>absurd (of_decide_eq_false hd) (by omega)⟩
   refine⟨k+1,?_,hk2,by show q.W.length-(k+1)<q.W.length-k;omega⟩
   simp only[e]
   refine(AS.leX.moves [(19,903)] _ rfl).trans ((AS.leX.of_le (st':=S18 q (k+1) (fun i=>bif i.blt J.length then jbF J i else elemF true 5 (jbL (q.W.getD k wt0).j) (0+(i-J.length))) (J.length+1)) ?_).trans ((AS.leX.rowF _ 3 903 (J.length+1) (agg:=jK) (sz:=5) (f:=fun i=>bif i.blt J.length then jbF J i else elemF true 5 (jbL (q.W.getD k wt0).j) (0+(i-J.length))) (jbF (J++[(q.W.getD k wt0).j])) rfl rfl rfl (by kernel_rfl) fun j hj=>jbF_app hj).trans (.of_le ?_)))
   ·refine AS.leZ [] [0] (b:=((T0∧T0∧T0∧T0∧T0∧True)∧((some [(.arr ⟨true,35,false,none⟩ 5 (fun i=>bif i.blt J.length then jbF J i else elemF true 5 [DV.con (Value.string (q.W.getD (↑k:Int).toNat wt0).j.st),DV.con (Value.string (q.W.getD (↑k:Int).toNat wt0).j.ex),DV.con (Value.int IntKind.i64 (q.W.getD (↑k:Int).toNat wt0).j.no),DV.con (Value.int IntKind.i64 (q.W.getD (↑k:Int).toNat wt0).j.ve),DV.con (Value.int IntKind.i64 (q.W.getD (↑k:Int).toNat wt0).j.pr)] (0+(i-J.length))))]):(Option (List AV)))=(some [(.arr ⟨true,35,false,none⟩ 5 (fun i=>bif i.blt J.length then jbF J i else elemF true 5 [DV.con (Value.string (q.W.getD k wt0).j.st),DV.con (Value.string (q.W.getD k wt0).j.ex),DV.con (Value.int IntKind.i64 (q.W.getD k wt0).j.no),DV.con (Value.int IntKind.i64 (q.W.getD k wt0).j.ve),DV.con (Value.int IntKind.i64 (q.W.getD k wt0).j.pr)] (0+(i-J.length))))])∧T0∧T0∧T0∧T0∧T0∧True)) (by kernel_rfl) (by kernel_rfl) ?_
    exact⟨⟨rfl,rfl,rfl,rfl,rfl,trivial⟩,rfl,rfl,rfl,rfl,rfl,rfl,trivial⟩
   ·refine AS.leZ [1] [] (b:=((T0∧((.vec 903 5 0 (J.length+1)):AV)=(.vec 903 5 0 (J++[(q.W.getD k wt0).j]).length)∧T0∧T0∧T0∧True)∧T0∧T0∧T0∧T0∧T0∧T0∧True)) (by kernel_rfl) (by kernel_rfl) ?_
    exact⟨⟨rfl,congrArg (AV.vec 903 5 0) (by rw[List.length_append];rfl),rfl,rfl,rfl,trivial⟩,rfl,rfl,rfl,rfl,rfl,rfl,trivial⟩
  ·obtain rfl:k=q.W.length:=by have:k≤q.W.length:=hk;omega
   have hn:=jW_len (Nat.le_refl q.W.length)
   refine walkK (orc:=orc18 q) (keep:=[]) (cuts:=[7]) (n:=1000) follows ?_
   refine of_rd (fun ZT ZW ZQ _ ZA _=>((((decide ((↑q.W.length:Int)<↑q.W.length))=true)→(((0≤(↑q.W.length:Int))∧((↑q.W.length:Int)<↑q.W.length))∧((((jW q q.W.length).length+1)*56≤1099511627776)∧((jW q q.W.length).length+1≤1099511627776))∧(I64 (↑q.W.length+1))∧(ZA (stS ZT [0]))))∧(((decide ((↑q.W.length:Int)<↑q.W.length))=false)→ZW [cd Tryz.f18 [1,1,1]] (stS ZT [1]) ZQ))) (by kernel_rfl) ?_
   refine⟨fun hd=>absurd (of_decide_eq_true hd) (by omega),fun _=>?_⟩
   refine walkK (orc:=orc18 q) (keep:=[]) (cuts:=[]) (n:=1000) follows ?_
   refine of_tr (fun ZT ZW ZQ _=>(FnM Tryz.prog G 12 [(.box 1000000 0)] [(1000000,[(vi q.ll),(vi q.lt),(vi q.lp),(vi q.ls),(vi q.tick),(vi q.arr),(vi q.num),(.vec 1000001 8 0 q.W.length),(.vec 1000002 11 0 q.L.length),(.vec 1000003 5 0 q.D.length),(.mapv 1000004)]),(1000001,[(.arr ⟨true,39,false,none⟩ 8 (wtF q.W))]),(1000002,[(.arr ⟨true,41,false,none⟩ 11 (lsF q.L))]),(1000003,[(.arr ⟨true,35,false,none⟩ 5 (jbF q.D))]),(1000004,[(.mp none (svF q.sv) q.has)])] (.d (.slc 11 q.L.length (lsF q.L))) [(1000000,[(vi q.ll),(vi q.lt),(vi q.lp),(vi q.ls),(vi q.tick),(vi q.arr),(vi q.num),(.vec 1000001 8 0 q.W.length),(.vec 1000002 11 0 q.L.length),(.vec 1000003 5 0 q.D.length),(.mapv 1000004)]),(1000001,[(.arr ⟨true,39,false,none⟩ 8 (wtF q.W))]),(1000002,[(.arr ⟨true,41,false,none⟩ 11 (lsF q.L))]),(1000003,[(.arr ⟨true,35,false,none⟩ 5 (jbF q.D))]),(1000004,[(.mp none (svF q.sv) q.has)])]∧ZW [cd Tryz.f18 [1,1,1,0,1,0],(.blk 2),cd Tryz.f18 [1,1,1,1]] (stS ZT []) ZQ)) (by kernel_rfl) ?_
   refine⟨f12 q (by omega),?_⟩
   refine AWP.loop (c:=cAt (bodyOf Tryz.f18) [1,1,1,0,1,0,0]) (by kernel_rfl) (fun k:Nat=>S18b q k (jbF (jL q k)) (jL q k).length) (fun k=>k≤q.L.length) (fun k=>q.L.length-k) 0 ?_ (Nat.zero_le _) ?_
   ·simp only[jL_0]
    exact AS.leA (by kernel_rfl)
   ·intro k hk
    show AWP _ _ _ (S18b q k (jbF (jL q k)) (jL q k).length) _
    by_cases hk2:k<q.L.length
    ·have e:=jL_next hk2
     have hn:=jL_len (Nat.le_of_lt hk2)
     revert e hn
     generalize jL q k=J
     intro e hn
     refine walkK (orc:=orc18 q) (keep:=[]) (cuts:=[12]) (n:=1000) follows ?_
     refine of_rd (fun ZT ZW ZQ _ ZA _=>((((decide ((↑k:Int)<↑q.L.length))=true)→(((0≤(↑k:Int))∧((↑k:Int)<↑q.L.length))∧(((J.length+1)*56≤1099511627776)∧(J.length+1≤1099511627776))∧(I64 (↑k+1))∧(ZA (stS ZT [0]))))∧(((decide ((↑k:Int)<↑q.L.length))=false)→ZW [cd Tryz.f18 [1,1,1,1]] (stS ZT [1]) ZQ))) (by kernel_rfl) ?_
     refine⟨fun _=>⟨⟨by omega,by omega⟩,⟨by omega,by omega⟩,⟨by omega,by omega⟩,?_⟩,fun hd=>absurd (of_decide_eq_false hd) (by omega)⟩
     refine⟨k+1,?_,hk2,by show q.L.length-(k+1)<q.L.length-k;omega⟩
     simp only[e]
     refine(AS.leX.moves [(33,903)] _ rfl).trans ((AS.leX.of_le (st':=S18b q (k+1) (fun i=>bif i.blt J.length then jbF J i else elemF true 5 (jbL (q.L.getD k ls0).w.j) (0+(i-J.length))) (J.length+1)) ?_).trans ((AS.leX.rowF _ 3 903 (J.length+1) (agg:=jK) (sz:=5) (f:=fun i=>bif i.blt J.length then jbF J i else elemF true 5 (jbL (q.L.getD k ls0).w.j) (0+(i-J.length))) (jbF (J++[(q.L.getD k ls0).w.j])) rfl rfl rfl (by kernel_rfl) fun j hj=>jbF_app hj).trans (.of_le ?_)))
     ·refine AS.leZ [] [0] (b:=((T0∧T0∧T0∧T0∧T0∧True)∧((some [(.arr ⟨true,35,false,none⟩ 5 (fun i=>bif i.blt J.length then jbF J i else elemF true 5 [DV.con (Value.string (q.L.getD (↑k:Int).toNat ls0).w.j.st),DV.con (Value.string (q.L.getD (↑k:Int).toNat ls0).w.j.ex),DV.con (Value.int IntKind.i64 (q.L.getD (↑k:Int).toNat ls0).w.j.no),DV.con (Value.int IntKind.i64 (q.L.getD (↑k:Int).toNat ls0).w.j.ve),DV.con (Value.int IntKind.i64 (q.L.getD (↑k:Int).toNat ls0).w.j.pr)] (0+(i-J.length))))]):(Option (List AV)))=(some [(.arr ⟨true,35,false,none⟩ 5 (fun i=>bif i.blt J.length then jbF J i else elemF true 5 [DV.con (Value.string (q.L.getD k ls0).w.j.st),DV.con (Value.string (q.L.getD k ls0).w.j.ex),DV.con (Value.int IntKind.i64 (q.L.getD k ls0).w.j.no),DV.con (Value.int IntKind.i64 (q.L.getD k ls0).w.j.ve),DV.con (Value.int IntKind.i64 (q.L.getD k ls0).w.j.pr)] (0+(i-J.length))))])∧T0∧T0∧T0∧T0∧T0∧True)) (by kernel_rfl) (by kernel_rfl) ?_
      exact⟨⟨rfl,rfl,rfl,rfl,rfl,trivial⟩,rfl,rfl,rfl,rfl,rfl,rfl,trivial⟩
     ·refine AS.leZ [1] [] (b:=((T0∧((.vec 903 5 0 (J.length+1)):AV)=(.vec 903 5 0 (J++[(q.L.getD k ls0).w.j]).length)∧T0∧T0∧T0∧True)∧T0∧T0∧T0∧T0∧T0∧T0∧True)) (by kernel_rfl) (by kernel_rfl) ?_
      exact⟨⟨rfl,congrArg (AV.vec 903 5 0) (by rw[List.length_append];rfl),rfl,rfl,rfl,trivial⟩,rfl,rfl,rfl,rfl,rfl,rfl,trivial⟩
    ·obtain rfl:k=q.L.length:=by have:k≤q.L.length:=hk;omega
     have hn:=jL_len (Nat.le_refl q.L.length)
     refine walkK (orc:=orc18 q) (keep:=[]) (cuts:=[12]) (n:=1000) follows ?_
     refine of_rd (fun ZT ZW ZQ _ ZA _=>((((decide ((↑q.L.length:Int)<↑q.L.length))=true)→(((0≤(↑q.L.length:Int))∧((↑q.L.length:Int)<↑q.L.length))∧((((jL q q.L.length).length+1)*56≤1099511627776)∧((jL q q.L.length).length+1≤1099511627776))∧(I64 (↑q.L.length+1))∧(ZA (stS ZT [0]))))∧(((decide ((↑q.L.length:Int)<↑q.L.length))=false)→ZW [cd Tryz.f18 [1,1,1,1]] (stS ZT [1]) ZQ))) (by kernel_rfl) ?_
     refine⟨fun hd=>absurd (of_decide_eq_true hd) (by omega),fun _=>?_⟩
     refine walkK (orc:=orc18 q) (keep:=[]) (cuts:=[]) (n:=1000) follows ?_
     refine of_tr (fun _ _ _ _=>(fun Za Zb Zc Zd Ze=>((FnM Tryz.prog G 24 [(.box 1000000 0)] [(1000000,[(vi q.ll),(vi q.lt),(vi q.lp),(vi q.ls),(vi q.tick),(vi q.arr),(vi q.num),(.vec 1000001 8 0 q.W.length),(.vec 1000002 11 0 q.L.length),(.vec 1000003 5 0 q.D.length),(.mapv 1000004)]),(1000001,[Zd]),(1000002,[Zc]),(1000003,[Ze]),(1000004,[(.mp none (svF q.sv) q.has)])] (.d (.slc 5 q.D.length (jbF q.D))) [(1000000,[(vi q.ll),(vi q.lt),(vi q.lp),(vi q.ls),(vi q.tick),(vi q.arr),(vi q.num),(.vec 1000001 8 0 q.W.length),(.vec 1000002 11 0 q.L.length),(.vec 1000003 5 0 q.D.length),(.mapv 1000004)]),(1000001,[Zd]),(1000002,[Zc]),(1000003,[Ze]),(1000004,[(.mp none (svF q.sv) q.has)])]∧((((jL q q.L.length).length+q.D.length)*56≤1099511627776)∧((jL q q.L.length).length+q.D.length≤1099511627776))∧(∀(i:Nat),i<q.D.length→elemOK true 5 (jbF q.D i)=true))∧(ZS ((.vec 900 5 0 ((jL q q.L.length).length+q.D.length)):AV))∧(Zb:(Option (List AV)))=Zb∧(Za:(Option (List AV)))=Za∧((some [Zd]):(Option (List AV)))=(some [Zd])∧((some [Zc]):(Option (List AV)))=(some [Zc])∧((some [Ze]):(Option (List AV)))=(some [Ze])∧((some [(.mp none (svF q.sv) q.has)]):(Option (List AV)))=(some [(.mp none (svF q.sv) q.has)])∧True)) (some [(vi q.ll),(vi q.lt),(vi q.lp),(vi q.ls),(vi q.tick),(vi q.arr),(vi q.num),(.vec 1000001 8 0 q.W.length),(.vec 1000002 11 0 q.L.length),(.vec 1000003 5 0 q.D.length),(.mapv 1000004)]) (some [(.arr ⟨true,35,false,none⟩ 5 (fun i=>bif i.blt (jL q q.L.length).length then jbF (jL q q.L.length) i else jbF q.D (i-(jL q q.L.length).length)))]) ((.arr ⟨true,41,false,none⟩ 11 (lsF q.L)):AV) ((.arr ⟨true,39,false,none⟩ 8 (wtF q.W)):AV) ((.arr ⟨true,35,false,none⟩ 5 (jbF q.D)):AV)) (by kernel_rfl) ?_
     exact⟨⟨f24 q (by omega),⟨by omega,by omega⟩,fun i hi=>rfl⟩,rfl,rfl,rfl,rfl,rfl,rfl,rfl,trivial⟩
end Go.Proofs
/- Lists of jobs compared. -/
namespace Go.Proofs
open Go Go.Ab Go.RowKit
set_option maxHeartbeats 4000000
set_option maxRecDepth 100000
variable {G:IH}
theorem eqJ (a b:Jb):((a.st.toList==b.st.toList&&(a.ex.toList==b.ex.toList&&a.no==b.no))&&(a.ve==b.ve&&a.pr==b.pr))=decide (a=b):=by
 obtain ⟨a1,a2,a3,a4,a5⟩:=a
 obtain ⟨b1,b2,b3,b4,b5⟩:=b
 rw[toList_beq,toList_beq,Bool.eq_iff_iff]
 simp only[bAt,decide_eq_true_eq,beq_iff_eq,Jb.mk.injEq]
 constructor
 ·rintro ⟨⟨h1,h2,h3⟩,h4,h5⟩;exact⟨h1,h2,h3,h4,h5⟩
 ·rintro ⟨h1,h2,h3,h4,h5⟩;exact⟨⟨h1,h2,h3⟩,h4,h5⟩
theorem eqW (a b:Wt):(((a.j.st.toList==b.j.st.toList&&(a.j.ex.toList==b.j.ex.toList&&a.j.no==b.j.no))&&(a.j.ve==b.j.ve&&a.j.pr==b.j.pr))&&(a.tr==b.tr&&(a.ar==b.ar&&a.fr==b.fr)))=decide (a=b):=by
 rw[eqJ]
 obtain ⟨a1,a2,a3,a4⟩:=a
 obtain ⟨b1,b2,b3,b4⟩:=b
 rw[Bool.eq_iff_iff]
 simp only[bAt,decide_eq_true_eq,beq_iff_eq,Wt.mk.injEq]
theorem eqL (a b:Ls):(a.no==b.no&&(a.un==b.un&&(a.wk.toList==b.wk.toList&&((a.w.j.st.toList==b.w.j.st.toList&&(a.w.j.ex.toList==b.w.j.ex.toList&&a.w.j.no==b.w.j.no))&&(a.w.j.ve==b.w.j.ve&&a.w.j.pr==b.w.j.pr)&&(a.w.tr==b.w.tr&&(a.w.ar==b.w.ar&&a.w.fr==b.w.fr))))))=decide (a=b):=by
 rw[eqW]
 obtain ⟨a1,a2,a3,a4⟩:=a
 obtain ⟨b1,b2,b3,b4⟩:=b
 rw[toList_beq,Bool.eq_iff_iff]
 simp only[bAt,decide_eq_true_eq,beq_iff_eq,Ls.mk.injEq]
noncomputable def S16 (j:Jb) (l:List Jb) (k:Nat):AS:=⟨regs Tryz.f16.ntmps [(0,.d (jbsD l)),(3,.box 3 0),(4,vi 0),(7,vi l.length),(8,vi k)],[(3,(jbL j).map .d)]⟩
theorem f16 (l:List Jb) (j:Jb) (hl:l.length≤1000000):FnOK Tryz.prog G 16 [jbsD l,jbD j] (di (idxI (fun x=>decide (j=x)) l)):=by
 refine FnOK.walkK (orc:=noO) (keep:=[]) follows Tryz.func16 rfl Tryz.call16 ?_
 refine of_tr (fun ZT ZW ZQ _=>ZW [cd Tryz.f16 [1,0,1,0],(.blk 0),cd Tryz.f16 [1,1]] (stS ZT []) ZQ) (by kernel_rfl) ?_
 refine AWP.loop (c:=cAt (bodyOf Tryz.f16) [1,0,1,0,0]) (by kernel_rfl) (S16 j l) (fun k=>k≤l.length∧∀i,i<k→decide (j=l.getD i jb0)=false) (fun k=>l.length-k) 0 ?_ ⟨Nat.zero_le _,fun i hi=>absurd hi (Nat.not_lt_zero _)⟩ ?_
 ·exact AS.leA (by kernel_rfl)
 ·rintro k ⟨hk,hkd⟩
  by_cases hk2:k<l.length
  ·refine walkK (orc:=noO) (keep:=[]) (cuts:=[7]) (n:=1000) follows ?_
   refine of_rd (fun ZT ZW ZQ _ ZA _=>(fun Za=>((((decide ((↑k:Int)<↑l.length))=true)→(((0≤(↑k:Int))∧((↑k:Int)<↑l.length))∧((Za=true)→(((di (↑k)):DV)=(di (idxI (fun x=>decide (j=x)) l))))∧((Za=false)→((I64 (↑k+1))∧(ZA (stS ZT [0,1]))))))∧(((decide ((↑k:Int)<↑l.length))=false)→ZW [cd Tryz.f16 [1,1]] (stS ZT [1]) ZQ))) (Bool.rec false (j.ve==(l.getD (↑k:Int).toNat jb0).ve&&j.pr==(l.getD (↑k:Int).toNat jb0).pr) (j.st.toList==(l.getD (↑k:Int).toNat jb0).st.toList&&(j.ex.toList==(l.getD (↑k:Int).toNat jb0).ex.toList&&j.no==(l.getD (↑k:Int).toNat jb0).no)))) (by kernel_rfl) ?_
   dsimp only
   simp only[Int.toNat_natCast]
   rw[brec,eqJ]
   refine⟨fun _=>⟨⟨by omega,by omega⟩,fun h2=>by rw[idxI_hit hk2 hkd h2],fun h2=>⟨⟨by omega,by omega⟩,Again.mk (k+1) ?_ ⟨hk2,fun i hi=>?_⟩ (by omega)⟩⟩,fun h=>absurd (of_decide_eq_false h) (by omega)⟩
   ·exact AS.leA (by kernel_rfl)
   ·rcases Nat.lt_or_ge i k with h1|h1
    ·exact hkd i h1
    ·obtain rfl:i=k:=by omega
     exact h2
  ·obtain rfl:k=l.length:=by omega
   refine walkK (orc:=noO) (keep:=[]) (cuts:=[3,7]) (n:=1000) follows ?_
   refine of_rd (fun ZT ZW ZQ _ _ ZR=>((((decide ((↑l.length:Int)<↑l.length))=true)→ZW [cd Tryz.f16 [1,0,1,0,0,1,1,0,0],(.blk 1),cd Tryz.f16 [1,0,1,0,0,1,1,1]] (stS ZT [0]) ZR)∧(((decide ((↑l.length:Int)<↑l.length))=false)→ZW [cd Tryz.f16 [1,1]] (stS ZT [1]) ZQ))) (by kernel_rfl) ?_
   refine⟨fun h=>absurd (of_decide_eq_true h) (by omega),fun _=>?_⟩
   refine walkK (orc:=noO) (keep:=[]) (cuts:=[]) (n:=1000) follows ?_
   refine of_tr (fun _ _ _ _=>(((di (-1)):DV)=(di (idxI (fun x=>decide (j=x)) l)))) (by kernel_rfl) ?_
   rw[idxI_none hkd]
noncomputable def d19 (l:List Jb) (j:Jb):Oracle:=fun f _=>match f with
 | 16=>some (di (idxI (fun x=>decide (j=x)) l))
 | _=>none
theorem f19 (l:List Jb) (j:Jb) (hl:l.length≤1000000):FnOK Tryz.prog G 19 [jbsD l,jbD j] (db (l.any fun x=>decide (j=x))):=by
 refine FnOK.walkK (orc:=d19 l j) (keep:=[]) follows Tryz.func19 rfl Tryz.call19 ?_
 refine of_tr (fun _ _ _ ZK=>(ZK 16 [(.slc 5 l.length (jbF l)),(.agg [(ds j.st),(ds j.ex),(di j.no),(di j.ve),(di j.pr)])] (di (idxI (fun x=>decide (j=x)) l))∧((db (decide (idxI (fun x=>decide (j=x)) l≥0))):DV)=(db (l.any fun x=>decide (j=x))))) (by kernel_rfl) ?_
 rw[idxI_ge]
 exact⟨f16 l j hl,rfl⟩
end Go.Proofs
/- Jobs are conserved. -/
namespace Go.Proofs
open Go Go.Ab Go.RowKit
set_option maxHeartbeats 4000000
set_option maxRecDepth 100000
variable {G:IH}
abbrev qL (q:Qm) (b m w l d:Nat):List (Nat×List AV):=[(b,[vi q.ll,vi q.lt,vi q.lp,vi q.ls,vi q.tick,vi q.arr,vi q.num,.vec w 8 0 q.W.length,.vec l 11 0 q.L.length,.vec d 5 0 q.D.length,.mapv m]),(w,rowW q.W),(l,rowL q.L),(d,rowD q.D),(m,[.mp none (svF q.sv) q.has])]
noncomputable def d4 (f1:Bool):Oracle:=fun f _=>match f with
 | 8=>some (db true)
 | 9=>some (db f1)
 | 10=>some (.tup [.con (.pointer none),di 1])
 | _=>none
end Go.Proofs
