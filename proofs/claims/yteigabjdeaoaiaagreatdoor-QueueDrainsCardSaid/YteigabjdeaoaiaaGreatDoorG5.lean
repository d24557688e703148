import Derived.Test.YteigabjdeaoaiaaGreatDoorAcD
import Derived.Test.YteigabjdeaoaiaaGreatDoorG4
/- The queue runs dry. -/
set_option autoImplicit false
namespace Go.Proofs
open Go Go.Ab Go.RowKit
set_option maxHeartbeats 4000000
set_option maxRecDepth 100000
variable {G:IH}
noncomputable def S7 (ll:List Ac) (q:Qm) (w l d':Nat) (k:Nat):AS:=⟨regs Tryz.f7.ntmps ([(5,.box 35900 0),(45,.d (acsD ll)),(46,vi ll.length),(47,vi k)]),qL q 35900 35904 w l d'⟩
noncomputable def S7b (q:Qm) (w l d':Nat) (jobs dead begun fin:Int) (i:Nat) (R:List (Nat×AV)) (B:List (Nat×List AV)):AS:=⟨regs Tryz.f7.ntmps ([(5,.box 35900 0),(9,vi jobs),(10,vi dead),(11,vi fin),(12,vi begun),(67,vi i)]++R),qL q 35900 35904 w l d'++B⟩
noncomputable def m7 (q0 q1:Qm) (l:Ls) (j:Jb) (e:Int):FuncId→List AV→List (Nat×List AV)→Option (AV×List (Nat×List AV)):=fun f _ _=>match f with
 | 11=>some (.d (.tup [lsD l,jbD j,di e]),qG q1)
 | 20=>some (.d (.tup [lsD l,di e]),qG q1)
 | 22=>some (.d (.tup [jbD j,di e]),qG q1)
 | 12=>some (.d (lssD q0.L),qP q0)
 | 13=>some (.d (wtsD q0.W),qP q0)
 | 24=>some (.d (jbsD q0.D),qP q0)
 | 18=>some (.d (jbsD (jobsQ q0)),qP q0)
 | 21=>some (.d (di q0.tick),qP q0)
 | 31=>some (.d (.tup [di (nextR q0).1,db (nextR q0).2]),qP q0)
 | _=>none
noncomputable def orc7 (q0 q1:Qm) (l:Ls) (j:Jb) (e:Int):Orc:={ d:=noO,m:=m7 q0 q1 l j e,ro:=fun f=>Nat.beq f 12||(Nat.beq f 13||(Nat.beq f 24||(Nat.beq f 21||(Nat.beq f 18||Nat.beq f 31)))) }
noncomputable def m7n (q0 q1:Qm) (t:Int) (ok:Bool):FuncId→List AV→List (Nat×List AV)→Option (AV×List (Nat×List AV)):=fun f _ _=>match f with
 | 22=>some (.d (.tup [jbD jb0,di 7]),qG q1)
 | 31=>some (.d (.tup [di t,db ok]),qP q0)
 | _=>none
noncomputable def orc7n (q0 q1:Qm) (t:Int) (ok:Bool):Orc:={ d:=noO,m:=m7n q0 q1 t ok }
theorem fold_D:∀(M:List Ls) (q:Qm),q.D.length≤(M.foldl failS q).D.length
 | [],_=>Nat.le_refl _
 | l :: M,q=>by
  refine Nat.le_trans ?_ (fold_D M (failS q l))
  show q.D.length≤(failQ q l.w l.un).D.length
  unfold failQ
  split
  ·show _≤(q.D++[l.w.j]).length
   simp
  ·exact Nat.le_refl _
theorem f7_fin (q:Qm) (jobs dead begun fin:Nat) (i:Nat) (h1:q.W.length=0) (h2:q.L.length=0) (h3:q.D.length≤1000) (h4:q.D.length+fin=jobs) (h5:q.D.length≤dead+begun) (h6:dead≤q.D.length) (h7:jobs≤1000):AWP Tryz.prog G [.code (cAt (bodyOf Tryz.f7) [1,1,1,1,1,1,1,1,1,1])] (S7b q 901 902 903 jobs dead begun fin i [] []) (Ret Tryz.prog Tryz.f7 (db true)):=by
 refine walkK (orc:=orc7 q q ls0 jb0 0) (keep:=[]) (cuts:=[]) (n:=1000) follows ?_
 refine of_tr (fun _ _ _ _=>(fun Za Zb Zc Zd Ze Zf Zg=>((FnM Tryz.prog G 24 [(.box 1000000 0)] [(1000000,[(vi q.ll),(vi q.lt),(vi q.lp),(vi q.ls),(vi q.tick),(vi q.arr),(vi q.num),(.vec 1000001 8 0 q.W.length),Ze,(.vec 1000003 5 0 q.D.length),(.mapv 1000004)]),(1000001,[Zb]),(1000002,[Za]),(1000003,[Zc]),(1000004,[(.mp none (svF q.sv) q.has)])] (.d (.slc 5 q.D.length (jbF q.D))) [(1000000,[(vi q.ll),(vi q.lt),(vi q.lp),(vi q.ls),(vi q.tick),(vi q.arr),(vi q.num),(.vec 1000001 8 0 q.W.length),Ze,(.vec 1000003 5 0 q.D.length),(.mapv 1000004)]),(1000001,[Zb]),(1000002,[Za]),(1000003,[Zc]),(1000004,[(.mp none (svF q.sv) q.has)])]∧Zd=[(vi q.ll),(vi q.lt),(vi q.lp),(vi q.ls),(vi q.tick),(vi q.arr),(vi q.num),(.vec 901 8 0 q.W.length),(.vec 902 11 0 q.L.length),(.vec 903 5 0 q.D.length),(.mapv 35904)]∧([Zb]:(List AV))=[Zb]∧([Za]:(List AV))=[Za]∧([Zc]:(List AV))=[Zc]∧Zg=[(.mp none (svF q.sv) q.has)]∧(I64 (↑q.D.length - ↑dead)))∧(FnM Tryz.prog G 13 [(.box 1000000 0)] [(1000000,[(vi q.ll),(vi q.lt),(vi q.lp),(vi q.ls),(vi q.tick),(vi q.arr),(vi q.num),(.vec 1000001 8 0 q.W.length),Ze,(.vec 1000003 5 0 q.D.length),(.mapv 1000004)]),(1000001,[Zb]),(1000002,[Za]),(1000003,[Zc]),(1000004,[(.mp none (svF q.sv) q.has)])] (.d (.slc 8 q.W.length (wtF q.W))) [(1000000,[(vi q.ll),(vi q.lt),(vi q.lp),(vi q.ls),(vi q.tick),(vi q.arr),(vi q.num),(.vec 1000001 8 0 q.W.length),Ze,(.vec 1000003 5 0 q.D.length),(.mapv 1000004)]),(1000001,[Zb]),(1000002,[Za]),(1000003,[Zc]),(1000004,[(.mp none (svF q.sv) q.has)])]∧Zd=[(vi q.ll),(vi q.lt),(vi q.lp),(vi q.ls),(vi q.tick),(vi q.arr),(vi q.num),(.vec 901 8 0 q.W.length),(.vec 902 11 0 q.L.length),(.vec 903 5 0 q.D.length),(.mapv 35904)]∧([Zb]:(List AV))=[Zb]∧([Za]:(List AV))=[Za]∧([Zc]:(List AV))=[Zc]∧Zg=[(.mp none (svF q.sv) q.has)]∧((((↑q.W.length:Int)==0)=true)→FnM Tryz.prog G 12 [(.box 1000000 0)] [(1000000,[(vi q.ll),(vi q.lt),(vi q.lp),(vi q.ls),(vi q.tick),(vi q.arr),(vi q.num),(.vec 1000001 8 0 q.W.length),Ze,(.vec 1000003 5 0 q.D.length),(.mapv 1000004)]),(1000001,[Zb]),(1000002,[Za]),(1000003,[Zc]),(1000004,[(.mp none (svF q.sv) q.has)])] (.d (.slc 11 q.L.length (lsF q.L))) [(1000000,[(vi q.ll),(vi q.lt),(vi q.lp),(vi q.ls),(vi q.tick),(vi q.arr),(vi q.num),(.vec 1000001 8 0 q.W.length),Ze,(.vec 1000003 5 0 q.D.length),(.mapv 1000004)]),(1000001,[Zb]),(1000002,[Za]),(1000003,[Zc]),(1000004,[(.mp none (svF q.sv) q.has)])])∧((((↑q.W.length:Int)==0)=true)→(Zd=[(vi q.ll),(vi q.lt),(vi q.lp),(vi q.ls),(vi q.tick),(vi q.arr),(vi q.num),(.vec 901 8 0 q.W.length),(.vec 902 11 0 q.L.length),(.vec 903 5 0 q.D.length),(.mapv 35904)]))∧((((↑q.W.length:Int)==0)=true)→(([Zb]:(List AV))=[Zb]))∧((((↑q.W.length:Int)==0)=true)→(([Za]:(List AV))=[Za]))∧((((↑q.W.length:Int)==0)=true)→(([Zc]:(List AV))=[Zc]))∧((((↑q.W.length:Int)==0)=true)→(Zg=[(.mp none (svF q.sv) q.has)]))∧((Zf=true)→(I64 (↑fin+(↑q.D.length - ↑dead))))∧((Zf=true)→(I64 (↑jobs - ↑dead))))∧((db ((↑q.W.length:Int)==0&&(↑q.L.length:Int)==0&&decide ((↑q.D.length:Int)-(↑dead:Int)≤(↑begun:Int))&&(↑fin:Int)+(↑q.D.length - ↑dead)==↑jobs - ↑dead)):DV)=(db true))) ((.arr ⟨true,41,false,none⟩ 11 (lsF q.L)):AV) ((.arr ⟨true,39,false,none⟩ 8 (wtF q.W)):AV) ((.arr ⟨true,35,false,none⟩ 5 (jbF q.D)):AV) ([(vi q.ll),(vi q.lt),(vi q.lp),(vi q.ls),(vi q.tick),(vi q.arr),(vi q.num),(.vec 901 8 0 q.W.length),(.vec 902 11 0 q.L.length),(.vec 903 5 0 q.D.length),(.mapv 35904)]:(List AV)) ((.vec 1000002 11 0 q.L.length):AV) ((↑q.W.length:Int)==0&&(↑q.L.length:Int)==0&&decide ((↑q.D.length:Int) - ↑dead≤↑begun)) ([(.mp none (svF q.sv) q.has)]:(List AV))) (by kernel_rfl) ?_
 dsimp only
 have e:(((q.W.length:Int)==0)&&((q.L.length:Int)==0)&&decide ((q.D.length:Int)-dead≤begun)&&((fin:Int)+((q.D.length:Int)-dead)==(jobs:Int)-dead))=true:=by
  rw[h1,h2,decide_eq_true (by omega)]
  simp only[Int.natCast_zero,beq_self_eq_true,Bool.true_and,beq_iff_eq]
  omega
 exact⟨⟨f24 q (by omega),rfl,rfl,rfl,rfl,rfl,⟨by omega,by omega⟩⟩,⟨f13 q (by omega),rfl,rfl,rfl,rfl,rfl,fun _=>f12 q (by omega),fun _=>rfl,fun _=>rfl,fun _=>rfl,fun _=>rfl,fun _=>rfl,fun _=>⟨by omega,by omega⟩,fun _=>⟨by omega,by omega⟩⟩,congrArg (fun b=>DV.con (.bool b)) e⟩
structure I7 (n0 jobs dead begun:Nat) (x:Nat×Qm×Nat):Prop where
 i:x.1≤200
 inv:Inv (n0+x.1) x.2.1
 sum:x.2.1.W.length+x.2.1.L.length+x.2.1.D.length+x.2.2=jobs
 dl:x.2.1.D.length+x.2.1.L.length≤dead+begun
 dd:dead≤x.2.1.D.length
 ms:x.1+meas x.2.1≤100
theorem f7_round (n0 jobs dead begun:Nat) (hn0:n0≤40) (hjobs:jobs≤1000) (x:Nat×Qm×Nat) (hx:I7 n0 jobs dead begun x):AWP Tryz.prog G [.code (cAt (bodyOf Tryz.f7) [1,1,1,1,1,1,1,1,1,0,1,0,0])] (S7b x.2.1 901 902 903 jobs dead begun x.2.2 x.1 [] []) (RoundQ Tryz.prog G [.blk 2,.code (cAt (bodyOf Tryz.f7) [1,1,1,1,1,1,1,1,1,1])] (Ret Tryz.prog Tryz.f7 (db true)) (fun x:Nat×Qm×Nat=>S7b x.2.1 901 902 903 jobs dead begun x.2.2 x.1 [] []) (I7 n0 jobs dead begun) (fun x=>200-x.1) x):=by
 obtain ⟨i,q,fin⟩:=x
 obtain ⟨hi,hinv,hsum,hdl,hdd,hms⟩:=hx
 dsimp only at hi hinv hsum hdl hdd hms⊢
 have h20:=f20T (G:=G) hinv (by omega) sWorker q.tick (by decide)
 have hi1:=lea_inv hinv sWorker q.tick
 have hz:=@lea_same _ q hinv
 by_cases hb:bestI q q.tick q.W.length<0
 ·rw[if_pos hb] at hz
  rw[hz] at h20
  refine walkK (orc:=orc7 q q ls0 jb0 7) (keep:=[]) (cuts:=[21,25]) (n:=1000) follows ?_
  refine of_rd (fun ZT ZW ZQ _ _ ZR=>(fun Za Zb Zc=>((((decide ((↑i:Int)<200))=true)→((FnM Tryz.prog G 21 [(.box 1000000 0)] [(1000000,[(vi q.ll),(vi q.lt),(vi q.lp),(vi q.ls),(vi q.tick),(vi q.arr),(vi q.num),(.vec 1000001 8 0 q.W.length),(.vec 1000002 11 0 q.L.length),(.vec 1000003 5 0 q.D.length),(.mapv 1000004)]),(1000001,[Zb]),(1000002,[Za]),(1000003,[Zc]),(1000004,[(.mp none (svF q.sv) q.has)])] (vi q.tick) [(1000000,[(vi q.ll),(vi q.lt),(vi q.lp),(vi q.ls),(vi q.tick),(vi q.arr),(vi q.num),(.vec 1000001 8 0 q.W.length),(.vec 1000002 11 0 q.L.length),(.vec 1000003 5 0 q.D.length),(.mapv 1000004)]),(1000001,[Zb]),(1000002,[Za]),(1000003,[Zc]),(1000004,[(.mp none (svF q.sv) q.has)])]∧([(vi q.ll),(vi q.lt),(vi q.lp),(vi q.ls),(vi q.tick),(vi q.arr),(vi q.num),(.vec 901 8 0 q.W.length),(.vec 902 11 0 q.L.length),(.vec 903 5 0 q.D.length),(.mapv 35904)]:(List AV))=[(vi q.ll),(vi q.lt),(vi q.lp),(vi q.ls),(vi q.tick),(vi q.arr),(vi q.num),(.vec 901 8 0 q.W.length),(.vec 902 11 0 q.L.length),(.vec 903 5 0 q.D.length),(.mapv 35904)]∧([Zb]:(List AV))=[Zb]∧([Za]:(List AV))=[Za]∧([Zc]:(List AV))=[Zc]∧([(.mp none (svF q.sv) q.has)]:(List AV))=[(.mp none (svF q.sv) q.has)]∧FnM Tryz.prog G 20 [(.box 1000000 0),(vs (ByteArray.mk #[119,111,114,107,101,114])),(vi q.tick)] [(1000000,[(vi q.ll),(vi q.lt),(vi q.lp),(vi q.ls),(vi q.tick),(vi q.arr),(vi q.num),(.vec 1000001 8 0 q.W.length),(.vec 1000002 11 0 q.L.length),(.vec 1000003 5 0 q.D.length),(.mapv 1000004)]),(1000001,[Zb]),(1000002,[Za]),(1000003,[Zc]),(1000004,[(.mp none (svF q.sv) q.has)])] (.d (.tup [(.agg [(di 0),(di 0),(ds ByteArray.empty),(ds ByteArray.empty),(ds ByteArray.empty),(di 0),(di 0),(di 0),(di 0),(di 0),(di 0)]),(di 7)])) [(1000000,[(vi q.ll),(vi q.lt),(vi q.lp),(vi q.ls),(vi q.tick),(vi q.arr),(vi q.num),(.vec 901 8 0 q.W.length),(.vec 902 11 0 q.L.length),(.vec 903 5 0 q.D.length),(.mapv 1000004)]),(901,[Zb]),(902,[Za]),(903,[Zc]),(1000004,[(.mp none (svF q.sv) q.has)])])∧((false=true)→ZW [cd Tryz.f7 [1,1,1,1,1,1,1,1,1,0,1,0,0,1,1,0,0,1,0,1,0,0],cd Tryz.f7 [1,1,1,1,1,1,1,1,1,0,1,0,0,1,1,0,0,1,0,1,0,1],cd Tryz.f7 [1,1,1,1,1,1,1,1,1,0,1,0,0,1,1,0,0,1,1],(.blk 3),cd Tryz.f7 [1,1,1,1,1,1,1,1,1,0,1,0,0,1,1,1]] (stS ZT [0,0]) ZR)∧((false=false)→ZW [cd Tryz.f7 [1,1,1,1,1,1,1,1,1,0,1,0,0,1,1,0,0,1,1],(.blk 3),cd Tryz.f7 [1,1,1,1,1,1,1,1,1,0,1,0,0,1,1,1]] (stS ZT [0,1]) ZR)))∧(((decide ((↑i:Int)<200))=false)→ZW [cd Tryz.f7 [1,1,1,1,1,1,1,1,1,1]] (stS ZT [1]) ZQ))) ((.arr ⟨true,41,false,none⟩ 11 (lsF q.L)):AV) ((.arr ⟨true,39,false,none⟩ 8 (wtF q.W)):AV) ((.arr ⟨true,35,false,none⟩ 5 (jbF q.D)):AV)) (by kernel_rfl) ?_
  refine⟨fun _=>⟨⟨f21 q,rfl,rfl,rfl,rfl,rfl,h20⟩,fun c=>(by cases c),fun _=>?_⟩,fun c=>absurd (of_decide_eq_false c) (by omega)⟩
  refine AWP.weaken (st':=S7b q 74901 74902 74903 jobs dead begun fin i [] []) ?_ ?_
  ·exact AS.leA (by kernel_rfl)
  cases hn:(nextR q).2 with
  | false=>
   have h31:=f31 (G:=G) q (by have:=hinv.len;omega) (by have:=hinv.len;omega)
   rw[hn] at h31
   obtain ⟨d1,d2⟩:=dry hinv hb hn
   refine walkK (orc:=orc7n q q (nextR q).1 false) (keep:=[]) (cuts:=[27,33]) (n:=1000) follows ?_
   refine of_rd (fun ZT ZW ZQ _ _ ZR=>(FnM Tryz.prog G 31 [(.box 1000000 0)] [(1000000,[(vi q.ll),(vi q.lt),(vi q.lp),(vi q.ls),(vi q.tick),(vi q.arr),(vi q.num),(.vec 1000001 8 0 q.W.length),(.vec 1000002 11 0 q.L.length),(.vec 1000003 5 0 q.D.length),(.mapv 1000004)]),(1000001,[(.arr ⟨true,39,false,none⟩ 8 (wtF q.W))]),(1000002,[(.arr ⟨true,41,false,none⟩ 11 (lsF q.L))]),(1000003,[(.arr ⟨true,35,false,none⟩ 5 (jbF q.D))]),(1000004,[(.mp none (svF q.sv) q.has)])] (.d (.tup [(di (nextR q).fst),(db false)])) [(1000000,[(vi q.ll),(vi q.lt),(vi q.lp),(vi q.ls),(vi q.tick),(vi q.arr),(vi q.num),(.vec 1000001 8 0 q.W.length),(.vec 1000002 11 0 q.L.length),(.vec 1000003 5 0 q.D.length),(.mapv 1000004)]),(1000001,[(.arr ⟨true,39,false,none⟩ 8 (wtF q.W))]),(1000002,[(.arr ⟨true,41,false,none⟩ 11 (lsF q.L))]),(1000003,[(.arr ⟨true,35,false,none⟩ 5 (jbF q.D))]),(1000004,[(.mp none (svF q.sv) q.has)])]∧((true=true)→ZW [cd Tryz.f7 [1,1,1,1,1,1,1,1,1,1]] (stS ZT [0]) ZQ)∧((true=false)→ZW [cd Tryz.f7 [1,1,1,1,1,1,1,1,1,0,1,0,0,1,1,0,0,1,1,1,1,0],cd Tryz.f7 [1,1,1,1,1,1,1,1,1,0,1,0,0,1,1,0,0,1,1,1,1,1],(.blk 3),cd Tryz.f7 [1,1,1,1,1,1,1,1,1,0,1,0,0,1,1,1]] (stS ZT [1]) ZR))) (by kernel_rfl) ?_
   refine⟨h31,fun _=>?_,fun c=>(by cases c)⟩
   refine AWP.weaken (st':=S7b q 74901 74902 74903 jobs dead begun fin i [] []) ?_ ?_
   ·exact AS.leA (by kernel_rfl)
   refine AWP.pre (.moves [(74901,901),(74902,902),(74903,903)] _ rfl) ?_
   refine AWP.weaken (st':=S7b q 901 902 903 jobs dead begun fin i [] []) ?_ ?_
   ·exact AS.leA (by kernel_rfl)
   exact f7_fin q jobs dead begun fin i d1 d2 (by have:=hinv.len;omega) (by omega) (by omega) hdd hjobs
  | true=>
   have h31:=f31 (G:=G) q (by have:=hinv.len;omega) (by have:=hinv.len;omega)
   rw[hn] at h31
   by_cases ht:(nextR q).1≤1099511627776
   ·have h22:=f22T (G:=G) hinv (by omega) 0 (nextR q).1
    have hi2:=end_inv hinv 0 (nextR q).1
    have hm:=next_move hinv hn
    have hg:=gone_meas q (nextR q).1 (by have:=(next_yes hn).1;omega)
    have hj:=len_of_jobs (move_jobs q (nextR q).1)
    rw[next_end hinv hn ht] at h22 hi2
    dsimp only at h22 hi2
    have hD:dead≤(moveQ q (nextR q).1).D.length:=Nat.le_trans hdd (fold_D (q.L.filter (overB (nextR q).1)) (tickQ q (nextR q).1))
    revert h22 hi2 hm hg hj hD h31 ht
    generalize moveQ q (nextR q).1=q3
    generalize (nextR q).1=t
    intro h31 ht h22 hi2 hm hg hj hD
    refine walkK (orc:=orc7n q q3 t true) (keep:=[]) (cuts:=[28,33]) (n:=1000) follows ?_
    refine of_rd (fun ZT ZW ZQ _ ZA ZR=>(fun Za Zb Zc=>(FnM Tryz.prog G 31 [(.box 1000000 0)] [(1000000,[(vi q.ll),(vi q.lt),(vi q.lp),(vi q.ls),(vi q.tick),(vi q.arr),(vi q.num),(.vec 1000001 8 0 q.W.length),(.vec 1000002 11 0 q.L.length),(.vec 1000003 5 0 q.D.length),(.mapv 1000004)]),(1000001,[Zb]),(1000002,[Za]),(1000003,[Zc]),(1000004,[(.mp none (svF q.sv) q.has)])] (.d (.tup [(di t),(db true)])) [(1000000,[(vi q.ll),(vi q.lt),(vi q.lp),(vi q.ls),(vi q.tick),(vi q.arr),(vi q.num),(.vec 1000001 8 0 q.W.length),(.vec 1000002 11 0 q.L.length),(.vec 1000003 5 0 q.D.length),(.mapv 1000004)]),(1000001,[Zb]),(1000002,[Za]),(1000003,[Zc]),(1000004,[(.mp none (svF q.sv) q.has)])]∧((false=true)→ZW [cd Tryz.f7 [1,1,1,1,1,1,1,1,1,1]] (stS ZT [0]) ZQ)∧((false=false)→((((decide (t>1099511627776))=true)→ZW [cd Tryz.f7 [1,1,1,1,1,1,1,1,1,0,1,0,0,1,1,0,0,1,1,1,1,0,1,0],cd Tryz.f7 [1,1,1,1,1,1,1,1,1,0,1,0,0,1,1,0,0,1,1,1,1,1],(.blk 3),cd Tryz.f7 [1,1,1,1,1,1,1,1,1,0,1,0,0,1,1,1]] (stS ZT [1,0]) ZR)∧(((decide (t>1099511627776))=false)→(FnM Tryz.prog G 22 [(.box 1000000 0),(vi 0),(vi t)] [(1000000,[(vi q.ll),(vi q.lt),(vi q.lp),(vi q.ls),(vi q.tick),(vi q.arr),(vi q.num),(.vec 1000001 8 0 q.W.length),(.vec 1000002 11 0 q.L.length),(.vec 1000003 5 0 q.D.length),(.mapv 1000004)]),(1000001,[Zb]),(1000002,[Za]),(1000003,[Zc]),(1000004,[(.mp none (svF q.sv) q.has)])] (.d (.tup [(.agg [(ds ByteArray.empty),(ds ByteArray.empty),(di 0),(di 0),(di 0)]),(di 7)])) [(1000000,[(vi q3.ll),(vi q3.lt),(vi q3.lp),(vi q3.ls),(vi q3.tick),(vi q3.arr),(vi q3.num),(.vec 901 8 0 q3.W.length),(.vec 902 11 0 q3.L.length),(.vec 903 5 0 q3.D.length),(.mapv 1000004)]),(901,[(.arr ⟨true,39,false,none⟩ 8 (wtF q3.W))]),(902,[(.arr ⟨true,41,false,none⟩ 11 (lsF q3.L))]),(903,[(.arr ⟨true,35,false,none⟩ 5 (jbF q3.D))]),(1000004,[(.mp none (svF q3.sv) q3.has)])]∧((false=true)→(((db false):DV)=(db true)))∧((false=false)→((I64 (↑i+1))∧(ZA (stS ZT [1,1,1])))))))))) ((.arr ⟨true,41,false,none⟩ 11 (lsF q.L)):AV) ((.arr ⟨true,39,false,none⟩ 8 (wtF q.W)):AV) ((.arr ⟨true,35,false,none⟩ 5 (jbF q.D)):AV)) (by kernel_rfl) ?_
    refine⟨h31,fun c=>(by cases c),fun _=>⟨fun c=>absurd (of_decide_eq_true c) (by omega),fun _=>⟨h22,fun c=>(by cases c),fun _=>⟨⟨by omega,by omega⟩,?_⟩⟩⟩⟩
    refine Again.mkR [(111901,901),(111902,902),(111903,903)] rfl (i+1,q3,fin) ?_ ⟨by show i+1≤200;omega,hi2.up (by show n0+i≤n0+(i+1);omega),by show q3.W.length+q3.L.length+q3.D.length+fin=jobs;omega,by show q3.D.length+q3.L.length≤_;omega,hD,by show i+1+meas q3≤100;omega⟩ (by show 200-(i+1)<200-i;omega)
    exact AS.leA (by kernel_rfl)
   ·refine walkK (orc:=orc7n q q (nextR q).1 true) (keep:=[]) (cuts:=[29,33]) (n:=1000) follows ?_
    refine of_rd (fun ZT ZW ZQ _ _ ZR=>(FnM Tryz.prog G 31 [(.box 1000000 0)] [(1000000,[(vi q.ll),(vi q.lt),(vi q.lp),(vi q.ls),(vi q.tick),(vi q.arr),(vi q.num),(.vec 1000001 8 0 q.W.length),(.vec 1000002 11 0 q.L.length),(.vec 1000003 5 0 q.D.length),(.mapv 1000004)]),(1000001,[(.arr ⟨true,39,false,none⟩ 8 (wtF q.W))]),(1000002,[(.arr ⟨true,41,false,none⟩ 11 (lsF q.L))]),(1000003,[(.arr ⟨true,35,false,none⟩ 5 (jbF q.D))]),(1000004,[(.mp none (svF q.sv) q.has)])] (.d (.tup [(di (nextR q).fst),(db true)])) [(1000000,[(vi q.ll),(vi q.lt),(vi q.lp),(vi q.ls),(vi q.tick),(vi q.arr),(vi q.num),(.vec 1000001 8 0 q.W.length),(.vec 1000002 11 0 q.L.length),(.vec 1000003 5 0 q.D.length),(.mapv 1000004)]),(1000001,[(.arr ⟨true,39,false,none⟩ 8 (wtF q.W))]),(1000002,[(.arr ⟨true,41,false,none⟩ 11 (lsF q.L))]),(1000003,[(.arr ⟨true,35,false,none⟩ 5 (jbF q.D))]),(1000004,[(.mp none (svF q.sv) q.has)])]∧((false=true)→ZW [cd Tryz.f7 [1,1,1,1,1,1,1,1,1,1]] (stS ZT [0]) ZQ)∧((false=false)→((((decide ((nextR q).fst>1099511627776))=true)→(ZS ((db true):DV)))∧(((decide ((nextR q).fst>1099511627776))=false)→ZW [cd Tryz.f7 [1,1,1,1,1,1,1,1,1,0,1,0,0,1,1,0,0,1,1,1,1,1],(.blk 3),cd Tryz.f7 [1,1,1,1,1,1,1,1,1,0,1,0,0,1,1,1]] (stS ZT [1,1]) ZR))))) (by kernel_rfl) ?_
    exact⟨h31,fun c=>(by cases c),fun _=>⟨fun _=>rfl,fun c=>absurd (of_decide_eq_false c) (by omega)⟩⟩
 ·have hd:=lease_done hinv hb
  rw[if_neg hb] at hz
  have hz2:(leaR q sWorker q.tick).2.1=0:=by rw[hz]
  rw[hz2] at h20
  revert h20 hi1 hd
  generalize (leaR q sWorker q.tick).1=l
  generalize (leaR q sWorker q.tick).2.2=q1
  intro h20 hi1 hd
  have h22:=f22T (G:=G) hi1 (by omega) l.no q1.tick
  have hi2:=end_inv hi1 l.no q1.tick
  obtain ⟨he,hd⟩:=hd
  rw[he] at h22 hi2
  dsimp only at h22 hi2
  revert h22 hi2 hd
  clear he
  generalize (endR q1 l.no q1.tick).2.2=q3
  intro h22 hi2 hd
  have hd1:=hd.W;have hd2:=hd.L;have hd3:=hd.D;have hd4:=hd.meas
  refine walkK (orc:=orc7 q q1 l jb0 0) (keep:=[]) (cuts:=[21,25]) (n:=1000) follows ?_
  refine of_rd (fun ZT ZW ZQ _ _ ZR=>(fun Za Zb Zc=>((((decide ((↑i:Int)<200))=true)→((FnM Tryz.prog G 21 [(.box 1000000 0)] [(1000000,[(vi q.ll),(vi q.lt),(vi q.lp),(vi q.ls),(vi q.tick),(vi q.arr),(vi q.num),(.vec 1000001 8 0 q.W.length),(.vec 1000002 11 0 q.L.length),(.vec 1000003 5 0 q.D.length),(.mapv 1000004)]),(1000001,[Zb]),(1000002,[Za]),(1000003,[Zc]),(1000004,[(.mp none (svF q.sv) q.has)])] (vi q.tick) [(1000000,[(vi q.ll),(vi q.lt),(vi q.lp),(vi q.ls),(vi q.tick),(vi q.arr),(vi q.num),(.vec 1000001 8 0 q.W.length),(.vec 1000002 11 0 q.L.length),(.vec 1000003 5 0 q.D.length),(.mapv 1000004)]),(1000001,[Zb]),(1000002,[Za]),(1000003,[Zc]),(1000004,[(.mp none (svF q.sv) q.has)])]∧([(vi q.ll),(vi q.lt),(vi q.lp),(vi q.ls),(vi q.tick),(vi q.arr),(vi q.num),(.vec 901 8 0 q.W.length),(.vec 902 11 0 q.L.length),(.vec 903 5 0 q.D.length),(.mapv 35904)]:(List AV))=[(vi q.ll),(vi q.lt),(vi q.lp),(vi q.ls),(vi q.tick),(vi q.arr),(vi q.num),(.vec 901 8 0 q.W.length),(.vec 902 11 0 q.L.length),(.vec 903 5 0 q.D.length),(.mapv 35904)]∧([Zb]:(List AV))=[Zb]∧([Za]:(List AV))=[Za]∧([Zc]:(List AV))=[Zc]∧([(.mp none (svF q.sv) q.has)]:(List AV))=[(.mp none (svF q.sv) q.has)]∧FnM Tryz.prog G 20 [(.box 1000000 0),(vs (ByteArray.mk #[119,111,114,107,101,114])),(vi q.tick)] [(1000000,[(vi q.ll),(vi q.lt),(vi q.lp),(vi q.ls),(vi q.tick),(vi q.arr),(vi q.num),(.vec 1000001 8 0 q.W.length),(.vec 1000002 11 0 q.L.length),(.vec 1000003 5 0 q.D.length),(.mapv 1000004)]),(1000001,[Zb]),(1000002,[Za]),(1000003,[Zc]),(1000004,[(.mp none (svF q.sv) q.has)])] (.d (.tup [(.agg [(di l.no),(di l.un),(ds l.wk),(ds l.w.j.st),(ds l.w.j.ex),(di l.w.j.no),(di l.w.j.ve),(di l.w.j.pr),(di l.w.tr),(di l.w.ar),(di l.w.fr)]),(di 0)])) [(1000000,[(vi q1.ll),(vi q1.lt),(vi q1.lp),(vi q1.ls),(vi q1.tick),(vi q1.arr),(vi q1.num),(.vec 901 8 0 q1.W.length),(.vec 902 11 0 q1.L.length),(.vec 903 5 0 q1.D.length),(.mapv 1000004)]),(901,[(.arr ⟨true,39,false,none⟩ 8 (wtF q1.W))]),(902,[(.arr ⟨true,41,false,none⟩ 11 (lsF q1.L))]),(903,[(.arr ⟨true,35,false,none⟩ 5 (jbF q1.D))]),(1000004,[(.mp none (svF q1.sv) q1.has)])])∧((true=true)→ZW [cd Tryz.f7 [1,1,1,1,1,1,1,1,1,0,1,0,0,1,1,0,0,1,0,1,0,0],cd Tryz.f7 [1,1,1,1,1,1,1,1,1,0,1,0,0,1,1,0,0,1,0,1,0,1],cd Tryz.f7 [1,1,1,1,1,1,1,1,1,0,1,0,0,1,1,0,0,1,1],(.blk 3),cd Tryz.f7 [1,1,1,1,1,1,1,1,1,0,1,0,0,1,1,1]] (stS ZT [0,0]) ZR)∧((true=false)→ZW [cd Tryz.f7 [1,1,1,1,1,1,1,1,1,0,1,0,0,1,1,0,0,1,1],(.blk 3),cd Tryz.f7 [1,1,1,1,1,1,1,1,1,0,1,0,0,1,1,1]] (stS ZT [0,1]) ZR)))∧(((decide ((↑i:Int)<200))=false)→ZW [cd Tryz.f7 [1,1,1,1,1,1,1,1,1,1]] (stS ZT [1]) ZQ))) ((.arr ⟨true,41,false,none⟩ 11 (lsF q.L)):AV) ((.arr ⟨true,39,false,none⟩ 8 (wtF q.W)):AV) ((.arr ⟨true,35,false,none⟩ 5 (jbF q.D)):AV)) (by kernel_rfl) ?_
  refine⟨fun _=>⟨⟨f21 q,rfl,rfl,rfl,rfl,rfl,h20⟩,fun _=>?_,fun c=>(by cases c)⟩,fun c=>absurd (of_decide_eq_false c) (by omega)⟩
  refine AWP.weaken (st':=S7b q1 74901 74902 74903 jobs dead begun fin i [(13,.box 13 0)] [(13,(lsL l).map .d)]) ?_ ?_
  ·exact AS.leA (by kernel_rfl)
  refine walkK (orc:=orc7 q1 q3 l l.w.j 0) (keep:=[]) (cuts:=[23,33]) (n:=1000) follows ?_
  refine of_rd (fun ZT ZW _ _ ZA ZR=>(fun Za Zb Zc Zd=>((FnM Tryz.prog G 21 [(.box 1000000 0)] [(1000000,[(vi q1.ll),(vi q1.lt),(vi q1.lp),(vi q1.ls),(vi q1.tick),(vi q1.arr),(vi q1.num),(.vec 1000001 8 0 q1.W.length),(.vec 1000002 11 0 q1.L.length),(.vec 1000003 5 0 q1.D.length),(.mapv 1000004)]),(1000001,[Zc]),(1000002,[Zb]),(1000003,[Zd]),(1000004,[(.mp none (svF q1.sv) q1.has)])] (vi q1.tick) [(1000000,[(vi q1.ll),(vi q1.lt),(vi q1.lp),(vi q1.ls),(vi q1.tick),(vi q1.arr),(vi q1.num),(.vec 1000001 8 0 q1.W.length),(.vec 1000002 11 0 q1.L.length),(.vec 1000003 5 0 q1.D.length),(.mapv 1000004)]),(1000001,[Zc]),(1000002,[Zb]),(1000003,[Zd]),(1000004,[(.mp none (svF q1.sv) q1.has)])]∧([(vi q1.ll),(vi q1.lt),(vi q1.lp),(vi q1.ls),(vi q1.tick),(vi q1.arr),(vi q1.num),(.vec 74901 8 0 q1.W.length),(.vec 74902 11 0 q1.L.length),(.vec 74903 5 0 q1.D.length),(.mapv 35904)]:(List AV))=[(vi q1.ll),(vi q1.lt),(vi q1.lp),(vi q1.ls),(vi q1.tick),(vi q1.arr),(vi q1.num),(.vec 74901 8 0 q1.W.length),(.vec 74902 11 0 q1.L.length),(.vec 74903 5 0 q1.D.length),(.mapv 35904)]∧([Zc]:(List AV))=[Zc]∧([Zb]:(List AV))=[Zb]∧([Zd]:(List AV))=[Zd]∧([(.mp none (svF q1.sv) q1.has)]:(List AV))=[(.mp none (svF q1.sv) q1.has)]∧FnM Tryz.prog G 22 [(.box 1000000 0),(vi l.no),(vi q1.tick)] [(1000000,[(vi q1.ll),(vi q1.lt),(vi q1.lp),(vi q1.ls),(vi q1.tick),(vi q1.arr),(vi q1.num),(.vec 1000001 8 0 q1.W.length),(.vec 1000002 11 0 q1.L.length),(.vec 1000003 5 0 q1.D.length),(.mapv 1000004)]),(1000001,[Zc]),(1000002,[Zb]),(1000003,[Zd]),(1000004,[(.mp none (svF q1.sv) q1.has)])] (.d (.tup [(.agg [(ds l.w.j.st),(ds l.w.j.ex),(di l.w.j.no),(di l.w.j.ve),(di l.w.j.pr)]),(di 0)])) [(1000000,[(vi q3.ll),(vi q3.lt),(vi q3.lp),(vi q3.ls),(vi q3.tick),(vi q3.arr),(vi q3.num),(.vec 901 8 0 q3.W.length),(.vec 902 11 0 q3.L.length),(.vec 903 5 0 q3.D.length),(.mapv 1000004)]),(901,[(.arr ⟨true,39,false,none⟩ 8 (wtF q3.W))]),(902,[(.arr ⟨true,41,false,none⟩ 11 (lsF q3.L))]),(903,[(.arr ⟨true,35,false,none⟩ 5 (jbF q3.D))]),(1000004,[(.mp none (svF q3.sv) q3.has)])])∧((Za=true)→ZW [cd Tryz.f7 [1,1,1,1,1,1,1,1,1,0,1,0,0,1,1,0,0,1,0,1,0,0,1,1,0],cd Tryz.f7 [1,1,1,1,1,1,1,1,1,0,1,0,0,1,1,0,0,1,0,1,0,1],cd Tryz.f7 [1,1,1,1,1,1,1,1,1,0,1,0,0,1,1,0,0,1,1],(.blk 3),cd Tryz.f7 [1,1,1,1,1,1,1,1,1,0,1,0,0,1,1,1]] (stS ZT [0]) ZR)∧((Za=false)→((I64 (↑fin+1))∧(I64 (↑i+1))∧(ZA (stS ZT [1])))))) ((0:Int) != (0:Int)||!Bool.rec false (Jb.ve (Wt.j (Ls.w l))==Jb.ve (Wt.j (Ls.w l))&&Jb.pr (Wt.j (Ls.w l))==Jb.pr (Wt.j (Ls.w l))) (ByteArray.toList (Jb.st (Wt.j (Ls.w l)))==ByteArray.toList (Jb.st (Wt.j (Ls.w l)))&&(ByteArray.toList (Jb.ex (Wt.j (Ls.w l)))==ByteArray.toList (Jb.ex (Wt.j (Ls.w l)))&&Jb.no (Wt.j (Ls.w l))==Jb.no (Wt.j (Ls.w l))))) ((.arr ⟨true,41,false,none⟩ 11 (lsF q1.L)):AV) ((.arr ⟨true,39,false,none⟩ 8 (wtF q1.W)):AV) ((.arr ⟨true,35,false,none⟩ 5 (jbF q1.D)):AV)) (by kernel_rfl) ?_
  dsimp only
  rw[brec,eqJ,decide_eq_true rfl]
  refine⟨⟨f21 q1,rfl,rfl,rfl,rfl,rfl,h22⟩,fun c=>(by cases c),fun _=>⟨⟨by omega,by omega⟩,⟨by omega,by omega⟩,?_⟩⟩
  refine Again.mkR [(85901,901),(85902,902),(85903,903)] rfl (i+1,q3,fin+1) ?_ ⟨by show i+1≤200;omega,hi2,by show q3.W.length+q3.L.length+q3.D.length+(fin+1)=jobs;omega,by show q3.D.length+q3.L.length≤_;omega,by show dead≤q3.D.length;omega,by show i+1+meas q3≤100;omega⟩ (by show 200-(i+1)<200-i;omega)
  exact AS.leA (by kernel_rfl)
noncomputable def d7 (f1:Bool):Oracle:=fun f _=>match f with
 | 8=>some (db true)
 | 9=>some (db f1)
 | 10=>some (.tup [.con (.pointer none),di 1])
 | _=>none
noncomputable def orc7a (f1:Bool):Orc:={ d:=d7 f1 }
noncomputable def m7b (q:Qm):FuncId→List AV→List (Nat×List AV)→Option (AV×List (Nat×List AV)):=fun f _ _=>match f with
 | 10=>some (.tup [.box 900 0,vi 0],qAt 900 q)
 | _=>none
noncomputable def orc7b (q:Qm):Orc:={ d:=noO,m:=m7b q }
theorem f7 (a b c0 d:Int) (l:List Ac) (hl:l.length≤9223372036854775807):FnOK Tryz.prog G 7 [lmD a b c0 d,acsD l] (db true):=by
 refine FnOK.of_body Tryz.func7 rfl Tryz.call7 ?_
 refine walkK (orc:=orc7a (fewA l 30)) (keep:=[]) (cuts:=[5]) (n:=1000) follows ?_
 refine of_tr (fun ZT ZW ZQ ZK=>(ZK 8 [] (db true)∧((false=true)→(((db false):DV)=(db true)))∧((false=false)→(ZK 9 [(.slc 9 l.length (acF l)),(di 30)] (db (fewA l 30))∧(((!fewA l 30||decide (a>1048576))=true)→(ZS ((db true):DV)))∧(((!fewA l 30||decide (a>1048576))=false)→ZW [cd Tryz.f7 [1,1,1]] (stS ZT [1,1]) ZQ))))) (by kernel_rfl) ?_
 refine⟨f8,fun c=>(by cases c),fun _=>⟨f9 l 30 hl,fun _=>rfl,fun c=>?_⟩⟩
 by_cases hn:newB a b c0 d=true
 ·refine walkK (orc:=orc7b (newQ a b c0 d)) (keep:=[]) (cuts:=[]) (n:=1000) follows ?_
  refine of_tr (fun ZT ZW ZQ _=>(FnM Tryz.prog G 10 [(.d (.agg [(di a),(di b),(di c0),(di d)]))] [] (.tup [(.box 900 0),(vi 0)]) [(900,[(vi a),(vi b),(vi c0),(vi d),(vi 0),(vi 0),(vi 0),(.vec 901 8 0 0),(.vec 902 11 0 0),(.vec 903 5 0 0),(.mapv 904)]),(901,[(.arr ⟨true,39,false,none⟩ 8 (wtF []))]),(902,[(.arr ⟨true,41,false,none⟩ 11 (lsF []))]),(903,[(.arr ⟨true,35,false,none⟩ 5 (jbF []))]),(904,[(.mp none (svF fun x=>0) (fun x=>false))])]∧((false=true)→(((db false):DV)=(db true)))∧((false=false)→ZW [cd Tryz.f7 [1,1,1,1,1,0,1,0],(.blk 0),cd Tryz.f7 [1,1,1,1,1,1]] (stS ZT [1]) ZQ))) (by kernel_rfl) ?_
  refine⟨f10_ok a b c0 d hn,fun c=>(by cases c),fun _=>?_⟩
  rw[Bool.or_eq_false_iff] at c
  obtain ⟨hs,hlen⟩:=small_of (l:=l) (m:=30) (by simpa using c.1)
  refine AWP.weaken (st':=S7 l (newQ a b c0 d) 35901 35902 35903 0) ?_ ?_
  ·exact AS.leA (by kernel_rfl)
  refine AWP.pre (.moves [(35901,901),(35902,902),(35903,903)] _ rfl) ?_
  refine AWP.loop (c:=cAt (bodyOf Tryz.f7) [1,1,1,1,1,0,1,0,0]) (by kernel_rfl) (fun x:Nat×Qm=>S7 l x.2 901 902 903 x.1) (fun x=>x.1≤l.length∧Inv x.1 x.2) (fun x=>l.length-x.1) (0,newQ a b c0 d) ?_ ⟨Nat.zero_le _,new_inv hn⟩ ?_
  ·exact AS.leA (by kernel_rfl)
  ·rintro ⟨k,q⟩ ⟨hk,hi⟩
   dsimp only at hk hi
   by_cases hk2:k<l.length
   ·have h11:=f11T (G:=G) hi (by omega) (l.getD k ac0) (hs _ (getD_mem hk2))
    have hi2:=do_inv hi (l.getD k ac0)
    revert h11 hi2
    generalize doR q (l.getD k ac0)=r
    obtain ⟨⟨l1,j,e⟩,q1⟩:=r
    intro h11 hi2
    dsimp only at h11 hi2
    refine walkK (orc:=orc7 q q1 l1 j e) (keep:=[]) (cuts:=[13]) (n:=1000) follows ?_
    refine of_rd (fun ZT ZW ZQ _ ZA _=>((((decide ((↑k:Int)<↑l.length))=true)→(((0≤(↑k:Int))∧((↑k:Int)<↑l.length))∧FnM Tryz.prog G 11 [(.box 1000000 0),(.d (.agg [(di (l.getD (↑k:Int).toNat ac0).kd),(di (l.getD (↑k:Int).toNat ac0).tk),(di (l.getD (↑k:Int).toNat ac0).nu),(ds (l.getD (↑k:Int).toNat ac0).j.st),(ds (l.getD (↑k:Int).toNat ac0).j.ex),(di (l.getD (↑k:Int).toNat ac0).j.no),(di (l.getD (↑k:Int).toNat ac0).j.ve),(di (l.getD (↑k:Int).toNat ac0).j.pr),(ds (l.getD (↑k:Int).toNat ac0).wk)]))] [(1000000,[(vi q.ll),(vi q.lt),(vi q.lp),(vi q.ls),(vi q.tick),(vi q.arr),(vi q.num),(.vec 1000001 8 0 q.W.length),(.vec 1000002 11 0 q.L.length),(.vec 1000003 5 0 q.D.length),(.mapv 1000004)]),(1000001,[(.arr ⟨true,39,false,none⟩ 8 (wtF q.W))]),(1000002,[(.arr ⟨true,41,false,none⟩ 11 (lsF q.L))]),(1000003,[(.arr ⟨true,35,false,none⟩ 5 (jbF q.D))]),(1000004,[(.mp none (svF q.sv) q.has)])] (.d (.tup [(.agg [(di l1.no),(di l1.un),(ds l1.wk),(ds l1.w.j.st),(ds l1.w.j.ex),(di l1.w.j.no),(di l1.w.j.ve),(di l1.w.j.pr),(di l1.w.tr),(di l1.w.ar),(di l1.w.fr)]),(.agg [(ds j.st),(ds j.ex),(di j.no),(di j.ve),(di j.pr)]),(di e)])) [(1000000,[(vi q1.ll),(vi q1.lt),(vi q1.lp),(vi q1.ls),(vi q1.tick),(vi q1.arr),(vi q1.num),(.vec 901 8 0 q1.W.length),(.vec 902 11 0 q1.L.length),(.vec 903 5 0 q1.D.length),(.mapv 1000004)]),(901,[(.arr ⟨true,39,false,none⟩ 8 (wtF q1.W))]),(902,[(.arr ⟨true,41,false,none⟩ 11 (lsF q1.L))]),(903,[(.arr ⟨true,35,false,none⟩ 5 (jbF q1.D))]),(1000004,[(.mp none (svF q1.sv) q1.has)])]∧(I64 (↑k+1))∧(ZA (stS ZT [0]))))∧(((decide ((↑k:Int)<↑l.length))=false)→ZW [cd Tryz.f7 [1,1,1,1,1,1]] (stS ZT [1]) ZQ))) (by kernel_rfl) ?_
    refine⟨fun _=>⟨⟨by omega,by omega⟩,h11,⟨by omega,by omega⟩,?_⟩,fun h=>absurd (of_decide_eq_false h) (by omega)⟩
    refine Again.mkR [(54901,901),(54902,902),(54903,903)] rfl (k+1,q1) ?_ ⟨hk2,hi2⟩ (by show l.length-(k+1)<l.length-k;omega)
    exact AS.leA (by kernel_rfl)
   ·obtain rfl:k=l.length:=by omega
    show AWP _ _ _ (S7 l q 901 902 903 l.length) _
    refine walkK (orc:=noO) (keep:=[]) (cuts:=[10,13]) (n:=1000) follows ?_
    refine of_rd (fun ZT ZW ZQ _ _ ZR=>((((decide ((↑l.length:Int)<↑l.length))=true)→ZW [cd Tryz.f7 [1,1,1,1,1,0,1,0,0,1,1,0,0],(.blk 1),cd Tryz.f7 [1,1,1,1,1,0,1,0,0,1,1,1]] (stS ZT [0]) ZR)∧(((decide ((↑l.length:Int)<↑l.length))=false)→ZW [cd Tryz.f7 [1,1,1,1,1,1]] (stS ZT [1]) ZQ))) (by kernel_rfl) ?_
    refine⟨fun h=>absurd (of_decide_eq_true h) (by omega),fun _=>?_⟩
    have hlq:=hi.len
    have hjl:=jobsQ_len q
    refine walkK (orc:=orc7 q q ls0 jb0 0) (keep:=[]) (cuts:=[15]) (n:=1000) follows ?_
    refine of_tr (fun ZT ZW ZQ _=>(fun Za Zb Zc=>((FnM Tryz.prog G 21 [(.box 1000000 0)] [(1000000,[(vi q.ll),(vi q.lt),(vi q.lp),(vi q.ls),(vi q.tick),(vi q.arr),(vi q.num),(.vec 1000001 8 0 q.W.length),(.vec 1000002 11 0 q.L.length),(.vec 1000003 5 0 q.D.length),(.mapv 1000004)]),(1000001,[Zb]),(1000002,[Za]),(1000003,[Zc]),(1000004,[(.mp none (svF q.sv) q.has)])] (vi q.tick) [(1000000,[(vi q.ll),(vi q.lt),(vi q.lp),(vi q.ls),(vi q.tick),(vi q.arr),(vi q.num),(.vec 1000001 8 0 q.W.length),(.vec 1000002 11 0 q.L.length),(.vec 1000003 5 0 q.D.length),(.mapv 1000004)]),(1000001,[Zb]),(1000002,[Za]),(1000003,[Zc]),(1000004,[(.mp none (svF q.sv) q.has)])]∧([(vi q.ll),(vi q.lt),(vi q.lp),(vi q.ls),(vi q.tick),(vi q.arr),(vi q.num),(.vec 901 8 0 q.W.length),(.vec 902 11 0 q.L.length),(.vec 903 5 0 q.D.length),(.mapv 35904)]:(List AV))=[(vi q.ll),(vi q.lt),(vi q.lp),(vi q.ls),(vi q.tick),(vi q.arr),(vi q.num),(.vec 901 8 0 q.W.length),(.vec 902 11 0 q.L.length),(.vec 903 5 0 q.D.length),(.mapv 35904)]∧([Zb]:(List AV))=[Zb]∧([Za]:(List AV))=[Za]∧([Zc]:(List AV))=[Zc]∧([(.mp none (svF q.sv) q.has)]:(List AV))=[(.mp none (svF q.sv) q.has)])∧(((decide (q.tick>549755813888))=true)→(ZS ((db true):DV)))∧(((decide (q.tick>549755813888))=false)→ZW [cd Tryz.f7 [1,1,1,1,1,1,1]] (stS ZT [1]) ZQ))) ((.arr ⟨true,41,false,none⟩ 11 (lsF q.L)):AV) ((.arr ⟨true,39,false,none⟩ 8 (wtF q.W)):AV) ((.arr ⟨true,35,false,none⟩ 5 (jbF q.D)):AV)) (by kernel_rfl) ?_
    refine⟨⟨f21 q,rfl,rfl,rfl,rfl,rfl⟩,fun _=>rfl,fun c2=>?_⟩
    refine walkK (orc:=orc7 q q ls0 jb0 0) (keep:=[]) (cuts:=[]) (n:=1000) follows ?_
    refine of_tr (fun ZT ZW ZQ _=>(fun Za Zb Zc Zd Ze Zf=>((FnM Tryz.prog G 18 [(.box 1000000 0)] [(1000000,[(vi q.ll),(vi q.lt),(vi q.lp),(vi q.ls),(vi q.tick),(vi q.arr),(vi q.num),(.vec 1000001 8 0 q.W.length),Ze,(.vec 1000003 5 0 q.D.length),(.mapv 1000004)]),(1000001,[Zb]),(1000002,[Za]),(1000003,[Zc]),(1000004,[(.mp none (svF q.sv) q.has)])] (.d (.slc 5 (jobsQ q).length (jbF (jobsQ q)))) [(1000000,[(vi q.ll),(vi q.lt),(vi q.lp),(vi q.ls),(vi q.tick),(vi q.arr),(vi q.num),(.vec 1000001 8 0 q.W.length),Ze,(.vec 1000003 5 0 q.D.length),(.mapv 1000004)]),(1000001,[Zb]),(1000002,[Za]),(1000003,[Zc]),(1000004,[(.mp none (svF q.sv) q.has)])]∧Zd=[(vi q.ll),(vi q.lt),(vi q.lp),(vi q.ls),(vi q.tick),(vi q.arr),(vi q.num),(.vec 901 8 0 q.W.length),(.vec 902 11 0 q.L.length),(.vec 903 5 0 q.D.length),(.mapv 35904)]∧([Zb]:(List AV))=[Zb]∧([Za]:(List AV))=[Za]∧([Zc]:(List AV))=[Zc]∧Zf=[(.mp none (svF q.sv) q.has)]∧FnM Tryz.prog G 24 [(.box 1000000 0)] [(1000000,[(vi q.ll),(vi q.lt),(vi q.lp),(vi q.ls),(vi q.tick),(vi q.arr),(vi q.num),(.vec 1000001 8 0 q.W.length),Ze,(.vec 1000003 5 0 q.D.length),(.mapv 1000004)]),(1000001,[Zb]),(1000002,[Za]),(1000003,[Zc]),(1000004,[(.mp none (svF q.sv) q.has)])] (.d (.slc 5 q.D.length (jbF q.D))) [(1000000,[(vi q.ll),(vi q.lt),(vi q.lp),(vi q.ls),(vi q.tick),(vi q.arr),(vi q.num),(.vec 1000001 8 0 q.W.length),Ze,(.vec 1000003 5 0 q.D.length),(.mapv 1000004)]),(1000001,[Zb]),(1000002,[Za]),(1000003,[Zc]),(1000004,[(.mp none (svF q.sv) q.has)])]∧Zd=[(vi q.ll),(vi q.lt),(vi q.lp),(vi q.ls),(vi q.tick),(vi q.arr),(vi q.num),(.vec 901 8 0 q.W.length),(.vec 902 11 0 q.L.length),(.vec 903 5 0 q.D.length),(.mapv 35904)]∧([Zb]:(List AV))=[Zb]∧([Za]:(List AV))=[Za]∧([Zc]:(List AV))=[Zc]∧Zf=[(.mp none (svF q.sv) q.has)])∧(FnM Tryz.prog G 12 [(.box 1000000 0)] [(1000000,[(vi q.ll),(vi q.lt),(vi q.lp),(vi q.ls),(vi q.tick),(vi q.arr),(vi q.num),(.vec 1000001 8 0 q.W.length),Ze,(.vec 1000003 5 0 q.D.length),(.mapv 1000004)]),(1000001,[Zb]),(1000002,[Za]),(1000003,[Zc]),(1000004,[(.mp none (svF q.sv) q.has)])] (.d (.slc 11 q.L.length (lsF q.L))) [(1000000,[(vi q.ll),(vi q.lt),(vi q.lp),(vi q.ls),(vi q.tick),(vi q.arr),(vi q.num),(.vec 1000001 8 0 q.W.length),Ze,(.vec 1000003 5 0 q.D.length),(.mapv 1000004)]),(1000001,[Zb]),(1000002,[Za]),(1000003,[Zc]),(1000004,[(.mp none (svF q.sv) q.has)])]∧Zd=[(vi q.ll),(vi q.lt),(vi q.lp),(vi q.ls),(vi q.tick),(vi q.arr),(vi q.num),(.vec 901 8 0 q.W.length),(.vec 902 11 0 q.L.length),(.vec 903 5 0 q.D.length),(.mapv 35904)]∧([Zb]:(List AV))=[Zb]∧([Za]:(List AV))=[Za]∧([Zc]:(List AV))=[Zc]∧Zf=[(.mp none (svF q.sv) q.has)])∧ZW [cd Tryz.f7 [1,1,1,1,1,1,1,1,1,0,1,0],(.blk 2),cd Tryz.f7 [1,1,1,1,1,1,1,1,1,1]] (stS ZT []) ZQ)) ((.arr ⟨true,41,false,none⟩ 11 (lsF q.L)):AV) ((.arr ⟨true,39,false,none⟩ 8 (wtF q.W)):AV) ((.arr ⟨true,35,false,none⟩ 5 (jbF q.D)):AV) ([(vi q.ll),(vi q.lt),(vi q.lp),(vi q.ls),(vi q.tick),(vi q.arr),(vi q.num),(.vec 901 8 0 q.W.length),(.vec 902 11 0 q.L.length),(.vec 903 5 0 q.D.length),(.mapv 35904)]:(List AV)) ((.vec 1000002 11 0 q.L.length):AV) ([(.mp none (svF q.sv) q.has)]:(List AV))) (by kernel_rfl) ?_
    refine⟨⟨f18 q (by omega) (by omega) (by omega),rfl,rfl,rfl,rfl,rfl,f24 q (by omega),rfl,rfl,rfl,rfl,rfl⟩,⟨f12 q (by omega),rfl,rfl,rfl,rfl,rfl⟩,?_⟩
    refine AWP.loop (c:=cAt (bodyOf Tryz.f7) [1,1,1,1,1,1,1,1,1,0,1,0,0]) (by kernel_rfl) (fun x:Nat×Qm×Nat=>S7b x.2.1 901 902 903 (jobsQ q).length q.D.length q.L.length x.2.2 x.1 [] []) (I7 l.length (jobsQ q).length q.D.length q.L.length) (fun x=>200-x.1) (0,q,0) ?_ ⟨Nat.zero_le _,hi,by show q.W.length+q.L.length+q.D.length+0=_;omega,Nat.le_refl _,Nat.le_refl _,?_⟩ fun x hx=>f7_round l.length (jobsQ q).length q.D.length q.L.length (by omega) (by omega) x hx
    ·exact AS.leA (by kernel_rfl)
    ·have:futN q.W q.tick≤q.W.length:=List.countP_le_length
     show 0+meas q≤100
     unfold meas
     omega
 ·refine walkK (orc:=orc7a true) (keep:=[]) (cuts:=[]) (n:=1000) follows ?_
  refine of_tr (fun ZT ZW ZQ ZK=>(ZK 10 [(.agg [(di a),(di b),(di c0),(di d)])] (.tup [(.con (.pointer none)),(di 1)])∧((true=true)→(ZS ((db true):DV)))∧((true=false)→ZW [cd Tryz.f7 [1,1,1,1,1,0,1,0],(.blk 0),cd Tryz.f7 [1,1,1,1,1,1]] (stS ZT [1]) ZQ))) (by kernel_rfl) ?_
  exact⟨f10_no a b c0 d (by simpa using hn),fun _=>rfl,fun c=>(by cases c)⟩
end Go.Proofs
