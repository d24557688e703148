import Derived.Test.YteigabjdeaoaiaaGreatDoorAcD
import Derived.Test.YteigabjdeaoaiaaGreatDoorG4
/- The queue runs dry. -/
set_option autoImplicit false
namespace Go.Proofs
open Go Go.Ab Go.RowKit
set_option maxHeartbeats 4000000
set_option maxRecDepth 100000
variable {G:IH}
noncomputable def d7 (f1:Bool):Oracle:=fun f _=>match f with
 | 8=>some (db true)
 | 9=>some (db f1)
 | 10=>some (.tup [.con (.pointer none),di 1])
 | _=>none
noncomputable def m7b (q:Qm):FuncId→List AV→List (Nat×List AV)→Option (AV×List (Nat×List AV)):=fun f _ _=>match f with
 | 10=>some (.tup [.box 900 0,vi 0],qAt 900 q)
 | _=>none
noncomputable def orc7b (q:Qm):Orc:={ d:=noO,m:=m7b q }
end Go.Proofs
/- Leases run out. -/
namespace Go.Proofs
open Go Go.Ab Go.RowKit
set_option maxHeartbeats 4000000
set_option maxRecDepth 100000
variable {G:IH}
structure P5 where
 a:Int
 b:Int
 c:Int
 d:Int
 e:Int
noncomputable def S5 (z:P5) (q:Qm) (w l d:Nat) (p:Qm) (w2 l2 d2:Nat) (R:List (Nat×AV)) (B:List (Nat×List AV)):AS:=⟨regs Tryz.f5.ntmps ([(2,.d (.con (.int .u8 z.e))),(3,.box 3 0),(7,.box 33900 0),(9,.box 38900 0)]++R),(3,[vi z.a,vi z.b,vi z.c,vi z.d]) :: (qL q 33900 33904 w l d++(qL p 38900 38904 w2 l2 d2++B))⟩
noncomputable def m5 (q0 q:Qm) (l:Ls) (j:Jb) (e:Int):FuncId→List AV→List (Nat×List AV)→Option (AV×List (Nat×List AV)):=fun f _ _=>match f with
 | 11=>some (.d (.tup [lsD l,jbD j,di e]),qG q)
 | 20=>some (.d (.tup [lsD l,di e]),qG q)
 | 22=>some (.d (.tup [jbD j,di e]),qG q)
 | 23=>some (.d (di e),qG q)
 | 13=>some (.d (wtsD q0.W),qP q0)
 | 24=>some (.d (jbsD q0.D),qP q0)
 | 18=>some (.d (jbsD (jobsQ q0)),qP q0)
 | 21=>some (.d (di q0.tick),qP q0)
 | _=>none
noncomputable def d5c (b:Bool):Oracle:=fun f _=>match f with
 | 19=>some (db b)
 | _=>none
noncomputable def orc5 (q0 q:Qm) (l:Ls) (j:Jb) (e:Int) (b:Bool):Orc:={ d:=d5c b,m:=m5 q0 q l j e,ro:=fun f=>Nat.beq f 18 }
theorem eqLL (l:Ls):(l.no==l.no&&(l.un==l.un&&(l.wk.toList==l.wk.toList&&((l.w.j.st.toList==l.w.j.st.toList&&(l.w.j.ex.toList==l.w.j.ex.toList&&l.w.j.no==l.w.j.no))&&(l.w.j.ve==l.w.j.ve&&l.w.j.pr==l.w.j.pr)&&(l.w.tr==l.w.tr&&(l.w.ar==l.w.ar&&l.w.fr==l.w.fr))))))=true:=by
 rw[eqL];exact decide_eq_true rfl
noncomputable def S5g (z:P5) (q4 p:Qm) (l:Ls) (i:Nat):AS:=S5 z q4 133901 133902 133903 p 173901 173902 173903 [(13,.box 13 0),(15,.box 15 0),(22,vi (l.w.tr+1)),(184,.d (wtsD p.W)),(185,vi p.W.length),(186,vi i)] [(13,(lsL l).map .d),(15,(jbL l.w.j).map .d)]
theorem f5_g (z:P5) (q4:Qm) (p:Qm) (l:Ls) (ho:OutOK l p) (hlt:p.lt=z.b) (h1:p.W.length≤100000) (h3:p.D.length≤100000) (htr:I64 (l.w.tr+1)):AWP Tryz.prog G [.code (cAt (bodyOf Tryz.f5) [1,1,1,1,1,1,1,1,1,1,1,1,1,1,1,1,1,0]),.code (cAt (bodyOf Tryz.f5) [1,1,1,1,1,1,1,1,1,1,1,1,1,1,1,1,1,1])] (S5 z q4 133901 133902 133903 p 173901 173902 173903 [(13,.box 13 0),(15,.box 15 0),(20,vi 7),(21,vi 7)] [(13,(lsL l).map .d),(15,(jbL l.w.j).map .d)]) (Ret Tryz.prog Tryz.f5 (db true)):=by
 refine walkK (orc:=orc5 p p l jb0 0 true) (keep:=[]) (cuts:=[29,32,37]) (n:=1000) follows ?_
 refine of_tr (fun ZT ZW ZQ _=>(((false=true)→ZW [cd Tryz.f5 [1,1,1,1,1,1,1,1,1,1,1,1,1,1,1,1,1,0,1,0],cd Tryz.f5 [1,1,1,1,1,1,1,1,1,1,1,1,1,1,1,1,1,1]] (stS ZT [0]) ZQ)∧((false=false)→((I64 (l.w.tr+1))∧FnM Tryz.prog G 13 [(.box 1000000 0)] [(1000000,[(vi p.ll),(vi p.lt),(vi p.lp),(vi p.ls),(vi p.tick),(vi p.arr),(vi p.num),(.vec 1000001 8 0 p.W.length),(.vec 1000002 11 0 p.L.length),(.vec 1000003 5 0 p.D.length),(.mapv 1000004)]),(1000001,[(.arr ⟨true,39,false,none⟩ 8 (wtF p.W))]),(1000002,[(.arr ⟨true,41,false,none⟩ 11 (lsF p.L))]),(1000003,[(.arr ⟨true,35,false,none⟩ 5 (jbF p.D))]),(1000004,[(.mp none (svF p.sv) p.has)])] (.d (.slc 8 p.W.length (wtF p.W))) [(1000000,[(vi p.ll),(vi p.lt),(vi p.lp),(vi p.ls),(vi p.tick),(vi p.arr),(vi p.num),(.vec 1000001 8 0 p.W.length),(.vec 1000002 11 0 p.L.length),(.vec 1000003 5 0 p.D.length),(.mapv 1000004)]),(1000001,[(.arr ⟨true,39,false,none⟩ 8 (wtF p.W))]),(1000002,[(.arr ⟨true,41,false,none⟩ 11 (lsF p.L))]),(1000003,[(.arr ⟨true,35,false,none⟩ 5 (jbF p.D))]),(1000004,[(.mp none (svF p.sv) p.has)])]∧ZW [cd Tryz.f5 [1,1,1,1,1,1,1,1,1,1,1,1,1,1,1,1,1,1,1,0,1,0],(.blk 2),cd Tryz.f5 [1,1,1,1,1,1,1,1,1,1,1,1,1,1,1,1,1,1,1,1]] (stS ZT [1]) ZQ)))) (by kernel_rfl) ?_
 refine⟨fun c=>(by cases c),fun _=>⟨htr,f13 p (by omega),?_⟩⟩
 refine AWP.loop (c:=cAt (bodyOf Tryz.f5) [1,1,1,1,1,1,1,1,1,1,1,1,1,1,1,1,1,1,1,0,1,0,0]) (by kernel_rfl) (S5g z q4 p l) (fun i=>i≤p.W.length∧∀k,k<i→(p.W.getD k wt0).j≠l.w.j) (fun i=>p.W.length-i) 0 ?_ ⟨Nat.zero_le _,fun k hk=>absurd hk (Nat.not_lt_zero _)⟩ ?_
 ·exact AS.leA (by kernel_rfl)
 ·rintro i ⟨hik,hne⟩
  by_cases hi2:i<p.W.length
  ·refine walkK (orc:=orc5 p p l jb0 0 true) (keep:=[]) (cuts:=[37]) (n:=1000) follows ?_
   refine of_rd (fun ZT ZW ZQ _ ZA _=>(fun Za=>((((decide ((↑i:Int)<↑p.W.length))=true)→(((0≤(↑i:Int))∧((↑i:Int)<↑p.W.length))∧(((Bool.rec false (Za.j.ve==l.w.j.ve&&Za.j.pr==l.w.j.pr) (Za.j.st.toList==l.w.j.st.toList&&(Za.j.ex.toList==l.w.j.ex.toList&&Za.j.no==l.w.j.no)))=true)→(((db (Za.tr==l.w.tr+1&&decide (l.w.tr+1<z.b)&&Za.ar==l.w.ar&&decide (Za.fr≥l.un))):DV)=(db true)))∧(((Bool.rec false (Za.j.ve==l.w.j.ve&&Za.j.pr==l.w.j.pr) (Za.j.st.toList==l.w.j.st.toList&&(Za.j.ex.toList==l.w.j.ex.toList&&Za.j.no==l.w.j.no)))=false)→((I64 (↑i+1))∧(ZA (stS ZT [0,1]))))))∧(((decide ((↑i:Int)<↑p.W.length))=false)→ZW [cd Tryz.f5 [1,1,1,1,1,1,1,1,1,1,1,1,1,1,1,1,1,1,1,1]] (stS ZT [1]) ZQ))) (p.W.getD (↑i:Int).toNat wt0)) (by kernel_rfl) ?_
   dsimp only
   rw[show ((i:Int)).toNat=i from rfl,brec,eqJ]
   refine⟨fun _=>⟨⟨by omega,by omega⟩,fun c=>?_,fun c=>⟨⟨by omega,by omega⟩,?_⟩⟩,fun hd=>absurd (of_decide_eq_false hd) (by omega)⟩
   ·obtain ⟨w1,w2,w3,w4⟩:=ho.W _ (getD_mem (x0:=wt0) hi2) (of_decide_eq_true c)
    rw[w1,w3,decide_eq_true (by omega),decide_eq_true w4,beq_self_eq_true,beq_self_eq_true];rfl
   ·refine Again.mk (i+1) ?_ ⟨hi2,fun k hk=>?_⟩ (by show p.W.length-(i+1)<p.W.length-i;omega)
    ·exact AS.leA (by kernel_rfl)
    ·rcases Nat.lt_or_ge k i with h|h
     ·exact hne k h
     ·obtain rfl:k=i:=by omega
      exact of_decide_eq_false c
  ·obtain rfl:i=p.W.length:=by omega
   have hD:=ho.D fun w hw=>by
    obtain ⟨k,hk,rfl⟩:=List.getElem_of_mem hw
    have:=hne k hk
    rwa [List.getD,gEe hk] at this
   have h19:=f19 (G:=G) p.D l.w.j (by omega)
   rw[List.any_eq_true.2 ⟨l.w.j,hD.1,decide_eq_true rfl⟩] at h19
   refine walkK (orc:=orc5 p p l jb0 0 true) (keep:=[]) (cuts:=[33,37]) (n:=1000) follows ?_
   refine of_rd (fun ZT ZW ZQ _ _ ZR=>((((decide ((↑p.W.length:Int)<↑p.W.length))=true)→ZW [cd Tryz.f5 [1,1,1,1,1,1,1,1,1,1,1,1,1,1,1,1,1,1,1,0,1,0,0,1,1,0,0],(.blk 3),cd Tryz.f5 [1,1,1,1,1,1,1,1,1,1,1,1,1,1,1,1,1,1,1,0,1,0,0,1,1,1]] (stS ZT [0]) ZR)∧(((decide ((↑p.W.length:Int)<↑p.W.length))=false)→ZW [cd Tryz.f5 [1,1,1,1,1,1,1,1,1,1,1,1,1,1,1,1,1,1,1,1]] (stS ZT [1]) ZQ))) (by kernel_rfl) ?_
   refine⟨fun hd=>absurd (of_decide_eq_true hd) (by omega),fun _=>?_⟩
   refine walkK (orc:=orc5 p p l jb0 0 true) (keep:=[]) (cuts:=[]) (n:=1000) follows ?_
   refine of_tr (fun _ _ _ ZK=>((FnM Tryz.prog G 24 [(.box 1000000 0)] [(1000000,[(vi p.ll),(vi p.lt),(vi p.lp),(vi p.ls),(vi p.tick),(vi p.arr),(vi p.num),(.vec 1000001 8 0 p.W.length),(.vec 1000002 11 0 p.L.length),(.vec 1000003 5 0 p.D.length),(.mapv 1000004)]),(1000001,[(.arr ⟨true,39,false,none⟩ 8 (wtF p.W))]),(1000002,[(.arr ⟨true,41,false,none⟩ 11 (lsF p.L))]),(1000003,[(.arr ⟨true,35,false,none⟩ 5 (jbF p.D))]),(1000004,[(.mp none (svF p.sv) p.has)])] (.d (.slc 5 p.D.length (jbF p.D))) [(1000000,[(vi p.ll),(vi p.lt),(vi p.lp),(vi p.ls),(vi p.tick),(vi p.arr),(vi p.num),(.vec 1000001 8 0 p.W.length),(.vec 1000002 11 0 p.L.length),(.vec 1000003 5 0 p.D.length),(.mapv 1000004)]),(1000001,[(.arr ⟨true,39,false,none⟩ 8 (wtF p.W))]),(1000002,[(.arr ⟨true,41,false,none⟩ 11 (lsF p.L))]),(1000003,[(.arr ⟨true,35,false,none⟩ 5 (jbF p.D))]),(1000004,[(.mp none (svF p.sv) p.has)])]∧ZK 19 [(.slc 5 p.D.length (jbF p.D)),(.agg [(ds l.w.j.st),(ds l.w.j.ex),(di l.w.j.no),(di l.w.j.ve),(di l.w.j.pr)])] (db true))∧((db (true&&decide (l.w.tr+1≥z.b))):DV)=(db true))) (by kernel_rfl) ?_
   exact⟨⟨f24 p (by omega),h19⟩,by rw[decide_eq_true (by omega)];rfl⟩
theorem f5_e (z:P5) (hz:0≤z.e∧z.e≤255) {n:Nat} (hn:n≤1000) (q4 p:Qm) (hi:Inv n p) (l:Ls) (hl:l∈p.L) (hu:l.un≤1099511627776) (hlt:p.lt=z.b):AWP Tryz.prog G [.code (cAt (bodyOf Tryz.f5) [1,1,1,1,1,1,1,1,1,1,1,1,1,1])] (S5 z q4 133901 133902 133903 p 85901 85902 85903 [(13,.box 13 0),(15,.box 15 0)] [(13,(lsL l).map .d),(15,(jbL l.w.j).map .d)]) (Ret Tryz.prog Tryz.f5 (db true)):=by
 have hw:IntKind.i64.wrap z.e=z.e:=wrap_I64 ⟨by omega,by omega⟩
 have hun:=(hi.L l hl).2.1
 have htr:=(hi.L l hl).1
 have hbt:=hi.base.tick
 have hbl:=hi.base.lt
 have hat:l.un≤min (l.un+z.e) 1099511627776∧min (l.un+z.e) 1099511627776≤1099511627776:=by omega
 obtain ⟨e1,e2,e3,e4,e5⟩:=late hi hl hat.1 hat.2
 have hll:=e4.len
 have h22:=f22T (G:=G) hi (by omega) l.no (min (l.un+z.e) 1099511627776)
 rw[e1] at h22
 have h23:=f23T (G:=G) e4 (by omega) l.no (min (l.un+z.e) 1099511627776)
 rw[e2] at h23
 revert h22 h23 e3 e4 e5 hll
 clear e1 e2
 generalize moveQ p (min (l.un+z.e) 1099511627776)=p2
 intro e3 e4 e5 hll h22 h23
 refine walkK (orc:=orc5 p p2 l jb0 7 true) (keep:=[]) (cuts:=[28]) (n:=1000) follows ?_
 refine of_tr (fun ZT ZW ZQ _=>(fun Za Zb Zc Zd=>((I64 (l.un+IntKind.i64.wrap z.e))∧FnM Tryz.prog G 22 [(.box 1000000 0),(vi l.no),Za] [(1000000,[(vi p.ll),(vi p.lt),(vi p.lp),(vi p.ls),(vi p.tick),(vi p.arr),(vi p.num),(.vec 1000001 8 0 p.W.length),(.vec 1000002 11 0 p.L.length),(.vec 1000003 5 0 p.D.length),(.mapv 1000004)]),(1000001,[(.arr ⟨true,39,false,none⟩ 8 (wtF p.W))]),(1000002,[(.arr ⟨true,41,false,none⟩ 11 (lsF p.L))]),(1000003,[(.arr ⟨true,35,false,none⟩ 5 (jbF p.D))]),(1000004,[(.mp none (svF p.sv) p.has)])] (.d (.tup [(.agg [(ds ByteArray.empty),(ds ByteArray.empty),(di 0),(di 0),(di 0)]),(di 7)])) [(1000000,[(vi p2.ll),(vi p2.lt),(vi p2.lp),(vi p2.ls),(vi p2.tick),(vi p2.arr),(vi p2.num),(.vec 901 8 0 p2.W.length),(.vec 902 11 0 p2.L.length),(.vec 903 5 0 p2.D.length),(.mapv 1000004)]),(901,[Zc]),(902,[Zb]),(903,[Zd]),(1000004,[(.mp none (svF p2.sv) p2.has)])]∧FnM Tryz.prog G 23 [(.box 1000000 0),(vi l.no),Za] [(1000000,[(vi p2.ll),(vi p2.lt),(vi p2.lp),(vi p2.ls),(vi p2.tick),(vi p2.arr),(vi p2.num),(.vec 1000001 8 0 p2.W.length),(.vec 1000002 11 0 p2.L.length),(.vec 1000003 5 0 p2.D.length),(.mapv 1000004)]),(1000001,[Zc]),(1000002,[Zb]),(1000003,[Zd]),(1000004,[(.mp none (svF p2.sv) p2.has)])] (vi 7) [(1000000,[(vi p2.ll),(vi p2.lt),(vi p2.lp),(vi p2.ls),(vi p2.tick),(vi p2.arr),(vi p2.num),(.vec 901 8 0 p2.W.length),(.vec 902 11 0 p2.L.length),(.vec 903 5 0 p2.D.length),(.mapv 1000004)]),(901,[Zc]),(902,[Zb]),(903,[Zd]),(1000004,[(.mp none (svF p2.sv) p2.has)])]∧ZW [cd Tryz.f5 [1,1,1,1,1,1,1,1,1,1,1,1,1,1,1,1,1,0],cd Tryz.f5 [1,1,1,1,1,1,1,1,1,1,1,1,1,1,1,1,1,1]] (stS ZT []) ZQ)) (vi (if 1099511627776<l.un+IntKind.i64.wrap z.e then 1099511627776 else l.un+IntKind.i64.wrap z.e)) ((.arr ⟨true,41,false,none⟩ 11 (lsF p2.L)):AV) ((.arr ⟨true,39,false,none⟩ 8 (wtF p2.W)):AV) ((.arr ⟨true,35,false,none⟩ 5 (jbF p2.D)):AV)) (by kernel_rfl) ?_
 dsimp only
 rw[hw,minE]
 refine⟨⟨by omega,by omega⟩,h22,h23,?_⟩
 refine AWP.weaken (st':=S5 z q4 133901 133902 133903 p2 173901 173902 173903 [(13,.box 13 0),(15,.box 15 0),(20,vi 7),(21,vi 7)] [(13,(lsL l).map .d),(15,(jbL l.w.j).map .d)]) ?_ ?_
 ·exact AS.leA (by kernel_rfl)
 exact f5_g z q4 p2 l e3 (e5.trans hlt) (by omega) (by omega) ⟨by omega,by omega⟩
theorem f5_d (z:P5) (hz:0≤z.e∧z.e≤255) {n:Nat} (hn:n≤1000) (q4 p:Qm) (h4:q4.W.length≤1000∧q4.L.length≤1000∧q4.D.length≤1000) (hi:Inv n p) (l:Ls) (hl:l∈p.L) (hu:l.un≤1099511627776) (hlt:p.lt=z.b) (hno:l.w.j∉jobsQ q4):AWP Tryz.prog G [.code (cAt (bodyOf Tryz.f5) [1,1,1,1,1,1,1,1,1,1,1,1,1,0]),.code (cAt (bodyOf Tryz.f5) [1,1,1,1,1,1,1,1,1,1,1,1,1,1])] (S5 z q4 133901 133902 133903 p 85901 85902 85903 [(8,vi 0),(13,.box 13 0),(15,.box 15 0),(17,vi 7)] [(13,(lsL l).map .d),(15,(jbL l.w.j).map .d)]) (Ret Tryz.prog Tryz.f5 (db true)):=by
 have hjl:=jobsQ_len q4
 have h19:=f19 (G:=G) (jobsQ q4) l.w.j (by omega)
 have:(jobsQ q4).any (fun x=>decide (l.w.j=x))=false:=by
  rw[List.any_eq_false]
  intro x hx h
  exact hno (of_decide_eq_true h▸hx)
 rw[this] at h19
 refine walkK (orc:=orc5 q4 q4 l jb0 7 false) (keep:=[]) (cuts:=[24,25]) (n:=1000) follows ?_
 refine of_tr (fun ZT ZW ZQ ZK=>(fun Za Zb Zc Zd Ze=>((((Za=true)→FnM Tryz.prog G 18 [(.box 1000000 0)] [(1000000,[(vi q4.ll),(vi q4.lt),(vi q4.lp),(vi q4.ls),(vi q4.tick),(vi q4.arr),(vi q4.num),(.vec 1000001 8 0 q4.W.length),(.vec 1000002 11 0 q4.L.length),(.vec 1000003 5 0 q4.D.length),(.mapv 1000004)]),(1000001,[Zd]),(1000002,[Zc]),(1000003,[Ze]),(1000004,[(.mp none (svF q4.sv) q4.has)])] (.d (.slc 5 (jobsQ q4).length (jbF (jobsQ q4)))) [(1000000,[(vi q4.ll),(vi q4.lt),(vi q4.lp),(vi q4.ls),(vi q4.tick),(vi q4.arr),(vi q4.num),(.vec 1000001 8 0 q4.W.length),(.vec 1000002 11 0 q4.L.length),(.vec 1000003 5 0 q4.D.length),(.mapv 1000004)]),(1000001,[Zd]),(1000002,[Zc]),(1000003,[Ze]),(1000004,[(.mp none (svF q4.sv) q4.has)])])∧((Za=true)→(([(vi q4.ll),(vi q4.lt),(vi q4.lp),(vi q4.ls),(vi q4.tick),(vi q4.arr),(vi q4.num),(.vec 133901 8 0 q4.W.length),(.vec 133902 11 0 q4.L.length),(.vec 133903 5 0 q4.D.length),(.mapv 33904)]:(List AV))=[(vi q4.ll),(vi q4.lt),(vi q4.lp),(vi q4.ls),(vi q4.tick),(vi q4.arr),(vi q4.num),(.vec 133901 8 0 q4.W.length),(.vec 133902 11 0 q4.L.length),(.vec 133903 5 0 q4.D.length),(.mapv 33904)]))∧((Za=true)→(([Zd]:(List AV))=[Zd]))∧((Za=true)→(([Zc]:(List AV))=[Zc]))∧((Za=true)→(([Ze]:(List AV))=[Ze]))∧((Za=true)→(([(.mp none (svF q4.sv) q4.has)]:(List AV))=[(.mp none (svF q4.sv) q4.has)]))∧((Za=true)→ZK 19 [(.slc 5 (jobsQ q4).length (jbF (jobsQ q4))),(.agg [(ds l.w.j.st),(ds l.w.j.ex),(di l.w.j.no),(di l.w.j.ve),(di l.w.j.pr)])] (db false)))∧((Zb=true)→ZW [cd Tryz.f5 [1,1,1,1,1,1,1,1,1,1,1,1,1,0,1,0],cd Tryz.f5 [1,1,1,1,1,1,1,1,1,1,1,1,1,1]] (stS ZT [0]) ZQ)∧((Zb=false)→ZW [cd Tryz.f5 [1,1,1,1,1,1,1,1,1,1,1,1,1,1]] (stS ZT [1]) ZQ))) (!((0:Int) != (0:Int)||!Bool.rec false (Jb.ve (Wt.j (Ls.w l))==Jb.ve (Wt.j (Ls.w l))&&Jb.pr (Wt.j (Ls.w l))==Jb.pr (Wt.j (Ls.w l))) (ByteArray.toList (Jb.st (Wt.j (Ls.w l)))==ByteArray.toList (Jb.st (Wt.j (Ls.w l)))&&(ByteArray.toList (Jb.ex (Wt.j (Ls.w l)))==ByteArray.toList (Jb.ex (Wt.j (Ls.w l)))&&Jb.no (Wt.j (Ls.w l))==Jb.no (Wt.j (Ls.w l))))||(7:Int) != (7:Int))) ((0:Int) != (0:Int)||!Bool.rec false (Jb.ve (Wt.j (Ls.w l))==Jb.ve (Wt.j (Ls.w l))&&Jb.pr (Wt.j (Ls.w l))==Jb.pr (Wt.j (Ls.w l))) (ByteArray.toList (Jb.st (Wt.j (Ls.w l)))==ByteArray.toList (Jb.st (Wt.j (Ls.w l)))&&(ByteArray.toList (Jb.ex (Wt.j (Ls.w l)))==ByteArray.toList (Jb.ex (Wt.j (Ls.w l)))&&Jb.no (Wt.j (Ls.w l))==Jb.no (Wt.j (Ls.w l))))||(7:Int) != (7:Int)||false) ((.arr ⟨true,41,false,none⟩ 11 (lsF q4.L)):AV) ((.arr ⟨true,39,false,none⟩ 8 (wtF q4.W)):AV) ((.arr ⟨true,35,false,none⟩ 5 (jbF q4.D)):AV)) (by kernel_rfl) ?_
 dsimp only
 rw[brec,eqJ,decide_eq_true rfl]
 refine⟨⟨fun _=>f18 q4 (by omega) (by omega) (by omega),fun _=>rfl,fun _=>rfl,fun _=>rfl,fun _=>rfl,fun _=>rfl,fun _=>h19⟩,fun c=>(by cases c),fun _=>?_⟩
 refine AWP.weaken (st':=S5 z q4 133901 133902 133903 p 85901 85902 85903 [(13,.box 13 0),(15,.box 15 0)] [(13,(lsL l).map .d),(15,(jbL l.w.j).map .d)]) ?_ ?_
 ·exact AS.leA (by kernel_rfl)
 exact f5_e z hz hn q4 p hi l hl hu hlt
theorem f5_c (z:P5) (hz:0≤z.e∧z.e≤255) {n:Nat} (hn:n≤1000) (q:Qm) (hi:Inv n q) (l:Ls) (hl:l∈q.L) (hu:l.un≤1099511627776) (hlt:q.lt=z.b):AWP Tryz.prog G [.code (cAt (bodyOf Tryz.f5) [1,1,1,1,1,1,1,1,1,1,1])] (S5 z q 78901 78902 78903 q 85901 85902 85903 [(13,.box 13 0)] [(13,(lsL l).map .d)]) (Ret Tryz.prog Tryz.f5 (db true)):=by
 have hun:=(hi.L l hl).2.1
 have hbt:=hi.base.tick
 obtain ⟨e1,e2,e3,e4⟩:=early hi hl hu
 have h22:=f22T (G:=G) hi (by omega) l.no (l.un-1)
 have hi3:=end_inv hi l.no (l.un-1)
 have h22b:=f22T (G:=G) hi3 (by omega) l.no (l.un-1)
 have hi4:=end_inv hi3 l.no (l.un-1)
 rw[e1,e2] at h22
 rw[e3] at h22b
 revert h22 h22b e4 hi4
 generalize (endR (endR q l.no (l.un-1)).2.2 l.no (l.un-1)).2.2=q4
 generalize (endR (endR q l.no (l.un-1)).2.2 l.no (l.un-1)).1.w.j=j4
 generalize (endR q l.no (l.un-1)).2.2=q3
 intro e4 h22 h22b hi4
 have hl4:=hi4.len
 refine walkK (orc:=orc5 q q3 l l.w.j 0 true) (keep:=[]) (cuts:=[22]) (n:=1000) follows ?_
 refine of_tr (fun ZT ZW ZQ _=>(((I64 (l.un-1))∧FnM Tryz.prog G 22 [(.box 1000000 0),(vi l.no),(vi (l.un-1))] [(1000000,[(vi q.ll),(vi q.lt),(vi q.lp),(vi q.ls),(vi q.tick),(vi q.arr),(vi q.num),(.vec 1000001 8 0 q.W.length),(.vec 1000002 11 0 q.L.length),(.vec 1000003 5 0 q.D.length),(.mapv 1000004)]),(1000001,[(.arr ⟨true,39,false,none⟩ 8 (wtF q.W))]),(1000002,[(.arr ⟨true,41,false,none⟩ 11 (lsF q.L))]),(1000003,[(.arr ⟨true,35,false,none⟩ 5 (jbF q.D))]),(1000004,[(.mp none (svF q.sv) q.has)])] (.d (.tup [(.agg [(ds l.w.j.st),(ds l.w.j.ex),(di l.w.j.no),(di l.w.j.ve),(di l.w.j.pr)]),(di 0)])) [(1000000,[(vi q3.ll),(vi q3.lt),(vi q3.lp),(vi q3.ls),(vi q3.tick),(vi q3.arr),(vi q3.num),(.vec 901 8 0 q3.W.length),(.vec 902 11 0 q3.L.length),(.vec 903 5 0 q3.D.length),(.mapv 1000004)]),(901,[(.arr ⟨true,39,false,none⟩ 8 (wtF q3.W))]),(902,[(.arr ⟨true,41,false,none⟩ 11 (lsF q3.L))]),(903,[(.arr ⟨true,35,false,none⟩ 5 (jbF q3.D))]),(1000004,[(.mp none (svF q3.sv) q3.has)])])∧ZW [cd Tryz.f5 [1,1,1,1,1,1,1,1,1,1,1,1]] (stS ZT []) ZQ)) (by kernel_rfl) ?_
 refine⟨⟨⟨by omega,by omega⟩,h22⟩,?_⟩
 refine AWP.weaken (st':=S5 z q3 123901 123902 123903 q 85901 85902 85903 [(8,vi 0),(13,.box 13 0),(15,.box 15 0)] [(13,(lsL l).map .d),(15,(jbL l.w.j).map .d)]) ?_ ?_
 ·exact AS.leA (by kernel_rfl)
 refine walkK (orc:=orc5 q q4 l j4 7 true) (keep:=[]) (cuts:=[23]) (n:=1000) follows ?_
 refine of_tr (fun ZT ZW ZQ _=>(((I64 (l.un-1))∧FnM Tryz.prog G 22 [(.box 1000000 0),(vi l.no),(vi (l.un-1))] [(1000000,[(vi q3.ll),(vi q3.lt),(vi q3.lp),(vi q3.ls),(vi q3.tick),(vi q3.arr),(vi q3.num),(.vec 1000001 8 0 q3.W.length),(.vec 1000002 11 0 q3.L.length),(.vec 1000003 5 0 q3.D.length),(.mapv 1000004)]),(1000001,[(.arr ⟨true,39,false,none⟩ 8 (wtF q3.W))]),(1000002,[(.arr ⟨true,41,false,none⟩ 11 (lsF q3.L))]),(1000003,[(.arr ⟨true,35,false,none⟩ 5 (jbF q3.D))]),(1000004,[(.mp none (svF q3.sv) q3.has)])] (.d (.tup [(.agg [(ds j4.st),(ds j4.ex),(di j4.no),(di j4.ve),(di j4.pr)]),(di 7)])) [(1000000,[(vi q4.ll),(vi q4.lt),(vi q4.lp),(vi q4.ls),(vi q4.tick),(vi q4.arr),(vi q4.num),(.vec 901 8 0 q4.W.length),(.vec 902 11 0 q4.L.length),(.vec 903 5 0 q4.D.length),(.mapv 1000004)]),(901,[(.arr ⟨true,39,false,none⟩ 8 (wtF q4.W))]),(902,[(.arr ⟨true,41,false,none⟩ 11 (lsF q4.L))]),(903,[(.arr ⟨true,35,false,none⟩ 5 (jbF q4.D))]),(1000004,[(.mp none (svF q4.sv) q4.has)])])∧ZW [cd Tryz.f5 [1,1,1,1,1,1,1,1,1,1,1,1,1,0],cd Tryz.f5 [1,1,1,1,1,1,1,1,1,1,1,1,1,1]] (stS ZT []) ZQ)) (by kernel_rfl) ?_
 refine⟨⟨⟨by omega,by omega⟩,h22b⟩,?_⟩
 refine AWP.weaken (st':=S5 z q4 133901 133902 133903 q 85901 85902 85903 [(8,vi 0),(13,.box 13 0),(15,.box 15 0),(17,vi 7)] [(13,(lsL l).map .d),(15,(jbL l.w.j).map .d)]) ?_ ?_
 ·exact AS.leA (by kernel_rfl)
 exact f5_d z hz hn q4 q ⟨by omega,by omega,by omega⟩ hi l hl hu hlt e4
theorem f5_b (z:P5) (hz:0≤z.e∧z.e≤255) {n:Nat} (hn:n≤1000) (q:Qm) (hi:Inv n q) (l:Ls) (e:Int) (he:e≠0→l=ls0) (he0:e=0→l∈q.L) (hlt:e=0→q.lt=z.b):AWP Tryz.prog G [.code (cAt (bodyOf Tryz.f5) [1,1,1,1,1,1,1,1,1,0]),.code (cAt (bodyOf Tryz.f5) [1,1,1,1,1,1,1,1,1,1])] (S5 z q 78901 78902 78903 q 85901 85902 85903 [(8,vi e),(10,vi e),(13,.box 13 0),(14,.box 14 0)] [(13,(lsL l).map .d),(14,(lsL l).map .d)]) (Ret Tryz.prog Tryz.f5 (db true)):=by
 refine walkK (orc:=orc5 q q l jb0 e true) (keep:=[]) (cuts:=[18,20,21]) (n:=1000) follows ?_
 refine of_tr (fun ZT ZW ZQ _=>(fun Za=>(((Za=true)→ZW [cd Tryz.f5 [1,1,1,1,1,1,1,1,1,0,1,0],cd Tryz.f5 [1,1,1,1,1,1,1,1,1,1]] (stS ZT [0]) ZQ)∧((Za=false)→((((decide (l.un>1099511627776))=true)→ZW [cd Tryz.f5 [1,1,1,1,1,1,1,1,1,1,0,1,0],cd Tryz.f5 [1,1,1,1,1,1,1,1,1,1,1]] (stS ZT [1,0]) ZQ)∧(((decide (l.un>1099511627776))=false)→ZW [cd Tryz.f5 [1,1,1,1,1,1,1,1,1,1,1]] (stS ZT [1,1]) ZQ))))) (!Bool.rec false (l.un==l.un&&(l.wk.toList==l.wk.toList&&(l.w.j.st.toList==l.w.j.st.toList&&(l.w.j.ex.toList==l.w.j.ex.toList&&l.w.j.no==l.w.j.no)&&(l.w.j.ve==l.w.j.ve&&l.w.j.pr==l.w.j.pr)&&(l.w.tr==l.w.tr&&(l.w.ar==l.w.ar&&l.w.fr==l.w.fr))))) (l.no==l.no)||e != e||e != 0)) (by kernel_rfl) ?_
 dsimp only
 rw[brec,eqLL]
 have hb:(!true||e != e||e != 0)=(e != 0):=by simp
 rw[hb]
 refine⟨fun c=>?_,fun c=>⟨fun c2=>?_,fun c2=>?_⟩⟩
 ·have he:=he (by simpa using c)
  subst he
  refine walkK (orc:=orc5 q q ls0 jb0 e true) (keep:=[]) (cuts:=[]) (n:=1000) follows ?_
  refine of_tr (fun _ _ _ _=>(((db (true&&e==e&&true)):DV)=(db true))) (by kernel_rfl) ?_
  rw[beq_self_eq_true]
  rfl
 ·refine walkK (orc:=orc5 q q l jb0 e true) (keep:=[]) (cuts:=[]) (n:=1000) follows ?_
  refine of_tr (fun _ _ _ _=>(ZS ((db true):DV))) (by kernel_rfl) ?_
  rfl
 ·refine AWP.weaken (st':=S5 z q 78901 78902 78903 q 85901 85902 85903 [(13,.box 13 0)] [(13,(lsL l).map .d)]) ?_ ?_
  ·exact AS.leA (by kernel_rfl)
  exact f5_c z hz hn q hi l (he0 (by simpa using c)) (by have:=of_decide_eq_false c2;omega) (hlt (by simpa using c))
theorem f5_lease (z:P5) (hz:0≤z.e∧z.e≤255) {n:Nat} (hn:n≤900) (q:Qm) (hi:Inv n q) (hlt:q.lt=z.b):AWP Tryz.prog G [.code (cAt (bodyOf Tryz.f5) [1,1,1,1,1,1,1])] (S5 z q 901 902 903 q 911 912 913 [] []) (Ret Tryz.prog Tryz.f5 (db true)):=by
 have h20:=f20T (G:=G) hi (by omega) sWorker q.tick (by decide)
 have hi1:=lea_inv hi sWorker q.tick
 have ha:=@lea_nought _ q hi
 have hb:=@lea_zero _ q hi
 revert h20 hi1 ha hb
 generalize (leaR q sWorker q.tick).1=l
 generalize (leaR q sWorker q.tick).2.1=e
 generalize (leaR q sWorker q.tick).2.2=q1
 intro h20 hi1 ha hb
 have hlt1:e=0→q1.lt=z.b:=fun h=>(hb h).2.trans hlt
 refine walkK (orc:=orc5 q q1 l jb0 e true) (keep:=[]) (cuts:=[17]) (n:=1000) follows ?_
 refine of_tr (fun ZT ZW ZQ _=>(fun Za Zb Zc Zd Ze=>((FnM Tryz.prog G 21 [(.box 1000000 0)] [(1000000,[(vi q.ll),(vi q.lt),(vi q.lp),(vi q.ls),(vi q.tick),(vi q.arr),(vi q.num),(.vec 1000001 8 0 q.W.length),Ze,(.vec 1000003 5 0 q.D.length),(.mapv 1000004)]),(1000001,[Zb]),(1000002,[Za]),(1000003,[Zc]),(1000004,[(.mp none (svF q.sv) q.has)])] (vi q.tick) [(1000000,[(vi q.ll),(vi q.lt),(vi q.lp),(vi q.ls),(vi q.tick),(vi q.arr),(vi q.num),(.vec 1000001 8 0 q.W.length),Ze,(.vec 1000003 5 0 q.D.length),(.mapv 1000004)]),(1000001,[Zb]),(1000002,[Za]),(1000003,[Zc]),(1000004,[(.mp none (svF q.sv) q.has)])]∧FnM Tryz.prog G 20 [(.box 1000000 0),(vs (ByteArray.mk #[119,111,114,107,101,114])),(vi q.tick)] [(1000000,[(vi q.ll),(vi q.lt),(vi q.lp),(vi q.ls),(vi q.tick),(vi q.arr),(vi q.num),(.vec 1000001 8 0 q.W.length),Ze,(.vec 1000003 5 0 q.D.length),(.mapv 1000004)]),(1000001,[Zb]),(1000002,[Za]),(1000003,[Zc]),(1000004,[(.mp none (svF q.sv) q.has)])] Zd [(1000000,[(vi q1.ll),(vi q1.lt),(vi q1.lp),(vi q1.ls),(vi q1.tick),(vi q1.arr),(vi q1.num),(.vec 901 8 0 q1.W.length),(.vec 902 11 0 q1.L.length),(.vec 903 5 0 q1.D.length),(.mapv 1000004)]),(901,[(.arr ⟨true,39,false,none⟩ 8 (wtF q1.W))]),(902,[(.arr ⟨true,41,false,none⟩ 11 (lsF q1.L))]),(903,[(.arr ⟨true,35,false,none⟩ 5 (jbF q1.D))]),(1000004,[(.mp none (svF q1.sv) q1.has)])])∧(FnM Tryz.prog G 21 [(.box 1000000 0)] [(1000000,[(vi q.ll),(vi q.lt),(vi q.lp),(vi q.ls),(vi q.tick),(vi q.arr),(vi q.num),(.vec 1000001 8 0 q.W.length),Ze,(.vec 1000003 5 0 q.D.length),(.mapv 1000004)]),(1000001,[Zb]),(1000002,[Za]),(1000003,[Zc]),(1000004,[(.mp none (svF q.sv) q.has)])] (vi q.tick) [(1000000,[(vi q.ll),(vi q.lt),(vi q.lp),(vi q.ls),(vi q.tick),(vi q.arr),(vi q.num),(.vec 1000001 8 0 q.W.length),Ze,(.vec 1000003 5 0 q.D.length),(.mapv 1000004)]),(1000001,[Zb]),(1000002,[Za]),(1000003,[Zc]),(1000004,[(.mp none (svF q.sv) q.has)])]∧FnM Tryz.prog G 20 [(.box 1000000 0),(vs (ByteArray.mk #[119,111,114,107,101,114])),(vi q.tick)] [(1000000,[(vi q.ll),(vi q.lt),(vi q.lp),(vi q.ls),(vi q.tick),(vi q.arr),(vi q.num),(.vec 1000001 8 0 q.W.length),Ze,(.vec 1000003 5 0 q.D.length),(.mapv 1000004)]),(1000001,[Zb]),(1000002,[Za]),(1000003,[Zc]),(1000004,[(.mp none (svF q.sv) q.has)])] Zd [(1000000,[(vi q1.ll),(vi q1.lt),(vi q1.lp),(vi q1.ls),(vi q1.tick),(vi q1.arr),(vi q1.num),(.vec 901 8 0 q1.W.length),(.vec 902 11 0 q1.L.length),(.vec 903 5 0 q1.D.length),(.mapv 1000004)]),(901,[(.arr ⟨true,39,false,none⟩ 8 (wtF q1.W))]),(902,[(.arr ⟨true,41,false,none⟩ 11 (lsF q1.L))]),(903,[(.arr ⟨true,35,false,none⟩ 5 (jbF q1.D))]),(1000004,[(.mp none (svF q1.sv) q1.has)])])∧ZW [cd Tryz.f5 [1,1,1,1,1,1,1,1,1,0],cd Tryz.f5 [1,1,1,1,1,1,1,1,1,1]] (stS ZT []) ZQ)) ((.arr ⟨true,41,false,none⟩ 11 (lsF q.L)):AV) ((.arr ⟨true,39,false,none⟩ 8 (wtF q.W)):AV) ((.arr ⟨true,35,false,none⟩ 5 (jbF q.D)):AV) ((.d (.tup [(.agg [(di l.no),(di l.un),(ds l.wk),(ds l.w.j.st),(ds l.w.j.ex),(di l.w.j.no),(di l.w.j.ve),(di l.w.j.pr),(di l.w.tr),(di l.w.ar),(di l.w.fr)]),(di e)])):AV) ((.vec 1000002 11 0 q.L.length):AV)) (by kernel_rfl) ?_
 refine⟨⟨f21 q,h20⟩,⟨f21 q,h20⟩,?_⟩
 refine AWP.weaken (st':=S5 z q1 78901 78902 78903 q1 85901 85902 85903 [(8,vi e),(10,vi e),(13,.box 13 0),(14,.box 14 0)] [(13,(lsL l).map .d),(14,(lsL l).map .d)]) ?_ ?_
 ·exact AS.leA (by kernel_rfl)
 exact f5_b z hz (by omega) q1 hi1 l e ha (fun h=>(hb h).1) hlt1
noncomputable def S5n (z:P5) (ll:List Ac) (q:Qm) (w l d w2 l2 d2 k:Nat):AS:=S5 z q w l d q w2 l2 d2 [(60,.d (acsD ll)),(61,vi ll.length),(62,vi k)] []
noncomputable def orc5a (f1:Bool):Orc:={ d:=d7 f1 }
theorem f5 (a b c0 d:Int) (l:List Ac) (e:Int) (hl:l.length≤9223372036854775807) (he:0≤e∧e≤255):FnOK Tryz.prog G 5 [lmD a b c0 d,acsD l,.con (.int .u8 e)] (db true):=by
 refine FnOK.of_body Tryz.func5 rfl Tryz.call5 ?_
 refine walkK (orc:=orc5a (fewA l 40)) (keep:=[]) (cuts:=[5]) (n:=1000) follows ?_
 refine of_tr (fun ZT ZW ZQ ZK=>(ZK 8 [] (db true)∧((false=true)→(((db false):DV)=(db true)))∧((false=false)→(ZK 9 [(.slc 9 l.length (acF l)),(di 40)] (db (fewA l 40))∧(((!fewA l 40)=true)→(ZS ((db true):DV)))∧(((!fewA l 40)=false)→ZW [cd Tryz.f5 [1,1,1]] (stS ZT [1,1]) ZQ))))) (by kernel_rfl) ?_
 refine⟨f8,fun c=>(by cases c),fun _=>⟨f9 l 40 hl,fun _=>rfl,fun c=>?_⟩⟩
 by_cases hn:newB a b c0 d=true
 ·refine walkK (orc:=orc7b (newQ a b c0 d)) (keep:=[]) (cuts:=[]) (n:=1000) follows ?_
  refine of_tr (fun ZT ZW ZQ _=>(FnM Tryz.prog G 10 [(.d (.agg [(di a),(di b),(di c0),(di d)]))] [] (.tup [(.box 900 0),(vi 0)]) [(900,[(vi a),(vi b),(vi c0),(vi d),(vi 0),(vi 0),(vi 0),(.vec 901 8 0 0),(.vec 902 11 0 0),(.vec 903 5 0 0),(.mapv 904)]),(901,[(.arr ⟨true,39,false,none⟩ 8 (wtF []))]),(902,[(.arr ⟨true,41,false,none⟩ 11 (lsF []))]),(903,[(.arr ⟨true,35,false,none⟩ 5 (jbF []))]),(904,[(.mp none (svF fun x=>0) (fun x=>false))])]∧FnM Tryz.prog G 10 [(.d (.agg [(di a),(di b),(di c0),(di d)]))] [] (.tup [(.box 900 0),(vi 0)]) [(900,[(vi a),(vi b),(vi c0),(vi d),(vi 0),(vi 0),(vi 0),(.vec 901 8 0 0),(.vec 902 11 0 0),(.vec 903 5 0 0),(.mapv 904)]),(901,[(.arr ⟨true,39,false,none⟩ 8 (wtF []))]),(902,[(.arr ⟨true,41,false,none⟩ 11 (lsF []))]),(903,[(.arr ⟨true,35,false,none⟩ 5 (jbF []))]),(904,[(.mp none (svF fun x=>0) (fun x=>false))])]∧((false=true)→(((db false):DV)=(db true)))∧((false=false)→ZW [cd Tryz.f5 [1,1,1,1,1,1,0,1,0],(.blk 0),cd Tryz.f5 [1,1,1,1,1,1,1]] (stS ZT [1]) ZQ))) (by kernel_rfl) ?_
  refine⟨f10_ok a b c0 d hn,f10_ok a b c0 d hn,fun c=>(by cases c),fun _=>?_⟩
  obtain ⟨hs,hlen⟩:=small_of (l:=l) (m:=40) (by simpa using c)
  refine AWP.weaken (st':=S5n ⟨a,b,c0,d,e⟩ l (newQ a b c0 d) 33901 33902 33903 38901 38902 38903 0) ?_ ?_
  ·exact AS.leA (by kernel_rfl)
  refine AWP.pre (.moves [(33901,901),(33902,902),(33903,903),(38901,911),(38902,912),(38903,913)] _ rfl) ?_
  refine AWP.loop (c:=cAt (bodyOf Tryz.f5) [1,1,1,1,1,1,0,1,0,0]) (by kernel_rfl) (fun x:Nat×Qm=>S5n ⟨a,b,c0,d,e⟩ l x.2 901 902 903 911 912 913 x.1) (fun x=>x.1≤l.length∧Inv x.1 x.2∧x.2.lt=b) (fun x=>l.length-x.1) (0,newQ a b c0 d) ?_ ⟨Nat.zero_le _,new_inv hn,rfl⟩ ?_
  ·exact AS.leA (by kernel_rfl)
  ·rintro ⟨k,q⟩ ⟨hk,hi,hlt⟩
   dsimp only at hk hi hlt
   by_cases hk2:k<l.length
   ·have h11:=f11T (G:=G) hi (by omega) (l.getD k ac0) (hs _ (getD_mem hk2))
    have hi2:=do_inv hi (l.getD k ac0)
    have ht:=do_lt q (l.getD k ac0)
    revert h11 hi2 ht
    generalize doR q (l.getD k ac0)=r
    obtain ⟨⟨l1,j,e1⟩,q1⟩:=r
    intro h11 hi2 ht
    dsimp only at h11 hi2 ht
    refine walkK (orc:=orc5 q q1 l1 j e1 true) (keep:=[]) (cuts:=[15]) (n:=1000) follows ?_
    refine of_rd (fun ZT ZW ZQ _ ZA _=>(fun Za Zb=>((((decide ((↑k:Int)<↑l.length))=true)→(((0≤(↑k:Int))∧((↑k:Int)<↑l.length))∧FnM Tryz.prog G 11 [(.box 1000000 0),Za] [(1000000,[(vi q.ll),(vi q.lt),(vi q.lp),(vi q.ls),(vi q.tick),(vi q.arr),(vi q.num),(.vec 1000001 8 0 q.W.length),(.vec 1000002 11 0 q.L.length),(.vec 1000003 5 0 q.D.length),(.mapv 1000004)]),(1000001,[(.arr ⟨true,39,false,none⟩ 8 (wtF q.W))]),(1000002,[(.arr ⟨true,41,false,none⟩ 11 (lsF q.L))]),(1000003,[(.arr ⟨true,35,false,none⟩ 5 (jbF q.D))]),(1000004,[(.mp none (svF q.sv) q.has)])] Zb [(1000000,[(vi q1.ll),(vi q1.lt),(vi q1.lp),(vi q1.ls),(vi q1.tick),(vi q1.arr),(vi q1.num),(.vec 901 8 0 q1.W.length),(.vec 902 11 0 q1.L.length),(.vec 903 5 0 q1.D.length),(.mapv 1000004)]),(901,[(.arr ⟨true,39,false,none⟩ 8 (wtF q1.W))]),(902,[(.arr ⟨true,41,false,none⟩ 11 (lsF q1.L))]),(903,[(.arr ⟨true,35,false,none⟩ 5 (jbF q1.D))]),(1000004,[(.mp none (svF q1.sv) q1.has)])]∧FnM Tryz.prog G 11 [(.box 1000000 0),Za] [(1000000,[(vi q.ll),(vi q.lt),(vi q.lp),(vi q.ls),(vi q.tick),(vi q.arr),(vi q.num),(.vec 1000001 8 0 q.W.length),(.vec 1000002 11 0 q.L.length),(.vec 1000003 5 0 q.D.length),(.mapv 1000004)]),(1000001,[(.arr ⟨true,39,false,none⟩ 8 (wtF q.W))]),(1000002,[(.arr ⟨true,41,false,none⟩ 11 (lsF q.L))]),(1000003,[(.arr ⟨true,35,false,none⟩ 5 (jbF q.D))]),(1000004,[(.mp none (svF q.sv) q.has)])] Zb [(1000000,[(vi q1.ll),(vi q1.lt),(vi q1.lp),(vi q1.ls),(vi q1.tick),(vi q1.arr),(vi q1.num),(.vec 901 8 0 q1.W.length),(.vec 902 11 0 q1.L.length),(.vec 903 5 0 q1.D.length),(.mapv 1000004)]),(901,[(.arr ⟨true,39,false,none⟩ 8 (wtF q1.W))]),(902,[(.arr ⟨true,41,false,none⟩ 11 (lsF q1.L))]),(903,[(.arr ⟨true,35,false,none⟩ 5 (jbF q1.D))]),(1000004,[(.mp none (svF q1.sv) q1.has)])]∧(I64 (↑k+1))∧(ZA (stS ZT [0]))))∧(((decide ((↑k:Int)<↑l.length))=false)→ZW [cd Tryz.f5 [1,1,1,1,1,1,1]] (stS ZT [1]) ZQ))) ((.d (.agg [(di (l.getD (↑k:Int).toNat ac0).kd),(di (l.getD (↑k:Int).toNat ac0).tk),(di (l.getD (↑k:Int).toNat ac0).nu),(ds (l.getD (↑k:Int).toNat ac0).j.st),(ds (l.getD (↑k:Int).toNat ac0).j.ex),(di (l.getD (↑k:Int).toNat ac0).j.no),(di (l.getD (↑k:Int).toNat ac0).j.ve),(di (l.getD (↑k:Int).toNat ac0).j.pr),(ds (l.getD (↑k:Int).toNat ac0).wk)])):AV) ((.d (.tup [(.agg [(di l1.no),(di l1.un),(ds l1.wk),(ds l1.w.j.st),(ds l1.w.j.ex),(di l1.w.j.no),(di l1.w.j.ve),(di l1.w.j.pr),(di l1.w.tr),(di l1.w.ar),(di l1.w.fr)]),(.agg [(ds j.st),(ds j.ex),(di j.no),(di j.ve),(di j.pr)]),(di e1)])):AV)) (by kernel_rfl) ?_
    refine⟨fun _=>⟨⟨by omega,by omega⟩,h11,h11,⟨by omega,by omega⟩,?_⟩,fun h=>absurd (of_decide_eq_false h) (by omega)⟩
    refine Again.mkR [(69901,901),(69902,902),(69903,903),(72901,911),(72902,912),(72903,913)] rfl (k+1,q1) ?_ ⟨hk2,hi2,ht.trans hlt⟩ (by show l.length-(k+1)<l.length-k;omega)
    exact AS.leA (by kernel_rfl)
   ·obtain rfl:k=l.length:=by omega
    show AWP _ _ _ (S5n ⟨a,b,c0,d,e⟩ l q 901 902 903 911 912 913 l.length) _
    refine walkK (orc:=noO) (keep:=[]) (cuts:=[11,15]) (n:=1000) follows ?_
    refine of_rd (fun ZT ZW ZQ _ _ ZR=>((((decide ((↑l.length:Int)<↑l.length))=true)→ZW [cd Tryz.f5 [1,1,1,1,1,1,0,1,0,0,1,1,0,0],(.blk 1),cd Tryz.f5 [1,1,1,1,1,1,0,1,0,0,1,1,1]] (stS ZT [0]) ZR)∧(((decide ((↑l.length:Int)<↑l.length))=false)→ZW [cd Tryz.f5 [1,1,1,1,1,1,1]] (stS ZT [1]) ZQ))) (by kernel_rfl) ?_
    refine⟨fun h=>absurd (of_decide_eq_true h) (by omega),fun _=>?_⟩
    refine AWP.weaken (st':=S5 ⟨a,b,c0,d,e⟩ q 901 902 903 q 911 912 913 [] []) ?_ ?_
    ·exact AS.leA (by kernel_rfl)
    exact f5_lease ⟨a,b,c0,d,e⟩ he (by omega) q hi hlt
 ·refine walkK (orc:=orc5a true) (keep:=[]) (cuts:=[]) (n:=1000) follows ?_
  refine of_tr (fun ZT ZW ZQ ZK=>(ZK 10 [(.agg [(di a),(di b),(di c0),(di d)])] (.tup [(.con (.pointer none)),(di 1)])∧ZK 10 [(.agg [(di a),(di b),(di c0),(di d)])] (.tup [(.con (.pointer none)),(di 1)])∧((true=true)→(ZS ((db true):DV)))∧((true=false)→ZW [cd Tryz.f5 [1,1,1,1,1,1,0,1,0],(.blk 0),cd Tryz.f5 [1,1,1,1,1,1,1]] (stS ZT [1]) ZQ))) (by kernel_rfl) ?_
  exact⟨f10_no a b c0 d (by simpa using hn),f10_no a b c0 d (by simpa using hn),fun _=>rfl,fun c=>(by cases c)⟩
end Go.Proofs
