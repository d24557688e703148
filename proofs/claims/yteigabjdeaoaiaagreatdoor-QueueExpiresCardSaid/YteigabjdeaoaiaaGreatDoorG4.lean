import Derived.Test.YteigabjdeaoaiaaGreatDoorG3
import Derived.Test.YteigabjdeaoaiaaGreatDoorAcD
/- The best of those that wait,plain. -/
set_option autoImplicit false
namespace Go.Proofs
open Go Go.Ab
def Bef (sv:ByteArray→Int) (a b:Wt):Prop:=a.j.pr>b.j.pr∨(a.j.pr=b.j.pr∧(sv a.j.st<sv b.j.st∨(sv a.j.st=sv b.j.st∧a.ar<b.ar)))
theorem bef_iff (q:Qm) (a b:Wt):beforeN q a b<0↔Bef q.sv a b:=by
 unfold beforeN dimE cmpZ Bef
 generalize q.sv a.j.st=x
 generalize q.sv b.j.st=y
 constructor
 ·intro h
  split at h<;>split at h<;>(try split at h)<;>(try split at h)<;>(try split at h)<;>(try split at h)<;>omega
 ·intro h
  split<;>split<;>(try split)<;>(try split)<;>(try split)<;>(try split)<;>omega
theorem best_min (q:Qm) (t:Int):∀k,(bestI q t k<0→∀i,i<k→mayB q t (q.W.getD i wt0)=false)∧(0≤bestI q t k→mayB q t (q.W.getD (bestI q t k).toNat wt0)=true∧∀i,i<k→mayB q t (q.W.getD i wt0)=true→¬Bef q.sv (q.W.getD i wt0) (q.W.getD (bestI q t k).toNat wt0))
 | 0=>⟨fun _ i hi=>absurd hi (Nat.not_lt_zero _),fun h=>absurd h (by show ¬(0:Int)≤-1;decide)⟩
 | k+1=>by
  obtain ⟨h1,h2⟩:=best_min q t k
  have hb:=bestI_le q t k
  have e:bestI q t (k+1)=bestS q t (bestI q t k) k:=rfl
  rw[e]
  revert h1 h2 hb
  generalize bestI q t k=b
  intro h1 h2 hb
  unfold bestS
  by_cases hc:(mayB q t (q.W.getD k wt0)&&(decide (b<0)||decide (beforeN q (q.W.getD k wt0) (q.W.getD b.toNat wt0)<0)))=true
  ·rw[if_pos hc]
   simp only[bAt,Bool.or_eq_true,decide_eq_true_eq,bef_iff] at hc
   refine⟨fun h=>absurd h (by omega),fun _=>?_⟩
   rw[Int.toNat_natCast]
   refine⟨hc.1,fun i hi hm=>?_⟩
   by_cases hik:i=k
   ·subst hik;unfold Bef;omega
   ·rcases hc.2 with hn|hn
    ·have:=h1 hn i (by omega);rw[this] at hm;cases hm
    ·by_cases hb0:0≤b
     ·have:=(h2 hb0).2 i (by omega) hm
      unfold Bef at this hn⊢
      omega
     ·have:=h1 (by omega) i (by omega);rw[this] at hm;cases hm
  ·rw[if_neg hc]
   refine⟨fun h i hi=>?_,fun h=>⟨(h2 h).1,fun i hi hm=>?_⟩⟩
   ·by_cases hik:i=k
    ·subst hik
     simp only[bAt,Bool.or_eq_true,decide_eq_true_eq] at hc
     cases hm:mayB q t (q.W.getD i wt0) with
     | false=>rfl
     | true=>exact absurd ⟨hm,.inl h⟩ hc
    ·exact h1 h i (by omega)
   ·by_cases hik:i=k
    ·subst hik
     simp only[bAt,Bool.or_eq_true,decide_eq_true_eq,bef_iff] at hc
     exact fun x=>hc ⟨hm,.inr x⟩
    ·exact(h2 h).2 i (by omega) hm
def plN (L:List Ls) (n:Int) (s:ByteArray):Nat:=L.countP fun l=>decide (l.no≠n)&&decide (l.w.j.st=s)
theorem plN_lease {n:Nat} {q:Qm} (h:Inv n q) (l:Ls) (hl:l.no=q.num+1) (s:ByteArray):plN (q.L++[l]) l.no s=heldN q s:=by
 unfold plN heldN
 rw[List.countP_append]
 have h0:[l].countP (fun x=>decide (x.no≠l.no)&&decide (x.w.j.st=s))=0:=by simp
 rw[h0,Nat.add_zero]
 refine List.countP_congr fun x hx=>?_
 have:=(h.L x hx).2.2.2
 have:x.no≠l.no:=by omega
 simp[this]
structure FairOK (q:Qm) (a:Ac) (x:Ls) (q':Qm):Prop where
 fr:x.w.fr≤a.tk
 pl:(plN q'.L x.no x.w.j.st:Int)<q'.ls
 wk:x.wk=a.wk
 un:x.un>a.tk
 best:∀y∈q'.W,y.fr≤a.tk→(plN q'.L x.no y.j.st:Int)<q'.ls→¬Bef q.sv y x.w
 sv:q'.sv=fun k=>if k=x.w.j.st then q.sv k+1 else q.sv k
theorem goneQ_sv (q:Qm) (t:Int):(mvQ q t).sv=q.sv∧(mvQ q t).ls=q.ls∧(mvQ q t).ll=q.ll:=by
 unfold mvQ
 split
 ·exact⟨rfl,rfl,rfl⟩
 ·rw[move_frame];exact⟨rfl,rfl,rfl⟩
theorem fail_sv (q:Qm) (w:Wt) (t:Int):(failQ q w t).sv=q.sv∧(failQ q w t).ls=q.ls:=by
 rw[fail_frame];exact⟨rfl,rfl⟩
theorem end_sv (q:Qm) (m t:Int):(endR q m t).2.2.sv=q.sv∧(endR q m t).2.2.ls=q.ls:=by
 have h:=goneQ_sv q t
 unfold endR
 dsimp only
 split
 ·exact⟨h.1,h.2.1⟩
 ·split<;>exact⟨h.1,h.2.1⟩
theorem do_ls (q:Qm) (a:Ac):(doR q a).2.ls=q.ls:=by
 have h:=goneQ_sv q a.tk
 unfold doR
 split
 ·unfold addR;dsimp only;split<;>exact h.2.1
 ·split
  ·unfold leaR;dsimp only;split
   ·exact h.2.1
   ·split
    ·exact h.2.1
    ·split<;>exact h.2.1
  ·split
   ·exact(end_sv q _ _).2
   ·split
    ·unfold failR;dsimp only;split
     ·rw[(fail_sv _ _ _).2];exact(end_sv q _ _).2
     ·exact(end_sv q _ _).2
    ·split
     ·unfold remR;dsimp only;split<;>exact h.2.1
     ·rfl
theorem do_sv (q:Qm) (a:Ac) (hk:a.kd≠1∨(doR q a).1.2.2≠0):(doR q a).2.sv=q.sv:=by
 have h:=goneQ_sv q a.tk
 unfold doR at hk⊢
 split at hk
 ·rename_i h0
  rw[if_pos h0]
  unfold addR;dsimp only;split<;>exact h.1
 ·rename_i h0
  rw[if_neg h0]
  split at hk
  ·rename_i h1
   rw[if_pos h1]
   have hk:=hk.resolve_left (fun x=>x h1)
   unfold leaR at hk⊢
   dsimp only at hk⊢
   split at hk
   ·rename_i h2
    rw[if_pos h2];exact h.1
   ·rename_i h2
    rw[if_neg h2]
    split at hk
    ·rename_i h3
     rw[if_pos h3];exact h.1
    ·rename_i h3
     rw[if_neg h3]
     split at hk
     ·rename_i h4
      rw[if_pos h4];exact h.1
     ·exact absurd rfl hk
  ·rename_i h1
   rw[if_neg h1]
   split
   ·exact(end_sv q _ _).1
   ·split
    ·unfold failR;dsimp only;split
     ·rw[(fail_sv _ _ _).1];exact(end_sv q _ _).1
     ·exact(end_sv q _ _).1
    ·split
     ·unfold remR;dsimp only;split<;>exact h.1
     ·rfl
theorem lea_fair {n:Nat} {q:Qm} (h:Inv n q) (a:Ac) (hk:a.kd=1) (he:(doR q a).1.2.2=0):FairOK q a (doR q a).1.1 (doR q a).2:=by
 have e:doR q a=(((leaR q a.wk a.tk).1,jb0,(leaR q a.wk a.tk).2.1),(leaR q a.wk a.tk).2.2):=by
  unfold doR
  rw[if_neg (by omega),if_pos hk]
 rw[e] at he⊢
 dsimp only at he⊢
 have hv:=goneQ_sv q a.tk
 have h1:=mv_inv h a.tk
 unfold leaR at he⊢
 dsimp only at he⊢
 by_cases c1:badT q a.tk=true
 ·rw[if_pos c1] at he;cases he
 rw[if_neg c1] at he⊢
 by_cases c2:nameB a.wk=false
 ·rw[if_pos c2] at he;cases he
 rw[if_neg c2] at he⊢
 by_cases c3:bestI (mvQ q a.tk) a.tk (mvQ q a.tk).W.length<0
 ·rw[if_pos c3] at he;cases he
 rw[if_neg c3]
 have ht:=mv_tick (Bool.eq_false_iff.2 c1)
 have hb:=(best_min (mvQ q a.tk) a.tk (mvQ q a.tk).W.length).2 (by omega)
 have hlt:=best_lt _ _ c3
 revert hv h1 ht hb hlt
 generalize bestI (mvQ q a.tk) a.tk (mvQ q a.tk).W.length=b
 generalize mvQ q a.tk=q1
 intro hv h1 ht hb hlt
 obtain ⟨hm,hmin⟩:=hb
 generalize b.toNat=i at hm hmin hlt⊢
 have hp:∀s,plN (leasQ q1 a.wk a.tk i).L (leasE q1 a.wk a.tk i).no s=heldN q1 s:=fun s=>plN_lease h1 (leasE q1 a.wk a.tk i) rfl s
 unfold mayB at hm
 simp only[bAt,decide_eq_true_eq] at hm
 have hb1:=h1.base.tick
 have hb2:=h1.base.ll
 refine⟨hm.1,by rw[hp];exact hm.2,rfl,?_,fun y hy hf hpl=>?_,?_⟩
 ·show min (a.tk+q1.ll) 1099511627777>a.tk
  omega
 ·rw[hp] at hpl
  have hy:y∈q1.W:=List.mem_of_mem_eraseIdx hy
  obtain ⟨i2,hi2,rfl⟩:=List.getElem_of_mem hy
  have e2:q1.W.getD i2 wt0=q1.W[i2]:=by rw[List.getD,gEe hi2];rfl
  have:=hmin i2 hi2 (by rw[e2];unfold mayB;simp only[bAt,decide_eq_true_eq];exact⟨hf,hpl⟩)
  rw[e2,hv.1] at this
  exact this
 ·show (fun k=>if k=(q1.W.getD i wt0).j.st then q1.sv k+1 else q1.sv k)=_
  rw[hv.1];rfl
end Go.Proofs
/- Leases are fair. -/
namespace Go.Proofs
open Go Go.Ab Go.RowKit
set_option maxHeartbeats 4000000
set_option maxRecDepth 100000
variable {G:IH}
structure P3 where
 ll:List Ac
 a:Int
 b:Int
 c:Int
 d:Int
noncomputable def S3 (p:P3) (q:Qm) (w l d:Nat) (sv:ByteArray→Int) (hs:Value→Bool) (k:Nat) (R:List (Nat×AV)) (B:List (Nat×List AV)):AS:=⟨regs Tryz.f3.ntmps ([(2,.box 2 0),(5,.box 28900 0),(7,.mapv 38),(39,.d (acsD p.ll)),(40,vi p.ll.length),(41,vi k)]++R),(2,[vi p.a,vi p.b,vi p.c,vi p.d]) :: (qL q 28900 28904 w l d++((38,[.mp none (svF sv) hs]) :: B))⟩
def Has0 (sv:ByteArray→Int) (hs:Value→Bool):Prop:=∀k,hs (.string k)=false→sv k=0
noncomputable abbrev R3 (p:P3) (K:List It) (Q:Exit→AS→Prop) (x0:Nat×Qm×(Value→Bool)):Exit→AS→Prop:=RoundQ Tryz.prog G K Q (fun x:Nat×Qm×(Value→Bool)=>S3 p x.2.1 901 902 903 x.2.1.sv x.2.2 x.1 [] []) (fun x=>x.1≤p.ll.length∧Inv x.1 x.2.1∧x.2.1.ls=p.d∧Has0 x.2.1.sv x.2.2) (fun x=>p.ll.length-x.1) x0
noncomputable def m3 (q:Qm) (l:Ls) (j:Jb) (e:Int):FuncId→List AV→List (Nat×List AV)→Option (AV×List (Nat×List AV)):=fun f _ _=>match f with
 | 11=>some (.d (.tup [lsD l,jbD j,di e]),qG q)
 | 12=>some (.d (lssD q.L),qP q)
 | 13=>some (.d (wtsD q.W),qP q)
 | _=>none
noncomputable def orc3 (q:Qm) (l:Ls) (j:Jb) (e:Int):Orc:={ d:=noO,m:=m3 q l j e }
theorem plN_next {L:List Ls} {n:Int} {i:Nat} (h:i<L.length) (s:ByteArray):(plN (L.take (i+1)) n s:Int)=if (L.getD i ls0).no≠n∧(L.getD i ls0).w.j.st=s then (plN (L.take i) n s:Int)+1 else plN (L.take i) n s:=by
 unfold plN
 rw[take_next h,List.countP_append,List.countP_singleton]
 by_cases h:(L.getD i ls0).no≠n∧(L.getD i ls0).w.j.st=s
 ·rw[if_pos h,if_pos (by simpa using h)];rfl
 ·rw[if_neg h,if_neg (by simpa using h)];rfl
noncomputable def S3b (p:P3) (q:Qm) (sv:ByteArray→Int) (hs:Value→Bool) (k:Nat) (a:Ac) (l:Ls) (i:Nat) (h2:Value→Bool):AS:=S3 p q 55901 55902 55903 sv hs k [(9,.box 9 0),(10,.box 10 0),(13,.mapv 60),(62,.d (lssD q.L)),(63,vi q.L.length),(64,vi i)] [(9,(acL a).map .d),(10,(lsL l).map .d),(60,[.mp none (svF fun s=>(plN (q.L.take i) l.no s:Int)) h2])]
theorem pl_hit {L:List Ls} {n:Int} {i:Nat} (h:i<L.length) (hn:(L.getD i ls0).no≠n) {F:ByteArray→Int} (hF:(fun s=>(plN (L.take i) n s:Int))=F):svF (fun s=>(plN (L.take (i+1)) n s:Int))=putF (.string (L.getD i ls0).w.j.st) (di (F (L.getD i ls0).w.j.st+1)) (svF F):=by
 rw[sv_put]
 congr 1
 funext s
 rw[plN_next h,←hF]
 by_cases hs:s=(L.getD i ls0).w.j.st
 ·rw[if_pos ⟨hn,hs.symm⟩,if_pos hs]
 ·rw[if_neg (fun x=>hs x.2.symm),if_neg hs]
theorem pl_miss {L:List Ls} {n:Int} {i:Nat} (h:i<L.length) (hn:(L.getD i ls0).no=n) {F:ByteArray→Int} (hF:(fun s=>(plN (L.take i) n s:Int))=F):svF (fun s=>(plN (L.take (i+1)) n s:Int))=svF F:=by
 congr 1
 funext s
 rw[plN_next h,←hF,if_neg (fun x=>x.1 hn)]
theorem Has0.imp {F:ByteArray→Int} {hs:Value→Bool} (h:Has0 F hs) (k:ByteArray) (e:hs (.string k)=false):(di 0).imp (svF F (.string k)):=by
 show (di 0).imp (di (F k))
 rw[h k e]
 exact fun _ _ h=>h
theorem Has0.put {F F':ByteArray→Int} {hs:Value→Bool} (h:Has0 F hs) (s:ByteArray) (hF:∀k,k≠s→F' k=F k):Has0 F' (putH (.string s) hs):=by
 intro k hk
 unfold putH at hk
 simp[keyEq] at hk
 rw[hF k hk.1]
 exact h k hk.2
noncomputable def S3c (p:P3) (q:Qm) (sv P:ByteArray→Int) (hs:Value→Bool) (k:Nat) (a:Ac) (l:Ls) (h2:Value→Bool) (R:List (Nat×AV)):AS:=S3 p q 55901 55902 55903 sv hs k ([(9,.box 9 0),(10,.box 10 0),(13,.mapv 60)]++R) [(9,(acL a).map .d),(10,(lsL l).map .d),(60,[.mp none (svF P) h2])]
theorem f3_T2 {K:List It} {Q:Exit→AS→Prop} (p:P3) (q q0:Qm) (hs h0:Value→Bool) (sv P:ByteArray→Int) (a:Ac) (l:Ls) (h2:Value→Bool) (k:Nat) (hk:k<p.ll.length) (hl:p.ll.length≤40) (hi:Inv (k+1) q) (hd:q.ls=p.d) (hs0:Has0 sv hs) (hP:Has0 P h2)
  (hsv:∀s,0≤sv s∧sv s≤1000) (c1:l.w.fr≤a.tk) (c2:P l.w.j.st<p.d) (c3:l.wk=a.wk) (c4:l.un>a.tk) (c5:∀y∈q.W,y.fr≤a.tk→P y.j.st<p.d→¬Bef sv y l.w) (c6:q.sv=fun k=>if k=l.w.j.st then sv k+1 else sv k) :
  AWP Tryz.prog G [.code (cAt (bodyOf Tryz.f3) [1,1,1,1,1,1,0,1,0,0,1,1,0,0,1,1,1,1,1,1]),.blk 1,.code (cAt (bodyOf Tryz.f3) [1,1,1,1,1,1,0,1,0,0,1,1,1])] (S3c p q sv P hs k a l h2 []) (R3 (G:=G) p K Q (k,q0,h0)):=by
 have hlen:=hi.len
 have hc:(decide (l.w.fr>a.tk)||decide (P l.w.j.st≥p.d)||!l.wk.toList==a.wk.toList||decide (l.un≤a.tk))=false:=by
  rw[decide_eq_false (by omega),decide_eq_false (by omega),decide_eq_false (by omega),c3];simp
 refine walkK (orc:=orc3 q l jb0 0) (keep:=[]) (cuts:=[25,26]) (n:=1000) follows ?_
 refine of_tr (fun ZT ZW ZQ _=>(fun Za=>((((!decide (l.w.fr>a.tk))=true)→(((h2 (Value.string l.w.j.st))=false)→((di 0).imp (svF P (Value.string l.w.j.st)))))∧((Za=true)→ZW [cd Tryz.f3 [1,1,1,1,1,1,0,1,0,0,1,1,0,0,1,1,1,1,1,1,1,0,1,0],cd Tryz.f3 [1,1,1,1,1,1,0,1,0,0,1,1,0,0,1,1,1,1,1,1,1,1],(.blk 1),cd Tryz.f3 [1,1,1,1,1,1,0,1,0,0,1,1,1]] (stS ZT [0]) ZQ)∧((Za=false)→ZW [cd Tryz.f3 [1,1,1,1,1,1,0,1,0,0,1,1,0,0,1,1,1,1,1,1,1,1,0],cd Tryz.f3 [1,1,1,1,1,1,0,1,0,0,1,1,0,0,1,1,1,1,1,1,1,1,1],(.blk 1),cd Tryz.f3 [1,1,1,1,1,1,0,1,0,0,1,1,1]] (stS ZT [1]) ZQ))) (decide (l.w.fr>a.tk)||decide (P l.w.j.st≥p.d)||!l.wk.toList==a.wk.toList||decide (l.un≤a.tk))) (by kernel_rfl) ?_
 refine⟨fun _ e=>hP.imp _ e,fun h=>(by rw[hc] at h;cases h),fun _=>?_⟩
 refine walkK (orc:=orc3 q l jb0 0) (keep:=[]) (cuts:=[]) (n:=1000) follows ?_
 refine of_tr (fun ZT ZW ZQ _=>(FnM Tryz.prog G 13 [(.box 1000000 0)] [(1000000,[(vi q.ll),(vi q.lt),(vi q.lp),(vi q.ls),(vi q.tick),(vi q.arr),(vi q.num),(.vec 1000001 8 0 q.W.length),(.vec 1000002 11 0 q.L.length),(.vec 1000003 5 0 q.D.length),(.mapv 1000004)]),(1000001,[(.arr ⟨true,39,false,none⟩ 8 (wtF q.W))]),(1000002,[(.arr ⟨true,41,false,none⟩ 11 (lsF q.L))]),(1000003,[(.arr ⟨true,35,false,none⟩ 5 (jbF q.D))]),(1000004,[(.mp none (svF q.sv) q.has)])] (.d (.slc 8 q.W.length (wtF q.W))) [(1000000,[(vi q.ll),(vi q.lt),(vi q.lp),(vi q.ls),(vi q.tick),(vi q.arr),(vi q.num),(.vec 1000001 8 0 q.W.length),(.vec 1000002 11 0 q.L.length),(.vec 1000003 5 0 q.D.length),(.mapv 1000004)]),(1000001,[(.arr ⟨true,39,false,none⟩ 8 (wtF q.W))]),(1000002,[(.arr ⟨true,41,false,none⟩ 11 (lsF q.L))]),(1000003,[(.arr ⟨true,35,false,none⟩ 5 (jbF q.D))]),(1000004,[(.mp none (svF q.sv) q.has)])]∧ZW [cd Tryz.f3 [1,1,1,1,1,1,0,1,0,0,1,1,0,0,1,1,1,1,1,1,1,1,0,1,0],(.blk 4),cd Tryz.f3 [1,1,1,1,1,1,0,1,0,0,1,1,0,0,1,1,1,1,1,1,1,1,1],(.blk 1),cd Tryz.f3 [1,1,1,1,1,1,0,1,0,0,1,1,1]] (stS ZT []) ZQ)) (by kernel_rfl) ?_
 refine⟨f13 q (by omega),?_⟩
 refine AWP.loop (c:=cAt (bodyOf Tryz.f3) [1,1,1,1,1,1,0,1,0,0,1,1,0,0,1,1,1,1,1,1,1,1,0,1,0,0]) (by kernel_rfl) (fun i:Nat=>S3c p q sv P hs k a l h2 [(16,vs l.w.j.st),(116,.d (wtsD q.W)),(117,vi q.W.length),(118,vi i)]) (fun i=>i≤q.W.length) (fun i=>q.W.length-i) 0 ?_ (Nat.zero_le _) ?_
 ·exact AS.leA (by kernel_rfl)
 ·intro i hik
  by_cases hi2:i<q.W.length
  ·have c5:=c5 _ (getD_mem (x0:=wt0) hi2)
   refine walkK (orc:=orc3 q l jb0 0) (keep:=[]) (cuts:=[34,35]) (n:=1000) follows ?_
   refine of_rd (fun ZT ZW ZQ _ ZA _=>(fun Za Zb Zc Zd=>((((decide ((↑i:Int)<↑q.W.length))=true)→(((0≤(↑i:Int))∧((↑i:Int)<↑q.W.length))∧(((!decide (Za.fr>a.tk))=true)→(((h2 (Value.string Za.j.st))=false)→(Zb.imp (svF P (Value.string Za.j.st)))))∧(((decide (Za.fr>a.tk)||decide (P Za.j.st≥p.d))=true)→((I64 (↑i+1))∧(ZA (stS ZT [0,0]))))∧(((decide (Za.fr>a.tk)||decide (P Za.j.st≥p.d))=false)→(((((!decide (Za.j.pr>l.w.j.pr)&&Za.j.pr==l.w.j.pr)=true)→(((hs (Value.string Za.j.st))=false)→(Zb.imp (svF sv (Value.string Za.j.st)))))∧(((!decide (Za.j.pr>l.w.j.pr)&&Za.j.pr==l.w.j.pr)=true)→(((hs (Value.string l.w.j.st))=false)→(Zb.imp (svF sv (Value.string l.w.j.st)))))∧(((!decide (Za.j.pr>l.w.j.pr)&&Za.j.pr==l.w.j.pr&&!decide (sv Za.j.st<sv l.w.j.st))=true)→(((hs (Value.string Za.j.st))=false)→(Zb.imp (svF sv (Value.string Za.j.st)))))∧(((!decide (Za.j.pr>l.w.j.pr)&&Za.j.pr==l.w.j.pr&&!decide (sv Za.j.st<sv l.w.j.st))=true)→(((hs (Value.string l.w.j.st))=false)→(Zb.imp (svF sv (Value.string l.w.j.st))))))∧(((decide (Za.j.pr>l.w.j.pr)||Za.j.pr==l.w.j.pr&&(decide (sv Za.j.st<sv l.w.j.st)||sv Za.j.st==sv l.w.j.st&&decide (Za.ar<l.w.ar)))=true)→(ZQ Exit.ret (AS.mk ((List.map (fun x=>match x with|AV.gate slot want b x=>AV.any|x=>x) [AV.any,AV.any,AV.box 2 0,AV.any,AV.any,AV.box 28900 0,AV.any,AV.mapv 38,AV.any,AV.box 9 0,AV.box 10 0,AV.any,AV.any,AV.mapv 60,AV.any,AV.any,AV.d Zc,AV.any,AV.box 18 0,AV.d (ds Za.j.st),AV.any,AV.any,AV.any,AV.any,AV.any,AV.any,AV.any,AV.any,AV.any,AV.any,AV.any,AV.any,AV.any,AV.any,AV.any,AV.any,AV.any,AV.any,AV.any,AV.d (DV.slc 9 p.ll.length (acF p.ll)),AV.d (DV.con (Value.int IntKind.i64 ↑p.ll.length)),AV.d (DV.con (Value.int IntKind.i64 ↑k)),AV.any,AV.any,AV.any,AV.any,AV.any,AV.any,AV.any,AV.any,AV.any,AV.any,AV.any,AV.any,AV.any,AV.any,AV.any,AV.any,AV.any,AV.any,AV.any,AV.any,AV.any,AV.any,AV.any,AV.any,AV.any,AV.any,AV.any,AV.any,AV.any,AV.any,AV.any,AV.any,AV.any,AV.any,AV.any,AV.any,AV.any,AV.any,AV.any,AV.any,AV.any,AV.any,AV.any,AV.any,AV.any,AV.any,AV.any,AV.any,AV.any,AV.any,AV.any,AV.any,AV.any,AV.any,AV.any,AV.any,AV.any,AV.any,AV.any,AV.any,AV.any,AV.any,AV.any,AV.any,AV.any,AV.any,AV.any,AV.any,AV.any,AV.any,AV.any,AV.any,AV.any,AV.any,AV.d (DV.slc 8 q.W.length (wtF q.W)),AV.d (DV.con (Value.int IntKind.i64 ↑q.W.length)),AV.d (DV.con (Value.int IntKind.i64 ↑i)),AV.d (DV.con (Value.bool true)),AV.d (DV.ptr [ds Za.j.st,ds Za.j.ex,di Za.j.no,di Za.j.ve,di Za.j.pr,di Za.tr,di Za.ar,di Za.fr]),AV.d (DV.agg [ds Za.j.st,ds Za.j.ex,di Za.j.no,di Za.j.ve,di Za.j.pr,di Za.tr,di Za.ar,di Za.fr]),AV.box 18 0,AV.box 18 0,AV.box 18 0,AV.d (ds Za.j.st),AV.box 18 7,vi Za.fr,AV.box 9 1,vi a.tk,AV.d (DV.con (Value.bool (decide (Za.fr>a.tk)))),AV.d (DV.con (Value.bool (decide (Za.fr>a.tk)))),AV.any,AV.any,AV.any,AV.any,AV.any,AV.any,AV.d (DV.con (Value.bool false)),AV.box 18 0,AV.box 18 4,vi Za.j.pr,AV.box 10 3,AV.box 10 3,AV.box 10 7,AV.d Zd,AV.d (DV.con (Value.bool (decide (Za.j.pr>l.w.j.pr)))),AV.d (DV.con (Value.bool (decide (Za.j.pr>l.w.j.pr)))),AV.gate 147 false (!decide (Za.j.pr>l.w.j.pr)) (AV.box 18 0),AV.gate 147 false (!decide (Za.j.pr>l.w.j.pr)) (AV.box 18 4),AV.gate 147 false (!decide (Za.j.pr>l.w.j.pr)) (vi Za.j.pr),AV.gate 147 false (!decide (Za.j.pr>l.w.j.pr)) (AV.box 10 3),AV.gate 147 false (!decide (Za.j.pr>l.w.j.pr)) (AV.box 10 3),AV.gate 147 false (!decide (Za.j.pr>l.w.j.pr)) (AV.box 10 7),AV.gate 147 false (!decide (Za.j.pr>l.w.j.pr)) (AV.d Zd),AV.gate 147 false (!decide (Za.j.pr>l.w.j.pr)) (AV.d (DV.con (Value.bool (Za.j.pr==l.w.j.pr)))),AV.gate 147 false (!decide (Za.j.pr>l.w.j.pr)) (AV.d (DV.con (Value.bool (Za.j.pr==l.w.j.pr)))),AV.gate 156 true (!decide (Za.j.pr>l.w.j.pr)&&Za.j.pr==l.w.j.pr) (AV.mapv 38),AV.gate 156 true (!decide (Za.j.pr>l.w.j.pr)&&Za.j.pr==l.w.j.pr) (AV.d (ds Za.j.st)),AV.gate 156 true (!decide (Za.j.pr>l.w.j.pr)&&Za.j.pr==l.w.j.pr) (AV.d (di (sv Za.j.st))),AV.gate 156 true (!decide (Za.j.pr>l.w.j.pr)&&Za.j.pr==l.w.j.pr) (AV.mapv 38),AV.gate 156 true (!decide (Za.j.pr>l.w.j.pr)&&Za.j.pr==l.w.j.pr) (AV.d Zc),AV.gate 156 true (!decide (Za.j.pr>l.w.j.pr)&&Za.j.pr==l.w.j.pr) (AV.d (di (sv l.w.j.st))),AV.gate 156 true (!decide (Za.j.pr>l.w.j.pr)&&Za.j.pr==l.w.j.pr) (AV.d (DV.con (Value.bool (decide (sv Za.j.st<sv l.w.j.st))))),AV.gate 156 true (!decide (Za.j.pr>l.w.j.pr)&&Za.j.pr==l.w.j.pr) (AV.d (DV.con (Value.bool (decide (sv Za.j.st<sv l.w.j.st))))),AV.gate 164 false (!decide (Za.j.pr>l.w.j.pr)&&Za.j.pr==l.w.j.pr&&!decide (sv Za.j.st<sv l.w.j.st)) (AV.mapv 38),AV.gate 164 false (!decide (Za.j.pr>l.w.j.pr)&&Za.j.pr==l.w.j.pr&&!decide (sv Za.j.st<sv l.w.j.st)) (AV.d (ds Za.j.st)),AV.gate 164 false (!decide (Za.j.pr>l.w.j.pr)&&Za.j.pr==l.w.j.pr&&!decide (sv Za.j.st<sv l.w.j.st)) (AV.d (di (sv Za.j.st))),AV.gate 164 false (!decide (Za.j.pr>l.w.j.pr)&&Za.j.pr==l.w.j.pr&&!decide (sv Za.j.st<sv l.w.j.st)) (AV.mapv 38),AV.gate 164 false (!decide (Za.j.pr>l.w.j.pr)&&Za.j.pr==l.w.j.pr&&!decide (sv Za.j.st<sv l.w.j.st)) (AV.d Zc),AV.gate 164 false (!decide (Za.j.pr>l.w.j.pr)&&Za.j.pr==l.w.j.pr&&!decide (sv Za.j.st<sv l.w.j.st)) (AV.d (di (sv l.w.j.st))),AV.gate 164 false (!decide (Za.j.pr>l.w.j.pr)&&Za.j.pr==l.w.j.pr&&!decide (sv Za.j.st<sv l.w.j.st)) (AV.d (DV.con (Value.bool (sv Za.j.st==sv l.w.j.st)))),AV.gate 164 false (!decide (Za.j.pr>l.w.j.pr)&&Za.j.pr==l.w.j.pr&&!decide (sv Za.j.st<sv l.w.j.st)) (AV.d (DV.con (Value.bool (sv Za.j.st==sv l.w.j.st)))),AV.gate 172 true (!decide (Za.j.pr>l.w.j.pr)&&Za.j.pr==l.w.j.pr&&!decide (sv Za.j.st<sv l.w.j.st)&&sv Za.j.st==sv l.w.j.st) (AV.box 18 6),AV.gate 172 true (!decide (Za.j.pr>l.w.j.pr)&&Za.j.pr==l.w.j.pr&&!decide (sv Za.j.st<sv l.w.j.st)&&sv Za.j.st==sv l.w.j.st) (vi Za.ar),AV.gate 172 true (!decide (Za.j.pr>l.w.j.pr)&&Za.j.pr==l.w.j.pr&&!decide (sv Za.j.st<sv l.w.j.st)&&sv Za.j.st==sv l.w.j.st) (AV.box 10 3),AV.gate 172 true (!decide (Za.j.pr>l.w.j.pr)&&Za.j.pr==l.w.j.pr&&!decide (sv Za.j.st<sv l.w.j.st)&&sv Za.j.st==sv l.w.j.st) (AV.box 10 9),AV.gate 172 true (!decide (Za.j.pr>l.w.j.pr)&&Za.j.pr==l.w.j.pr&&!decide (sv Za.j.st<sv l.w.j.st)&&sv Za.j.st==sv l.w.j.st) (vi l.w.ar),AV.gate 172 true (!decide (Za.j.pr>l.w.j.pr)&&Za.j.pr==l.w.j.pr&&!decide (sv Za.j.st<sv l.w.j.st)&&sv Za.j.st==sv l.w.j.st) (AV.d (DV.con (Value.bool (decide (Za.ar<l.w.ar))))),AV.gate 164 false (!decide (Za.j.pr>l.w.j.pr)&&Za.j.pr==l.w.j.pr&&!decide (sv Za.j.st<sv l.w.j.st)) (AV.d (DV.con (Value.bool (sv Za.j.st==sv l.w.j.st&&decide (Za.ar<l.w.ar))))),AV.gate 156 true (!decide (Za.j.pr>l.w.j.pr)&&Za.j.pr==l.w.j.pr) (AV.d (DV.con (Value.bool (decide (sv Za.j.st<sv l.w.j.st)||sv Za.j.st==sv l.w.j.st&&decide (Za.ar<l.w.ar))))),AV.gate 147 false (!decide (Za.j.pr>l.w.j.pr)) (AV.d (DV.con (Value.bool (Za.j.pr==l.w.j.pr&&(decide (sv Za.j.st<sv l.w.j.st)||sv Za.j.st==sv l.w.j.st&&decide (Za.ar<l.w.ar)))))),AV.d (DV.con (Value.bool true)),AV.any,AV.any,AV.any,AV.any,AV.any,AV.any]).set 4 (AV.d (DV.con (Value.bool false)))) ([]++[(18,[AV.d (ds Za.j.st),AV.d (ds Za.j.ex),vi Za.j.no,vi Za.j.ve,vi Za.j.pr,vi Za.tr,vi Za.ar,vi Za.fr]),(2,[vi p.a,vi p.b,vi p.c,vi p.d]),(28900,[vi q.ll,vi q.lt,vi q.lp,vi q.ls,vi q.tick,vi q.arr,vi q.num,AV.vec 55901 8 0 q.W.length,AV.vec 55902 11 0 q.L.length,AV.vec 55903 5 0 q.D.length,AV.mapv 28904]),(55901,[AV.arr (RK.mk true 39 false none) 8 (wtF q.W)]),(55902,[AV.arr (RK.mk true 41 false none) 11 (lsF q.L)]),(55903,[AV.arr (RK.mk true 35 false none) 5 (jbF q.D)]),(28904,[AV.mp none (svF q.sv) q.has]),(38,[AV.mp none (svF sv) hs]),(9,[vi a.kd,vi a.tk,vi a.nu,AV.d (ds a.j.st),AV.d (ds a.j.ex),vi a.j.no,vi a.j.ve,vi a.j.pr,AV.d (ds a.wk)]),(10,[vi l.no,vi l.un,AV.d (ds l.wk),AV.d Zc,AV.d (ds l.w.j.ex),vi l.w.j.no,vi l.w.j.ve,AV.d Zd,vi l.w.tr,vi l.w.ar,vi l.w.fr]),(60,[AV.mp none (svF P) h2])]))))∧(((decide (Za.j.pr>l.w.j.pr)||Za.j.pr==l.w.j.pr&&(decide (sv Za.j.st<sv l.w.j.st)||sv Za.j.st==sv l.w.j.st&&decide (Za.ar<l.w.ar)))=false)→((I64 (↑i+1))∧(ZA (stS ZT [0,1,1]))))))))∧(((decide ((↑i:Int)<↑q.W.length))=false)→ZW [cd Tryz.f3 [1,1,1,1,1,1,0,1,0,0,1,1,0,0,1,1,1,1,1,1,1,1,1],(.blk 1),cd Tryz.f3 [1,1,1,1,1,1,0,1,0,0,1,1,1]] (stS ZT [1]) ZQ))) (q.W.getD (↑i:Int).toNat wt0) (di 0) (ds l.w.j.st) (di l.w.j.pr)) (by kernel_rfl) ?_
   dsimp only
   rw[show ((i:Int)).toNat=i from rfl]
   refine⟨fun _=>⟨⟨by omega,by omega⟩,fun _ e=>hP.imp _ e,fun h=>⟨⟨by omega,by omega⟩,?_⟩,fun h=>⟨⟨fun _ e=>hs0.imp _ e,fun _ e=>hs0.imp _ e,fun _ e=>hs0.imp _ e,fun _ e=>hs0.imp _ e⟩,fun hb=>?_,fun _=>⟨⟨by omega,by omega⟩,?_⟩⟩⟩,fun hd=>absurd (of_decide_eq_false hd) (by omega)⟩
   ·refine Again.mk (i+1) ?_ hi2 (by show q.W.length-(i+1)<q.W.length-i;omega)
    exact AS.leA (by kernel_rfl)
   ·rw[Bool.or_eq_false_iff,decide_eq_false_iff_not,decide_eq_false_iff_not] at h
    simp only[Bool.or_eq_true,bAt,decide_eq_true_eq,beq_iff_eq] at hb
    exact absurd hb (c5 (by omega) (by omega))
   ·refine Again.mk (i+1) ?_ hi2 (by show q.W.length-(i+1)<q.W.length-i;omega)
    exact AS.leA (by kernel_rfl)
  ·obtain rfl:i=q.W.length:=by have:i≤q.W.length:=hik;omega
   refine walkK (orc:=orc3 q l jb0 0) (keep:=[]) (cuts:=[28,34]) (n:=1000) follows ?_
   refine of_rd (fun ZT ZW ZQ _ _ ZR=>((((decide ((↑q.W.length:Int)<↑q.W.length))=true)→ZW [cd Tryz.f3 [1,1,1,1,1,1,0,1,0,0,1,1,0,0,1,1,1,1,1,1,1,1,0,1,0,0,1,1,0,0],(.blk 5),cd Tryz.f3 [1,1,1,1,1,1,0,1,0,0,1,1,0,0,1,1,1,1,1,1,1,1,0,1,0,0,1,1,1]] (stS ZT [0]) ZR)∧(((decide ((↑q.W.length:Int)<↑q.W.length))=false)→ZW [cd Tryz.f3 [1,1,1,1,1,1,0,1,0,0,1,1,0,0,1,1,1,1,1,1,1,1,1],(.blk 1),cd Tryz.f3 [1,1,1,1,1,1,0,1,0,0,1,1,1]] (stS ZT [1]) ZQ))) (by kernel_rfl) ?_
   refine⟨fun hd=>absurd (of_decide_eq_true hd) (by omega),fun _=>?_⟩
   refine walkK (orc:=orc3 q l jb0 0) (keep:=[]) (cuts:=[]) (n:=1000) follows ?_
   refine of_tr (fun _ _ ZQ _=>(((((hs (Value.string l.w.j.st))=false)→((di 0).imp (svF sv (Value.string l.w.j.st))))∧(I64 (sv l.w.j.st+1)))∧(I64 (↑k+1))∧(ZQ Exit.normal (AS.mk [AV.any,AV.any,AV.box 2 0,AV.any,AV.any,AV.box 28900 0,AV.any,AV.mapv 38,AV.any,AV.box 9 0,AV.box 10 0,AV.any,AV.any,AV.mapv 60,AV.any,AV.any,AV.d (ds l.w.j.st),AV.any,AV.any,AV.any,AV.any,AV.any,AV.any,AV.any,AV.any,AV.any,AV.any,AV.any,AV.any,AV.any,AV.any,AV.any,AV.any,AV.any,AV.any,AV.any,AV.any,AV.any,AV.any,AV.d (DV.slc 9 p.ll.length (acF p.ll)),AV.d (DV.con (Value.int IntKind.i64 ↑p.ll.length)),AV.d (di (↑k+1)),AV.any,AV.any,AV.any,AV.any,AV.any,AV.any,AV.any,AV.any,AV.any,AV.any,AV.any,AV.any,AV.any,AV.any,AV.any,AV.any,AV.any,AV.any,AV.any,AV.any,AV.any,AV.any,AV.any,AV.any,AV.any,AV.any,AV.any,AV.any,AV.any,AV.any,AV.any,AV.any,AV.any,AV.any,AV.any,AV.any,AV.any,AV.any,AV.any,AV.any,AV.any,AV.any,AV.any,AV.any,AV.any,AV.any,AV.any,AV.any,AV.any,AV.any,AV.any,AV.any,AV.any,AV.any,AV.any,AV.any,AV.any,AV.any,AV.any,AV.any,AV.any,AV.any,AV.any,AV.any,AV.any,AV.any,AV.any,AV.any,AV.any,AV.any,AV.any,AV.any,AV.any,AV.any,AV.d (DV.slc 8 q.W.length (wtF q.W)),AV.d (DV.con (Value.int IntKind.i64 ↑q.W.length)),AV.d (DV.con (Value.int IntKind.i64 ↑q.W.length)),AV.d (DV.con (Value.bool false)),AV.any,AV.any,AV.any,AV.any,AV.any,AV.any,AV.any,AV.any,AV.any,AV.any,AV.any,AV.any,AV.any,AV.any,AV.any,AV.any,AV.any,AV.any,AV.any,AV.any,AV.any,AV.any,AV.any,AV.any,AV.any,AV.any,AV.any,AV.any,AV.any,AV.any,AV.any,AV.any,AV.any,AV.any,AV.any,AV.any,AV.any,AV.any,AV.any,AV.any,AV.any,AV.any,AV.any,AV.any,AV.any,AV.any,AV.any,AV.any,AV.any,AV.any,AV.any,AV.any,AV.any,AV.any,AV.any,AV.any,AV.any,AV.any,AV.any,AV.any,AV.any,AV.any,AV.any,AV.any,AV.mapv 38,AV.d (ds l.w.j.st),AV.d (di (sv l.w.j.st)),AV.d (di (sv l.w.j.st+1)),AV.d (di (↑k+1))] [(2,[vi p.a,vi p.b,vi p.c,vi p.d]),(28900,[vi q.ll,vi q.lt,vi q.lp,vi q.ls,vi q.tick,vi q.arr,vi q.num,AV.vec 55901 8 0 q.W.length,AV.vec 55902 11 0 q.L.length,AV.vec 55903 5 0 q.D.length,AV.mapv 28904]),(55901,[AV.arr (RK.mk true 39 false none) 8 (wtF q.W)]),(55902,[AV.arr (RK.mk true 41 false none) 11 (lsF q.L)]),(55903,[AV.arr (RK.mk true 35 false none) 5 (jbF q.D)]),(28904,[AV.mp none (svF q.sv) q.has]),(38,[AV.mp none (putF (Value.string l.w.j.st) (di (sv l.w.j.st+1)) (svF sv)) (putH (Value.string l.w.j.st) hs)]),(9,[vi a.kd,vi a.tk,vi a.nu,AV.d (ds a.j.st),AV.d (ds a.j.ex),vi a.j.no,vi a.j.ve,vi a.j.pr,AV.d (ds a.wk)]),(10,[vi l.no,vi l.un,AV.d (ds l.wk),AV.d (ds l.w.j.st),AV.d (ds l.w.j.ex),vi l.w.j.no,vi l.w.j.ve,vi l.w.j.pr,vi l.w.tr,vi l.w.ar,vi l.w.fr]),(60,[AV.mp none (svF P) h2])])))) (by kernel_rfl) ?_
   have hv:=hsv l.w.j.st
   refine⟨⟨fun e=>hs0.imp _ e,⟨by omega,by omega⟩⟩,⟨by omega,by omega⟩,?_⟩
   have E:svF q.sv=putF (.string l.w.j.st) (di (sv l.w.j.st+1)) (svF sv):=by rw[c6];exact(sv_put sv l.w.j.st).symm
   refine Again.mkR [(55901,901),(55902,902),(55903,903)] rfl (k+1,q,putH (.string l.w.j.st) hs) ?_ ⟨hk,hi,hd,?_⟩ (by show p.ll.length-(k+1)<p.ll.length-k;omega)
   ·dsimp only[S3]
    rw[E]
    refine AS.leZ [] [5] (b:=((T0∧T0∧T0∧T0∧T0∧T0∧True)∧T0∧T0∧T0∧T0∧T0∧((some [(.mp none (putF (Value.string l.w.j.st) (di (sv l.w.j.st+1)) (svF sv)) q.has)]):(Option (List AV)))=(some [(.mp none (svF q.sv) q.has)])∧T0∧True)) (by kernel_rfl) (by kernel_rfl) ?_
    exact⟨⟨rfl,rfl,rfl,rfl,rfl,rfl,trivial⟩,rfl,rfl,rfl,rfl,rfl,congrArg (fun F=>some [AV.mp none F q.has]) E.symm,rfl,trivial⟩
   ·refine hs0.put _ fun s hs=>?_
    rw[c6]
    exact if_neg hs
theorem f3_T1 {K:List It} {Q:Exit→AS→Prop} (p:P3) (q q0:Qm) (hs h0:Value→Bool) (sv:ByteArray→Int) (a:Ac) (l:Ls) (k:Nat) (hk:k<p.ll.length) (hll:p.ll.length≤40) (hi:Inv (k+1) q) (hd:q.ls=p.d) (hs0:Has0 sv hs) (hsv:∀s,0≤sv s∧sv s≤1000)
  (c1:l.w.fr≤a.tk) (c2:(plN q.L l.no l.w.j.st:Int)<p.d) (c3:l.wk=a.wk) (c4:l.un>a.tk) (c5:∀y∈q.W,y.fr≤a.tk→(plN q.L l.no y.j.st:Int)<p.d→¬Bef sv y l.w) (c6:q.sv=fun k=>if k=l.w.j.st then sv k+1 else sv k) :
  AWP Tryz.prog G [.code (cAt (bodyOf Tryz.f3) [1,1,1,1,1,1,0,1,0,0,1,1,0,0,1,1,1,1]),.blk 1,.code (cAt (bodyOf Tryz.f3) [1,1,1,1,1,1,0,1,0,0,1,1,1])] (S3 p q 55901 55902 55903 sv hs k [(9,.box 9 0),(10,.box 10 0)] [(9,(acL a).map .d),(10,(lsL l).map .d)]) (R3 (G:=G) p K Q (k,q0,h0)):=by
 have hL:q.L.length≤1000:=by have:=hi.len;omega
 refine walkK (orc:=orc3 q l jb0 0) (keep:=[]) (cuts:=[23]) (n:=1000) follows ?_
 refine of_tr (fun ZT ZW ZQ _=>(FnM Tryz.prog G 12 [(.box 1000000 0)] [(1000000,[(vi q.ll),(vi q.lt),(vi q.lp),(vi q.ls),(vi q.tick),(vi q.arr),(vi q.num),(.vec 1000001 8 0 q.W.length),(.vec 1000002 11 0 q.L.length),(.vec 1000003 5 0 q.D.length),(.mapv 1000004)]),(1000001,[(.arr ⟨true,39,false,none⟩ 8 (wtF q.W))]),(1000002,[(.arr ⟨true,41,false,none⟩ 11 (lsF q.L))]),(1000003,[(.arr ⟨true,35,false,none⟩ 5 (jbF q.D))]),(1000004,[(.mp none (svF q.sv) q.has)])] (.d (.slc 11 q.L.length (lsF q.L))) [(1000000,[(vi q.ll),(vi q.lt),(vi q.lp),(vi q.ls),(vi q.tick),(vi q.arr),(vi q.num),(.vec 1000001 8 0 q.W.length),(.vec 1000002 11 0 q.L.length),(.vec 1000003 5 0 q.D.length),(.mapv 1000004)]),(1000001,[(.arr ⟨true,39,false,none⟩ 8 (wtF q.W))]),(1000002,[(.arr ⟨true,41,false,none⟩ 11 (lsF q.L))]),(1000003,[(.arr ⟨true,35,false,none⟩ 5 (jbF q.D))]),(1000004,[(.mp none (svF q.sv) q.has)])]∧ZW [cd Tryz.f3 [1,1,1,1,1,1,0,1,0,0,1,1,0,0,1,1,1,1,1,0,1,0],(.blk 2),cd Tryz.f3 [1,1,1,1,1,1,0,1,0,0,1,1,0,0,1,1,1,1,1,1],(.blk 1),cd Tryz.f3 [1,1,1,1,1,1,0,1,0,0,1,1,1]] (stS ZT []) ZQ)) (by kernel_rfl) ?_
 refine⟨f12 q (by omega),?_⟩
 refine AWP.loop (c:=cAt (bodyOf Tryz.f3) [1,1,1,1,1,1,0,1,0,0,1,1,0,0,1,1,1,1,1,0,1,0,0]) (by kernel_rfl) (fun x:Nat×(Value→Bool)=>S3b p q sv hs k a l x.1 x.2) (fun x=>x.1≤q.L.length∧Has0 (fun s=>(plN (q.L.take x.1) l.no s:Int)) x.2) (fun x=>q.L.length-x.1) (0,fun _=>false) ?_ ⟨Nat.zero_le _,fun _ _=>rfl⟩ ?_
 ·have e:svF (fun s=>(plN (q.L.take 0) l.no s:Int))=fun _=>di 0:=sv_zero
  unfold S3b
  rw[e]
  exact AS.leA (by kernel_rfl)
 ·rintro ⟨i,h2⟩ ⟨hii,hh⟩
  dsimp only at hii hh
  by_cases hi2:i<q.L.length
  ·generalize hF:(fun s=>(plN (q.L.take i) l.no s:Int))=F at hh
   have hb:∀s,0≤F s∧F s≤1000:=fun s=>by
    rw[←hF]
    have:plN (q.L.take i) l.no s≤(q.L.take i).length:=List.countP_le_length
    rw[List.length_take] at this
    show (0:Int)≤(plN (q.L.take i) l.no s:Int)∧(plN (q.L.take i) l.no s:Int)≤1000
    omega
   show AWP _ _ _ (S3b p q sv hs k a l i h2) _
   unfold S3b
   rw[hF]
   refine walkK (orc:=orc3 q l jb0 0) (keep:=[]) (cuts:=[23]) (n:=1000) follows ?_
   refine of_rd (fun ZT ZW ZQ _ ZA _=>(fun Za=>((((decide ((↑i:Int)<↑q.L.length))=true)→(((0≤(↑i:Int))∧((↑i:Int)<↑q.L.length))∧(((Za.no != l.no)=true)→(((((h2 (Value.string Za.w.j.st))=false)→((di 0).imp (svF F (Value.string Za.w.j.st))))∧(I64 (F Za.w.j.st+1)))∧(I64 (↑i+1))∧(ZA (stS ZT [0,0]))))∧(((Za.no != l.no)=false)→((I64 (↑i+1))∧(ZA (stS ZT [0,1]))))))∧(((decide ((↑i:Int)<↑q.L.length))=false)→ZW [cd Tryz.f3 [1,1,1,1,1,1,0,1,0,0,1,1,0,0,1,1,1,1,1,1],(.blk 1),cd Tryz.f3 [1,1,1,1,1,1,0,1,0,0,1,1,1]] (stS ZT [1]) ZQ))) (q.L.getD (↑i:Int).toNat ls0)) (by kernel_rfl) ?_
   dsimp only
   rw[show ((i:Int)).toNat=i from rfl]
   refine⟨fun _=>⟨⟨by omega,by omega⟩,fun hd=>⟨⟨fun e=>hh.imp _ e,⟨by have:=hb (q.L.getD i ls0).w.j.st;omega,by have:=hb (q.L.getD i ls0).w.j.st;omega⟩⟩,⟨by omega,by omega⟩,?_⟩,fun hd=>⟨⟨by omega,by omega⟩,?_⟩⟩,fun hd=>absurd (of_decide_eq_false hd) (by omega)⟩
   ·have hne:(q.L.getD i ls0).no≠l.no:=by simpa using hd
    refine Again.mk (i+1,putH (.string (q.L.getD i ls0).w.j.st) h2) ?_ ⟨hi2,?_⟩ (by show q.L.length-(i+1)<q.L.length-i;omega)
    ·rw[pl_hit hi2 hne hF]
     refine AS.leZ [] [9] (b:=((T0∧T0∧T0∧T0∧T0∧T0∧T0∧T0∧T0∧T0∧T0∧T0∧True)∧T0∧T0∧T0∧T0∧T0∧T0∧T0∧T0∧T0∧((some [(.mp none (putF (Value.string (q.L.getD (↑i:Int).toNat ls0).w.j.st) (DV.con (Value.int IntKind.i64 (F (q.L.getD (↑i:Int).toNat ls0).w.j.st+1))) (svF F)) (putH (Value.string (q.L.getD (↑i:Int).toNat ls0).w.j.st) h2))]):(Option (List AV)))=(some [(.mp none (putF (Value.string (q.L.getD i ls0).w.j.st) (DV.con (Value.int IntKind.i64 (F (q.L.getD i ls0).w.j.st+1))) (svF F)) (putH (Value.string (q.L.getD i ls0).w.j.st) h2))])∧True)) (by kernel_rfl) (by kernel_rfl) ?_
     exact⟨⟨rfl,rfl,rfl,rfl,rfl,rfl,rfl,rfl,rfl,rfl,rfl,rfl,trivial⟩,rfl,rfl,rfl,rfl,rfl,rfl,rfl,rfl,rfl,rfl,trivial⟩
    ·refine hh.put _ fun k hk=>?_
     rw[plN_next hi2,if_neg (fun x=>hk x.2.symm),←hF]
   ·have hne:(q.L.getD i ls0).no=l.no:=by simpa using hd
    refine Again.mk (i+1,h2) ?_ ⟨hi2,?_⟩ (by show q.L.length-(i+1)<q.L.length-i;omega)
    ·rw[pl_miss hi2 hne hF]
     exact AS.leA (by kernel_rfl)
    ·intro k hk
     show (plN (q.L.take (i+1)) l.no k:Int)=0
     rw[plN_next hi2,if_neg (fun x=>x.1 hne)]
     exact(congrFun hF k).trans (hh k hk)
  ·obtain rfl:i=q.L.length:=by omega
   rw[List.take_length] at hh
   have e:S3b p q sv hs k a l q.L.length h2=S3c p q sv (fun s=>(plN q.L l.no s:Int)) hs k a l h2 [(62,.d (lssD q.L)),(63,vi q.L.length),(64,vi q.L.length)]:=by unfold S3b S3c;rw[List.take_length];rfl
   show AWP _ _ _ (S3b p q sv hs k a l q.L.length h2) _
   rw[e]
   revert c2 c5 hh
   show (fun s=>(plN q.L l.no s:Int)) l.w.j.st<p.d→(∀y∈q.W,y.fr≤a.tk→(fun s=>(plN q.L l.no s:Int)) y.j.st<p.d→¬Bef sv y l.w)→_→_
   generalize (fun s=>(plN q.L l.no s:Int))=P
   intro c2 c5 hh
   refine walkK (orc:=orc3 q l jb0 0) (keep:=[]) (cuts:=[19,23]) (n:=1000) follows ?_
   refine of_rd (fun ZT ZW ZQ _ _ ZR=>((((decide ((↑q.L.length:Int)<↑q.L.length))=true)→ZW [cd Tryz.f3 [1,1,1,1,1,1,0,1,0,0,1,1,0,0,1,1,1,1,1,0,1,0,0,1,1,0,0],(.blk 3),cd Tryz.f3 [1,1,1,1,1,1,0,1,0,0,1,1,0,0,1,1,1,1,1,0,1,0,0,1,1,1]] (stS ZT [0]) ZR)∧(((decide ((↑q.L.length:Int)<↑q.L.length))=false)→ZW [cd Tryz.f3 [1,1,1,1,1,1,0,1,0,0,1,1,0,0,1,1,1,1,1,1],(.blk 1),cd Tryz.f3 [1,1,1,1,1,1,0,1,0,0,1,1,1]] (stS ZT [1]) ZQ))) (by kernel_rfl) ?_
   refine⟨fun hd=>absurd (of_decide_eq_true hd) (by omega),fun _=>?_⟩
   refine AWP.weaken (st':=S3c p q sv P hs k a l h2 []) ?_ ?_
   ·exact AS.leA (by kernel_rfl)
   exact f3_T2 p q q0 hs h0 sv P a l h2 k hk hll hi hd hs0 hh hsv c1 c2 c3 c4 c5 c6
theorem f3_round {K:List It} {Q:Exit→AS→Prop} (p:P3) (q:Qm) (hs:Value→Bool) (k:Nat) (hk:k<p.ll.length) (hl:p.ll.length≤40) (hi:Inv k q) (hd:q.ls=p.d) (hs0:Has0 q.sv hs) (hsm:∀a∈p.ll,SmallA a) :
  AWP Tryz.prog G [.code (cAt (bodyOf Tryz.f3) [1,1,1,1,1,1,0,1,0,0])] (S3 p q 901 902 903 q.sv hs k [] []) (R3 (G:=G) p K Q (k,q,hs)):=by
 have h11:=f11T (G:=G) hi (by omega) (p.ll.getD k ac0) (hsm _ (getD_mem hk))
 have hi2:=do_inv hi (p.ll.getD k ac0)
 have hls:=do_ls q (p.ll.getD k ac0)
 have hsv:=do_sv q (p.ll.getD k ac0)
 have hf:=lea_fair hi (p.ll.getD k ac0)
 have hb:∀s,0≤q.sv s∧q.sv s≤1000:=fun s=>by have:=hi.base.sv s;omega
 revert h11 hi2 hls hsv hf
 generalize doR q (p.ll.getD k ac0)=r
 obtain ⟨⟨l,j,e⟩,q1⟩:=r
 intro h11 hi2 hls hsv hf
 dsimp only at h11 hi2 hls hsv hf
 have hlen:=hi2.len
 refine walkK (orc:=orc3 q1 l j e) (keep:=[]) (cuts:=[16,36]) (n:=1000) follows ?_
 refine of_tr (fun ZT ZW ZQ _=>(fun Za Zb Zc Zd Ze=>((((decide ((↑k:Int)<↑p.ll.length))=true)→(((0≤(↑k:Int))∧((↑k:Int)<↑p.ll.length))∧(((Za.kd != 1)=true)→(FnM Tryz.prog G 11 [(.box 1000000 0),(.d (.agg [(di Za.kd),(di Za.tk),(di Za.nu),(ds Za.j.st),(ds Za.j.ex),(di Za.j.no),(di Za.j.ve),(di Za.j.pr),(ds Za.wk)]))] [(1000000,[(vi q.ll),(vi q.lt),(vi q.lp),(vi q.ls),(vi q.tick),(vi q.arr),(vi q.num),(.vec 1000001 8 0 q.W.length),(.vec 1000002 11 0 q.L.length),(.vec 1000003 5 0 q.D.length),(.mapv 1000004)]),(1000001,[(.arr ⟨true,39,false,none⟩ 8 (wtF q.W))]),(1000002,[(.arr ⟨true,41,false,none⟩ 11 (lsF q.L))]),(1000003,[(.arr ⟨true,35,false,none⟩ 5 (jbF q.D))]),(1000004,[(.mp none (svF q.sv) q.has)])] Zc [(1000000,[(vi q1.ll),(vi q1.lt),(vi q1.lp),(vi q1.ls),(vi q1.tick),(vi q1.arr),(vi q1.num),(.vec 901 8 0 q1.W.length),(.vec 902 11 0 q1.L.length),(.vec 903 5 0 q1.D.length),(.mapv 1000004)]),(901,[(.arr ⟨true,39,false,none⟩ 8 (wtF q1.W))]),(902,[(.arr ⟨true,41,false,none⟩ 11 (lsF q1.L))]),(903,[(.arr ⟨true,35,false,none⟩ 5 (jbF q1.D))]),(1000004,[(.mp none (svF q1.sv) q1.has)])]∧(I64 (↑k+1))∧(ZQ Exit.normal (AS.mk [AV.any,AV.any,AV.box 2 0,AV.any,AV.any,AV.box 28900 0,AV.any,AV.mapv 38,AV.any,AV.box 9 0,AV.any,AV.any,AV.any,AV.any,AV.any,AV.any,AV.any,AV.any,AV.any,AV.any,AV.any,AV.any,AV.any,AV.any,AV.any,AV.any,AV.any,AV.any,AV.any,AV.any,AV.any,AV.any,AV.any,AV.any,AV.any,AV.any,AV.any,AV.any,AV.any,AV.d (DV.slc 9 p.ll.length (acF p.ll)),AV.d Ze,AV.d Zd,AV.d (DV.con (Value.bool true)),AV.d (DV.ptr [di Za.kd,di Za.tk,di Za.nu,ds Za.j.st,ds Za.j.ex,di Za.j.no,di Za.j.ve,di Za.j.pr,ds Za.wk]),AV.d (DV.agg [di Za.kd,di Za.tk,di Za.nu,ds Za.j.st,ds Za.j.ex,di Za.j.no,di Za.j.ve,di Za.j.pr,ds Za.wk]),AV.box 9 0,vi Za.kd,AV.d (DV.con (Value.bool true)),AV.box 28900 0,AV.d (DV.agg [di Za.kd,di Za.tk,di Za.nu,ds Za.j.st,ds Za.j.ex,di Za.j.no,di Za.j.ve,di Za.j.pr,ds Za.wk]),AV.d Zb,AV.any,AV.any,AV.any,AV.any,AV.any,AV.any,AV.any,AV.any,AV.any,AV.any,AV.any,AV.any,AV.any,AV.any,AV.any,AV.any,AV.any,AV.any,AV.any,AV.any,AV.any,AV.any,AV.any,AV.any,AV.any,AV.any,AV.any,AV.any,AV.any,AV.any,AV.any,AV.any,AV.any,AV.any,AV.any,AV.any,AV.any,AV.any,AV.any,AV.any,AV.any,AV.any,AV.any,AV.any,AV.any,AV.any,AV.any,AV.any,AV.any,AV.any,AV.any,AV.any,AV.any,AV.any,AV.any,AV.any,AV.any,AV.any,AV.any,AV.any,AV.any,AV.any,AV.any,AV.any,AV.any,AV.any,AV.any,AV.any,AV.any,AV.any,AV.any,AV.any,AV.any,AV.any,AV.any,AV.any,AV.any,AV.any,AV.any,AV.any,AV.any,AV.any,AV.any,AV.any,AV.any,AV.any,AV.any,AV.any,AV.any,AV.any,AV.any,AV.any,AV.any,AV.any,AV.any,AV.any,AV.any,AV.any,AV.any,AV.any,AV.any,AV.any,AV.any,AV.any,AV.any,AV.any,AV.any,AV.any,AV.any,AV.any,AV.any,AV.any,AV.any,AV.any,AV.any,AV.any,AV.any,AV.any,AV.any,AV.any,AV.any,AV.any,AV.any,AV.any,AV.any,AV.any,AV.any,AV.any,AV.any,AV.any,AV.any,AV.any,AV.any,AV.any,AV.any,AV.any,AV.any,AV.d Zd] [(51901,[AV.arr (RK.mk true 39 false none) 8 (wtF q1.W)]),(51902,[AV.arr (RK.mk true 41 false none) 11 (lsF q1.L)]),(51903,[AV.arr (RK.mk true 35 false none) 5 (jbF q1.D)]),(9,[vi Za.kd,vi Za.tk,vi Za.nu,AV.d (ds Za.j.st),AV.d (ds Za.j.ex),vi Za.j.no,vi Za.j.ve,vi Za.j.pr,AV.d (ds Za.wk)]),(2,[vi p.a,vi p.b,vi p.c,vi p.d]),(28900,[vi q1.ll,vi q1.lt,vi q1.lp,vi q1.ls,vi q1.tick,vi q1.arr,vi q1.num,AV.vec 51901 8 0 q1.W.length,AV.vec 51902 11 0 q1.L.length,AV.vec 51903 5 0 q1.D.length,AV.mapv 28904]),(901,[AV.dead]),(902,[AV.dead]),(903,[AV.dead]),(28904,[AV.mp none (svF q1.sv) q1.has]),(38,[AV.mp none (svF q.sv) hs])]))))∧(((Za.kd != 1)=false)→(FnM Tryz.prog G 11 [(.box 1000000 0),(.d (.agg [(di Za.kd),(di Za.tk),(di Za.nu),(ds Za.j.st),(ds Za.j.ex),(di Za.j.no),(di Za.j.ve),(di Za.j.pr),(ds Za.wk)]))] [(1000000,[(vi q.ll),(vi q.lt),(vi q.lp),(vi q.ls),(vi q.tick),(vi q.arr),(vi q.num),(.vec 1000001 8 0 q.W.length),(.vec 1000002 11 0 q.L.length),(.vec 1000003 5 0 q.D.length),(.mapv 1000004)]),(1000001,[(.arr ⟨true,39,false,none⟩ 8 (wtF q.W))]),(1000002,[(.arr ⟨true,41,false,none⟩ 11 (lsF q.L))]),(1000003,[(.arr ⟨true,35,false,none⟩ 5 (jbF q.D))]),(1000004,[(.mp none (svF q.sv) q.has)])] Zc [(1000000,[(vi q1.ll),(vi q1.lt),(vi q1.lp),(vi q1.ls),(vi q1.tick),(vi q1.arr),(vi q1.num),(.vec 901 8 0 q1.W.length),(.vec 902 11 0 q1.L.length),(.vec 903 5 0 q1.D.length),(.mapv 1000004)]),(901,[(.arr ⟨true,39,false,none⟩ 8 (wtF q1.W))]),(902,[(.arr ⟨true,41,false,none⟩ 11 (lsF q1.L))]),(903,[(.arr ⟨true,35,false,none⟩ 5 (jbF q1.D))]),(1000004,[(.mp none (svF q1.sv) q1.has)])]∧(((e != 0)=true)→((I64 (↑k+1))∧(ZQ Exit.normal (AS.mk [AV.any,AV.any,AV.box 2 0,AV.any,AV.any,AV.box 28900 0,AV.any,AV.mapv 38,AV.any,AV.box 9 0,AV.box 10 0,AV.box 11 0,vi e,AV.any,AV.any,AV.any,AV.any,AV.any,AV.any,AV.any,AV.any,AV.any,AV.any,AV.any,AV.any,AV.any,AV.any,AV.any,AV.any,AV.any,AV.any,AV.any,AV.any,AV.any,AV.any,AV.any,AV.any,AV.any,AV.any,AV.d (DV.slc 9 p.ll.length (acF p.ll)),AV.d Ze,AV.d Zd,AV.d (DV.con (Value.bool true)),AV.d (DV.ptr [di Za.kd,di Za.tk,di Za.nu,ds Za.j.st,ds Za.j.ex,di Za.j.no,di Za.j.ve,di Za.j.pr,ds Za.wk]),AV.d (DV.agg [di Za.kd,di Za.tk,di Za.nu,ds Za.j.st,ds Za.j.ex,di Za.j.no,di Za.j.ve,di Za.j.pr,ds Za.wk]),AV.box 9 0,vi Za.kd,AV.d (DV.con (Value.bool false)),AV.any,AV.any,AV.any,AV.d Zb,AV.box 28900 0,AV.d (DV.agg [di Za.kd,di Za.tk,di Za.nu,ds Za.j.st,ds Za.j.ex,di Za.j.no,di Za.j.ve,di Za.j.pr,ds Za.wk]),AV.d Zb,AV.d (DV.agg [di l.no,di l.un,ds l.wk,ds l.w.j.st,ds l.w.j.ex,di l.w.j.no,di l.w.j.ve,di l.w.j.pr,di l.w.tr,di l.w.ar,di l.w.fr]),AV.d (DV.agg [ds j.st,ds j.ex,di j.no,di j.ve,di j.pr]),vi e,vi e,AV.d (DV.con (Value.bool true)),AV.any,AV.any,AV.any,AV.any,AV.any,AV.any,AV.any,AV.any,AV.any,AV.any,AV.any,AV.any,AV.any,AV.any,AV.any,AV.any,AV.any,AV.any,AV.any,AV.any,AV.any,AV.any,AV.any,AV.any,AV.any,AV.any,AV.any,AV.any,AV.any,AV.any,AV.any,AV.any,AV.any,AV.any,AV.any,AV.any,AV.any,AV.any,AV.any,AV.any,AV.any,AV.any,AV.any,AV.any,AV.any,AV.any,AV.any,AV.any,AV.any,AV.any,AV.any,AV.any,AV.any,AV.any,AV.any,AV.any,AV.any,AV.any,AV.any,AV.any,AV.any,AV.any,AV.any,AV.any,AV.any,AV.any,AV.any,AV.any,AV.any,AV.any,AV.any,AV.any,AV.any,AV.any,AV.any,AV.any,AV.any,AV.any,AV.any,AV.any,AV.any,AV.any,AV.any,AV.any,AV.any,AV.any,AV.any,AV.any,AV.any,AV.any,AV.any,AV.any,AV.any,AV.any,AV.any,AV.any,AV.any,AV.any,AV.any,AV.any,AV.any,AV.any,AV.any,AV.any,AV.any,AV.any,AV.any,AV.any,AV.any,AV.any,AV.any,AV.any,AV.any,AV.any,AV.any,AV.any,AV.any,AV.any,AV.any,AV.any,AV.any,AV.any,AV.any,AV.any,AV.any,AV.any,AV.any,AV.any,AV.d Zd] [(11,[AV.d (ds j.st),AV.d (ds j.ex),vi j.no,vi j.ve,vi j.pr]),(10,[vi l.no,vi l.un,AV.d (ds l.wk),AV.d (ds l.w.j.st),AV.d (ds l.w.j.ex),vi l.w.j.no,vi l.w.j.ve,vi l.w.j.pr,vi l.w.tr,vi l.w.ar,vi l.w.fr]),(55901,[AV.arr (RK.mk true 39 false none) 8 (wtF q1.W)]),(55902,[AV.arr (RK.mk true 41 false none) 11 (lsF q1.L)]),(55903,[AV.arr (RK.mk true 35 false none) 5 (jbF q1.D)]),(9,[vi Za.kd,vi Za.tk,vi Za.nu,AV.d (ds Za.j.st),AV.d (ds Za.j.ex),vi Za.j.no,vi Za.j.ve,vi Za.j.pr,AV.d (ds Za.wk)]),(2,[vi p.a,vi p.b,vi p.c,vi p.d]),(28900,[vi q1.ll,vi q1.lt,vi q1.lp,vi q1.ls,vi q1.tick,vi q1.arr,vi q1.num,AV.vec 55901 8 0 q1.W.length,AV.vec 55902 11 0 q1.L.length,AV.vec 55903 5 0 q1.D.length,AV.mapv 28904]),(901,[AV.dead]),(902,[AV.dead]),(903,[AV.dead]),(28904,[AV.mp none (svF q1.sv) q1.has]),(38,[AV.mp none (svF q.sv) hs])]))))∧(((e != 0)=false)→ZW [cd Tryz.f3 [1,1,1,1,1,1,0,1,0,0,1,1,0,0,1,1,1,1],(.blk 1),cd Tryz.f3 [1,1,1,1,1,1,0,1,0,0,1,1,1]] (stS ZT [0,1,1]) ZQ)))))∧(((decide ((↑k:Int)<↑p.ll.length))=false)→(ZQ (Exit.exit 0) (AS.mk [AV.any,AV.any,AV.box 2 0,AV.any,AV.any,AV.box 28900 0,AV.any,AV.mapv 38,AV.any,AV.any,AV.any,AV.any,AV.any,AV.any,AV.any,AV.any,AV.any,AV.any,AV.any,AV.any,AV.any,AV.any,AV.any,AV.any,AV.any,AV.any,AV.any,AV.any,AV.any,AV.any,AV.any,AV.any,AV.any,AV.any,AV.any,AV.any,AV.any,AV.any,AV.any,AV.d (DV.slc 9 p.ll.length (acF p.ll)),AV.d Ze,AV.d (DV.con (Value.int IntKind.i64 ↑k)),AV.d (DV.con (Value.bool false)),AV.any,AV.any,AV.any,AV.any,AV.any,AV.any,AV.any,AV.any,AV.any,AV.any,AV.any,AV.any,AV.any,AV.any,AV.any,AV.any,AV.any,AV.any,AV.any,AV.any,AV.any,AV.any,AV.any,AV.any,AV.any,AV.any,AV.any,AV.any,AV.any,AV.any,AV.any,AV.any,AV.any,AV.any,AV.any,AV.any,AV.any,AV.any,AV.any,AV.any,AV.any,AV.any,AV.any,AV.any,AV.any,AV.any,AV.any,AV.any,AV.any,AV.any,AV.any,AV.any,AV.any,AV.any,AV.any,AV.any,AV.any,AV.any,AV.any,AV.any,AV.any,AV.any,AV.any,AV.any,AV.any,AV.any,AV.any,AV.any,AV.any,AV.any,AV.any,AV.any,AV.any,AV.any,AV.any,AV.any,AV.any,AV.any,AV.any,AV.any,AV.any,AV.any,AV.any,AV.any,AV.any,AV.any,AV.any,AV.any,AV.any,AV.any,AV.any,AV.any,AV.any,AV.any,AV.any,AV.any,AV.any,AV.any,AV.any,AV.any,AV.any,AV.any,AV.any,AV.any,AV.any,AV.any,AV.any,AV.any,AV.any,AV.any,AV.any,AV.any,AV.any,AV.any,AV.any,AV.any,AV.any,AV.any,AV.any,AV.any,AV.any,AV.any,AV.any,AV.any,AV.any,AV.any,AV.any,AV.any,AV.any,AV.any,AV.any,AV.any,AV.any,AV.any,AV.any,AV.any,AV.any,AV.any,AV.any,AV.any,AV.any,AV.any,AV.any,AV.any,AV.any,AV.any] [(2,[vi p.a,vi p.b,vi p.c,vi p.d]),(28900,[vi q.ll,vi q.lt,vi q.lp,vi q.ls,vi q.tick,vi q.arr,vi q.num,AV.vec 901 8 0 q.W.length,AV.vec 902 11 0 q.L.length,AV.vec 903 5 0 q.D.length,AV.mapv 28904]),(901,[AV.arr (RK.mk true 39 false none) 8 (wtF q.W)]),(902,[AV.arr (RK.mk true 41 false none) 11 (lsF q.L)]),(903,[AV.arr (RK.mk true 35 false none) 5 (jbF q.D)]),(28904,[AV.mp none (svF q.sv) q.has]),(38,[AV.mp none (svF q.sv) hs])]))))) (p.ll.getD (↑k:Int).toNat ac0) (DV.tup [DV.agg [di l.no,di l.un,ds l.wk,ds l.w.j.st,ds l.w.j.ex,di l.w.j.no,di l.w.j.ve,di l.w.j.pr,di l.w.tr,di l.w.ar,di l.w.fr],DV.agg [ds j.st,ds j.ex,di j.no,di j.ve,di j.pr],di e]) ((.d (.tup [(.agg [(di l.no),(di l.un),(ds l.wk),(ds l.w.j.st),(ds l.w.j.ex),(di l.w.j.no),(di l.w.j.ve),(di l.w.j.pr),(di l.w.tr),(di l.w.ar),(di l.w.fr)]),(.agg [(ds j.st),(ds j.ex),(di j.no),(di j.ve),(di j.pr)]),(di e)])):AV) (di (↑k+1)) (DV.con (Value.int IntKind.i64 ↑p.ll.length))) (by kernel_rfl) ?_
 refine⟨fun _=>⟨⟨by omega,by omega⟩,fun c=>⟨h11,⟨by omega,by omega⟩,?_⟩,fun c=>⟨h11,fun c2=>⟨⟨by omega,by omega⟩,?_⟩,fun c2=>?_⟩⟩,fun h=>absurd (of_decide_eq_false h) (by omega)⟩
 ·have e1:=hsv (.inl (by simpa using c))
  refine Again.mkR [(51901,901),(51902,902),(51903,903)] rfl (k+1,q1,hs) ?_ ⟨hk,hi2,hls.trans hd,e1▸hs0⟩ (by show p.ll.length-(k+1)<p.ll.length-k;omega)
  dsimp only
  rw[e1]
  refine AS.leZ [] [5] (b:=((T0∧T0∧T0∧T0∧T0∧T0∧True)∧T0∧T0∧T0∧T0∧T0∧((some [(.mp none (svF q.sv) q1.has)]):(Option (List AV)))=(some [(.mp none (svF q1.sv) q1.has)])∧T0∧True)) (by kernel_rfl) (by kernel_rfl) ?_
  exact⟨⟨rfl,rfl,rfl,rfl,rfl,rfl,trivial⟩,rfl,rfl,rfl,rfl,rfl,congrArg (fun F=>some [AV.mp none (svF F) q1.has]) e1.symm,rfl,trivial⟩
 ·have e1:=hsv (.inr (by simpa using c2))
  refine Again.mkR [(55901,901),(55902,902),(55903,903)] rfl (k+1,q1,hs) ?_ ⟨hk,hi2,hls.trans hd,e1▸hs0⟩ (by show p.ll.length-(k+1)<p.ll.length-k;omega)
  dsimp only
  rw[e1]
  refine AS.leZ [] [5] (b:=((T0∧T0∧T0∧T0∧T0∧T0∧True)∧T0∧T0∧T0∧T0∧T0∧((some [(.mp none (svF q.sv) q1.has)]):(Option (List AV)))=(some [(.mp none (svF q1.sv) q1.has)])∧T0∧True)) (by kernel_rfl) (by kernel_rfl) ?_
  exact⟨⟨rfl,rfl,rfl,rfl,rfl,rfl,trivial⟩,rfl,rfl,rfl,rfl,rfl,congrArg (fun F=>some [AV.mp none (svF F) q1.has]) e1.symm,rfl,trivial⟩
 ·have hF:=hf (by simpa using c) (by simpa using c2)
  refine AWP.weaken (st':=S3 p q1 55901 55902 55903 q.sv hs k [(9,.box 9 0),(10,.box 10 0)] [(9,(acL (p.ll.getD k ac0)).map .d),(10,(lsL l).map .d)]) ?_ ?_
  ·refine AS.leZ [] [7] (b:=((T0∧T0∧T0∧T0∧T0∧T0∧T0∧T0∧True)∧T0∧T0∧T0∧T0∧T0∧T0∧T0∧((some [(vi (p.ll.getD (↑k:Int).toNat ac0).kd),(vi (p.ll.getD (↑k:Int).toNat ac0).tk),(vi (p.ll.getD (↑k:Int).toNat ac0).nu),(vs (p.ll.getD (↑k:Int).toNat ac0).j.st),(vs (p.ll.getD (↑k:Int).toNat ac0).j.ex),(vi (p.ll.getD (↑k:Int).toNat ac0).j.no),(vi (p.ll.getD (↑k:Int).toNat ac0).j.ve),(vi (p.ll.getD (↑k:Int).toNat ac0).j.pr),(vs (p.ll.getD (↑k:Int).toNat ac0).wk)]):(Option (List AV)))=(some [(vi (p.ll.getD k ac0).kd),(vi (p.ll.getD k ac0).tk),(vi (p.ll.getD k ac0).nu),(vs (p.ll.getD k ac0).j.st),(vs (p.ll.getD k ac0).j.ex),(vi (p.ll.getD k ac0).j.no),(vi (p.ll.getD k ac0).j.ve),(vi (p.ll.getD k ac0).j.pr),(vs (p.ll.getD k ac0).wk)])∧T0∧True)) (by kernel_rfl) (by kernel_rfl) ?_
   exact⟨⟨rfl,rfl,rfl,rfl,rfl,rfl,rfl,rfl,trivial⟩,rfl,rfl,rfl,rfl,rfl,rfl,rfl,rfl,rfl,trivial⟩
  have h5:=hF.best
  have h2:=hF.pl
  rw[hls,hd] at h5 h2
  exact f3_T1 p q1 q hs hs q.sv _ l k hk hl hi2 (hls.trans hd) hs0 hb hF.fr h2 hF.wk hF.un h5 hF.sv
noncomputable def d3 (f1:Bool):Oracle:=fun f _=>match f with
 | 8=>some (db true)
 | 9=>some (db f1)
 | 10=>some (.tup [.con (.pointer none),di 1])
 | _=>none
noncomputable def orc3a (f1:Bool):Orc:={ d:=d3 f1 }
noncomputable def m3b (q:Qm):FuncId→List AV→List (Nat×List AV)→Option (AV×List (Nat×List AV)):=fun f _ _=>match f with
 | 10=>some (.tup [.box 900 0,vi 0],qAt 900 q)
 | _=>none
noncomputable def orc3b (q:Qm):Orc:={ d:=noO,m:=m3b q }
theorem f3 (a b c0 d:Int) (l:List Ac) (hl:l.length≤9223372036854775807):FnOK Tryz.prog G 3 [lmD a b c0 d,acsD l] (db true):=by
 refine FnOK.of_body Tryz.func3 rfl Tryz.call3 ?_
 refine walkK (orc:=orc3a (fewA l 40)) (keep:=[]) (cuts:=[5]) (n:=1000) follows ?_
 refine of_tr (fun ZT ZW ZQ ZK=>(ZK 8 [] (db true)∧((false=true)→(((db false):DV)=(db true)))∧((false=false)→(ZK 9 [(.slc 9 l.length (acF l)),(di 40)] (db (fewA l 40))∧(((!fewA l 40)=true)→(ZS ((db true):DV)))∧(((!fewA l 40)=false)→ZW [cd Tryz.f3 [1,1,1]] (stS ZT [1,1]) ZQ))))) (by kernel_rfl) ?_
 refine⟨f8,fun c=>(by cases c),fun _=>⟨f9 l 40 hl,fun _=>rfl,fun c=>?_⟩⟩
 by_cases hn:newB a b c0 d=true
 ·refine walkK (orc:=orc3b (newQ a b c0 d)) (keep:=[]) (cuts:=[]) (n:=1000) follows ?_
  refine of_tr (fun ZT ZW ZQ _=>(FnM Tryz.prog G 10 [(.d (.agg [(di a),(di b),(di c0),(di d)]))] [] (.tup [(.box 900 0),(vi 0)]) [(900,[(vi a),(vi b),(vi c0),(vi d),(vi 0),(vi 0),(vi 0),(.vec 901 8 0 0),(.vec 902 11 0 0),(.vec 903 5 0 0),(.mapv 904)]),(901,[(.arr ⟨true,39,false,none⟩ 8 (wtF []))]),(902,[(.arr ⟨true,41,false,none⟩ 11 (lsF []))]),(903,[(.arr ⟨true,35,false,none⟩ 5 (jbF []))]),(904,[(.mp none (svF fun x=>0) (fun x=>false))])]∧((false=true)→(((db false):DV)=(db true)))∧((false=false)→ZW [cd Tryz.f3 [1,1,1,1,1,1,0,1,0],(.blk 0),cd Tryz.f3 [1,1,1,1,1,1,1]] (stS ZT [1]) ZQ))) (by kernel_rfl) ?_
  refine⟨f10_ok a b c0 d hn,fun c=>(by cases c),fun _=>?_⟩
  obtain ⟨hs,hlen⟩:=small_of (l:=l) (m:=40) (by simpa using c)
  refine AWP.weaken (st':=S3 ⟨l,a,b,c0,d⟩ (newQ a b c0 d) 28901 28902 28903 (fun _=>0) (fun _=>false) 0 [] []) ?_ ?_
  ·unfold S3
   rw[sv_zero]
   exact AS.leA (by kernel_rfl)
  refine AWP.pre (.moves [(28901,901),(28902,902),(28903,903)] _ rfl) ?_
  refine AWP.loop (c:=cAt (bodyOf Tryz.f3) [1,1,1,1,1,1,0,1,0,0]) (by kernel_rfl) (fun x:Nat×Qm×(Value→Bool)=>S3 ⟨l,a,b,c0,d⟩ x.2.1 901 902 903 x.2.1.sv x.2.2 x.1 [] []) (fun x=>x.1≤l.length∧Inv x.1 x.2.1∧x.2.1.ls=d∧Has0 x.2.1.sv x.2.2) (fun x=>l.length-x.1) (0,newQ a b c0 d,fun _=>false) ?_ ⟨Nat.zero_le _,new_inv hn,rfl,fun _ _=>rfl⟩ ?_
  ·exact AS.leA (by kernel_rfl)
  ·rintro ⟨k,q,hh⟩ ⟨hk,hi,hd,h0⟩
   dsimp only at hk hi hd h0
   by_cases hk2:k<l.length
   ·exact f3_round ⟨l,a,b,c0,d⟩ q hh k hk2 (by show l.length≤40;omega) hi hd h0 hs
   ·obtain rfl:k=l.length:=by omega
    show AWP _ _ _ (S3 ⟨l,a,b,c0,d⟩ q 901 902 903 q.sv hh l.length [] []) _
    refine walkK (orc:=noO) (keep:=[]) (cuts:=[11,36]) (n:=1000) follows ?_
    refine of_rd (fun ZT ZW ZQ _ _ ZR=>((((decide ((↑l.length:Int)<↑l.length))=true)→ZW [cd Tryz.f3 [1,1,1,1,1,1,0,1,0,0,1,1,0,0],(.blk 1),cd Tryz.f3 [1,1,1,1,1,1,0,1,0,0,1,1,1]] (stS ZT [0]) ZR)∧(((decide ((↑l.length:Int)<↑l.length))=false)→ZW [cd Tryz.f3 [1,1,1,1,1,1,1]] (stS ZT [1]) ZQ))) (by kernel_rfl) ?_
    refine⟨fun h=>absurd (of_decide_eq_true h) (by omega),fun _=>?_⟩
    refine walkK (orc:=noO) (keep:=[]) (cuts:=[]) (n:=1000) follows ?_
    refine of_tr (fun _ _ _ _=>(ZS ((db true):DV))) (by kernel_rfl) ?_
    rfl
 ·refine walkK (orc:=orc3a true) (keep:=[]) (cuts:=[]) (n:=1000) follows ?_
  refine of_tr (fun ZT ZW ZQ ZK=>(ZK 10 [(.agg [(di a),(di b),(di c0),(di d)])] (.tup [(.con (.pointer none)),(di 1)])∧((true=true)→(ZS ((db true):DV)))∧((true=false)→ZW [cd Tryz.f3 [1,1,1,1,1,1,0,1,0],(.blk 0),cd Tryz.f3 [1,1,1,1,1,1,1]] (stS ZT [1]) ZQ))) (by kernel_rfl) ?_
  exact⟨f10_no a b c0 d (by simpa using hn),fun _=>rfl,fun c=>(by cases c)⟩
end Go.Proofs
/- Ticks,plain. -/
namespace Go.Proofs
open Go Go.Ab
theorem mv_ok {q:Qm} {t:Int} (h:badT q t=false):mvQ q t=moveQ q t:=if_neg (by rw[h];decide)
end Go.Proofs
/- Leases that end,plain. -/
namespace Go.Proofs
open Go Go.Ab
theorem move_same {n:Nat} {q:Qm} (h:Inv n q):moveQ q q.tick=q:=by
 have h1:q.L.filter (overB q.tick)=[]:=by
  rw[List.filter_eq_nil_iff]
  intro l hl
  have:=(h.L l hl).2.1.1
  unfold overB
  simp only[decide_eq_true_eq]
  omega
 have h2:restL q.tick q.L=q.L:=by
  unfold restL
  rw[List.filter_eq_self]
  intro l hl
  have:=(h.L l hl).2.1.1
  unfold overB
  simp only[Bool.not_eq_true',decide_eq_false_iff_not]
  omega
 unfold moveQ goneQ
 rw[h1,h2];rfl
theorem badT_same {n:Nat} {q:Qm} (h:Inv n q):badT q q.tick=false:=badT_iff.2 ⟨Int.le_refl _,h.base.tick.2⟩
theorem mv_same {n:Nat} {q:Qm} (h:Inv n q):mvQ q q.tick=q:=by rw[mv_ok (badT_same h),move_same h]
theorem noI_hit {n:Nat} {q:Qm} (h:Inv n q) {l:Ls} (hl:l∈q.L):∃i:Nat,i<q.L.length∧noI q l.no=i∧q.L.getD i ls0=l:=by
 unfold noI idxI
 cases hf:q.L.findIdx? (fun x=>x.no==l.no) with
 | none=>
  rw[List.findIdx?_eq_none_iff] at hf
  have:=hf l hl
  simp at this
 | some i=>
  obtain ⟨hi,h1,_⟩:=List.findIdx?_eq_some_iff_getElem.1 hf
  refine⟨i,hi,rfl,?_⟩
  rw[List.getD,gEe hi]
  obtain ⟨j,hj,rfl⟩:=List.getElem_of_mem hl
  have h1:q.L[i].no=q.L[j].no:=by simpa using h1
  have hp:=List.pairwise_iff_getElem.1 h.nos
  rcases Nat.lt_trichotomy i j with hij|hij|hij
  ·have:=hp i j hi hj hij;omega
  ·subst hij;rfl
  ·have:=hp j i hj hi hij;omega
theorem noI_miss {q:Qm} {m:Int} (h:∀l∈q.L,l.no≠m):noI q m<0:=by
 unfold noI idxI
 have:q.L.findIdx? (fun x=>x.no==m)=none:=by
  rw[List.findIdx?_eq_none_iff]
  intro x hx
  have:=h x hx
  simpa using this
 rw[this]
 exact(by decide:(-1:Int)<0)
theorem no_erase {n:Nat} {q:Qm} (h:Inv n q) {i:Nat} (hi:i<q.L.length):∀l∈q.L.eraseIdx i,l.no≠(q.L.getD i ls0).no:=by
 intro l hl
 have hp:=List.pairwise_iff_getElem.1 h.nos
 rw[List.mem_eraseIdx_iff_getElem] at hl
 obtain ⟨j,hj,hij,rfl⟩:=hl
 rw[List.getD,gEe hi]
 show q.L[j].no≠q.L[i].no
 rcases Nat.lt_trichotomy i j with h1|h1|h1
 ·have:=hp i j hi hj h1;omega
 ·omega
 ·have:=hp j i hj hi h1;omega
/-! what becomes of those that failed -/
theorem fail_memW {q:Qm} {w:Wt} {t:Int} {x:Wt} (h:x∈q.W):x∈(failQ q w t).W:=by
 unfold failQ
 split
 ·exact h
 ·exact(insW_perm _ _ _).mem_iff.2 (List.mem_cons_of_mem _ h)
theorem fail_memD {q:Qm} {w:Wt} {t:Int} {x:Jb} (h:x∈q.D):x∈(failQ q w t).D:=by
 unfold failQ
 split
 ·exact List.mem_append_left _ h
 ·exact h
theorem fold_memW:∀(M:List Ls) {q:Qm} {x:Wt},x∈q.W→x∈(M.foldl failS q).W
 | [],_,_,h=>h
 | _ :: M,_,_,h=>fold_memW M (fail_memW h)
theorem fold_memD:∀(M:List Ls) {q:Qm} {x:Jb},x∈q.D→x∈(M.foldl failS q).D
 | [],_,_,h=>h
 | _ :: M,_,_,h=>fold_memD M (fail_memD h)
theorem fail_const (q:Qm) (w:Wt) (t:Int):(failQ q w t).lt=q.lt∧(failQ q w t).lp=q.lp:=by
 rw[fail_frame];exact⟨rfl,rfl⟩
theorem fold_hit:∀(M:List Ls) (q:Qm) {l:Ls},l∈M→(l.w.tr+1≥q.lt→l.w.j∈(M.foldl failS q).D)∧(¬l.w.tr+1≥q.lt→againW q l.w l.un∈(M.foldl failS q).W)
 | [],_,_,h=>absurd h List.not_mem_nil
 | m :: M,q,l,h=>by
  have hc:=fail_const q m.w m.un
  rcases List.mem_cons.1 h with rfl|h
  ·refine⟨fun hd=>fold_memD M ?_,fun hd=>fold_memW M ?_⟩
   ·show l.w.j∈(failQ q l.w l.un).D
    unfold failQ
    rw[if_pos hd]
    exact List.mem_append_right _ (by simp)
   ·show againW q l.w l.un∈(failQ q l.w l.un).W
    unfold failQ
    rw[if_neg hd]
    exact(insW_perm _ _ _).mem_iff.2 List.mem_cons_self
  ·have ih:=fold_hit M (failS q m) h
   have e1:(failS q m).lt=q.lt:=hc.1
   have e2:againW (failS q m) l.w l.un=againW q l.w l.un:=by
    unfold againW
    rw[show (failS q m).lp=q.lp from hc.2]
   rw[e1,e2] at ih
   exact ih
theorem nodup_inj {α β:Type} {f:α→β}:∀{l:List α} {a b:α},(l.map f).Nodup→a∈l→b∈l→f a=f b→a=b
 | [],_,_,_,h,_,_=>absurd h List.not_mem_nil
 | c :: l,a,b,hn,ha,hb,he=>by
  rw[List.map_cons,List.nodup_cons] at hn
  rcases List.mem_cons.1 ha with h1|h1<;>rcases List.mem_cons.1 hb with h2|h2
  ·rw[h1,h2]
  ·exact absurd (List.mem_map.2 ⟨b,h2,by rw[←he,h1]⟩) hn.1
  ·exact absurd (List.mem_map.2 ⟨a,h1,by rw[he,h2]⟩) hn.1
  ·exact nodup_inj hn.2 h1 h2 he
structure OutOK (x:Ls) (p:Qm):Prop where
 W:∀w∈p.W,w.j=x.w.j→w.tr=x.w.tr+1∧x.w.tr+1<p.lt∧w.ar=x.w.ar∧w.fr≥x.un
 D:(∀w∈p.W,w.j≠x.w.j)→x.w.j∈p.D∧x.w.tr+1≥p.lt
theorem out_ok {n:Nat} {q:Qm} (h:Inv n q) {x:Ls} (hx:x∈q.L) {t:Int} (ht:x.un≤t) (ht2:t≤1099511627776):OutOK x (moveQ q t):=by
 have hb:badT q t=false:=badT_iff.2 ⟨by have:=(h.L x hx).2.1;omega,ht2⟩
 have h1:=move_inv h hb
 have hM:x∈q.L.filter (overB t):=List.mem_filter.2 ⟨hx,by unfold overB;exact decide_eq_true ht⟩
 have hh:=fold_hit (q.L.filter (overB t)) (tickQ q t) hM
 have e1:(moveQ q t).lt=q.lt:=by rw[move_frame]
 have eW:(moveQ q t).W=((q.L.filter (overB t)).foldl failS (tickQ q t)).W:=rfl
 have eD:(moveQ q t).D=((q.L.filter (overB t)).foldl failS (tickQ q t)).D:=rfl
 rw[←eW,←eD] at hh
 have hn:=h1.nd
 have hpl:=h.base.lp
 have hun:=(h.L x hx).2.1
 have htr:=(h.L x hx).1
 unfold jobsQ at hn
 rw[List.map_append,List.map_append,List.append_assoc,List.nodup_append] at hn
 obtain ⟨hnW,hnR,hdis⟩:=hn
 rw[List.map_map] at hnW hdis
 refine⟨fun w hw hj=>?_,fun hno=>?_⟩
 ·by_cases hd:x.w.tr+1≥q.lt
  ·have hD:=hh.1 hd
   exfalso
   refine hdis (kv w.j) (List.mem_map.2 ⟨w,hw,rfl⟩) (kv x.w.j) (List.mem_append_right _ (List.mem_map.2 ⟨x.w.j,hD,rfl⟩)) ?_
   rw[hj]
  ·have hA:=hh.2 hd
   have:w=againW (tickQ q t) x.w x.un:=nodup_inj hnW hw hA (by show kv w.j=kv x.w.j;rw[hj])
   subst this
   refine⟨rfl,by rw[e1];omega,rfl,?_⟩
   show min (x.un+q.lp*2 ^ x.w.tr.toNat) 1099511627776≥x.un
   have:=(pause_le hpl.1 hpl.2 (k:=x.w.tr.toNat) (by have:=h.base.lt;omega)).1
   omega
 ·by_cases hd:x.w.tr+1≥q.lt
  ·exact⟨hh.1 hd,by rw[e1];exact hd⟩
  ·exact(hno _ (hh.2 hd) rfl).elim
end Go.Proofs
/- The queue runs dry,plain. -/
namespace Go.Proofs
open Go Go.Ab
theorem look_fold (T:Int):∀(ts:List Int) (s:Int×Bool),((ts.foldl (lookN T) s).2=true→(s.2=true∧(ts.foldl (lookN T) s).1=s.1)∨((ts.foldl (lookN T) s).1∈ts∧(ts.foldl (lookN T) s).1>T))∧((ts.foldl (lookN T) s).2=false→s.2=false∧∀t∈ts,t≤T)
 | [],s=>⟨fun h=>.inl ⟨h,rfl⟩,fun h=>⟨h,fun t ht=>absurd ht List.not_mem_nil⟩⟩
 | t :: ts,s=>by
  rw[List.foldl_cons]
  obtain ⟨h1,h2⟩:=look_fold T ts (lookN T s t)
  by_cases hc:(decide (t>T)&&(!s.2||decide (t<s.1)))=true
  ·have e:lookN T s t=(t,true):=if_pos hc
   rw[e] at h1 h2⊢
   rw[bAt,decide_eq_true_eq] at hc
   refine⟨fun h=>?_,fun h=>absurd (h2 h).1 (by simp)⟩
   rcases h1 h with ⟨-,h3⟩|⟨h3,h4⟩
   ·exact .inr ⟨by rw[h3];exact List.mem_cons_self,by rw[h3];exact hc.1⟩
   ·exact .inr ⟨List.mem_cons_of_mem _ h3,h4⟩
  ·have e:lookN T s t=s:=if_neg hc
   rw[e] at h1 h2⊢
   refine⟨fun h=>?_,fun h=>⟨(h2 h).1,fun x hx=>?_⟩⟩
   ·rcases h1 h with h3|⟨h3,h4⟩
    ·exact .inl h3
    ·exact .inr ⟨List.mem_cons_of_mem _ h3,h4⟩
   ·rcases List.mem_cons.1 hx with rfl|hx
    ·rw[(h2 h).1] at hc
     simpa using hc
    ·exact(h2 h).2 x hx
theorem nextR_fold (q:Qm):nextR q=(q.L.map (·.un)++q.W.map (·.fr)).foldl (lookN q.tick) (0,false):=by
 unfold nextR nextW nextL
 rw[List.take_length,List.take_length,List.foldl_append,List.foldl_map,List.foldl_map]
theorem next_no {q:Qm} (h:(nextR q).2=false):(∀l∈q.L,l.un≤q.tick)∧∀w∈q.W,w.fr≤q.tick:=by
 rw[nextR_fold] at h
 have:=((look_fold q.tick _ (0,false)).2 h).2
 exact⟨fun l hl=>this _ (List.mem_append_left _ (List.mem_map.2 ⟨l,hl,rfl⟩)),fun w hw=>this _ (List.mem_append_right _ (List.mem_map.2 ⟨w,hw,rfl⟩))⟩
abbrev sWorker:ByteArray:=⟨#[119,111,114,107,101,114]⟩
theorem worker_name:nameB sWorker=true:=by kernel_rfl
theorem lea_same {n:Nat} {q:Qm} (h:Inv n q):leaR q sWorker q.tick=(if bestI q q.tick q.W.length<0 then (ls0,7,q) else (leasE q sWorker q.tick (bestI q q.tick q.W.length).toNat,0,leasQ q sWorker q.tick (bestI q q.tick q.W.length).toNat)):=by
 unfold leaR
 dsimp only
 rw[mv_same h,if_neg (by rw[badT_same h];decide),if_neg (by rw[worker_name];decide)]
theorem dry {n:Nat} {q:Qm} (h:Inv n q) (hb:bestI q q.tick q.W.length<0) (hn:(nextR q).2=false):q.W.length=0∧q.L.length=0:=by
 obtain ⟨h1,h2⟩:=next_no hn
 have hL:q.L=[]:=by
  cases hq:q.L with
  | nil=>rfl
  | cons l L=>
   have hm:l∈q.L:=by rw[hq];exact List.mem_cons_self
   have:=h1 l hm
   have:=(h.L l hm).2.1.1
   omega
 refine⟨?_,by rw[hL];rfl⟩
 rcases Nat.eq_zero_or_pos q.W.length with h0|h0
 ·exact h0
 ·have:=(best_min q q.tick q.W.length).1 hb 0 h0
  unfold mayB heldN at this
  rw[hL] at this
  have hw:=h2 _ (getD_mem (x0:=wt0) h0)
  have hls:=h.base.ls
  rw[decide_eq_true hw,Bool.true_and,decide_eq_false_iff_not] at this
  exfalso
  apply this
  show ((0:Nat):Int)<q.ls
  omega
end Go.Proofs
/- A lease and its end,plain. -/
namespace Go.Proofs
open Go Go.Ab
theorem end_lt (q:Qm) (m t:Int):(endR q m t).2.2.lt=q.lt:=by
 have h:=mv_lt q t
 unfold endR
 dsimp only
 split
 ·exact h
 ·split<;>exact h
theorem do_lt (q:Qm) (a:Ac):(doR q a).2.lt=q.lt:=by
 have h:=mv_lt q a.tk
 unfold doR
 split
 ·unfold addR;dsimp only;split<;>exact h
 ·split
  ·unfold leaR;dsimp only;split
   ·exact h
   ·split
    ·exact h
    ·split<;>exact h
  ·split
   ·exact end_lt q _ _
   ·split
    ·unfold failR;dsimp only;split
     ·rw[(fail_const _ _ _).1];exact end_lt q _ _
     ·exact end_lt q _ _
    ·split
     ·unfold remR;dsimp only;split<;>exact h
     ·rfl
theorem lea_zero {n:Nat} {q:Qm} (h:Inv n q) (he:(leaR q sWorker q.tick).2.1=0):(leaR q sWorker q.tick).1∈(leaR q sWorker q.tick).2.2.L∧(leaR q sWorker q.tick).2.2.lt=q.lt:=by
 have e:=lea_same h
 by_cases hb:bestI q q.tick q.W.length<0
 ·rw[e,if_pos hb] at he;cases he
 ·rw[if_neg hb] at e
  rw[e]
  exact⟨List.mem_append_right _ (by simp),rfl⟩
theorem lea_nought {n:Nat} {q:Qm} (h:Inv n q) (he:(leaR q sWorker q.tick).2.1≠0):(leaR q sWorker q.tick).1=ls0:=by
 have e:=lea_same h
 by_cases hb:bestI q q.tick q.W.length<0
 ·rw[e,if_pos hb]
 ·rw[e,if_neg hb] at he;exact absurd rfl he
theorem early {n:Nat} {q:Qm} (h:Inv n q) {x:Ls} (hx:x∈q.L) (hu:x.un≤1099511627776):(endR q x.no (x.un-1)).1=x∧(endR q x.no (x.un-1)).2.1=0∧(endR (endR q x.no (x.un-1)).2.2 x.no (x.un-1)).2.1=7∧x.w.j∉jobsQ (endR (endR q x.no (x.un-1)).2.2 x.no (x.un-1)).2.2:=by
 have hun:=(h.L x hx).2.1
 have hb:badT q (x.un-1)=false:=badT_iff.2 ⟨by omega,by omega⟩
 have h1:=move_inv h hb
 have hx1:x∈(moveQ q (x.un-1)).L:=by
  rw[move_frame]
  refine List.mem_filter.2 ⟨hx,?_⟩
  unfold overB
  simp only[Bool.not_eq_true',decide_eq_false_iff_not]
  omega
 obtain ⟨i,hi,e1,e2⟩:=noI_hit h1 hx1
 have er:endR q x.no (x.un-1)=(x,0,{ moveQ q (x.un-1) with L:=(moveQ q (x.un-1)).L.eraseIdx i }):=by
  unfold endR
  dsimp only
  rw[mv_ok hb,if_neg (by rw[hb];decide),e1,if_neg (by omega),Int.toNat_natCast,e2]
 have hi4:=drop_inv h1 i hi
 have hno:=no_erase h1 hi
 have hdj:=drop_jobs (moveQ q (x.un-1)) i hi
 have hnd:=((hdj.map kv).nodup_iff).1 h1.nd
 rw[e2] at hno hdj hnd
 rw[er]
 refine⟨rfl,rfl,?_⟩
 dsimp only
 have et:({ moveQ q (x.un-1) with L:=(moveQ q (x.un-1)).L.eraseIdx i }:Qm).tick=x.un-1:=by
  show (moveQ q (x.un-1)).tick=_
  rw[move_frame]
 revert hi4 hno hnd et
 show _→(∀l∈({ moveQ q (x.un-1) with L:=(moveQ q (x.un-1)).L.eraseIdx i }:Qm).L,l.no≠x.no)→_
 generalize ({ moveQ q (x.un-1) with L:=(moveQ q (x.un-1)).L.eraseIdx i }:Qm)=q4
 intro hi4 hno hnd et
 have er2:endR q4 x.no (x.un-1)=(ls0,7,q4):=by
  unfold endR
  dsimp only
  rw[←et,mv_same hi4,if_neg (by rw[badT_same hi4];decide),if_pos (noI_miss hno)]
 rw[er2]
 refine⟨rfl,fun hm=>?_⟩
 exact(List.nodup_cons.1 hnd).1 (List.mem_map.2 ⟨_,hm,rfl⟩)
theorem late {n:Nat} {q:Qm} (h:Inv n q) {x:Ls} (hx:x∈q.L) {t:Int} (ht:x.un≤t) (ht2:t≤1099511627776):endR q x.no t=(ls0,7,moveQ q t)∧failR (moveQ q t) x.no t=(7,moveQ q t)∧OutOK x (moveQ q t)∧Inv n (moveQ q t)∧(moveQ q t).lt=q.lt:=by
 have hun:=(h.L x hx).2.1
 have hb:badT q t=false:=badT_iff.2 ⟨by omega,ht2⟩
 have h1:=move_inv h hb
 have hno:∀l∈(moveQ q t).L,l.no≠x.no:=by
  intro l hl he
  rw[move_frame] at hl
  obtain ⟨hl1,hl2⟩:=List.mem_filter.1 hl
  obtain ⟨i,hi,e1,e2⟩:=noI_hit h hl1
  obtain ⟨j,hj,e3,e4⟩:=noI_hit h hx
  rw[he,e3] at e1
  have:i=j:=by omega
  subst this
  rw[e2] at e4
  subst e4
  unfold overB at hl2
  simp only[Bool.not_eq_true',decide_eq_false_iff_not] at hl2
  omega
 have er:endR q x.no t=(ls0,7,moveQ q t):=by
  unfold endR
  dsimp only
  rw[mv_ok hb,if_neg (by rw[hb];decide),if_pos (noI_miss hno)]
 have et:(moveQ q t).tick=t:=by rw[move_frame]
 have er2:endR (moveQ q t) x.no t=(ls0,7,moveQ q t):=by
  revert h1 hno et
  generalize moveQ q t=q4
  intro h1 hno et
  unfold endR
  dsimp only
  rw[←et,mv_same h1,if_neg (by rw[badT_same h1];decide),if_pos (noI_miss hno)]
 refine⟨er,?_,out_ok h hx ht ht2,h1,by rw[move_frame]⟩
 unfold failR
 dsimp only
 rw[er2]
 rfl
end Go.Proofs
