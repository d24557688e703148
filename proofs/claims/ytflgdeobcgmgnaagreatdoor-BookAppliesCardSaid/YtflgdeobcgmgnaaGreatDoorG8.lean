import Derived.Test.YtflgdeobcgmgnaaGreatDoorAcD
import Derived.Test.YtflgdeobcgmgnaaGreatDoorAcE
import Derived.Test.YtflgdeobcgmgnaaGreatDoorG7
import Derived.Test.YtflgdeobcgmgnaaGreatDoorG0
import Derived.Test.YtflgdeobcgmgnaaGreatDoorG5
import Derived.Test.YtflgdeobcgmgnaaGreatDoorG6
set_option autoImplicit false
set_option maxHeartbeats 4000000
set_option maxRecDepth 100000
namespace Go.Proofs
open Go Go.Ab Go.RowKit
variable {G:IH} {w:World}
end Go.Proofs
namespace Go.Proofs
open Go Go.Ab Go.RowKit
end Go.Proofs
namespace Go.Proofs
open Go Go.Ab
end Go.Proofs
namespace Go.Proofs
open Go Go.Ab
variable {G:IH}
end Go.Proofs
namespace Go.Proofs
open Go Go.Ab Go.RowKit
variable {G:IH}
def rB (b:Bk) (e:Ev):Bk:=if appR b e=0 then appB b e else bk0
def H46 (G:IH):Prop:=∀b e,SzB b.es→Bnd b.es→okE e=true→FnOK Tryz.prog G 46 [bkD b,evD e] (.tup [bkD (rB b e),di (appR b e)])
noncomputable def S61 (l:List Ev) (j:Nat) (b:Bk):AS:=⟨regs Tryz.f61.ntmps [(0,.d (evsD l)),(2,.box 2 0),(3,vb false),(4,.box 4 0),(5,vi j)],[(2,[.d (di 0),.d (.con (.slice none 0 0))]),(4,(bkL b).map .d)]⟩
noncomputable def S61n (l:List Ev):AS:=⟨regs Tryz.f61.ntmps [(0,.d (evsD l)),(2,.box 2 0),(3,vb false),(4,.box 4 0),(5,vi 0)],[(2,[.d (di 0),.d (.con (.slice none 0 0))]),(4,[.d (di 0),.d (.con (.slice none 0 0))])]⟩
def orc61 (b:Bk) (e:Ev):Orc:={ d:=fun f _=>bif Nat.beq f 19 then some (db (okE e)) else bif Nat.beq f 50 then some (db (partB b.es e)) else bif Nat.beq f 46 then some (.tup [bkD (rB b e),di (appR b e)]) else none }
def r61 (l:List Ev):DV:=match repl okE l bk0 with
 | some b=>.tup [bkD b,db true]
 | none=>.tup [.agg [di 0,.con (.slice none 0 0)],db false]
theorem repl_stop {l:List Ev} {j:Nat} {b:Bk} (hj:j<l.length) (h:repl okE (l.take j) bk0=some b) (hn:¬(okE (l.getD j ev0)=true∧appC b (l.getD j ev0)=0)):repl okE l bk0=none:=by
 cases hr:repl okE l bk0 with
 | none=>rfl
 | some c=>
  exfalso
  have e:l=l.take j++(l.getD j ev0 :: l.drop (j+1)):=by
   rw[List.getD,gEe hj]
   show l=l.take j++(l[j] :: l.drop (j+1))
   rw[←List.drop_eq_getElem_cons hj,List.take_append_drop]
  rw[e] at hr
  obtain ⟨c1,h1,h2⟩:=repl_app.1 hr
  rw[h] at h1
  cases h1
  exact hn (repl_cons.1 h2).1
theorem repl_next {l:List Ev} {j:Nat} {b:Bk} (hj:j<l.length) (h:repl okE (l.take j) bk0=some b) (h1:okE (l.getD j ev0)=true) (h2:appC b (l.getD j ev0)=0):repl okE (l.take (j+1)) bk0=some (appB b (l.getD j ev0)):=by
 rw[List.take_succ_eq_append_getElem hj]
 refine repl_app.2 ⟨b,h,?_⟩
 have e:l.getD j ev0=l[j]:=by rw[List.getD,gEe hj];rfl
 rw[←e]
 exact repl_one.2 ⟨⟨h1,h2⟩,rfl⟩
theorem f61r (h46:H46 G) (l:List Ev) (hl:l.length≤1000000) (hs:∀e∈l,e.k.st.size≤1000000∧e.k.ex.size≤1000000):FnOK Tryz.prog G 61 [evsD l] (r61 l):=by
 refine FnOK.of_body Tryz.func61 rfl Tryz.call61 ?_
 refine walkK (orc:={ d:=noO }) (keep:=[]) (cuts:=[]) (n:=1000) follows ?_
 refine of_tr (fun ZT ZW ZQ _=>ZW [cd Tryz.f61 [1,1,0,1,0],(.blk 0),cd Tryz.f61 [1,1,1]] (stS ZT []) ZQ) (by kernel_rfl) ?_
 refine AWP.weaken (st':=S61n l) ?_ ?_
 ·exact AS.leA (by kernel_rfl)
 refine AWP.pre (.cell _ 4 1 (.d (ensD [])) (l:=[.d (di 0),.d (.con (.slice none 0 0))]) rfl rfl rfl fun β h v hv=>?_) ?_
 ·have hv:v=.slice none 0 0:=hv
  subst hv
  exact⟨none,0,rfl,Nat.le_refl _,.inl rfl⟩
 refine AWP.loop (c:=cAt (bodyOf Tryz.f61) [1,1,0,1,0,0]) (by kernel_rfl) (fun x:Nat×Bk=>S61 l x.1 x.2) (fun x=>x.1≤l.length∧repl okE (l.take x.1) bk0=some x.2) (fun x=>l.length-x.1) (0,bk0) ?_ ⟨Nat.zero_le _,rfl⟩ ?_
 ·exact AS.leA (by kernel_rfl)
 rintro ⟨j,b⟩ ⟨hj,hr⟩
 have hj:j≤l.length:=hj
 have hr:repl okE (l.take j) bk0=some b:=hr
 have hg:Good b:=good_repl good0 hr
 have hb:Bnd b.es:=bnd_repl (fun i h=>by cases h) hr
 have hz:=szB_of hg hb
 by_cases h2:j<l.length
 ·refine walkK (orc:=orc61 b (l.getD j ev0)) (keep:=[]) (cuts:=[]) (n:=1000) follows ?_
  refine of_rd (fun ZT ZW ZQ ZK ZA _=>(fun Za=>((((decide ((↑j:Int)<↑l.length))=true)→((((0≤(↑j:Int))∧((↑j:Int)<↑l.length))∧ZK 19 [Za] (db (okE (l.getD j ev0)))∧(((!!okE (l.getD j ev0))=true)→((0≤(↑j:Int))∧((↑j:Int)<↑l.length)))∧(((!!okE (l.getD j ev0))=true)→ZK 50 [(.agg [(di b.t),(.slc 7 b.es.length (enF b.es))]),Za] (db (partB b.es (l.getD j ev0)))))∧(((!okE (l.getD j ev0)||partB b.es (l.getD j ev0))=true)→(((.tup [(.agg [(di 0),(.con (.slice none 0 0))]),(db false)]):DV)=(r61 l)))∧(((!okE (l.getD j ev0)||partB b.es (l.getD j ev0))=false)→((((0≤(↑j:Int))∧((↑j:Int)<↑l.length))∧ZK 46 [(.agg [(di b.t),(.slc 7 b.es.length (enF b.es))]),Za] (.tup [(.agg [(di (rB b (l.getD j ev0)).t),(.slc 7 (rB b (l.getD j ev0)).es.length (enF (rB b (l.getD j ev0)).es))]),(di (appR b (l.getD j ev0)))]))∧(((appR b (l.getD j ev0) != 0)=true)→(((.tup [(.agg [(di 0),(.con (.slice none 0 0))]),(db false)]):DV)=(r61 l)))∧(((appR b (l.getD j ev0) != 0)=false)→((I64 (↑j+1))∧(ZA (stS ZT [0,1,1]))))))))∧(((decide ((↑j:Int)<↑l.length))=false)→ZW [cd Tryz.f61 [1,1,1]] (stS ZT [1]) ZQ))) ((.agg [(di (l.getD (↑j:Int).toNat ev0).kind),(ds (l.getD (↑j:Int).toNat ev0).k.st),(ds (l.getD (↑j:Int).toNat ev0).k.ex),(di (l.getD (↑j:Int).toNat ev0).k.n),(di (l.getD (↑j:Int).toNat ev0).t),(di (l.getD (↑j:Int).toNat ev0).v),(di (l.getD (↑j:Int).toNat ev0).h),(ds (l.getD (↑j:Int).toNat ev0).s),(db (l.getD (↑j:Int).toNat ev0).acc)]):DV)) (by kernel_rfl) ?_
  try dsimp only
  rw[show ((j:Int)).toNat=j from rfl]
  have hse:=hs _ (getD_memE h2)
  have hst:=repl_stop (l:=l) h2 hr
  have hnx:=repl_next (l:=l) h2 hr
  generalize l.getD j ev0=e at *
  have hnone:¬(okE e=true∧appC b e=0)→DV.tup [.agg [di 0,.con (.slice none 0 0)],db false]=r61 l:=fun hn=>by
   unfold r61;rw[hst hn]
  refine⟨fun _=>⟨⟨⟨by omega,by omega⟩,f19 e hse.1 hse.2,fun _=>⟨by omega,by omega⟩,fun _=>f50 b e hz⟩,fun c=>hnone ?_,fun c=>?_⟩,fun hd=>absurd (of_decide_eq_false hd) (by omega)⟩
  ·rintro ⟨q1,q2⟩
   rw[q1,Bool.not_true,Bool.false_or] at c
   have q3:e∈allE b.es:=of_decide_eq_true c
   have q4:appC b e=6:=by unfold appC;rw[if_pos ((has_iff hg e).2 q3)]
   rw[q4] at q2;exact absurd q2 (by decide)
  ·obtain ⟨c1,c2⟩:=Bool.or_eq_false_iff.1 c
   have ok:okE e=true:=by simpa using c1
   have hni:e∉allE b.es:=of_decide_eq_false c2
   have hh:hasB b.es e=false:=by
    rw[Bool.eq_false_iff];exact fun q=>hni ((has_iff hg e).1 q)
   have ha:=app_ref (ok_form ok) hg.few hb hh
   refine⟨⟨⟨by omega,by omega⟩,h46 b e hz hb ok⟩,fun c3=>hnone ?_,fun c3=>?_⟩
   ·have c3:appR b e≠0:=by simpa using c3
    rw[←ha]
    exact fun q=>c3 q.2
   ·have c3:appR b e=0:=by simpa using c3
    have hB:rB b e=appB b e:=by unfold rB;rw[if_pos c3]
    refine⟨⟨by omega,by omega⟩,Again.mk (j+1,appB b e) ?_ ⟨h2,hnx ok (by rw[←ha];exact c3)⟩ (by show l.length-(j+1)<l.length-j;omega)⟩
    refine AS.leZ [] [1] (b:=((T0∧T0∧T0∧T0∧T0∧True)∧T0∧((some [(vi (rB b e).t),(.d (.slc 7 (rB b e).es.length (enF (rB b e).es)))]):(Option (List AV)))=(some [(vi e.t),(.d (.slc 7 (appE b.es e).length (enF (appE b.es e))))])∧True)) (by kernel_rfl) (by kernel_rfl) ?_
    rw[hB]
    exact⟨⟨rfl,rfl,rfl,rfl,rfl,trivial⟩,rfl,rfl,trivial⟩
 ·obtain rfl:j=l.length:=by omega
  rw[List.take_length] at hr
  refine walkK (orc:={ d:=noO }) (keep:=[]) (cuts:=[5]) (n:=1000) follows ?_
  refine of_rd (fun ZT ZW ZQ _ _ ZR=>((((decide ((↑l.length:Int)<↑l.length))=true)→ZW [cd Tryz.f61 [1,1,0,1,0,0,1,0,0,0],cd Tryz.f61 [1,1,0,1,0,0,1,0,0,1],(.blk 1),cd Tryz.f61 [1,1,0,1,0,0,1,1]] (stS ZT [0]) ZR)∧(((decide ((↑l.length:Int)<↑l.length))=false)→ZW [cd Tryz.f61 [1,1,1]] (stS ZT [1]) ZQ))) (by kernel_rfl) ?_
  refine⟨fun hd=>absurd (of_decide_eq_true hd) (by omega),fun _=>?_⟩
  refine walkK (orc:={ d:=noO }) (keep:=[]) (cuts:=[]) (n:=1000) follows ?_
  refine of_tr (fun _ _ _ _=>(((.tup [(.agg [(di b.t),(.slc 7 b.es.length (enF b.es))]),(db true)]):DV)=(r61 l))) (by kernel_rfl) ?_
  unfold r61
  rw[hr]
def repB (l:List Ev):Bk:=(repl okE l bk0).getD bk0
theorem f61 (h46:H46 G) (l:List Ev) (hl:l.length≤1000000) (hs:∀e∈l,e.k.st.size≤1000000∧e.k.ex.size≤1000000):FnOK Tryz.prog G 61 [evsD l] (.tup [bkD (repB l),db (repl okE l bk0).isSome]):=by
 refine FnOK.imp (f61r h46 l hl hs) fun k v hv=>?_
 unfold r61 at hv
 unfold repB
 cases hr:repl okE l bk0 with
 | some b=>rw[hr] at hv;exact hv
 | none=>
  rw[hr] at hv
  obtain ⟨vs,e,x0,u0,e0,h0,rest⟩:=hv
  refine⟨vs,e,x0,u0,e0,?_,rest⟩
  obtain ⟨ws,e1,y0,w0,e2,k0,y1,w1,e3,k1,k2⟩:=h0
  refine⟨ws,e1,y0,w0,e2,k0,y1,w1,e3,?_,k2⟩
  have k1:y1=.slice none 0 0:=k1
  subst k1
  exact⟨none,0,rfl,Nat.le_refl _,.inl rfl⟩
noncomputable def S33 (b:Bk) (j:Nat):AS:=⟨regs Tryz.f33.ntmps [(1,.box 1 0),(2,vb false),(3,vi j)],[(1,(bkL b).map .d)]⟩
def orc33 (b:Bk):Orc:={ d:=fun f _=>bif Nat.beq f 59 then some (evsD (evsB b)) else bif Nat.beq f 61 then some (.tup [bkD (repB (evsB b)),db (repl okE (evsB b) bk0).isSome]) else bif Nat.beq f 17 then some (db (decide (repB (evsB b)=b))) else none }
theorem val_isSome (b:Bk) (h:b.es.length≤256):((repl okE (evsB b) bk0).isSome&&decide (repB (evsB b)=b))=valB okE b:=by
 unfold valB repB
 rw[decide_eq_true h,Bool.true_and]
 cases hr:repl okE (evsB b) bk0 with
 | none=>rfl
 | some c=>
  rw[Bool.eq_iff_iff]
  simp
theorem f33 (h46:H46 G) (b:Bk) (h:BkS b):FnOK Tryz.prog G 33 [bkD b] (db (valB okE b)):=by
 have hz:=h.sz
 have hv:=val_ref (ok:=okE) (fun _=>ok_form) b
 refine FnOK.of_body Tryz.func33 rfl Tryz.call33 ?_
 refine walkK (orc:=orc33 b) (keep:=[]) (cuts:=[]) (n:=1000) follows ?_
 refine of_tr (fun ZT ZW ZQ _=>((((decide ((↑b.es.length:Int)>256))=true)→(((db false):DV)=(db (valB okE b))))∧(((decide ((↑b.es.length:Int)>256))=false)→ZW [cd Tryz.f33 [1,1,0,1,0],(.blk 0),cd Tryz.f33 [1,1,1]] (stS ZT [1]) ZQ))) (by kernel_rfl) ?_
 refine⟨fun c=>?_,fun c=>?_⟩
 ·unfold valB
  rw[decide_eq_false (by have:=of_decide_eq_true c;omega),Bool.false_and]
 have hl:b.es.length≤256:=by have:=of_decide_eq_false c;omega
 refine AWP.loop (c:=cAt (bodyOf Tryz.f33) [1,1,0,1,0,0]) (by kernel_rfl) (fun j:Nat=>S33 b j) (fun j=>j≤b.es.length) (fun j=>b.es.length-j) 0 ?_ (Nat.zero_le _) ?_
 ·exact AS.leA (by kernel_rfl)
 intro j hj
 by_cases h2:j<b.es.length
 ·refine walkK (orc:=orc33 b) (keep:=[]) (cuts:=[]) (n:=1000) follows ?_
  refine of_rd (fun ZT ZW ZQ _ ZA _=>(fun Za=>((((decide ((↑j:Int)<↑b.es.length))=true)→((((0≤(↑j:Int))∧((↑j:Int)<↑b.es.length))∧(((!decide ((↑(b.es.getD (↑j:Int).toNat en0).gs.length:Int)>16))=true)→((0≤(↑j:Int))∧((↑j:Int)<↑b.es.length))))∧((Za=true)→(((db false):DV)=(db (valB okE b))))∧((Za=false)→((I64 (↑j+1))∧(ZA (stS ZT [0,1]))))))∧(((decide ((↑j:Int)<↑b.es.length))=false)→ZW [cd Tryz.f33 [1,1,1]] (stS ZT [1]) ZQ))) (decide ((↑(b.es.getD (↑j:Int).toNat en0).gs.length:Int)>16)||decide ((↑(b.es.getD (↑j:Int).toNat en0).aps.length:Int)>16))) (by kernel_rfl) ?_
  try dsimp only
  rw[show ((j:Int)).toNat=j from rfl]
  generalize hx:b.es.getD j en0=x
  refine⟨fun _=>⟨⟨⟨by omega,by omega⟩,fun _=>⟨by omega,by omega⟩⟩,fun c2=>?_,fun c2=>⟨⟨by omega,by omega⟩,Again.mk (j+1) ?_ h2 (by show b.es.length-(j+1)<b.es.length-j;omega)⟩⟩,fun hd=>absurd (of_decide_eq_false hd) (by omega)⟩
  ·have:valB okE b=false:=by
    rw[←hv]
    unfold valR
    rw[List.all_eq_false.2 ⟨x,?_,?_⟩,Bool.false_and,Bool.and_false]
    ·rw[←hx,List.getD,gEe h2]
     exact List.getElem_mem h2
    ·unfold bndE
     rw[Bool.or_eq_true,decide_eq_true_eq,decide_eq_true_eq] at c2
     intro q
     rw[bAt,decide_eq_true_eq,decide_eq_true_eq] at q
     omega
   rw[this]
  ·exact AS.leA (by kernel_rfl)
 ·obtain rfl:j=b.es.length:=by omega
  refine walkK (orc:=orc33 b) (keep:=[]) (cuts:=[8]) (n:=1000) follows ?_
  refine of_rd (fun ZT ZW ZQ _ ZA _=>(fun Za=>((((decide ((↑b.es.length:Int)<↑b.es.length))=true)→((((0≤(↑b.es.length:Int))∧((↑b.es.length:Int)<↑b.es.length))∧(((!decide ((↑Za.gs.length:Int)>16))=true)→((0≤(↑b.es.length:Int))∧((↑b.es.length:Int)<↑b.es.length))))∧(((decide ((↑Za.gs.length:Int)>16)||decide ((↑Za.aps.length:Int)>16))=true)→(((db false):DV)=(db (valB okE b))))∧(((decide ((↑Za.gs.length:Int)>16)||decide ((↑Za.aps.length:Int)>16))=false)→((I64 (↑b.es.length+1))∧(ZA (stS ZT [0,1]))))))∧(((decide ((↑b.es.length:Int)<↑b.es.length))=false)→ZW [cd Tryz.f33 [1,1,1]] (stS ZT [1]) ZQ))) (b.es.getD (↑b.es.length:Int).toNat en0)) (by kernel_rfl) ?_
  refine⟨fun hd=>absurd (of_decide_eq_true hd) (by omega),fun _=>?_⟩
  refine walkK (orc:=orc33 b) (keep:=[]) (cuts:=[]) (n:=1000) follows ?_
  refine of_tr (fun _ _ _ ZK=>(fun Za=>((ZK 59 [(.agg [(di b.t),(.slc 7 b.es.length (enF b.es))])] (.slc 9 (evsB b).length (evF (evsB b)))∧ZK 61 [(.slc 9 (evsB b).length (evF (evsB b)))] (.tup [Za,(db (repl okE (evsB b) bk0).isSome)]))∧(((repl okE (evsB b) bk0).isSome=true)→ZK 17 [Za,(.agg [(di b.t),(.slc 7 b.es.length (enF b.es))])] (db (decide (repB (evsB b)=b))))∧((db ((repl okE (evsB b) bk0).isSome&&decide (repB (evsB b)=b))):DV)=(db (valB okE b)))) ((.agg [(di (repB (evsB b)).t),(.slc 7 (repB (evsB b)).es.length (enF (repB (evsB b)).es))]):DV)) (by kernel_rfl) ?_
  try dsimp only
  have hse:∀e∈evsB b,e.k.st.size≤1000000∧e.k.ex.size≤1000000:=fun e he=>by
   obtain ⟨i,hi,rfl⟩:=List.mem_iff_getElem.1 he
   have:=h.str i
   rwa [List.getD,gEe hi] at this
  refine⟨⟨f59 b hz h.all,f61 h46 (evsB b) h.evs hse⟩,fun q=>f17 _ b ?_,congrArg db (val_isSome b hl)⟩
  obtain ⟨c,hc⟩:=Option.isSome_iff_exists.1 q
  have hR:repB (evsB b)=c:=by unfold repB;rw[hc];rfl
  rw[hR]
  exact szB_of (good_repl good0 hc) (bnd_repl (fun i h=>by cases h) hc)
def orc21 (b:Bk) (e:Ev):Orc:={ d:=fun f _=>bif Nat.beq f 33 then some (db (valB okE b)) else bif Nat.beq f 19 then some (db (okE e)) else bif Nat.beq f 50 then some (db (partB b.es e)) else none }
theorem part_has {b:Bk} (h:valB okE b=true) (e:Ev):partB b.es e=hasB b.es e:=by
 unfold partB
 rw[Bool.eq_iff_iff,decide_eq_true_eq]
 exact(has_iff (val_good h) e).symm
theorem f21 (h46:H46 G) (b:Bk) (e:Ev) (h:BkS b) (h1:e.k.st.size≤1000000) (h2:e.k.ex.size≤1000000):FnOK Tryz.prog G 21 [bkD b,evD e] (db (okE e&&(valB okE b&&hasB b.es e))):=by
 refine FnOK.walk (orc:=orc21 b e) (keep:=[]) follows Tryz.func21 rfl Tryz.call21 ?_
 refine of_tr (fun _ _ _ ZK=>(fun Za=>((ZK 33 [(.agg [(di b.t),(.slc 7 b.es.length (enF b.es))])] (db (valB okE b))∧(((!!valB okE b)=true)→ZK 19 [Za] (db (okE e))))∧(((!valB okE b||!okE e)=true)→(((db false):DV)=(db (okE e&&(valB okE b&&hasB b.es e)))))∧(((!valB okE b||!okE e)=false)→(ZK 50 [(.agg [(di b.t),(.slc 7 b.es.length (enF b.es))]),Za] (db (partB b.es e))∧((db (partB b.es e)):DV)=(db (okE e&&(valB okE b&&hasB b.es e))))))) ((.agg [(di e.kind),(ds e.k.st),(ds e.k.ex),(di e.k.n),(di e.t),(di e.v),(di e.h),(ds e.s),(db e.acc)]):DV)) (by kernel_rfl) ?_
 refine⟨⟨f33 h46 b h,fun _=>f19 e h1 h2⟩,fun c=>?_,fun c=>⟨f50 b e h.sz,?_⟩⟩
 ·cases c1:valB okE b with
  | false=>rw[Bool.false_and,Bool.and_false]
  | true=>
   rw[c1] at c
   have c:okE e=false:=by simpa using c
   rw[c];rfl
 ·obtain ⟨c1,c2⟩:=Bool.or_eq_false_iff.1 c
  have c1:valB okE b=true:=by simpa using c1
  have c2:okE e=true:=by simpa using c2
  rw[c1,c2,part_has c1];rfl
def nilBk:DV:=.agg [di 0,.con (.slice none 0 0)]
theorem nilBk_rel {n:Int} {h:IH} {v:Value} (hv:(DV.tup [nilBk,di n]).rel h v):(DV.tup [bkD bk0,di n]).rel h v:=by
 obtain ⟨vs,e,x0,u0,e0,h0,rest⟩:=hv
 refine⟨vs,e,x0,u0,e0,?_,rest⟩
 obtain ⟨ws,e1,y0,w0,e2,k0,y1,w1,e3,k1,k2⟩:=h0
 refine⟨ws,e1,y0,w0,e2,k0,y1,w1,e3,?_,k2⟩
 have k1:y1=.slice none 0 0:=k1
 subst k1
 exact⟨none,0,rfl,Nat.le_refl _,.inl rfl⟩
def r16 (b:Bk) (e:Ev):DV:=bif !valB okE b||!okE e then .tup [nilBk,di 1] else bif hasB b.es e then .tup [nilBk,di 6] else .tup [bkD (rB b e),di (appR b e)]
def orc16 (b:Bk) (e:Ev):Orc:={ d:=fun f _=>bif Nat.beq f 33 then some (db (valB okE b)) else bif Nat.beq f 19 then some (db (okE e)) else bif Nat.beq f 21 then some (db (okE e&&(valB okE b&&hasB b.es e))) else bif Nat.beq f 46 then some (.tup [bkD (rB b e),di (appR b e)]) else none }
theorem f16r (h46:H46 G) (b:Bk) (e:Ev) (h:BkS b) (h1:e.k.st.size≤1000000) (h2:e.k.ex.size≤1000000):FnOK Tryz.prog G 16 [bkD b,evD e] (r16 b e):=by
 refine FnOK.walk (orc:=orc16 b e) (keep:=[]) follows Tryz.func16 rfl Tryz.call16 ?_
 refine of_tr (fun _ _ _ ZK=>(fun Za Zb Zc Zd=>((ZK 33 [Zb] (db (valB okE b))∧(((!!valB okE b)=true)→ZK 19 [Za] (db (okE e))))∧(((!valB okE b||!okE e)=true)→(((.tup [(.agg [(di 0),(.con (.slice none 0 0))]),(di 1)]):DV)=(r16 b e)))∧(((!valB okE b||!okE e)=false)→(ZK 21 [Zb,Za] (db Zd)∧((Zd=true)→(((.tup [(.agg [(di 0),(.con (.slice none 0 0))]),(di 6)]):DV)=(r16 b e)))∧((Zd=false)→(ZK 46 [Zb,Za] Zc∧(Zc:DV)=(r16 b e))))))) ((.agg [(di e.kind),(ds e.k.st),(ds e.k.ex),(di e.k.n),(di e.t),(di e.v),(di e.h),(ds e.s),(db e.acc)]):DV) ((.agg [(di b.t),(.slc 7 b.es.length (enF b.es))]):DV) ((.tup [(.agg [(di (rB b e).t),(.slc 7 (rB b e).es.length (enF (rB b e).es))]),(di (appR b e))]):DV) (okE e&&(valB okE b&&hasB b.es e))) (by kernel_rfl) ?_
 unfold r16
 refine⟨⟨f33 h46 b h,fun _=>f19 e h1 h2⟩,fun c=>by rw[c];rfl,fun c=>?_⟩
 have c0:=c
 obtain ⟨c1,c2⟩:=Bool.or_eq_false_iff.1 c
 have c1:valB okE b=true:=by simpa using c1
 have c2:okE e=true:=by simpa using c2
 rw[c0,cond_false]
 refine⟨f21 h46 b e h h1 h2,fun c=>?_,fun c=>?_⟩
 ·rw[c1,c2,Bool.true_and,Bool.true_and] at c
  rw[c];rfl
 ·rw[c1,c2,Bool.true_and,Bool.true_and] at c
  rw[c]
  exact⟨h46 b e h.sz (val_bnd c1) c2,rfl⟩
theorem f16 (h46:H46 G) (b:Bk) (e:Ev) (h:BkS b) (h1:e.k.st.size≤1000000) (h2:e.k.ex.size≤1000000):FnOK Tryz.prog G 16 [bkD b,evD e] (.tup [bkD (apB okE b e),di (apC okE b e)]):=by
 refine FnOK.imp (f16r h46 b e h h1 h2) fun k v hv=>?_
 unfold r16 at hv
 by_cases c:valB okE b=true∧okE e=true
 ·rw[c.1,c.2] at hv
  have hC:apC okE b e=appC b e:=by unfold apC;rw[if_pos c]
  cases hh:hasB b.es e with
  | true=>
   rw[hh] at hv
   have h6:appC b e=6:=by unfold appC;rw[if_pos hh]
   have hB:apB okE b e=bk0:=by unfold apB;rw[hC,h6];rfl
   rw[hB,hC,h6]
   exact nilBk_rel hv
  | false=>
   rw[hh] at hv
   have ha:=app_ref (ok_form c.2) (val_good c.1).few (val_bnd c.1) hh
   have hB:apB okE b e=rB b e:=by unfold apB rB;rw[hC,ha]
   rw[hB,hC,←ha]
   exact hv
 ·have hC:apC okE b e=1:=by unfold apC;rw[if_neg c]
  have hB:apB okE b e=bk0:=by unfold apB;rw[hC];rfl
  have hq:(!valB okE b||!okE e)=true:=by
   cases q1:valB okE b with
   | false=>rfl
   | true=>
    cases q2:okE e with
    | false=>rfl
    | true=>exact absurd ⟨q1,q2⟩ c
  rw[hq] at hv
  rw[hB,hC]
  exact nilBk_rel hv
end Go.Proofs
