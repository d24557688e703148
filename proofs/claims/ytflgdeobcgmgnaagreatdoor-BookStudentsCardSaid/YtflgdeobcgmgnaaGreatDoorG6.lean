import Derived.Test.YtflgdeobcgmgnaaGreatDoorAcD
import Derived.Test.YtflgdeobcgmgnaaGreatDoorG5
import Derived.Test.YtflgdeobcgmgnaaGreatDoorG1
import Derived.Test.YtflgdeobcgmgnaaGreatDoorRows
import Derived.Lib.LaidTab
import Derived.ProofKit
import Derived.LaidMore
import Derived.OpenShut
import Derived.Stop.Joined
import Derived.Test.YtflgdeobcgmgnaaGreatDoorG0
/- The law BookTwice. -/
set_option autoImplicit false
namespace Go.Proofs
open Go Go.Ab Go.RowKit
set_option maxHeartbeats 4000000
set_option maxRecDepth 100000
variable {G:IH}
def orc55D (few:Bool) (b c:Bk) (x:Ev) (h:Bool):Oracle:=fun f a=>match f,a with
 | 11,_=>some (db true)
 | 12,[_,.con (.int _ n)]=>some (db (if n=24 then few else fewE [x] 1))
 | 13,_=>some (bkD b)
 | 14,_=>some (.tup [bkD (apB okE c x),di (apC okE c x)])
 | 20,_=>some (db h)
 | 24,[y]=>some (evsD (evsB (xBk y)))
 | _,_=>none
def orc55 (few:Bool) (b c:Bk) (x:Ev) (h:Bool):Orc:={ d:=orc55D few b c x h,rows:=fun n=>Nat.beq n 17 }
theorem f12e (e:Ev) {f:Nat→DV} (hf:f 0=evD e):FnOK Tryz.prog G 12 [.slc 9 1 f,di 1] (db (fewE [e] 1)):=
 FnOK.args (f12 [e] 1 (show 1≤9223372036854775807 by decide)) fun _ us hh=>DV.rels_cons (fun _ hv=>DV.rel_slc_congr (fun i hi=>by
  have hi:i<1:=hi
  obtain rfl:i=0:=by omega
  exact hf) hv) (fun _ h=>h) us hh
theorem few_one {x:Ev} (h:fewE [x] 1=true):x.k.st.size≤1000000∧x.k.ex.size≤1000000:=by
 have:=(few_of h).1 x (by simp)
 exact⟨by omega,by omega⟩
theorem few_l {l:List Ev} (h:fewE l 24=true):l.length≤24∧∀e∈l,e.k.st.size≤1000000∧e.k.ex.size≤1000000:=by
 obtain ⟨h1,h2⟩:=few_of h
 refine⟨by omega,fun e he=>?_⟩
 have:=h1 e he
 exact⟨by omega,by omega⟩
theorem f24v (b:Bk) (h:valB okE b=true):FnOK Tryz.prog G 24 [bkD b] (evsD (evsB b)):=by
 have:=f24 (G:=G) b (bkS_val h)
 rwa [if_pos h] at this
noncomputable def S5 (x:Ev) (b c:Bk):AS:=⟨regs Tryz.f5.ntmps [(3,.box 3 0),(4,vb false),(5,.box 5 0),(6,.box 6 0)],[(3,(evL x).map .d),(5,(bkL b).map .d),(6,(bkL c).map .d)]⟩
theorem f5 (hT:Tab G) (l:List Ev) (x:Ev) (hl:l.length≤9223372036854775807):FnOK Tryz.prog G 5 [evsD l,evD x] (db true):=by
 cases hf:fewE l 24 with
 | false=>
  refine FnOK.walkK (orc:=orc55 false bk0 bk0 x true) (keep:=[]) follows Tryz.func5 rfl Tryz.call5 ?_
  have h12:=f12 (G:=G) l 24 hl
  rw[hf] at h12
  refine of_tr (fun _ _ _ ZK=>(fun Za Zb Zc Zd Ze Zf=>(ZK 11 [] (db true)∧((false=true)→(((db false):DV)=(db true)))∧((false=false)→((ZK 12 [(.slc 9 l.length (evF l)),(di 24)] (db (if (24:Int)=(24:Int) then false else fewE [x] (1:Int)))∧(((!!if (24:Int)=(24:Int) then false else fewE [x] (1:Int))=true)→ZK 12 [(db false),(di 1)] (db (if (1:Int)=(24:Int) then false else fewE [x] (1:Int)))))∧((((!if (24:Int)=(24:Int) then false else fewE [x] (1:Int))||!if (1:Int)=(24:Int) then false else fewE [x] (1:Int))=true)→(ZS ((db true):DV)))∧((((!if (24:Int)=(24:Int) then false else fewE [x] (1:Int))||!if (1:Int)=(24:Int) then false else fewE [x] (1:Int))=false)→(ZK 13 [(.slc 9 l.length (evF l))] Zf∧ZK 14 [Zf,Zb] (.tup [Za,(di (apC okE bk0 x))])∧ZK 20 [Zf,Zb] (db true)∧(((!(apC okE bk0 x==6)==true)=true)→(((db false):DV)=(db true)))∧(((!(apC okE bk0 x==6)==true)=false)→((((apC okE bk0 x != 0)=true)→(((db ((↑(apB okE bk0 x).es.length:Int)==0&&(apB okE bk0 x).t==0)):DV)=(db true)))∧(((apC okE bk0 x != 0)=false)→(ZK 14 [Za,Zb] (.tup [Za,(di (apC okE bk0 x))])∧(ZK 20 [Za,Zb] (db true)∧((Ze=true)→ZK 24 [Za] (.slc 9 Zc.length (evF Zc)))∧((Ze=true)→ZK 24 [Zf] (.slc 9 0 (evF Zd)))∧((Ze=true)→(I64 (↑Zd.length+1))))∧((db (true&&apC okE bk0 x==6&&(↑(apB okE bk0 x).es.length:Int)==0&&(↑Zc.length:Int)==↑Zd.length+1)):DV)=(db true))))))))))) ((.agg [(di (apB okE bk0 x).t),(.slc 7 (apB okE bk0 x).es.length (enF (apB okE bk0 x).es))]):DV) ((.agg [(di x.kind),(ds x.k.st),(ds x.k.ex),(di x.k.n),(di x.t),(di x.v),(di x.h),(ds x.s),(db x.acc)]):DV) (evsB (xBk (DV.agg [DV.con (Value.int IntKind.i64 (apB okE bk0 x).t),DV.slc 7 (apB okE bk0 x).es.length (enF (apB okE bk0 x).es)]))) (evsB (xBk (DV.agg [di 0,DV.slc 7 0 (enF [])]))) (true&&apC okE bk0 x==6&&(↑(apB okE bk0 x).es.length:Int)==0) ((.agg [(di 0),(.slc 7 0 (enF []))]):DV)) (by kernel_rfl) ?_
  exact⟨f11 hT,fun c=>(by cases c),fun _=>⟨⟨h12,fun c=>(by cases c)⟩,fun _=>rfl,fun c=>(by cases c)⟩⟩
 | true=>
  obtain ⟨l24,lk⟩:=few_l hf
  have hv:=mk_valE l
  have tw:=twice (ok:=okE) (fun _=>ok_form) l x
  have h13:=f13 (G:=G) l (by omega) lk
  have h12:=f12 (G:=G) l 24 hl
  rw[hf] at h12
  generalize mkB okE l=b at hv tw h13
  obtain ⟨t6,t0⟩:=tw
  refine FnOK.of_body Tryz.func5 rfl Tryz.call5 ?_
  refine walkK (orc:=orc55 true b b x (okE x&&(valB okE b&&hasB b.es x))) (keep:=[]) (cuts:=[11]) (n:=1000) follows ?_
  refine of_tr (fun ZT ZW ZQ ZK=>(fun Za Zb Zc=>(ZK 11 [] (db true)∧((false=true)→(((db false):DV)=(db true)))∧((false=false)→((ZK 12 [(.slc 9 l.length (evF l)),(di 24)] (db (if (24:Int)=(24:Int) then true else fewE [x] (1:Int)))∧(((!!if (24:Int)=(24:Int) then true else fewE [x] (1:Int))=true)→ZK 12 [(.slc 9 1 (fun i=>elemF true 9 [di x.kind,ds x.k.st,ds x.k.ex,di x.k.n,di x.t,di x.v,di x.h,ds x.s,DV.con (Value.bool x.acc)] (0+i))),(di 1)] (db (if (1:Int)=(24:Int) then true else fewE [x] (1:Int)))))∧((((!if (24:Int)=(24:Int) then true else fewE [x] (1:Int))||!if (1:Int)=(24:Int) then true else fewE [x] (1:Int))=true)→(ZS ((db true):DV)))∧((((!if (24:Int)=(24:Int) then true else fewE [x] (1:Int))||!if (1:Int)=(24:Int) then true else fewE [x] (1:Int))=false)→(ZK 13 [(.slc 9 l.length (evF l))] Zb∧ZK 14 [Zb,Za] (.tup [(.agg [(di (apB okE b x).t),(.slc 7 (apB okE b x).es.length (enF (apB okE b x).es))]),(di (apC okE b x))])∧ZK 20 [Zb,Za] (db Zc)∧(((!(apC okE b x==6)==Zc)=true)→(((db false):DV)=(db true)))∧(((!(apC okE b x==6)==Zc)=false)→((((apC okE b x != 0)=true)→(((db ((↑(apB okE b x).es.length:Int)==0&&(apB okE b x).t==0)):DV)=(db true)))∧(((apC okE b x != 0)=false)→ZW [cd Tryz.f5 [1,1,1,1,1,1,1]] (stS ZT [1,1,1,1]) ZQ))))))))) ((.agg [(di x.kind),(ds x.k.st),(ds x.k.ex),(di x.k.n),(di x.t),(di x.v),(di x.h),(ds x.s),(db x.acc)]):DV) ((.agg [(di b.t),(.slc 7 b.es.length (enF b.es))]):DV) (okE x&&(valB okE b&&hasB b.es x))) (by kernel_rfl) ?_
  refine⟨f11 hT,fun c=>(by cases c),fun _=>⟨⟨h12,fun _=>f12e x rfl⟩,fun _=>rfl,fun c=>?_⟩⟩
  have hx:fewE [x] 1=true:=by
   cases q:fewE [x] 1 with
   | true=>rfl
   | false=>rw[q] at c;cases c
  obtain ⟨x1,x2⟩:=few_one hx
  refine⟨h13,f14 b x (bkS_val hv) x1 x2,f20 b x (bkS_val hv) x1 x2,fun c=>?_,fun _=>⟨fun c=>?_,fun c=>?_⟩⟩
  ·exfalso
   rw[hv,Bool.true_and] at c
   by_cases h6:apC okE b x=6
   ·obtain ⟨a1,a2⟩:=t6.1 h6
    rw[h6,a1,a2] at c;cases c
   ·have:(okE x&&hasB b.es x)=false:=by
     rw[Bool.eq_false_iff]
     intro q
     rw[bAt] at q
     exact h6 (t6.2 q)
    rw[this] at c
    have e6:(apC okE b x==6)=false:=by simpa using h6
    rw[e6] at c;cases c
  ·have c:apC okE b x≠0:=by simpa using c
   have:apB okE b x=bk0:=by unfold apB;rw[if_neg c]
   rw[this];rfl
  ·have c:apC okE b x=0:=by simpa using c
   obtain ⟨p6,ph,po,pv,pl⟩:=t0 c
   have hab:apB okE b x=appB b x:=by unfold apB;rw[if_pos c]
   refine AWP.weaken (st':=S5 x b (apB okE b x)) ?_ ?_
   ·exact AS.leA (by kernel_rfl)
   rw[hab]
   generalize appB b x=d at p6 ph pv pl⊢
   refine walkK (orc:=orc55 true b d x true) (keep:=[]) (cuts:=[]) (n:=1000) follows ?_
   refine of_tr (fun _ _ _ ZK=>(fun Za Zb Zc Zd Ze=>(ZK 14 [Ze,Zd] (.tup [(.agg [(di (apB okE d x).t),(.slc 7 (apB okE d x).es.length (enF (apB okE d x).es))]),(di (apC okE d x))])∧(ZK 20 [Ze,Zd] (db true)∧((Zc=true)→ZK 24 [Ze] (.slc 9 Zb.length (evF Zb)))∧((Zc=true)→ZK 24 [(.agg [(di b.t),(.slc 7 b.es.length (enF b.es))])] (.slc 9 Za.length (evF Za)))∧((Zc=true)→(I64 (↑Za.length+1))))∧((db (true&&apC okE d x==6&&(↑(apB okE d x).es.length:Int)==0&&(↑Zb.length:Int)==↑Za.length+1)):DV)=(db true))) (evsB (xBk (DV.agg [di b.t,DV.slc 7 b.es.length (enF b.es)]))) (evsB (xBk (DV.agg [di d.t,DV.slc 7 d.es.length (enF d.es)]))) (true&&apC okE d x==6&&(↑(apB okE d x).es.length:Int)==0) ((.agg [(di x.kind),(ds x.k.st),(ds x.k.ex),(di x.k.n),(di x.t),(di x.v),(di x.h),(ds x.s),(db x.acc)]):DV) ((.agg [(di d.t),(.slc 7 d.es.length (enF d.es))]):DV)) (by kernel_rfl) ?_
   try dsimp only
   simp only[xBk_eq]
   have h20:=f20 (G:=G) d x (bkS_val pv) x1 x2
   rw[po,pv,ph] at h20
   have hd0:apB okE d x=bk0:=by unfold apB;rw[if_neg (by rw[p6];decide)]
   have hb:=(bkS_val hv).evs
   refine⟨f14 d x (bkS_val pv) x1 x2,⟨h20,fun _=>f24v d pv,fun _=>f24v b hv,fun _=>⟨by omega,by omega⟩⟩,congrArg db ?_⟩
   rw[p6,hd0,pl]
   show (true&&true&&true&&_)=true
   simp
end Go.Proofs
/- The gradebook,plain: an event of another student. -/
namespace Go.Proofs
variable {ok:Ev→Bool}
def updE (e:Ev) (x:En):En:=if x.k=e.k then stepE x e else x
theorem stepE_k (x:En) (e:Ev):(stepE x e).k=x.k:=by
 unfold stepE
 split
 ·rfl
 ·split<;>rfl
theorem updE_k (e:Ev) (x:En):(updE e x).k=x.k:=by
 unfold updE
 split
 ·exact stepE_k x e
 ·rfl
theorem appE_upd {es:List En} {e:Ev} (dis:(keyS es).Nodup) (h0:e.kind≠0):appE es e=es.map (updE e):=by
 cases hf:findB es e.k with
 | none=>
  have hn:∀x∈es,x.k≠e.k:=by
   intro x hx c
   unfold findB at hf
   rw[List.findIdx?_eq_none_iff] at hf
   have:=hf x.k (List.mem_map.2 ⟨x,hx,rfl⟩)
   simp[c] at this
  have e1:appE es e=es:=by
   unfold appE
   rw[if_neg h0,hf]
  rw[e1]
  have:es.map (updE e)=es.map id:=List.map_congr_left fun x hx=>by
   unfold updE
   rw[if_neg (hn x hx)];rfl
  rw[this,List.map_id]
 | some i=>
  rw[appE_some h0 hf]
  obtain ⟨il,ik⟩:=findB_some hf
  refine List.ext_getElem (by simp) fun j h1 h2=>?_
  rw[List.getElem_map]
  rw[List.length_set] at h1
  have ig:es.getD i en0=es[i]:=by rw[List.getD,List.getElem?_eq_getElem il];rfl
  by_cases c:i=j
  ·subst c
   rw[List.getElem_set_self,ig]
   unfold updE
   rw[ig] at ik
   rw[if_pos ik]
  ·rw[List.getElem_set_ne c]
   unfold updE
   have hk:es[j].k≠e.k:=by
    rw[ig] at ik
    rw[←ik]
    rcases Nat.lt_or_gt_of_ne c with q|q
    ·exact fun h=>key_ne dis q h1 h.symm
    ·exact key_ne dis q il
   rw[if_neg hk]
def sdF (es:List En) (s:ByteArray):List En:=es.filter fun x=>decide (x.k.st=s)
theorem sdF_map {es:List En} {s:ByteArray} {e:Ev}:sdF (es.map (updE e)) s=(sdF es s).map (updE e):=by
 unfold sdF
 rw[List.filter_map]
 congr 1
 refine List.filter_congr fun x _=>?_
 simp only[Function.comp,updE_k]
theorem updE_other {e:Ev} {x:En} (h:x.k.st≠e.k.st):updE e x=x:=by
 unfold updE
 rw[if_neg (fun c=>h (by rw[c]))]
theorem sdF_other {es:List En} {e:Ev} {s:ByteArray} (dis:(keyS es).Nodup) (hs:e.k.st≠s):sdF (appE es e) s=sdF es s:=by
 by_cases h0:e.kind=0
 ·have e1:appE es e=es++[⟨e.k,e.t,e.s,[],[]⟩]:=by
   unfold appE;rw[if_pos h0]
  rw[e1]
  unfold sdF
  rw[List.filter_append]
  have:([⟨e.k,e.t,e.s,[],[]⟩]:List En).filter (fun x=>decide (x.k.st=s))=[]:=by simp[hs]
  rw[this,List.append_nil]
 ·rw[appE_upd dis h0,sdF_map]
  have:(sdF es s).map (updE e)=(sdF es s).map id:=List.map_congr_left fun x hx=>by
   have:=(List.mem_filter.1 hx).2
   have:x.k.st=s:=by simpa using this
   exact updE_other (by rw[this];exact Ne.symm hs)
  rw[this,List.map_id]
theorem sdF_same {es fs:List En} {e:Ev} {s:ByteArray} (d1:(keyS es).Nodup) (d2:(keyS fs).Nodup) (h:sdF es s=sdF fs s):sdF (appE es e) s=sdF (appE fs e) s:=by
 by_cases h0:e.kind=0
 ·have e1:∀es:List En,appE es e=es++[⟨e.k,e.t,e.s,[],[]⟩]:=fun es=>by
   unfold appE;rw[if_pos h0]
  rw[e1,e1]
  unfold sdF at h⊢
  rw[List.filter_append,List.filter_append,h]
 ·rw[appE_upd d1 h0,appE_upd d2 h0,sdF_map,sdF_map,h]
theorem find_app {es:List En} {e:Ev} {k:Ky} (hk:k≠e.k):findB (appE es e) k=findB es k:=by
 by_cases h0:e.kind=0
 ·unfold findB
  rw[app_keys0 h0,List.findIdx?_append]
  have:[e.k].findIdx? (fun x=>decide (x=k))=none:=by
   rw[List.findIdx?_eq_none_iff]
   intro x hx
   obtain rfl:=List.mem_singleton.1 hx
   simpa using Ne.symm hk
  rw[this]
  cases (keyS es).findIdx? fun x=>decide (x=k)<;>rfl
 ·unfold findB
  rw[app_keys h0]
theorem getD_appE {es:List En} {e:Ev} {i:Nat} (hi:i<es.length) (hk:(es.getD i en0).k≠e.k):(appE es e).getD i en0=es.getD i en0:=by
 by_cases h0:e.kind=0
 ·have e1:appE es e=es++[⟨e.k,e.t,e.s,[],[]⟩]:=by
   unfold appE;rw[if_pos h0]
  rw[e1,List.getD,List.getD,List.getElem?_append_left hi]
 ·cases hf:findB es e.k with
  | none=>
   have e1:appE es e=es:=by
    unfold appE
    rw[if_neg h0,hf]
   rw[e1]
  | some j=>
   obtain ⟨jl,jk⟩:=findB_some hf
   have hji:j≠i:=by
    rintro rfl
    exact hk jk
   rw[appE_some h0 hf]
   show ((es.set j _)[i]?).getD en0=(es[i]?).getD en0
   rw[List.getElem?_set_ne hji]
theorem cnt_app {es:List En} {e:Ev} {k:Ky} (hk:k.st≠e.k.st):cntB (appE es e) k=cntB es k:=by
 unfold cntB
 by_cases h0:e.kind=0
 ·rw[app_keys0 h0,List.filter_append]
  have:[e.k].filter (samK k)=[]:=by simp[samK,Ne.symm hk]
  rw[this,List.append_nil]
 ·rw[app_keys h0]
theorem len_app {es:List En} {e:Ev}:(appE es e).length=es.length+(if e.kind=0 then 1 else 0):=by
 unfold appE
 split
 ·simp
 ·split<;>simp
theorem other_app {b:Bk} {x y:Ev} (hs:y.k.st≠x.k.st) (ht:y.t=x.t) (hx:appC b x=0) (hy:appC b y=0) (fx:formE x) (g:Good b):appC (appB b x) y=(if y.kind=0∧256≤(appB b x).es.length then 8 else 0):=by
 have hk:y.k≠x.k:=fun c=>hs (by rw[c])
 obtain ⟨a1,a2⟩:=app_ok hy
 have hh:¬hasB (appB b x).es y=true:=by
  rw[show (appB b x).es=appE b.es x from rfl,has_step g fx hx y]
  rintro (c|c)
  ·exact hs (by rw[c])
  ·rw[a1] at c;cases c
 have hT:¬y.t<(appB b x).t:=by
  show ¬y.t<x.t
  omega
 by_cases h0:y.kind=0
 ·obtain ⟨n1,n2⟩:=app_ok0 hy h0
  have hc:cntB (appB b x).es y.k=cntB b.es y.k:=cnt_app hs
  unfold appC
  rw[if_neg hh,if_neg hT,if_pos h0,hc,if_neg (by omega)]
  by_cases c:256≤(appB b x).es.length
  ·rw[if_pos c,if_pos ⟨h0,c⟩]
  ·rw[if_neg c,if_neg (fun q=>c q.2)]
 ·obtain ⟨i,h1,h2,_⟩:=app_okE hy h0
  obtain ⟨il,ik⟩:=findB_some h1
  have hf:findB (appB b x).es y.k=some i:=(find_app hk).trans h1
  have hg:(appB b x).es.getD i en0=b.es.getD i en0:=getD_appE il (by rw[ik];exact hk)
  unfold appC
  rw[if_neg hh,if_neg hT,if_neg h0,hf,if_neg (fun q=>h0 q.1)]
  try dsimp only
  rw[hg,h2]
theorem others {b:Bk} {x y:Ev} (hs:y.k.st≠x.k.st) (ht:y.t=x.t) (hx:appC b x=0) (hy:appC b y=0) (fx:formE x) (fy:formE y) (g:Good b) :
  (appC (appB b x) y=8∨(appC (appB b x) y=0∧appC (appB b y) x=0))∧∀s,sdF (appB (appB b x) y).es s=sdF (appB (appB b y) x).es s:=by
 have e1:=other_app hs ht hx hy fx g
 have e2:=other_app (Ne.symm hs) ht.symm hy hx fy g
 constructor
 ·rw[e1,e2]
  by_cases c:y.kind=0∧256≤(appB b x).es.length
  ·rw[if_pos c];exact .inl rfl
  ·rw[if_neg c]
   refine .inr ⟨rfl,?_⟩
   rw[if_neg]
   rintro ⟨c1,c2⟩
   obtain ⟨_,n2⟩:=app_ok0 hx c1
   have l1:(appB b x).es.length=b.es.length+(if x.kind=0 then 1 else 0):=len_app
   have l2:(appB b y).es.length=b.es.length+(if y.kind=0 then 1 else 0):=len_app
   rw[if_pos c1] at l1
   by_cases c3:y.kind=0
   ·rw[if_pos c3] at l2
    exact c ⟨c3,by omega⟩
   ·rw[if_neg c3] at l2
    omega
 ·intro s
  have gx:=(good_step g hx).dis
  have gy:=(good_step g hy).dis
  show sdF (appE (appB b x).es y) s=sdF (appE (appB b y).es x) s
  by_cases c:s=y.k.st
  ·subst c
   rw[sdF_other (es:=(appB b y).es) gy (Ne.symm hs)]
   exact sdF_same gx g.dis (sdF_other g.dis (Ne.symm hs))
  ·rw[sdF_other (es:=(appB b x).es) gx (Ne.symm c)]
   exact sdF_same g.dis gy (sdF_other g.dis (Ne.symm c)).symm
end Go.Proofs
/- Attempts,plain: the best ones,by sorting and by counting;a better one never lowers their sum. -/
namespace Go.Proofs
def smL:List Int→Int
 | []=>0
 | a :: l=>a+smL l
theorem smL_app (l m:List Int):smL (l++m)=smL l+smL m:=by
 induction l with
 | nil=>simp[smL]
 | cons a l ih=>simp only[List.cons_append,smL,ih];omega
def sm (f:Nat→Int) (n:Nat):Int:=smL ((List.range n).map f)
theorem sm_succ (f:Nat→Int) (n:Nat):sm f (n+1)=sm f n+f n:=by
 unfold sm
 rw[List.range_succ,List.map_append,smL_app]
 simp[smL]
theorem sm_zero (f:Nat→Int):sm f 0=0:=rfl
section
variable {κ:Nat→Int}
end
def topS (v:Nat→Int) (n k:Nat):Int:=sm (fun p=>v (stab (fun i=>- v i) n p)) k
def better (v:Nat→Int) (n i:Nat):Nat:=((List.range n).filter fun k=>decide (v i<v k)||(decide (v k=v i)&&decide (k<i))).length
end Go.Proofs
/- Attempts,plain: the points. -/
namespace Go.Proofs
def finS (kind:Int) (k:Nat) (v:Nat→Int) (n:Nat):Int:=if kind=1 then v (n-1) else topS v n (min k n)
def finC (kind:Int) (k n:Nat):Nat:=if kind=1 then 1 else min k n
def finP (kind:Int) (k:Nat) (v:Nat→Int) (n:Nat):Int:=if n=0 then 0 else (2*finS kind k v n+finC kind k n) / (2*finC kind k n)
end Go.Proofs
/- The gradebook,plain: the points of a student. -/
namespace Go.Proofs
structure At where
 n:Int
 t:Int
 h:Int
 deriving DecidableEq
structure Ru where
 kind:Int
 most:Int
 pause:Int
 keep:Int
def at0:At:=⟨0,0,0⟩
def tickB (t:Int):Bool:=decide (0≤t)&&decide (t≤1099511627776)
def ruOK (r:Ru):Bool:=decide (0≤r.kind)&&(decide (r.kind≤2)&&(decide (1≤r.most)&&(decide (r.most≤16)&&(tickB r.pause&&(if r.kind=2 then decide (1≤r.keep)&&decide (r.keep≤r.most) else decide (r.keep=0))))))
def atOK (l:List At) (i:Nat):Bool:=decide ((l.getD i at0).n=i+1)&&(decide (i=0∨(l.getD (i-1) at0).t≤(l.getD i at0).t)&&(tickB (l.getD i at0).t&&(decide (0≤(l.getD i at0).h)&&decide ((l.getD i at0).h≤100000000))))
def validA (r:Ru) (l:List At):Bool:=ruOK r&&(decide ((l.length:Int)≤r.most)&&(List.range l.length).all (atOK l))
def valA (l:List At) (i:Nat):Int:=(l.getD i at0).h
def keepA (r:Ru):Nat:=if r.kind=2 then r.keep.toNat else 1
def finA (r:Ru) (l:List At):Int:=finP r.kind (keepA r) (valA l) l.length
def finRn (r:Ru) (l:List At):Int:=if validA r l=true then finA r l else 0
def finRe (r:Ru) (l:List At):Int:=if validA r l=true then 0 else 1
def attX (st ex:ByteArray) (x:En):Option (Int×Int):=if x.k.st=st∧x.k.ex=ex then x.gs.getLast?.map fun g=>(x.t,g.h) else none
def attE (es:List En) (st ex:ByteArray):List (Int×Int):=es.filterMap (attX st ex)
def numA (l:List (Int×Int)):List At:=l.mapIdx fun i p=>⟨i+1,p.1,p.2⟩
theorem numA_len (l:List (Int×Int)):(numA l).length=l.length:=by simp[numA]
theorem numA_snoc (l:List (Int×Int)) (p:Int×Int):numA (l++[p])=numA l++[⟨l.length+1,p.1,p.2⟩]:=by
 unfold numA
 rw[List.mapIdx_append];simp
theorem att_other {es:List En} {e:Ev} {st ex:ByteArray} (dis:(keyS es).Nodup) (hs:e.k.st≠st):attE (appE es e) st ex=attE es st ex:=by
 by_cases h0:e.kind=0
 ·have e1:appE es e=es++[⟨e.k,e.t,e.s,[],[]⟩]:=by
   unfold appE;rw[if_pos h0]
  rw[e1]
  unfold attE
  rw[List.filterMap_append]
  simp[attX]
 ·rw[appE_upd dis h0]
  unfold attE
  rw[List.filterMap_map]
  have:(attX st ex ∘ updE e)=attX st ex:=by
   funext x
   show attX st ex (updE e x)=attX st ex x
   by_cases c:x.k=e.k
   ·have:¬(x.k.st=st∧x.k.ex=ex):=fun q=>hs (by rw[←c];exact q.1)
    unfold attX
    rw[updE_k,if_neg this,if_neg this]
   ·unfold updE
    rw[if_neg c]
  rw[this]
end Go.Proofs
/- Attempts: rules,comparing. -/
namespace Go.Proofs
open Go Go.Ab Go.RowKit
set_option maxHeartbeats 1000000
set_option maxRecDepth 100000
variable {G:IH}
abbrev atD (a:At):DV:=.agg [di a.n,di a.t,di a.h]
def atF (l:List At) (i:Nat):DV:=atD (l.getD i at0)
abbrev atsD (l:List At):DV:=.slc 3 l.length (atF l)
abbrev ruL (r:Ru):List DV:=[di r.kind,di r.most,di r.pause,di r.keep]
abbrev ruD (r:Ru):DV:=.agg (ruL r)
def xAt:DV→At
 | .agg [.con (.int _ a),.con (.int _ b),.con (.int _ c)]=>⟨a,b,c⟩
 | _=>at0
abbrev atK:RK:=⟨true,57,false,none⟩
def atR (L:Nat→At) (σ:Nat→Nat) (i:Nat):DV:=atD (L (σ i))
abbrev atC:AV:=.d (.con (.func (.func 130) #[] #[]))
abbrev atB (L:Nat→At) (σ:Nat→Nat):List (Nat×List AV):=[(1000000,[.arr atK 3 (atR L σ)])]
theorem xAt_R (L:Nat→At) (σ:Nat→Nat) (i:Nat):xAt (atR L σ i)=L (σ i):=rfl
theorem atR_swp {L:Nat→At} {σ:Nat→Nat} {p q i1 i2:Nat} (h1:i1=p) (h2:i2=q):(fun j=>bif Nat.beq j i2 then atD (L (σ i1)) else bif Nat.beq j i1 then atD (L (σ i2)) else atR L σ j)=atR L (swp σ p q):=by
 subst h1 h2
 funext j
 unfold atR swp
 by_cases e2:j=i2
 ·subst e2
  rw[show Nat.beq j j=true from Nat.beq_refl j,cond_true]
  by_cases e1:j=i1
  ·rw[if_pos e1,e1]
  ·rw[if_neg e1,if_pos rfl]
 ·rw[show Nat.beq j i2=false from beq_ne e2,cond_false]
  by_cases e1:j=i1
  ·rw[if_pos e1,show Nat.beq j i1=true from by rw[e1];exact Nat.beq_refl _,cond_true]
  ·rw[if_neg e1,if_neg e2,show Nat.beq j i1=false from beq_ne e1,cond_false]
def atKey (a:At):Int:=- a.h
def atCm (x y:At):Int:=cmpI y.h x.h
theorem atCm_iff (x y:At):atCm x y<0↔atKey x<atKey y:=by
 unfold atCm atKey
 rw[cmp_lt]
 omega
theorem f130 (x y:At):FnOK Tryz.prog G 130 [atD x,atD y] (di (atCm x y)):=by
 refine FnOK.walk (orc:=orcC) (keep:=[]) follows Tryz.func130 rfl Tryz.call130 ?_
 refine of_tr (fun _ _ _ ZK=>(ZK 86 [(di y.h),(di x.h)] (di (cmpI y.h x.h))∧((di (cmpI y.h x.h)):DV)=(di (atCm x y)))) (by kernel_rfl) ?_
 exact⟨f86 _ _,rfl⟩
theorem f108 (t:Int):FnOK Tryz.prog G 108 [di t] (db (tickB t)):=by
 refine FnOK.walk (orc:=noO) (keep:=[]) follows Tryz.func108 rfl Tryz.call108 ?_
 refine of_tr (fun _ _ _ _=>(((db (decide (t≥0)&&decide (t≤1099511627776))):DV)=(db (tickB t)))) (by kernel_rfl) ?_
 rfl
def orcAt:Oracle:=fun f a=>match f,a with
 | 108,[.con (.int _ t)]=>some (db (tickB t))
 | 89,[.con (.int _ t)]=>some (db (tickB t))
 | _,_=>none
theorem bnot_dec {p q:Prop} [Decidable p] [Decidable q] (h:p↔¬q):decide p = !decide q:=by
 by_cases c:q
 ·rw[decide_eq_true c,decide_eq_false (fun k=>h.1 k c)];rfl
 ·rw[decide_eq_false c,decide_eq_true (h.2 c)];rfl
theorem f107 (r:Ru):FnOK Tryz.prog G 107 [ruD r] (db (ruOK r)):=by
 refine FnOK.walk (orc:=orcAt) (keep:=[]) follows Tryz.func107 rfl Tryz.call107 ?_
 refine of_tr (fun _ _ _ ZK=>(fun Za=>((((!(decide (r.kind<0)||decide (r.kind>2)||decide (r.most<1)||decide (r.most>16)))=true)→ZK 108 [(di r.pause)] (db (tickB r.pause)))∧((Za=true)→(((db false):DV)=(db (ruOK r))))∧((Za=false)→((((r.kind != 2)=true)→(((db (r.keep==0)):DV)=(db (ruOK r))))∧(((r.kind != 2)=false)→(((db (decide (r.keep≥1)&&decide (r.keep≤r.most))):DV)=(db (ruOK r)))))))) (decide (r.kind<0)||decide (r.kind>2)||decide (r.most<1)||decide (r.most>16)||!tickB r.pause)) (by kernel_rfl) ?_
 try dsimp only
 have e:(decide (r.kind<0)||decide (r.kind>2)||decide (r.most<1)||decide (r.most>16)||!tickB r.pause) = !(decide (0≤r.kind)&&(decide (r.kind≤2)&&(decide (1≤r.most)&&(decide (r.most≤16)&&tickB r.pause)))):=by
  rw[bnot_dec (p:=r.kind<0) (q:=0≤r.kind) (by omega),bnot_dec (p:=r.kind>2) (q:=r.kind≤2) (by omega),bnot_dec (p:=r.most<1) (q:=1≤r.most) (by omega),bnot_dec (p:=r.most>16) (q:=r.most≤16) (by omega)]
  simp only[Bool.not_and,Bool.or_assoc]
 have eR:ruOK r=((decide (0≤r.kind)&&(decide (r.kind≤2)&&(decide (1≤r.most)&&(decide (r.most≤16)&&tickB r.pause))))&&(if r.kind=2 then decide (1≤r.keep)&&decide (r.keep≤r.most) else decide (r.keep=0))):=by
  unfold ruOK
  simp only[Bool.and_assoc]
 rw[e]
 refine⟨fun _=>f108 _,fun c=>?_,fun c=>⟨fun k=>?_,fun k=>?_⟩⟩
 ·rw[Bool.not_eq_true'] at c
  rw[eR,c];rfl
 ·have k:r.kind≠2:=by simpa using k
  rw[Bool.not_eq_false'] at c
  rw[eR,c,if_neg k,Bool.true_and,beqD]
 ·have k:r.kind=2:=by simpa using k
  rw[Bool.not_eq_false'] at c
  rw[eR,c,if_pos k,Bool.true_and]
/-! Valid. -/
def beforeA (l:List At) (k:Nat):Int:=if k=0 then 0 else (l.getD (k-1) at0).t
noncomputable def S87 (r:Ru) (l:List At) (k:Nat):AS:=⟨regs Tryz.f87.ntmps [(2,.box 2 0),(4,vb false),(5,vi (beforeA l k)),(18,.d (atsD l)),(19,vi l.length),(20,vi k)],[(2,(ruL r).map .d)]⟩
def orc87 (ok:Bool):Oracle:=fun f a=>match f,a with
 | 107,_=>some (db ok)
 | 108,[.con (.int _ t)]=>some (db (tickB t))
 | _,_=>none
theorem validA_iff {r:Ru} {l:List At} (hr:ruOK r=true) (hl:(l.length:Int)≤r.most):validA r l=(List.range l.length).all (atOK l):=by
 unfold validA
 rw[hr,decide_eq_true hl];rfl
theorem ru_most {r:Ru} (h:ruOK r=true):r.most≤16:=by
 unfold ruOK at h
 simp only[bAt,decide_eq_true_eq] at h
 exact h.2.2.2.1
theorem atOK_eq (l:List At) (k:Nat):atOK l k = !((l.getD k at0).n != (k:Int)+1||decide ((l.getD k at0).t<beforeA l k)||!tickB (l.getD k at0).t||decide ((l.getD k at0).h<0)||decide ((l.getD k at0).h>100000000)):=by
 unfold atOK beforeA tickB
 rw[Bool.eq_iff_iff]
 simp only[Bool.not_eq_true',Bool.or_eq_false_iff,bne_eq_false_iff_eq,decide_eq_false_iff_not,Bool.not_eq_false',bAt,decide_eq_true_eq]
 constructor
 ·rintro ⟨h1,h2,⟨h3,h4⟩,h5,h6⟩
  refine⟨⟨⟨⟨h1,?_⟩,h3,h4⟩,by omega⟩,by omega⟩
  split
  ·omega
  ·rename_i h0
   rcases h2 with h2|h2
   ·exact absurd h2 h0
   ·omega
 ·rintro ⟨⟨⟨⟨h1,h2⟩,h3,h4⟩,h5⟩,h6⟩
  refine⟨h1,?_,⟨h3,h4⟩,by omega,by omega⟩
  by_cases h0:k=0
  ·exact .inl h0
  ·rw[if_neg h0] at h2
   right;omega
theorem f87 (r:Ru) (l:List At):FnOK Tryz.prog G 87 [ruD r,atsD l] (db (validA r l)):=by
 refine FnOK.walkK (orc:={ d:=orc87 (ruOK r) }) (keep:=[]) follows Tryz.func87 rfl Tryz.call87 ?_
 refine of_tr (fun ZT ZW ZQ ZK=>(ZK 107 [(.agg [(di r.kind),(di r.most),(di r.pause),(di r.keep)])] (db (ruOK r))∧(((!ruOK r||decide (↑l.length>r.most))=true)→(((db false):DV)=(db (validA r l))))∧(((!ruOK r||decide (↑l.length>r.most))=false)→ZW [cd Tryz.f87 [1,1,1,0,1,0],(.blk 0),cd Tryz.f87 [1,1,1,1]] (stS ZT [1]) ZQ))) (by kernel_rfl) ?_
 refine⟨f107 r,fun c=>?_,fun c=>?_⟩
 ·have:validA r l=false:=by
   unfold validA
   cases q:ruOK r with
   | false=>rfl
   | true=>
    rw[q] at c
    have c:(l.length:Int)>r.most:=by simpa using c
    rw[decide_eq_false (show ¬(l.length:Int)≤r.most by omega)];rfl
  rw[this]
 have hr:ruOK r=true:=by
  cases q:ruOK r with
  | true=>rfl
  | false=>rw[q] at c;cases c
 have hl:(l.length:Int)≤r.most:=by
  rw[hr] at c
  simpa using c
 have hm:=ru_most hr
 rw[validA_iff hr hl]
 refine AWP.loop (c:=cAt (bodyOf Tryz.f87) [1,1,1,0,1,0,0]) (by kernel_rfl) (S87 r l) (fun k=>k≤l.length∧∀i,i<k→atOK l i=true) (fun k=>l.length-k) 0 ?_ ⟨Nat.zero_le _,fun i hi=>absurd hi (Nat.not_lt_zero _)⟩ ?_
 ·refine AS.leZ [2] [] (b:=((T0∧T0∧((vi 0):AV)=(vi (beforeA l 0))∧T0∧T0∧T0∧True)∧T0∧True)) (by kernel_rfl) (by kernel_rfl) ?_
  exact⟨⟨rfl,rfl,rfl,rfl,rfl,rfl,trivial⟩,rfl,trivial⟩
 rintro k ⟨hk,hs⟩
 by_cases hk2:k<l.length
 ·refine walkK (orc:={ d:=orc87 true }) (keep:=[]) (cuts:=[]) (n:=1000) follows ?_
  refine of_rd (fun ZT ZW ZQ ZK ZA _=>(fun Za=>((((decide ((↑k:Int)<↑l.length))=true)→(((0≤(↑k:Int))∧((↑k:Int)<↑l.length))∧((I64 (↑k+1))∧(((!((l.getD (↑k:Int).toNat at0).n != ↑k+1||decide ((l.getD (↑k:Int).toNat at0).t<beforeA l k)))=true)→ZK 108 [(di (l.getD (↑k:Int).toNat at0).t)] (db (tickB (l.getD (↑k:Int).toNat at0).t))))∧((Za=true)→(((db false):DV)=(db ((List.range l.length).all (atOK l)))))∧((Za=false)→((I64 (↑k+1))∧(ZA (stS ZT [0,1]))))))∧(((decide ((↑k:Int)<↑l.length))=false)→ZW [cd Tryz.f87 [1,1,1,1]] (stS ZT [1]) ZQ))) ((l.getD (↑k:Int).toNat at0).n != ↑k+1||decide ((l.getD (↑k:Int).toNat at0).t<beforeA l k)||!tickB (l.getD (↑k:Int).toNat at0).t||decide ((l.getD (↑k:Int).toNat at0).h<0)||decide ((l.getD (↑k:Int).toNat at0).h>100000000))) (by kernel_rfl) ?_
  try dsimp only
  rw[show ((k:Int)).toNat=k from rfl]
  have hq:=atOK_eq l k
  refine⟨fun _=>⟨⟨by omega,by omega⟩,⟨⟨by omega,by omega⟩,fun _=>f108 _⟩,fun c=>?_,fun c=>⟨⟨by omega,by omega⟩,Again.mk (k+1) ?_ ⟨hk2,fun i hi=>?_⟩ (by show l.length-(k+1)<l.length-k;omega)⟩⟩,fun hd=>absurd (of_decide_eq_false hd) (by omega)⟩
  ·rw[c] at hq
   rw[List.all_eq_false.2 ⟨k,List.mem_range.2 hk2,by rw[hq];decide⟩]
  ·refine AS.leZ [2] [] (b:=((T0∧T0∧((vi (l.getD (↑k:Int).toNat at0).t):AV)=(vi (beforeA l (k+1)))∧T0∧T0∧T0∧True)∧T0∧True)) (by kernel_rfl) (by kernel_rfl) ?_
   exact⟨⟨rfl,rfl,rfl,rfl,rfl,rfl,trivial⟩,rfl,trivial⟩
  ·by_cases h:i=k
   ·subst h;rw[hq,c];rfl
   ·exact hs i (by omega)
 ·obtain rfl:k=l.length:=by omega
  refine walkK (orc:={ d:=noO }) (keep:=[]) (cuts:=[7]) (n:=1000) follows ?_
  refine of_rd (fun ZT ZW ZQ _ _ ZR=>((((decide ((↑l.length:Int)<↑l.length))=true)→(((0≤(↑l.length:Int))∧((↑l.length:Int)<↑l.length))∧ZW [cd Tryz.f87 [1,1,1,0,1,0,0,1,1,0,0,1,0],cd Tryz.f87 [1,1,1,0,1,0,0,1,1,0,0,1,1],(.blk 1),cd Tryz.f87 [1,1,1,0,1,0,0,1,1,1]] (stS ZT [0]) ZR))∧(((decide ((↑l.length:Int)<↑l.length))=false)→ZW [cd Tryz.f87 [1,1,1,1]] (stS ZT [1]) ZQ))) (by kernel_rfl) ?_
  refine⟨fun hd=>absurd (of_decide_eq_true hd) (by omega),fun _=>?_⟩
  refine walkK (orc:={ d:=noO }) (keep:=[]) (cuts:=[]) (n:=1000) follows ?_
  refine of_tr (fun _ _ _ _=>(((db true):DV)=(db ((List.range l.length).all (atOK l))))) (by kernel_rfl) ?_
  rw[List.all_eq_true.2 fun i hi=>hs i (List.mem_range.1 hi)]
end Go.Proofs
/- Sorting At: insertion. -/
namespace Go.Proofs
open Go Go.Ab Go.RowKit
set_option maxHeartbeats 1000000
set_option maxRecDepth 100000
variable {G:IH}
noncomputable def orcIn182:Orc:={ d:=fun f args=>match f,args with
 | 130,[x,y]=>some (di (atCm (xAt x) (xAt y)))
 | _,_=>none }
noncomputable def S182o (L:Nat→At) (n a b:Nat) (x:Nat×(Nat→Nat)):AS:=⟨regs Tryz.f182.ntmps [(0,.vec 1000000 3 0 n),(1,vi a),(2,vi b),(3,atC),(8,vi x.1)],atB L x.2⟩
noncomputable def S182i (L:Nat→At) (n a b i:Nat) (x:Nat×(Nat→Nat)):AS:=⟨regs Tryz.f182.ntmps [(0,.vec 1000000 3 0 n),(1,vi a),(2,vi b),(3,atC),(8,vi i),(9,vi x.1)],atB L x.2⟩
theorem f182 (L:Nat→At) (σ:Nat→Nat) (n a b:Nat) (h1:a≤n) (h2:b≤n) (hn:n≤100000000):FnM Tryz.prog G 182 [.vec 1000000 3 0 n,vi a,vi b,atC] (atB L σ) (.d unitV) (atB L (insS (fun i=>atKey (L i)) a b σ)):=by
 refine FnM.of_body (mv:=[]) (by kernel_rfl) Tryz.func182 rfl Tryz.call182 ?_
 refine walk (orc:=noO) (keep:=[]) (cuts:=[]) (n:=1000) follows ?_
 refine of_tr (fun ZT ZW ZQ _=>((I64 (↑a+1))∧ZW [cd Tryz.f182 [1,0],(.blk 0)] (stS ZT []) ZQ)) (by kernel_rfl) ?_
 refine⟨⟨by omega,by omega⟩,?_⟩
 refine AWP.loop (c:=cAt (bodyOf Tryz.f182) [1,0,0]) (by kernel_rfl) (S182o L n a b) (fun x=>a<x.1∧x.1≤n+1∧insO (fun i=>atKey (L i)) a (b-x.1) x.1 x.2=insS (fun i=>atKey (L i)) a b σ) (fun x=>b-x.1) (a+1,σ) ?_ ⟨by simp only;omega,by simp only;omega,rfl⟩ ?_
 ·exact AS.leA (by kernel_rfl)
 ·rintro ⟨i,τ⟩ ⟨q1,q2,q3⟩
  simp only at q1 q2 q3
  refine walk (orc:=orcIn182) (keep:=[]) (cuts:=[]) (n:=1000) follows ?_
  refine of_rd (fun ZT ZW ZQ _ _ ZR=>((((decide ((↑i:Int)<↑b))=true)→ZW [cd Tryz.f182 [1,0,0,1,0,0,1,0],(.blk 2),(.blk 1),cd Tryz.f182 [1,0,0,1,1]] (stS ZT [0]) ZR)∧(((decide ((↑i:Int)<↑b))=false)→ZW [] (stS ZT [1]) ZQ))) (by kernel_rfl) ?_
  refine⟨fun h=>?_,fun h=>?_⟩
  ·have hib:i<b:=by have:=of_decide_eq_true h;omega
   refine AWP.loop (c:=cAt (bodyOf Tryz.f182) [1,0,0,1,0,0,1,0,0]) (by kernel_rfl) (S182i L n a b i) (fun x=>a≤x.1∧x.1≤i∧insIn (fun i=>atKey (L i)) a x.1 x.2=insIn (fun i=>atKey (L i)) a i τ) (fun x=>x.1) (i,τ) ?_ ⟨by simp only;omega,by simp only;omega,rfl⟩ ?_
   ·exact AS.leA (by kernel_rfl)
   ·rintro ⟨j,ρ⟩ ⟨r1,r2,r3⟩
    simp only at r1 r2 r3
    refine walk (orc:=orcIn182) (keep:=[]) (cuts:=[]) (n:=1000) follows ?_
    refine of_rd (fun ZT ZW ZQ ZK ZA _=>(fun Za Zb=>(((((decide ((↑j:Int)>↑a))=true)→((0≤(↑j:Int))∧((↑j:Int)<↑n)))∧(((decide ((↑j:Int)>↑a))=true)→(I64 (↑j-1)))∧(((decide ((↑j:Int)>↑a))=true)→((0≤(↑j:Int)-1)∧((↑j:Int)-1<↑n)))∧(((decide ((↑j:Int)>↑a))=true)→ZK 130 [(.agg [(di (L (ρ (0+(↑j:Int).toNat))).n),(di (L (ρ (0+(↑j:Int).toNat))).t),(di (L (ρ (0+(↑j:Int).toNat))).h)]),(.agg [(di Zb.n),(di Zb.t),(di Zb.h)])] (di (atCm (xAt (atR L ρ (0+((↑j:Int):Int).toNat))) (xAt (atR L ρ (0+((↑j:Int)-1).toNat)))))))∧((Za=true)→(((I64 (↑j-1))∧(I64 (↑j-1))∧((0≤(↑j:Int)-1)∧((↑j:Int)-1<↑n))∧((0≤(↑j:Int))∧((↑j:Int)<↑n))∧((0≤(↑j:Int))∧((↑j:Int)<↑n))∧(0≤(↑j:Int)-1)∧((↑j:Int)-1<↑n))∧(I64 (↑j-1))∧(ZA (stS ZT [0]))))∧((Za=false)→ZW [(.blk 1),cd Tryz.f182 [1,0,0,1,1]] (stS ZT [1]) ZQ))) (decide ((↑j:Int)>(↑a:Int))&&decide (atCm (xAt (atR L ρ (0+((↑j:Int):Int).toNat))) (xAt (atR L ρ (0+((↑j:Int)-1).toNat)))<0)) (L (ρ (0+((↑j:Int)-1).toNat)))) (by kernel_rfl) ?_
    try dsimp only
    simp only[xAt_R]
    refine⟨⟨fun h=>?_,fun h=>?_,fun h=>?_,fun h=>f130 (L (ρ (0+((j:Int)).toNat))) (L (ρ (0+((j:Int)-1).toNat)))⟩,fun h=>?_,fun h=>?_⟩
    ·have:=of_decide_eq_true h;exact⟨by omega,by omega⟩
    ·have:=of_decide_eq_true h;exact⟨by omega,by omega⟩
    ·have:=of_decide_eq_true h;exact⟨by omega,by omega⟩
    ·simp only[bAt,decide_eq_true_eq,Nat.zero_add,Int.toNat_natCast] at h
     obtain ⟨h3,h4⟩:=h
     obtain ⟨k,rfl⟩:∃k,j=k+1:=⟨j-1,by omega⟩
     rw[show (((k+1:Nat):Int)-1).toNat=k by omega] at h4
     have e1:insIn (fun i=>atKey (L i)) a (k+1) ρ=insIn (fun i=>atKey (L i)) a k (swp ρ (k+1) k):=by
      rw[insIn,if_pos ⟨by omega,(atCm_iff _ _).1 h4⟩]
     refine⟨⟨⟨by omega,by omega⟩,⟨by omega,by omega⟩,⟨by omega,by omega⟩,⟨by omega,by omega⟩,⟨by omega,by omega⟩,by omega,by omega⟩,⟨by omega,by omega⟩,Again.mk (k,swp ρ (k+1) k) ?_ ⟨by simp only;omega,by simp only;omega,e1.symm.trans r3⟩ (by simp only;omega)⟩
     refine AS.leZ [5] [0] (b:=((T0∧T0∧T0∧T0∧T0∧((vi (↑(k+1)-1)):AV)=(vi (↑k))∧True)∧((some [(.arr ⟨true,57,false,none⟩ 3 (fun j=>bif j.beq (0+((↑(k+1):Int)-1).toNat) then DV.agg [DV.con (Value.int IntKind.i64 (L (ρ (0+((↑(k+1):Int)).toNat))).n),DV.con (Value.int IntKind.i64 (L (ρ (0+((↑(k+1):Int)).toNat))).t),DV.con (Value.int IntKind.i64 (L (ρ (0+((↑(k+1):Int)).toNat))).h)] else bif j.beq (0+((↑(k+1):Int)).toNat) then DV.agg [DV.con (Value.int IntKind.i64 (L (ρ (0+((↑(k+1):Int)-1).toNat))).n),DV.con (Value.int IntKind.i64 (L (ρ (0+((↑(k+1):Int)-1).toNat))).t),DV.con (Value.int IntKind.i64 (L (ρ (0+((↑(k+1):Int)-1).toNat))).h)] else atR L ρ j))]):(Option (List AV)))=(some [(.arr ⟨true,57,false,none⟩ 3 (atR L (swp ρ (k+1) k)))])∧True)) (by kernel_rfl) (by kernel_rfl) ?_
     refine⟨⟨rfl,rfl,rfl,rfl,rfl,viE (by omega),trivial⟩,?_,trivial⟩
     exact congrArg (fun f=>some [AV.arr atK 3 f]) (atR_swp (by omega) (by omega))
    ·have e1:insIn (fun i=>atKey (L i)) a j ρ=ρ:=by
      rcases j with _|k
      ·rfl
      ·rw[insIn,if_neg]
       rintro ⟨h3,h4⟩
       rw[Bool.and_eq_false_iff] at h
       rcases h with h|h
       ·have:=of_decide_eq_false h;omega
       ·have:=of_decide_eq_false h
        simp only[Nat.zero_add,Int.toNat_natCast] at this
        rw[show (((k+1:Nat):Int)-1).toNat=k by omega] at this
        exact this ((atCm_iff _ _).2 h4)
     obtain ⟨k,hk⟩:∃k,b-i=k+1:=⟨b-i-1,by omega⟩
     have e2:insO (fun i=>atKey (L i)) a (b-(i+1)) (i+1) ρ=insS (fun i=>atKey (L i)) a b σ:=by
      rw[←q3,hk,insO,show b-(i+1)=k by omega,←r3,e1]
     refine walk (orc:=orcIn182) (keep:=[]) (cuts:=[]) (n:=1000) follows ?_
     refine of_rd (fun ZT _ _ _ ZA _=>((I64 (↑i+1))∧(ZA (stS ZT [])))) (by kernel_rfl) ?_
     refine⟨⟨by omega,by omega⟩,Again.mk (i+1,ρ) ?_ ⟨by simp only;omega,by simp only;omega,e2⟩ (by simp only;omega)⟩
     exact AS.leA (by kernel_rfl)
  ·have hib:b-i=0:=by have:=of_decide_eq_false h;omega
   rw[hib,insO] at q3
   refine walk (orc:=orcIn182) (keep:=[]) (cuts:=[]) (n:=1000) follows ?_
   refine of_tr (fun _ _ _ _=>((ZS ((.d (.tup [])):AV))∧((some [(.arr ⟨true,57,false,none⟩ 3 (atR L τ))]):(Option (List AV)))=(some [(.arr ⟨true,57,false,none⟩ 3 (atR L (insS (fun i=>atKey (L i)) a b σ)))])∧True)) (by kernel_rfl) ?_
   exact⟨rfl,by rw[q3],trivial⟩
end Go.Proofs
/- Attempts: sorting few of them,turning them round,the chosen ones. -/
namespace Go.Proofs
open Go Go.Ab Go.RowKit
set_option maxHeartbeats 1000000
set_option maxRecDepth 100000
variable {G:IH}
theorem stab_few (κ:Nat→Int) {n:Nat} (h:n<20):stab κ n=insS κ 0 n id:=by
 have e1:stab κ n=mrgA κ n n 20 (blkS κ n n 0 id):=rfl
 have e2:blkS κ n n 0 id=insS κ 0 n id:=by
  cases n with
  | zero=>rfl
  | succ k=>rw[blkS,if_neg (by omega)]
 have e3:∀τ:Nat→Nat,mrgA κ n n 20 τ=τ:=fun τ=>by
  cases n with
  | zero=>rfl
  | succ k=>rw[mrgA,if_neg (by omega)]
 rw[e1,e2,e3]
def revS (n i k:Nat):Nat:=if k<i∨(k<n∧n-1-k<i) then n-1-k else k
noncomputable def mAt (L:Nat→At):FuncId→List AV→List (Nat×List AV)→Option (AV×List (Nat×List AV)):=fun f args _=>match f,args with
 | 182,[_,_,.d (.con (.int _ n)),_]=>some (.d unitV,[(1000000,[.arr atK 3 (atR L (insS (fun i=>atKey (L i)) 0 n.toNat id))])])
 | 155,[_,.d (.con (.int _ n)),_]=>some (.d unitV,[(1000000,[.arr atK 3 (atR L (stab (fun i=>atKey (L i)) n.toNat))])])
 | 129,[.vec _ _ _ n,_]=>some (.d unitV,[(1000000,[.arr atK 3 (atR L (stab (fun i=>atKey (L i)) n))])])
 | 128,[.vec _ _ _ n]=>some (.d unitV,[(1000000,[.arr atK 3 (atR L (revS n (n / 2)))])])
 | _,_=>none
noncomputable def orcAt2 (L:Nat→At):Orc:={ d:=noO,m:=mAt L }
noncomputable def S155a (L:Nat→At) (n:Nat) (_:Unit):AS:=⟨regs Tryz.f155.ntmps [(0,.vec 1000000 3 0 n),(1,vi n),(2,atC),(6,vi 20),(7,vi 0),(8,vi 20)],atB L id⟩
noncomputable def S155b (L:Nat→At) (n:Nat) (_:Unit):AS:=⟨regs Tryz.f155.ntmps [(0,.vec 1000000 3 0 n),(1,vi n),(2,atC),(6,vi 20)],atB L (insS (fun i=>atKey (L i)) 0 n id)⟩
theorem f155 (L:Nat→At) (n:Nat) (hn:n<20):FnM Tryz.prog G 155 [.vec 1000000 3 0 n,vi n,atC] (atB L id) (.d unitV) (atB L (stab (fun i=>atKey (L i)) n)):=by
 rw[stab_few _ hn]
 refine FnM.of_body (mv:=[]) (by kernel_rfl) Tryz.func155 rfl Tryz.call155 ?_
 refine walkK (orc:=orcAt2 L) (keep:=[]) (cuts:=[]) (n:=1000) follows ?_
 refine of_tr (fun ZT ZW ZQ _=>ZW [cd Tryz.f155 [1,1,0,0],(.blk 0),cd Tryz.f155 [1,1,1]] (stS ZT []) ZQ) (by kernel_rfl) ?_
 refine AWP.loop (c:=cAt (bodyOf Tryz.f155) [1,1,0,0,0]) (by kernel_rfl) (S155a L n) (fun _=>True) (fun _=>0) () ?_ trivial ?_
 ·exact AS.leA (by kernel_rfl)
 rintro _ _
 refine walkK (orc:=orcAt2 L) (keep:=[]) (cuts:=[3,6]) (n:=1000) follows ?_
 refine of_rd (fun ZT ZW ZQ _ _ ZR=>((((decide (20≤(↑n:Int)))=true)→ZW [cd Tryz.f155 [1,1,0,0,0,1,0],(.blk 1)] (stS ZT [0]) ZR)∧(((decide (20≤(↑n:Int)))=false)→ZW [cd Tryz.f155 [1,1,1]] (stS ZT [1]) ZQ))) (by kernel_rfl) ?_
 refine⟨fun h=>absurd (of_decide_eq_true h) (by omega),fun h=>?_⟩
 refine walkK (orc:=orcAt2 L) (keep:=[]) (cuts:=[]) (n:=1000) follows ?_
 refine of_tr (fun ZT ZW ZQ _=>(FnM Tryz.prog G 182 [(.vec 1000000 3 0 n),(vi 0),(vi (↑n)),(.d (.con (.func (.func 130) ⟨[]⟩ ⟨[]⟩)))] [(1000000,[(.arr ⟨true,57,false,none⟩ 3 (atR L id))])] (.d (.tup [])) [(1000000,[(.arr ⟨true,57,false,none⟩ 3 (atR L (insS (fun i=>atKey (L i)) 0 (↑n:Int).toNat id)))])]∧ZW [cd Tryz.f155 [1,1,1,1,0],(.blk 2)] (stS ZT []) ZQ)) (by kernel_rfl) ?_
 simp only[Int.toNat_natCast]
 refine⟨f182 L id n 0 n (Nat.zero_le _) (Nat.le_refl _) (by omega),?_⟩
 refine AWP.loop (c:=cAt (bodyOf Tryz.f155) [1,1,1,1,0,0]) (by kernel_rfl) (S155b L n) (fun _=>True) (fun _=>0) () ?_ trivial ?_
 ·exact AS.leA (by kernel_rfl)
 rintro _ _
 refine walkK (orc:=orcAt2 L) (keep:=[]) (cuts:=[8]) (n:=1000) follows ?_
 refine of_rd (fun ZT ZW ZQ _ _ ZR=>((((decide (20<(↑n:Int)))=true)→ZW [cd Tryz.f155 [1,1,1,1,0,0,1,0],(.blk 3)] (stS ZT [0]) ZR)∧(((decide (20<(↑n:Int)))=false)→ZW [] (stS ZT [1]) ZQ))) (by kernel_rfl) ?_
 refine⟨fun h=>absurd (of_decide_eq_true h) (by omega),fun h=>?_⟩
 refine walkK (orc:=orcAt2 L) (keep:=[]) (cuts:=[]) (n:=1000) follows ?_
 refine of_tr (fun _ _ _ _=>(fun Za=>((ZS ((.d (.tup [])):AV))∧(Za:(Option (List AV)))=Za∧True)) (some [(.arr ⟨true,57,false,none⟩ 3 (atR L (insS (fun i=>atKey (L i)) 0 n id)))])) (by kernel_rfl) ?_
 exact⟨rfl,rfl,trivial⟩
theorem f129 (L:Nat→At) (n:Nat) (hn:n<20):FnM Tryz.prog G 129 [.vec 1000000 3 0 n,atC] (atB L id) (.d unitV) (atB L (stab (fun i=>atKey (L i)) n)):=by
 refine FnM.of_body (mv:=[]) (by kernel_rfl) Tryz.func129 rfl Tryz.call129 ?_
 refine walkK (orc:=orcAt2 L) (keep:=[]) (cuts:=[]) (n:=1000) follows ?_
 refine of_tr (fun _ _ _ _=>(fun Za=>(FnM Tryz.prog G 155 [(.vec 1000000 3 0 n),(vi (↑n)),(.d (.con (.func (.func 130) ⟨[]⟩ ⟨[]⟩)))] [(1000000,[(.arr ⟨true,57,false,none⟩ 3 (atR L id))])] (.d (.tup [])) [(1000000,[Za])]∧(ZS ((.d (.tup [])):AV))∧((some [Za]):(Option (List AV)))=(some [(.arr ⟨true,57,false,none⟩ 3 (atR L (stab (fun i=>atKey (L i)) n)))])∧True)) ((.arr ⟨true,57,false,none⟩ 3 (atR L (stab (fun i=>atKey (L i)) (↑n:Int).toNat))):AV)) (by kernel_rfl) ?_
 try dsimp only
 simp only[Int.toNat_natCast]
 exact⟨f155 L n hn,trivial,trivial,trivial⟩
theorem rev_zero (n:Nat):revS n 0=id:=by
 funext k
 unfold revS
 rw[if_neg (by omega)];rfl
theorem rev_step {n i:Nat} (h:i<n-1-i):swp (revS n i) i (n-1-i)=revS n (i+1):=by
 funext k
 unfold swp revS
 repeat' split
 all_goals omega
noncomputable def S128 (L:Nat→At) (n i:Nat):AS:=⟨regs Tryz.f128.ntmps [(0,.vec 1000000 3 0 n),(2,vi i),(3,vi ((n:Int)-1-i))],atB L (revS n i)⟩
theorem f128 (L:Nat→At) (n:Nat) (hn:n≤1000000):FnM Tryz.prog G 128 [.vec 1000000 3 0 n] (atB L id) (.d unitV) (atB L (revS n (n / 2))):=by
 refine FnM.of_body (mv:=[]) (by kernel_rfl) Tryz.func128 rfl Tryz.call128 ?_
 refine walk (orc:=noO) (keep:=[]) (cuts:=[]) (n:=1000) follows ?_
 refine of_tr (fun ZT ZW ZQ _=>((I64 (↑n-1))∧ZW [cd Tryz.f128 [1,0],(.blk 0)] (stS ZT []) ZQ)) (by kernel_rfl) ?_
 refine⟨⟨by omega,by omega⟩,?_⟩
 refine AWP.loop (c:=cAt (bodyOf Tryz.f128) [1,0,0]) (by kernel_rfl) (S128 L n) (fun i=>i≤n / 2) (fun i=>n / 2-i) 0 ?_ (Nat.zero_le _) ?_
 ·refine AS.leZ [2] [0] (b:=((T0∧T0∧((vi (↑n-1)):AV)=(vi (↑n-1 - ↑0))∧True)∧((some [(.arr ⟨true,57,false,none⟩ 3 (atR L id))]):(Option (List AV)))=(some [(.arr ⟨true,57,false,none⟩ 3 (atR L (revS n 0)))])∧True)) (by kernel_rfl) (by kernel_rfl) ?_
  exact⟨⟨rfl,rfl,viE (by omega),trivial⟩,by rw[rev_zero],trivial⟩
 intro i hi
 refine walk (orc:=noO) (keep:=[]) (cuts:=[]) (n:=1000) follows ?_
 refine of_rd (fun ZT ZW ZQ _ ZA _=>((((decide ((↑i:Int)<↑n-1 - ↑i))=true)→((((0≤(↑n:Int)-1 - ↑i)∧((↑n:Int)-1 - ↑i<↑n))∧((0≤(↑i:Int))∧((↑i:Int)<↑n))∧((0≤(↑i:Int))∧((↑i:Int)<↑n))∧(0≤(↑n:Int)-1 - ↑i)∧((↑n:Int)-1 - ↑i<↑n))∧((I64 (↑i+1))∧(I64 (↑n-1 - ↑i-1)))∧(ZA (stS ZT [0]))))∧(((decide ((↑i:Int)<↑n-1 - ↑i))=false)→ZW [] (stS ZT [1]) ZQ))) (by kernel_rfl) ?_
 refine⟨fun h=>?_,fun h=>?_⟩
 ·have h:=of_decide_eq_true h
  refine⟨⟨⟨by omega,by omega⟩,⟨by omega,by omega⟩,⟨by omega,by omega⟩,by omega,by omega⟩,⟨⟨by omega,by omega⟩,⟨by omega,by omega⟩⟩,Again.mk (i+1) ?_ (by omega) (by omega)⟩
  refine AS.leZ [2] [0] (b:=((T0∧T0∧((vi (↑n-1 - ↑i-1)):AV)=(vi (↑n-1 - ↑(i+1)))∧True)∧((some [(.arr ⟨true,57,false,none⟩ 3 (fun j=>bif Nat.beq j (0+Int.toNat ((↑n:Int)-1-(↑i:Int))) then DV.agg [DV.con (Value.int IntKind.i64 (At.n (L (revS n i (0+Int.toNat (↑i:Int)))))),DV.con (Value.int IntKind.i64 (At.t (L (revS n i (0+Int.toNat (↑i:Int)))))),DV.con (Value.int IntKind.i64 (At.h (L (revS n i (0+Int.toNat (↑i:Int))))))] else bif Nat.beq j (0+Int.toNat (↑i:Int)) then DV.agg [DV.con (Value.int IntKind.i64 (At.n (L (revS n i (0+Int.toNat ((↑n:Int)-1-(↑i:Int))))))),DV.con (Value.int IntKind.i64 (At.t (L (revS n i (0+Int.toNat ((↑n:Int)-1-(↑i:Int))))))),DV.con (Value.int IntKind.i64 (At.h (L (revS n i (0+Int.toNat ((↑n:Int)-1-(↑i:Int)))))))] else atR L (revS n i) j))]):(Option (List AV)))=(some [(.arr ⟨true,57,false,none⟩ 3 (atR L (revS n (i+1))))])∧True)) (by kernel_rfl) (by kernel_rfl) ?_
  refine⟨⟨rfl,rfl,viE (by omega),trivial⟩,?_,trivial⟩
  rw[←rev_step (by omega)]
  exact congrArg (fun f=>some [AV.arr atK 3 f]) (atR_swp (by omega) (by omega))
 ·have h:=of_decide_eq_false h
  have:i=n / 2:=by omega
  subst this
  refine walk (orc:=noO) (keep:=[]) (cuts:=[]) (n:=1000) follows ?_
  refine of_tr (fun _ _ _ _=>((ZS ((.d (.tup [])):AV))∧((some [(.arr ⟨true,57,false,none⟩ 3 (atR L (revS n (n / 2))))]):(Option (List AV)))=(some [(.arr ⟨true,57,false,none⟩ 3 (atR L (revS n (n / 2))))])∧True)) (by kernel_rfl) ?_
  exact⟨rfl,rfl,trivial⟩
/-! The chosen ones. -/
noncomputable def sig (r:Ru) (l:List At):Nat→Nat:=if r.kind=1 then revS l.length (l.length / 2) else stab (fun i=>atKey (l.getD i at0)) l.length
def keepN (r:Ru):Nat:=if r.kind=1 then 1 else (max 1 r.keep).toNat
noncomputable def S109 (r:Ru) (l:List At):AS:=⟨regs Tryz.f109.ntmps [(2,.box 2 0),(5,.vec 9 3 0 l.length),(6,vi 1),(14,vi r.kind)],[(2,(ruL r).map .d),(9,[.arr atK 3 (atR (fun i=>l.getD i at0) id)])]⟩
theorem f109 (r:Ru) (l:List At) (hl:l.length<20) (hk:I64 r.keep):FnOK Tryz.prog G 109 [ruD r,atsD l] (.slc 3 (min (keepN r) l.length) (atR (fun i=>l.getD i at0) (sig r l))):=by
 refine FnOK.of_body Tryz.func109 rfl Tryz.call109 ?_
 refine walkK (orc:=orcAt2 (fun i=>l.getD i at0)) (keep:=[]) (cuts:=[7]) (n:=1000) follows ?_
 refine of_tr (fun ZT ZW ZQ _=>(((↑l.length:Int)=↑l.length∧(0≤(↑l.length:Int))∧((↑24:Int) * ↑l.length≤281474976710656)∧((↑l.length:Int)≤9223372036854775807))∧(∀(i:Nat),i<min l.length (↑l.length:Int).toNat→elemOK true 3 (atF l i)=true)∧ZW [cd Tryz.f109 [1,1,1,1,0,1,0],(.blk 0),cd Tryz.f109 [1,1,1,1,1]] (stS ZT []) ZQ)) (by kernel_rfl) ?_
 refine⟨⟨rfl,by omega,by omega,by omega⟩,fun i _=>rfl,?_⟩
 refine AWP.weaken (st':=S109 r l) ?_ ?_
 ·refine AS.leZ [] [1] (b:=((T0∧T0∧T0∧T0∧True)∧T0∧((some [(.arr ⟨true,57,false,none⟩ 3 (fun i=>bif i.blt 0 then DV.agg (List.map DV.con [Value.int IntKind.i64 0,Value.int IntKind.i64 0,Value.int IntKind.i64 0]) else bif i.blt (0+min l.length (↑l.length:Int).toNat) then atF l (i-0) else DV.agg (List.map DV.con [Value.int IntKind.i64 0,Value.int IntKind.i64 0,Value.int IntKind.i64 0])))]):(Option (List AV)))=(some [(.arr ⟨true,57,false,none⟩ 3 (atR (fun i=>l.getD i at0) id))])∧True)) (by kernel_rfl) (by kernel_rfl) ?_
  refine⟨⟨rfl,rfl,rfl,rfl,trivial⟩,rfl,congrArg (fun f=>some [AV.arr atK 3 f]) (funext fun i=>?_),trivial⟩
  show (bif i.blt (0+min l.length l.length) then atF l (i-0) else atD at0)=atD (l.getD i at0)
  rw[Nat.min_self,Nat.zero_add]
  cases h:i.blt l.length with
  | true=>rfl
  | false=>
   have h:¬i<l.length:=by rw[←Nat.blt_eq,h];decide
   rw[cond_false,List.getD,List.getElem?_eq_none (by omega)];rfl
 refine walkK (orc:=orcAt2 (fun i=>l.getD i at0)) (keep:=[]) (cuts:=[]) (n:=1000) follows ?_
 refine of_tr (fun _ _ _ _=>((((r.kind==1)=true)→(FnM Tryz.prog G 128 [(.vec 1000000 3 0 l.length)] [(1000000,[(.arr ⟨true,57,false,none⟩ 3 (atR (fun i=>l.getD i at0) id))])] (.d (.tup [])) [(1000000,[(.arr ⟨true,57,false,none⟩ 3 (atR (fun i=>l.getD i at0) (revS l.length (l.length / 2))))])]∧(((0:Int)≤(0:Int))∧(0≤if (↑l.length:Int)<1 then (↑l.length:Int) else 1)∧((if (↑l.length:Int)<1 then (↑l.length:Int) else 1)≤↑l.length))∧((.slc 3 ((if (↑l.length:Int)<1 then (↑l.length:Int) else 1)-0).toNat (fun i=>atR (fun i=>l.getD i at0) (revS l.length (l.length / 2)) (0+i))):DV)=(.slc 3 (min (keepN r) l.length) (atR (fun i=>l.getD i at0) (sig r l)))))∧(((r.kind==1)=false)→(FnM Tryz.prog G 129 [(.vec 1000000 3 0 l.length),(.d (.con (.func (.func 130) ⟨[]⟩ ⟨[]⟩)))] [(1000000,[(.arr ⟨true,57,false,none⟩ 3 (atR (fun i=>l.getD i at0) id))])] (.d (.tup [])) [(1000000,[(.arr ⟨true,57,false,none⟩ 3 (atR (fun i=>l.getD i at0) (stab (fun i=>atKey (l.getD i at0)) l.length)))])]∧(((0:Int)≤(0:Int))∧(0≤if ↑l.length<if r.keep>1 then r.keep else 1 then ↑l.length else if r.keep>1 then r.keep else 1)∧((if ↑l.length<if r.keep>1 then r.keep else 1 then ↑l.length else if r.keep>1 then r.keep else 1)≤↑l.length))∧((.slc 3 ((if ↑l.length<if r.keep>1 then r.keep else 1 then ↑l.length else if r.keep>1 then r.keep else 1)-0).toNat (fun i=>atR (fun i=>l.getD i at0) (stab (fun i=>atKey (l.getD i at0)) l.length) (0+i))):DV)=(.slc 3 (min (keepN r) l.length) (atR (fun i=>l.getD i at0) (sig r l))))))) (by kernel_rfl) ?_
 refine⟨fun c=>⟨f128 (fun i=>l.getD i at0) l.length (by omega),⟨Int.le_refl _,by split<;>omega,by split<;>omega⟩,?_⟩,fun c=>⟨f129 (fun i=>l.getD i at0) l.length hl,⟨Int.le_refl _,by split<;>split<;>omega,by split<;>split<;>omega⟩,?_⟩⟩
 ·have c:r.kind=1:=by simpa using c
  have e1:((if (l.length:Int)<1 then (l.length:Int) else 1)-0).toNat=min (keepN r) l.length:=by
   unfold keepN
   rw[if_pos c]
   split<;>omega
  rw[e1]
  unfold sig
  rw[if_pos c]
  exact congrArg (DV.slc 3 _) (funext fun i=>by rw[Nat.zero_add])
 ·have c:r.kind≠1:=by simpa using c
  have e1:((if (l.length:Int)<(if r.keep>1 then r.keep else 1) then (l.length:Int) else (if r.keep>1 then r.keep else 1))-0).toNat=min (keepN r) l.length:=by
   unfold keepN
   rw[if_neg c]
   split<;>split<;>omega
  rw[e1]
  unfold sig
  rw[if_neg c]
  exact congrArg (DV.slc 3 _) (funext fun i=>by rw[Nat.zero_add])
/-! Their points. -/
noncomputable def sumC (r:Ru) (l:List At) (k:Nat):Int:=sm (fun i=>(l.getD (sig r l i) at0).h) k
noncomputable def S88 (r:Ru) (l:List At) (m k:Nat):AS:=⟨regs Tryz.f88.ntmps [(2,.box 2 0),(4,vi 0),(5,.d (.slc 3 m (atR (fun i=>l.getD i at0) (sig r l)))),(6,vi (sumC r l k)),(15,.d (.slc 3 m (atR (fun i=>l.getD i at0) (sig r l)))),(16,vi m),(17,vi k)],[(2,(ruL r).map .d)]⟩
def orc88 (x:DV):Orc:={ d:=fun f _=>bif Nat.beq f 109 then some x else none }
theorem f88 (r:Ru) (l:List At) (hl:l.length<20) (hk:I64 r.keep) (hh:∀i,0≤(l.getD i at0).h∧(l.getD i at0).h≤100000000):FnOK Tryz.prog G 88 [ruD r,atsD l] (di (if min (keepN r) l.length=0 then 0 else (2*sumC r l (min (keepN r) l.length)+(min (keepN r) l.length:Nat)).tdiv (2*(min (keepN r) l.length:Nat)))):=by
 obtain ⟨m,hm⟩:∃m,m=min (keepN r) l.length:=⟨_,rfl⟩
 have h109:=f109 (G:=G) r l hl hk
 rw[←hm] at h109⊢
 have hm2:m<20:=by omega
 have hb:∀k,k≤m→0≤sumC r l k∧sumC r l k≤k*100000000:=by
  intro k
  induction k with
  | zero=>intro _;exact⟨Int.le_refl _,Int.le_refl _⟩
  | succ k ih=>
   intro hk
   have:=ih (by omega)
   have h1:=hh (sig r l k)
   have e:sumC r l (k+1)=sumC r l k+(l.getD (sig r l k) at0).h:=sm_succ _ _
   rw[e]
   push_cast
   omega
 refine FnOK.walkK (orc:=orc88 (.slc 3 m (atR (fun i=>l.getD i at0) (sig r l)))) (keep:=[]) follows Tryz.func88 rfl Tryz.call88 ?_
 refine of_tr (fun ZT ZW ZQ ZK=>(ZK 109 [(.agg [(di r.kind),(di r.most),(di r.pause),(di r.keep)]),(.slc 3 l.length (atF l))] (.slc 3 m (atR (fun i=>l.getD i at0) (sig r l)))∧((((↑m:Int)==0)=true)→(((di 0):DV)=(di (if m=0 then 0 else (2*sumC r l m + ↑m).tdiv (2 * ↑m)))))∧((((↑m:Int)==0)=false)→ZW [cd Tryz.f88 [1,1,1,1,0,1,0],(.blk 0),cd Tryz.f88 [1,1,1,1,1]] (stS ZT [1]) ZQ))) (by kernel_rfl) ?_
 refine⟨h109,fun c=>?_,fun c=>?_⟩
 ·have c:m=0:=by simpa using c
  rw[if_pos c]
 have c:m≠0:=by simpa using c
 rw[if_neg c]
 refine AWP.loop (c:=cAt (bodyOf Tryz.f88) [1,1,1,1,0,1,0,0]) (by kernel_rfl) (S88 r l m) (fun k=>k≤m) (fun k=>m-k) 0 ?_ (Nat.zero_le _) ?_
 ·refine AS.leZ [3] [] (b:=((T0∧T0∧T0∧((vi 0):AV)=(vi (sumC r l 0))∧T0∧T0∧T0∧True)∧T0∧True)) (by kernel_rfl) (by kernel_rfl) ?_
  exact⟨⟨rfl,rfl,rfl,rfl,rfl,rfl,rfl,trivial⟩,rfl,trivial⟩
 intro k hk
 by_cases h2:k<m
 ·have hb1:=hb k hk
  have hb2:=hh (sig r l k)
  have e:sumC r l (k+1)=sumC r l k+(l.getD (sig r l k) at0).h:=sm_succ _ _
  refine walkK (orc:={ d:=noO }) (keep:=[]) (cuts:=[]) (n:=1000) follows ?_
  refine of_rd (fun ZT ZW ZQ _ ZA _=>((((decide ((↑k:Int)<↑m))=true)→(((0≤(↑k:Int))∧((↑k:Int)<↑m))∧(I64 (sumC r l k+(l.getD (sig r l (↑k:Int).toNat) at0).h))∧(I64 (↑k+1))∧(ZA (stS ZT [0]))))∧(((decide ((↑k:Int)<↑m))=false)→ZW [cd Tryz.f88 [1,1,1,1,1]] (stS ZT [1]) ZQ))) (by kernel_rfl) ?_
  rw[show ((k:Int)).toNat=k from rfl]
  refine⟨fun _=>⟨⟨by omega,by omega⟩,⟨by omega,by omega⟩,⟨by omega,by omega⟩,Again.mk (k+1) ?_ h2 (by omega)⟩,fun hd=>absurd (of_decide_eq_false hd) (by omega)⟩
  refine AS.leZ [3] [] (b:=((T0∧T0∧T0∧((vi (sumC r l k+(l.getD (sig r l (↑k:Int).toNat) at0).h)):AV)=(vi (sumC r l (k+1)))∧T0∧T0∧T0∧True)∧T0∧True)) (by kernel_rfl) (by kernel_rfl) ?_
  rw[e]
  exact⟨⟨rfl,rfl,rfl,rfl,rfl,rfl,rfl,trivial⟩,rfl,trivial⟩
 ·obtain rfl:k=m:=by omega
  have hb1:=hb k hk
  refine walkK (orc:={ d:=noO }) (keep:=[]) (cuts:=[7]) (n:=1000) follows ?_
  refine of_rd (fun ZT ZW ZQ _ _ ZR=>((((decide ((↑k:Int)<↑k))=true)→ZW [cd Tryz.f88 [1,1,1,1,0,1,0,0,1,1,0,0],(.blk 1),cd Tryz.f88 [1,1,1,1,0,1,0,0,1,1,1]] (stS ZT [0]) ZR)∧(((decide ((↑k:Int)<↑k))=false)→ZW [cd Tryz.f88 [1,1,1,1,1]] (stS ZT [1]) ZQ))) (by kernel_rfl) ?_
  refine⟨fun hd=>absurd (of_decide_eq_true hd) (by omega),fun _=>?_⟩
  refine walkK (orc:={ d:=noO }) (keep:=[]) (cuts:=[]) (n:=1000) follows ?_
  refine of_tr (fun _ _ _ _=>(((I64 (2*sumC r l k))∧(I64 (2*sumC r l k + ↑k))∧(I64 (2 * ↑k))∧(2*(↑k:Int)≠0)∧(R64 (2*sumC r l k + ↑k)))∧(ZS ((di ((2*sumC r l k + ↑k).tdiv (2 * ↑k))):DV)))) (by kernel_rfl) ?_
  exact⟨⟨⟨by omega,by omega⟩,⟨by omega,by omega⟩,⟨by omega,by omega⟩,by omega,by unfold R64;omega⟩,rfl⟩
end Go.Proofs
/- Final,the program's. -/
namespace Go.Proofs
open Go Go.Ab Go.RowKit
set_option maxHeartbeats 1000000
set_option maxRecDepth 100000
variable {G:IH}
theorem ru_facts {r:Ru} (h:ruOK r=true):(r.kind=0∨r.kind=1∨r.kind=2)∧(r.kind=2→1≤r.keep∧r.keep≤16)∧(r.kind≠2→r.keep=0):=by
 have hm:=ru_most h
 unfold ruOK at h
 simp only[bAt,decide_eq_true_eq] at h
 obtain ⟨h1,h2,_,_,_,h⟩:=h
 refine⟨by omega,fun c=>?_,fun c=>?_⟩
 ·rw[if_pos c] at h
  simp only[bAt,decide_eq_true_eq] at h
  omega
 ·rw[if_neg c] at h
  simpa using h
theorem finA_sum {r:Ru} {l:List At} (hr:ruOK r=true) (hb:0≤sumC r l (min (keepN r) l.length)):(if min (keepN r) l.length=0 then 0 else (2*sumC r l (min (keepN r) l.length)+(min (keepN r) l.length:Nat)).tdiv (2*(min (keepN r) l.length:Nat)))=finA r l:=by
 obtain ⟨_,k2,k3⟩:=ru_facts hr
 unfold finA finP
 have kp:0<keepN r:=by unfold keepN;split<;>omega
 by_cases h0:l.length=0
 ·rw[if_pos h0,if_pos (by omega)]
 rw[if_neg h0,if_neg (by omega),Int.tdiv_eq_ediv_of_nonneg (by omega)]
 have hC:finC r.kind (keepA r) l.length=min (keepN r) l.length:=by
  unfold finC keepN keepA
  by_cases c:r.kind=1
  ·rw[if_pos c,if_pos c];omega
  ·rw[if_neg c,if_neg c]
   by_cases c2:r.kind=2
   ·have:=k2 c2
    rw[if_pos c2];congr 1;omega
   ·have:=k3 c2
    rw[if_neg c2,this];rfl
 have hS:sumC r l (min (keepN r) l.length)=finS r.kind (keepA r) (valA l) l.length:=by
  rw[←hC]
  unfold finS finC sumC
  by_cases c:r.kind=1
  ·rw[if_pos c,if_pos c]
   unfold sig
   rw[if_pos c,sm_succ,sm_zero,Int.zero_add]
   unfold valA revS
   by_cases h1:l.length=1
   ·rw[h1];rfl
   ·rw[if_pos (by omega)];rfl
  ·rw[if_neg c,if_neg c]
   unfold sig topS
   rw[if_neg c];rfl
 rw[hS,hC]
def orc54 (r:Ru) (l:List At) (x:Int):Orc:={ d:=fun f _=>bif Nat.beq f 87 then some (db (validA r l)) else bif Nat.beq f 88 then some (di x) else none }
theorem valid_facts {r:Ru} {l:List At} (h:validA r l=true):ruOK r=true∧l.length≤16∧∀i,0≤(l.getD i at0).h∧(l.getD i at0).h≤100000000:=by
 unfold validA at h
 simp only[bAt,decide_eq_true_eq,List.all_eq_true] at h
 obtain ⟨h1,h2,h3⟩:=h
 have:=ru_most h1
 refine⟨h1,by omega,fun i=>?_⟩
 by_cases hi:i<l.length
 ·have:=h3 i (List.mem_range.2 hi)
  unfold atOK at this
  simp only[bAt,decide_eq_true_eq] at this
  exact this.2.2.2
 ·rw[List.getD,List.getElem?_eq_none (by omega)]
  exact⟨Int.le_refl _,by decide⟩
theorem f88v (r:Ru) (l:List At) (h:validA r l=true):FnOK Tryz.prog G 88 [ruD r,atsD l] (di (finA r l)):=by
 obtain ⟨h1,h2,h3⟩:=valid_facts h
 obtain ⟨_,k2,k3⟩:=ru_facts h1
 have hk:I64 r.keep:=by
  by_cases c:r.kind=2
  ·have:=k2 c;exact⟨by omega,by omega⟩
  ·rw[k3 c];exact⟨by decide,by decide⟩
 have:=f88 (G:=G) r l (by omega) hk h3
 rwa [finA_sum h1] at this
 have hb:∀k,0≤sumC r l k:=by
  intro k
  induction k with
  | zero=>exact Int.le_refl _
  | succ k ih=>
   have e:sumC r l (k+1)=sumC r l k+(l.getD (sig r l k) at0).h:=sm_succ _ _
   have:=(h3 (sig r l k)).1
   omega
 exact hb _
theorem f54 (r:Ru) (l:List At):FnOK Tryz.prog G 54 [ruD r,atsD l] (.tup [di (finRn r l),di (finRe r l)]):=by
 refine FnOK.walkK (orc:=orc54 r l (finA r l)) (keep:=[]) follows Tryz.func54 rfl Tryz.call54 ?_
 refine of_tr (fun _ _ _ ZK=>(ZK 87 [(.agg [(di r.kind),(di r.most),(di r.pause),(di r.keep)]),(.slc 3 l.length (atF l))] (db (validA r l))∧(((!validA r l)=true)→(((.tup [(di 0),(di 1)]):DV)=(.tup [(di (finRn r l)),(di (finRe r l))])))∧(((!validA r l)=false)→(ZK 88 [(.agg [(di r.kind),(di r.most),(di r.pause),(di r.keep)]),(.slc 3 l.length (atF l))] (di (finA r l))∧((.tup [(di (finA r l)),(di 0)]):DV)=(.tup [(di (finRn r l)),(di (finRe r l))]))))) (by kernel_rfl) ?_
 refine⟨f87 r l,fun c=>?_,fun c=>⟨f88v r l (by simpa using c),?_⟩⟩
 ·have c:validA r l=false:=by simpa using c
  unfold finRn finRe
  rw[c];rfl
 ·have c:validA r l=true:=by simpa using c
  unfold finRn finRe
  rw[c];rfl
end Go.Proofs
/- Points. -/
namespace Go.Proofs
open Go Go.Ab Go.RowKit
set_option maxHeartbeats 1000000
set_option maxRecDepth 100000
variable {G:IH}
def attB (b:Bk) (st ex:ByteArray):List At:=numA (attE b.es st ex)
def ptN (b:Bk) (st ex:ByteArray) (r:Ru):Int:=if valB okE b=true then finRn r (attB b st ex) else 0
def ptE (b:Bk) (st ex:ByteArray) (r:Ru):Int:=if valB okE b=true then finRe r (attB b st ex) else 1
theorem attE_take {es:List En} {st ex:ByteArray} {j:Nat} (h:j<es.length):attE (es.take (j+1)) st ex=attE (es.take j) st ex++(attX st ex (es.getD j en0)).toList:=by
 unfold attE
 rw[List.take_succ_eq_append_getElem h,List.filterMap_append,List.getD,gEe h]
 show _++List.filterMap _ [es[j]]=_++(attX st ex es[j]).toList
 rw[List.filterMap_cons]
 cases attX st ex es[j]<;>rfl
theorem attX_eq (st ex:ByteArray) (x:En):attX st ex x=if (decide ((x.gs.length:Int)>0)&&decide (x.k.st=st)&&decide (x.k.ex=ex))=true then some (x.t,(x.gs.getD (x.gs.length-1) gv0).h) else none:=by
 unfold attX
 by_cases c:x.k.st=st∧x.k.ex=ex
 ·rw[if_pos c,decide_eq_true c.1,decide_eq_true c.2,Bool.and_true,Bool.and_true]
  rcases List.eq_nil_or_concat x.gs with q|⟨l,a,q⟩
  ·rw[q];rfl
  ·rw[List.concat_eq_append] at q
   rw[q,decide_eq_true (by simp),if_pos rfl]
   simp
 ·rw[if_neg c,if_neg]
  intro h
  simp only[bAt,decide_eq_true_eq] at h
  exact c ⟨h.1.2,h.2⟩
noncomputable def S25 (b:Bk) (st ex:ByteArray) (r:Ru) (j:Nat) (f:Nat→DV) (m:Nat):AS:=⟨regs Tryz.f25.ntmps [(1,.d (ds st)),(2,.d (ds ex)),(4,.box 4 0),(7,.box 7 0),(8,vi 0),(9,vi 0),(10,.vec 910 3 0 m),(18,.d (ensD b.es)),(19,vi b.es.length),(20,vi j)],[(4,(bkL b).map .d),(7,(ruL r).map .d),(910,[.arr atK 3 f])]⟩
noncomputable def S25n (b:Bk) (st ex:ByteArray) (r:Ru):AS:=⟨regs Tryz.f25.ntmps [(1,.d (ds st)),(2,.d (ds ex)),(4,.box 4 0),(7,.box 7 0),(8,vi 0),(9,vi 0),(10,.d (.con (.slice none 0 0))),(18,.d (ensD b.es)),(19,vi b.es.length),(20,vi 0)],[(4,(bkL b).map .d),(7,(ruL r).map .d)]⟩
def orc25 (b:Bk) (n e:Int):Orc:={ d:=fun f _=>bif Nat.beq f 32 then some (db (valB okE b)) else bif Nat.beq f 54 then some (.tup [di n,di e]) else none,rows:=fun n=>Nat.beq n 57 }
theorem atF_app {l:List At} {a:At}:∀i,i<l.length+1→(bif i.blt l.length then atF l i else elemF true 3 [di a.n,di a.t,di a.h] (0+(i-l.length)))=atF (l++[a]) i:=by
 intro i hi
 unfold atF
 by_cases c:i<l.length
 ·rw[show i.blt l.length=true from by rw[Nat.blt_eq];exact c,cond_true,List.getD,List.getD,List.getElem?_append_left c]
 ·obtain rfl:i=l.length:=by omega
  rw[show l.length.blt l.length=false from by rw[Bool.eq_false_iff,ne_eq,Nat.blt_eq];omega,cond_false,Nat.sub_self]
  have:(l++[a]).getD l.length at0=a:=by simp
  rw[this]
  rfl
theorem f25 (b:Bk) (st ex:ByteArray) (r:Ru) (h:BkS b):FnOK Tryz.prog G 25 [bkD b,ds st,ds ex,ruD r] (.tup [di (ptN b st ex r),di (ptE b st ex r)]):=by
 have hlb:=h.sz.1
 refine FnOK.of_body Tryz.func25 rfl Tryz.call25 ?_
 refine walkK (orc:=orc25 b 0 0) (keep:=[]) (cuts:=[5]) (n:=1000) follows ?_
 refine of_tr (fun ZT ZW ZQ ZK=>(ZK 32 [(.agg [(di b.t),(.slc 7 b.es.length (enF b.es))])] (db (valB okE b))∧(((!valB okE b)=true)→(((.tup [(di 0),(di 1)]):DV)=(.tup [(di (ptN b st ex r)),(di (ptE b st ex r))])))∧(((!valB okE b)=false)→ZW [cd Tryz.f25 [1,1,1,0,1,0],(.blk 0),cd Tryz.f25 [1,1,1,1]] (stS ZT [1]) ZQ))) (by kernel_rfl) ?_
 refine⟨h.f32,fun c=>?_,fun c=>?_⟩
 ·have c:valB okE b=false:=by simpa using c
  unfold ptN ptE
  rw[c];rfl
 have c:valB okE b=true:=by simpa using c
 unfold ptN ptE
 rw[if_pos c,if_pos c]
 refine AWP.weaken (st':=S25n b st ex r) ?_ ?_
 ·exact AS.leA (by kernel_rfl)
 refine AWP.pre (.nilRow _ 10 910 3 atK (atF []) (by kernel_rfl) (by kernel_rfl)) ?_
 refine AWP.loop (c:=cAt (bodyOf Tryz.f25) [1,1,1,0,1,0,0]) (by kernel_rfl) (fun j=>S25 b st ex r j (atF (numA (attE (b.es.take j) st ex))) (numA (attE (b.es.take j) st ex)).length) (fun j=>j≤b.es.length) (fun j=>b.es.length-j) 0 ?_ (Nat.zero_le _) ?_
 ·refine AS.leZ [] [2] (b:=((T0∧T0∧T0∧T0∧T0∧T0∧T0∧T0∧T0∧T0∧True)∧T0∧T0∧((some [(.arr ⟨true,57,false,none⟩ 3 (atF []))]):(Option (List AV)))=(some [(.arr ⟨true,57,false,none⟩ 3 (atF (numA (attE (List.take 0 b.es) st ex))))])∧True)) (by kernel_rfl) (by kernel_rfl) ?_
  exact⟨⟨rfl,rfl,rfl,rfl,rfl,rfl,rfl,rfl,rfl,rfl,trivial⟩,rfl,rfl,rfl,trivial⟩
 intro j hj
 by_cases h2:j<b.es.length
 ·have ht:=attE_take (st:=st) (ex:=ex) h2
  have hxe:=attX_eq st ex (b.es.getD j en0)
  have hz:=(h.sz.2 j h2).1
  have hL:(numA (attE (b.es.take j) st ex)).length≤j:=by
   rw[numA_len]
   have:=List.length_filterMap_le (attX st ex) (b.es.take j)
   unfold attE
   rw[List.length_take] at this
   omega
  have hsn:∀p,numA (attE (b.es.take j) st ex++[p])=numA (attE (b.es.take j) st ex)++[⟨(numA (attE (b.es.take j) st ex)).length+1,p.1,p.2⟩]:=fun p=>by rw[numA_snoc,numA_len]
  generalize hLd:numA (attE (b.es.take j) st ex)=L at hL hsn⊢
  refine walkK (orc:=orc25 b 0 0) (keep:=[]) (cuts:=[]) (n:=1000) follows ?_
  refine of_rd (fun ZT ZW ZQ _ ZA _=>(fun Za=>((((decide ((↑j:Int)<↑b.es.length))=true)→(((0≤(↑j:Int))∧((↑j:Int)<↑b.es.length))∧(((decide ((↑Za.gs.length:Int)>0)&&Za.k.st.toList==st.toList&&Za.k.ex.toList==ex.toList)=true)→(((I64 (↑L.length+1))∧(I64 (↑Za.gs.length-1))∧((0≤(↑Za.gs.length:Int)-1)∧((↑Za.gs.length:Int)-1<↑Za.gs.length))∧((L.length+1)*24≤1099511627776)∧(L.length+1≤1099511627776))∧(I64 (↑j+1))∧(ZA (stS ZT [0,0]))))∧(((decide ((↑Za.gs.length:Int)>0)&&Za.k.st.toList==st.toList&&Za.k.ex.toList==ex.toList)=false)→((I64 (↑j+1))∧(ZA (stS ZT [0,1]))))))∧(((decide ((↑j:Int)<↑b.es.length))=false)→ZW [cd Tryz.f25 [1,1,1,1]] (stS ZT [1]) ZQ))) (b.es.getD (↑j:Int).toNat en0)) (by kernel_rfl) ?_
  try dsimp only
  rw[show ((j:Int)).toNat=j from rfl,toList_beq,toList_beq]
  generalize hx:b.es.getD j en0=x at hxe hz ht⊢
  refine⟨fun _=>⟨⟨by omega,by omega⟩,fun c=>?_,fun c=>⟨⟨by omega,by omega⟩,?_⟩⟩,fun hd=>absurd (of_decide_eq_false hd) (by omega)⟩
  ·have hpos:0<x.gs.length:=by
    simp only[bAt,decide_eq_true_eq] at c
    omega
   rw[if_pos c] at hxe
   rw[hxe] at ht
   refine⟨⟨⟨by omega,by omega⟩,⟨by omega,by omega⟩,⟨by omega,by omega⟩,by omega,by omega⟩,⟨by omega,by omega⟩,j+1,?_,h2,show b.es.length-(j+1)<b.es.length-j from by omega⟩
   show AS.leX _ (S25 b st ex r (j+1) (atF (numA (attE (b.es.take (j+1)) st ex))) (numA (attE (b.es.take (j+1)) st ex)).length)
   rw[ht]
   show AS.leX _ (S25 b st ex r (j+1) (atF (numA (attE (b.es.take j) st ex++[(x.t,(x.gs.getD (x.gs.length-1) gv0).h)]))) (numA (attE (b.es.take j) st ex++[(x.t,(x.gs.getD (x.gs.length-1) gv0).h)])).length)
   rw[hsn]
   refine(AS.leX.moves [(58,910)] _ rfl).trans ((AS.leX.of_le (st':=S25 b st ex r (j+1) (fun i=>bif i.blt L.length then atF L i else elemF true 3 [di ((L.length:Int)+1),di x.t,di (x.gs.getD (x.gs.length-1) gv0).h] (0+(i-L.length))) (L.length+1)) ?_).trans ((AS.leX.rowF _ 10 910 (L.length+1) (atF (L++[⟨(L.length:Int)+1,x.t,(x.gs.getD (x.gs.length-1) gv0).h⟩])) rfl rfl rfl (by kernel_rfl) fun i hi=>atF_app i hi).trans (.of_le ?_)))
   ·refine AS.leZ [] [2] (b:=((T0∧T0∧T0∧T0∧T0∧T0∧T0∧T0∧T0∧T0∧True)∧T0∧T0∧((some [(.arr ⟨true,57,false,none⟩ 3 (fun i=>bif i.blt L.length then atF L i else elemF true 3 [DV.con (Value.int IntKind.i64 ((↑L.length:Int)+1)),DV.con (Value.int IntKind.i64 (b.es.getD ((↑j:Int):Int).toNat en0).t),DV.con (Value.int IntKind.i64 ((b.es.getD ((↑j:Int):Int).toNat en0).gs.getD ((↑(b.es.getD (↑j:Int).toNat en0).gs.length:Int)-1).toNat gv0).h)] (0+(i-L.length))))]):(Option (List AV)))=(some [(.arr ⟨true,57,false,none⟩ 3 (fun i=>bif i.blt L.length then atF L i else elemF true 3 [di (↑L.length+1),di x.t,DV.con (Value.int IntKind.i64 (x.gs.getD (x.gs.length-1) gv0).h)] (0+(i-L.length))))])∧True)) (by kernel_rfl) (by kernel_rfl) ?_
    rw[show ((j:Int)).toNat=j from rfl,hx,show ((x.gs.length:Int)-1).toNat=x.gs.length-1 by omega]
    exact⟨⟨rfl,rfl,rfl,rfl,rfl,rfl,rfl,rfl,rfl,rfl,trivial⟩,rfl,rfl,rfl,trivial⟩
   ·refine AS.leZ [6] [] (b:=((T0∧T0∧T0∧T0∧T0∧T0∧((.vec 910 3 0 (L.length+1)):AV)=(.vec 910 3 0 (L++[At.mk (↑L.length+1) x.t (x.gs.getD (x.gs.length-1) gv0).h]).length)∧T0∧T0∧T0∧True)∧T0∧T0∧T0∧True)) (by kernel_rfl) (by kernel_rfl) ?_
    exact⟨⟨rfl,rfl,rfl,rfl,rfl,rfl,by rw[List.length_append];rfl,rfl,rfl,rfl,trivial⟩,rfl,rfl,rfl,trivial⟩
  ·rw[if_neg (by rw[c];decide)] at hxe
   rw[hxe] at ht
   refine⟨j+1,?_,h2,show b.es.length-(j+1)<b.es.length-j from by omega⟩
   show AS.leX _ (S25 b st ex r (j+1) (atF (numA (attE (b.es.take (j+1)) st ex))) (numA (attE (b.es.take (j+1)) st ex)).length)
   rw[ht]
   show AS.leX _ (S25 b st ex r (j+1) (atF (numA (attE (b.es.take j) st ex++[]))) (numA (attE (b.es.take j) st ex++[])).length)
   rw[List.append_nil,hLd]
   refine .of_le ?_
   exact AS.leA (by kernel_rfl)
 ·obtain rfl:j=b.es.length:=by omega
  rw[List.take_length]
  refine walkK (orc:=orc25 b 0 0) (keep:=[]) (cuts:=[6]) (n:=1000) follows ?_
  refine of_rd (fun ZT ZW ZQ _ _ ZR=>((((decide ((↑b.es.length:Int)<↑b.es.length))=true)→ZW [cd Tryz.f25 [1,1,1,0,1,0,0,1,1,0,0],(.blk 1),cd Tryz.f25 [1,1,1,0,1,0,0,1,1,1]] (stS ZT [0]) ZR)∧(((decide ((↑b.es.length:Int)<↑b.es.length))=false)→ZW [cd Tryz.f25 [1,1,1,1]] (stS ZT [1]) ZQ))) (by kernel_rfl) ?_
  refine⟨fun hd=>absurd (of_decide_eq_true hd) (by omega),fun _=>?_⟩
  refine walkK (orc:=orc25 b (finRn r (attB b st ex)) (finRe r (attB b st ex))) (keep:=[]) (cuts:=[]) (n:=1000) follows ?_
  refine of_tr (fun _ _ _ ZK=>(ZK 54 [(.agg [(di r.kind),(di r.most),(di r.pause),(di r.keep)]),(.slc 3 (numA (attE b.es st ex)).length (fun i=>atF (numA (attE b.es st ex)) (0+i)))] (.tup [(di (finRn r (attB b st ex))),(di (finRe r (attB b st ex)))])∧(ZS ((.tup [(di (finRn r (attB b st ex))),(di (finRe r (attB b st ex)))]):DV)))) (by kernel_rfl) ?_
  refine⟨FnOK.args (f54 r (attB b st ex)) fun _ us hh=>DV.rels_cons (fun _ h=>h) (DV.rels_cons (fun _ hv=>DV.rel_slc_congr (fun i hi=>by rw[Nat.zero_add];rfl) hv) (fun _ h=>h)) us hh,rfl⟩
end Go.Proofs
/- The law BookStudents. -/
namespace Go.Proofs
open Go Go.Ab Go.RowKit
set_option maxHeartbeats 4000000
set_option maxRecDepth 100000
variable {G:IH}
def orc7D (few:Bool) (b:Bk) (x y e:Ev) (r:Ru):Oracle:=fun f a=>match f,a with
 | 11,_=>some (db true)
 | 12,[_,.con (.int _ n)]=>some (db (if n=24 then few else fewE [x,y] 2))
 | 13,_=>some (bkD b)
 | 14,[c,_]=>some (.tup [bkD (apB okE (xBk c) e),di (apC okE (xBk c) e)])
 | 25,(c :: _)=>some (.tup [di (ptN (xBk c) y.k.st y.k.ex r),di (ptE (xBk c) y.k.st y.k.ex r)])
 | 27,[c,.con (.string s)]=>some (bkD (stB (xBk c) s))
 | 17,[c,d]=>some (db (decide (xBk c=xBk d)))
 | _,_=>none
def orc7 (few:Bool) (b:Bk) (x y e:Ev) (r:Ru):Orc:={ d:=orc7D few b x y e r,rows:=fun n=>Nat.beq n 29 }
noncomputable def S7 (x y:Ev) (r:Ru) (b c:Bk):AS:=⟨regs Tryz.f7.ntmps [(5,.box 5 0),(6,.box 6 0),(7,.box 7 0),(8,vb false),(9,.box 9 0),(10,.d (ds y.k.st)),(11,.box 11 0),(12,vi 0)],[(5,(evL x).map .d),(6,(evL y).map .d),(7,(ruL r).map .d),(9,(bkL b).map .d),(11,(bkL c).map .d)]⟩
noncomputable def S7b (x y:Ev) (r:Ru) (b c d:Bk):AS:=⟨regs Tryz.f7.ntmps [(5,.box 5 0),(6,.box 6 0),(7,.box 7 0),(8,vb false),(9,.box 9 0),(10,.d (ds y.k.st)),(11,.box 11 0),(12,vi 0),(17,.box 17 0)],[(5,(evL x).map .d),(6,(evL y).map .d),(7,(ruL r).map .d),(9,(bkL b).map .d),(11,(bkL c).map .d),(17,(bkL d).map .d)]⟩
noncomputable def S7c (x y:Ev) (r:Ru) (b c d p:Bk) (g:Int):AS:=⟨regs Tryz.f7.ntmps [(5,.box 5 0),(6,.box 6 0),(7,.box 7 0),(8,vb false),(9,.box 9 0),(10,.d (ds y.k.st)),(11,.box 11 0),(12,vi 0),(16,vi g),(17,.box 17 0),(18,.box 18 0)],[(5,(evL x).map .d),(6,(evL y).map .d),(7,(ruL r).map .d),(9,(bkL b).map .d),(11,(bkL c).map .d),(17,(bkL d).map .d),(18,(bkL p).map .d)]⟩
theorem f12e2 (x y:Ev) {f:Nat→DV} (h0:f 0=evD x) (h1:f 1=evD y):FnOK Tryz.prog G 12 [.slc 9 2 f,di 2] (db (fewE [x,y] 2)):=
 FnOK.args (f12 [x,y] 2 (show 2≤9223372036854775807 by decide)) fun _ us hh=>DV.rels_cons (fun _ hv=>DV.rel_slc_congr (fun i hi=>by
  have hi:i<2:=hi
  match i,hi with
  | 0,_=>exact h0
  | 1,_=>exact h1) hv) (fun _ h=>h) us hh
theorem st_small {b:Bk} (h:valB okE b=true) (s:ByteArray):SzB (stE b.es s)∧(allE (stE b.es s)).length≤1000000:=by
 have hS:=bkS_val h
 have hg:=val_good h
 have hbn:=val_bnd h
 have hmem:∀i,i<(stE b.es s).length→∃j,j<b.es.length∧(stE b.es s).getD i en0=b.es.getD j en0:=by
  intro i hi
  rw[List.getD,gEe hi]
  have:=(List.mem_filter.1 (List.getElem_mem hi)).1
  obtain ⟨j,hj,e⟩:=List.mem_iff_getElem.1 this
  exact⟨j,hj,by rw[List.getD,gEe hj];exact e.symm⟩
 have hl:(stE b.es s).length≤b.es.length:=List.length_filter_le _ _
 refine⟨⟨by have:=hS.sz.1;omega,fun i hi=>?_⟩,?_⟩
 ·obtain ⟨j,hj,e⟩:=hmem i hi
  rw[e];exact hS.sz.2 j hj
 ·have:Bnd (stE b.es s):=fun i hi=>by
   obtain ⟨j,hj,e⟩:=hmem i hi
   rw[e];exact hbn j hj
  have:=allE_len this
  have:=hg.few
  omega
theorem f27v {b:Bk} (h:valB okE b=true) (s:ByteArray):FnOK Tryz.prog G 27 [bkD b,ds s] (bkD (stB b s)):=by
 obtain ⟨h1,h2⟩:=st_small h s
 have:=f27 (G:=G) b s (bkS_val h) h1 h2
 rwa [if_pos h] at this
theorem f17v {b:Bk} (h:valB okE b=true) (s:ByteArray) (c:Bk):FnOK Tryz.prog G 17 [bkD (stB b s),bkD c] (db (decide (stB b s=c))):=f17 (stB b s) c (st_small h s).1
theorem stB_eq {b c:Bk} {s:ByteArray} (h:sdF b.es s=sdF c.es s):stB b s=stB c s:=by
 have h:stE b.es s=stE c.es s:=h
 unfold stB
 rw[h]
theorem f7 (hT:Tab G) (l:List Ev) (x y0:Ev) (r:Ru) (hl:l.length≤9223372036854775807):FnOK Tryz.prog G 7 [evsD l,evD x,evD y0,ruD r] (db true):=by
 have h12:=f12 (G:=G) l 24 hl
 cases hf:fewE l 24 with
 | false=>
  rw[hf] at h12
  refine FnOK.of_body Tryz.func7 rfl Tryz.call7 ?_
  refine walkK (orc:=orc7 false bk0 x y0 x r) (keep:=[]) (cuts:=[5]) (n:=1000) follows ?_
  refine of_tr (fun ZT ZW ZQ ZK=>(ZK 11 [] (db true)∧((false=true)→(((db false):DV)=(db true)))∧((false=false)→((ZK 12 [(.slc 9 l.length (evF l)),(di 24)] (db (if (24:Int)=(24:Int) then false else fewE [x,y0] (2:Int)))∧(((!!if (24:Int)=(24:Int) then false else fewE [x,y0] (2:Int))=true)→ZK 12 [(db false),(di 2)] (db (if (2:Int)=(24:Int) then false else fewE [x,y0] (2:Int)))))∧(((((!if (24:Int)=(24:Int) then false else fewE [x,y0] (2:Int))||!if (2:Int)=(24:Int) then false else fewE [x,y0] (2:Int))||ByteArray.toList (Ky.st (Ev.k x))==ByteArray.toList (Ky.st (Ev.k y0)))=true)→(ZS ((db true):DV)))∧(((((!if (24:Int)=(24:Int) then false else fewE [x,y0] (2:Int))||!if (2:Int)=(24:Int) then false else fewE [x,y0] (2:Int))||ByteArray.toList (Ky.st (Ev.k x))==ByteArray.toList (Ky.st (Ev.k y0)))=false)→ZW [cd Tryz.f7 [1,1,1]] (stS ZT [1,1]) ZQ))))) (by kernel_rfl) ?_
  exact⟨f11 hT,fun c=>(by cases c),fun _=>⟨⟨h12,fun c=>(by cases c)⟩,fun _=>rfl,fun c=>(by cases c)⟩⟩
 | true=>
  rw[hf] at h12
  obtain ⟨l24,lk⟩:=few_l hf
  have hv:=mk_valE l
  have h13:=f13 (G:=G) l (by omega) lk
  generalize mkB okE l=b at hv h13
  refine FnOK.of_body Tryz.func7 rfl Tryz.call7 ?_
  refine walkK (orc:=orc7 true b x y0 x r) (keep:=[]) (cuts:=[11]) (n:=1000) follows ?_
  refine of_tr (fun ZT ZW ZQ ZK=>(fun Za=>(ZK 11 [] (db true)∧((false=true)→(((db false):DV)=(db true)))∧((false=false)→((ZK 12 [(.slc 9 l.length (evF l)),(di 24)] (db (if (24:Int)=(24:Int) then true else fewE [x,y0] (2:Int)))∧(((!!if (24:Int)=(24:Int) then true else fewE [x,y0] (2:Int))=true)→ZK 12 [(.slc 9 2 (fun i=>elemF true 9 [di x.kind,ds x.k.st,ds x.k.ex,di x.k.n,di x.t,di x.v,di x.h,ds x.s,DV.con (Value.bool x.acc),di y0.kind,ds y0.k.st,ds y0.k.ex,di y0.k.n,di y0.t,di y0.v,di y0.h,ds y0.s,DV.con (Value.bool y0.acc)] (0+i))),(di 2)] (db (if (2:Int)=(24:Int) then true else fewE [x,y0] (2:Int)))))∧(((((!if (24:Int)=(24:Int) then true else fewE [x,y0] (2:Int))||!if (2:Int)=(24:Int) then true else fewE [x,y0] (2:Int))||ByteArray.toList (Ky.st (Ev.k x))==ByteArray.toList (Ky.st (Ev.k y0)))=true)→(ZS ((db true):DV)))∧(((((!if (24:Int)=(24:Int) then true else fewE [x,y0] (2:Int))||!if (2:Int)=(24:Int) then true else fewE [x,y0] (2:Int))||ByteArray.toList (Ky.st (Ev.k x))==ByteArray.toList (Ky.st (Ev.k y0)))=false)→(ZK 13 [(.slc 9 l.length (evF l))] (.agg [(di b.t),(.slc 7 b.es.length (enF b.es))])∧ZK 14 [(.agg [(di b.t),(.slc 7 b.es.length (enF b.es))]),(.agg [(di x.kind),(ds x.k.st),(ds x.k.ex),(di x.k.n),(di x.t),(di x.v),(di x.h),(ds x.s),(db x.acc)])] (.tup [(.agg [(di (apB okE Za x).t),(.slc 7 (apB okE Za x).es.length (enF (apB okE Za x).es))]),(di (apC okE Za x))])∧(((apC okE Za x != 0)=true)→(ZS ((db true):DV)))∧(((apC okE Za x != 0)=false)→ZW [cd Tryz.f7 [1,1,1,1,1,1,1,1]] (stS ZT [1,1,1]) ZQ))))))) (xBk (DV.agg [di b.t,DV.slc 7 b.es.length (enF b.es)]))) (by kernel_rfl) ?_
  try dsimp only
  simp only[xBk_eq,toList_beq]
  refine⟨f11 hT,fun c=>(by cases c),fun _=>⟨⟨h12,fun _=>f12e2 x y0 rfl rfl⟩,fun _=>trivial,fun c=>?_⟩⟩
  have hx:fewE [x,y0] 2=true∧x.k.st≠y0.k.st:=by
   rw[Bool.or_eq_false_iff,decide_eq_false_iff_not] at c
   refine⟨?_,c.2⟩
   cases q:fewE [x,y0] 2 with
   | true=>rfl
   | false=>rw[q] at c;exact absurd c.1 (by decide)
  obtain ⟨hx,hne⟩:=hx
  obtain ⟨hsm,_⟩:=few_of hx
  have hsx:=hsm x (by simp)
  have hsy:=hsm y0 (by simp)
  refine⟨h13,f14 b x (bkS_val hv) (by omega) (by omega),fun _=>trivial,fun c=>?_⟩
  have cx:apC okE b x=0:=by simpa using c
  obtain ⟨_,ox,ax,vc⟩:=ap_val (fun _=>ok_form) cx
  have hab:apB okE b x=appB b x:=by unfold apB;rw[if_pos cx]
  refine AWP.weaken (st':=S7 x ⟨y0.kind,y0.k,x.t,y0.v,y0.h,y0.s,y0.acc⟩ r b (apB okE b x)) ?_ ?_
  ·refine AS.leZ [7] [4] (b:=((T0∧T0∧T0∧T0∧T0∧T0∧T0∧((vi (apC okE (xBk (DV.agg [di b.t,ensD b.es])) x)):AV)=(vi 0)∧True)∧T0∧T0∧T0∧T0∧((some [(vi (apB okE (xBk (DV.agg [di b.t,ensD b.es])) x).t),(.d (.slc 7 (apB okE (xBk (DV.agg [di b.t,ensD b.es])) x).es.length (enF (apB okE (xBk (DV.agg [di b.t,ensD b.es])) x).es)))]):(Option (List AV)))=(some [(vi (apB okE b x).t),(.d (.slc 7 (apB okE b x).es.length (enF (apB okE b x).es)))])∧True)) (by kernel_rfl) (by kernel_rfl) ?_
   rw[xBk_eq,cx]
   exact⟨⟨rfl,rfl,rfl,rfl,rfl,rfl,rfl,rfl,trivial⟩,rfl,rfl,rfl,rfl,rfl,trivial⟩
  rw[hab]
  have hg:=val_good hv
  obtain ⟨y,hy⟩:∃y:Ev,y=⟨y0.kind,y0.k,x.t,y0.v,y0.h,y0.s,y0.acc⟩:=⟨_,rfl⟩
  rw[←hy]
  have hyk:y.k=y0.k:=by rw[hy]
  have hyt:y.t=x.t:=by rw[hy]
  rw[←hyk] at hne hsy
  clear hy c hab
  have hatt:attB (appB b x) y.k.st y.k.ex=attB b y.k.st y.k.ex:=by
   unfold attB
   rw[show (appB b x).es=appE b.es x from rfl,att_other hg.dis hne]
  have hstc:stB b y.k.st=stB (appB b x) y.k.st:=stB_eq (sdF_other hg.dis hne).symm
  have hoth:=fun cy=>others (b:=b) (x:=x) (y:=y) (Ne.symm hne) hyt ax cy (ok_form ox)
  have hPN:ptN b y.k.st y.k.ex r=ptN (appB b x) y.k.st y.k.ex r:=by
   unfold ptN;rw[if_pos hv,if_pos vc,hatt]
  have hPE:ptE b y.k.st y.k.ex r=ptE (appB b x) y.k.st y.k.ex r:=by
   unfold ptE;rw[if_pos hv,if_pos vc,hatt]
  generalize hcd:appB b x=c at hstc hPN hPE hoth vc⊢
  refine walkK (orc:=orc7 true b x y y r) (keep:=[]) (cuts:=[18]) (n:=1000) follows ?_
  refine of_tr (fun ZT ZW ZQ ZK=>(fun Za Zb Zc Zd Ze=>(ZK 25 [Ze,(ds y.k.st),(ds y.k.ex),(.agg [(di r.kind),(di r.most),(di r.pause),(di r.keep)])] (.tup [(di (ptN Za y.k.st y.k.ex r)),(di (ptE Za y.k.st y.k.ex r))])∧ZK 25 [(.agg [(di c.t),(.slc 7 c.es.length (enF c.es))]),(ds y.k.st),(ds y.k.ex),(.agg [(di r.kind),(di r.most),(di r.pause),(di r.keep)])] (.tup [(di (ptN Zb y.k.st y.k.ex r)),(di (ptE Zb y.k.st y.k.ex r))])∧(ZK 27 [Ze,(ds y.k.st)] (.agg [(di (maxT (evsB (Bk.mk 0 Zc)))),(.slc 7 Zc.length (enF Zc))])∧ZK 27 [(.agg [(di c.t),(.slc 7 c.es.length (enF c.es))]),(ds y.k.st)] (.agg [(di (maxT (evsB (Bk.mk 0 Zd)))),(.slc 7 Zd.length (enF Zd))])∧ZK 17 [(.agg [(di (maxT (evsB (Bk.mk 0 Zc)))),(.slc 7 Zc.length (enF Zc))]),(.agg [(di (maxT (evsB (Bk.mk 0 Zd)))),(.slc 7 Zd.length (enF Zd))])] (db (decide (xBk (bkD (stB Za y.k.st))=xBk (bkD (stB Zb y.k.st))))))∧(((!decide (xBk (bkD (stB Za y.k.st))=xBk (bkD (stB Zb y.k.st)))||ptN Za y.k.st y.k.ex r != ptN Zb y.k.st y.k.ex r||ptE Za y.k.st y.k.ex r != ptE Zb y.k.st y.k.ex r)=true)→(((db false):DV)=(db true)))∧(((!decide (xBk (bkD (stB Za y.k.st))=xBk (bkD (stB Zb y.k.st)))||ptN Za y.k.st y.k.ex r != ptN Zb y.k.st y.k.ex r||ptE Za y.k.st y.k.ex r != ptE Zb y.k.st y.k.ex r)=false)→(ZK 14 [Ze,(.agg [(di y.kind),(ds y.k.st),(ds y.k.ex),(di y.k.n),(di y.t),(di y.v),(di y.h),(ds y.s),(db y.acc)])] (.tup [(.agg [(di (apB okE Za y).t),(.slc 7 (apB okE Za y).es.length (enF (apB okE Za y).es))]),(di (apC okE Za y))])∧(((apC okE Za y != 0)=true)→(ZS ((db true):DV)))∧(((apC okE Za y != 0)=false)→ZW [cd Tryz.f7 [1,1,1,1,1,1,1,1,1,1,1,1,1]] (stS ZT [1,1]) ZQ))))) (xBk (DV.agg [di b.t,DV.slc 7 b.es.length (enF b.es)])) (xBk (DV.agg [di c.t,DV.slc 7 c.es.length (enF c.es)])) (stE (xL xEn (DV.slc 7 b.es.length (enF b.es))) y.k.st) (stE (xL xEn (DV.slc 7 c.es.length (enF c.es))) y.k.st) ((.agg [(di b.t),(.slc 7 b.es.length (enF b.es))]):DV)) (by kernel_rfl) ?_
  try dsimp only
  simp only[xBk_eq,xEns_eq]
  refine⟨f25 b _ _ r (bkS_val hv),f25 c _ _ r (bkS_val vc),⟨f27v hv y.k.st,f27v vc y.k.st,f17v hv y.k.st (stB c y.k.st)⟩,fun q=>?_,fun _=>⟨f14 b y (bkS_val hv) (by omega) (by omega),fun _=>trivial,fun cy=>?_⟩⟩
  ·rw[hstc,hPN,hPE] at q
   simp at q
  have cy:apC okE b y=0:=by simpa using cy
  obtain ⟨_,oy,ay,vd⟩:=ap_val (fun _=>ok_form) cy
  have hbd:apB okE b y=appB b y:=by unfold apB;rw[if_pos cy]
  refine AWP.weaken (st':=S7b x y r b c (apB okE b y)) ?_ ?_
  ·refine AS.leZ [] [5] (b:=((T0∧T0∧T0∧T0∧T0∧T0∧T0∧T0∧T0∧True)∧T0∧T0∧T0∧T0∧T0∧((some [(vi (apB okE (xBk (DV.agg [di b.t,ensD b.es])) y).t),(.d (.slc 7 (apB okE (xBk (DV.agg [di b.t,ensD b.es])) y).es.length (enF (apB okE (xBk (DV.agg [di b.t,ensD b.es])) y).es)))]):(Option (List AV)))=(some [(vi (apB okE b y).t),(.d (.slc 7 (apB okE b y).es.length (enF (apB okE b y).es)))])∧True)) (by kernel_rfl) (by kernel_rfl) ?_
   rw[xBk_eq]
   exact⟨⟨rfl,rfl,rfl,rfl,rfl,rfl,rfl,rfl,rfl,trivial⟩,rfl,rfl,rfl,rfl,rfl,rfl,trivial⟩
  rw[hbd]
  obtain ⟨ho1,ho2⟩:=hoth ay (ok_form oy) hg
  generalize appB b y=d at vd ho1 ho2⊢
  have hcy:apC okE c y=appC c y:=by unfold apC;rw[if_pos ⟨vc,oy⟩]
  have hdx:apC okE d x=appC d x:=by unfold apC;rw[if_pos ⟨vd,ox⟩]
  refine walkK (orc:=orc7 true b x y y r) (keep:=[]) (cuts:=[19]) (n:=1000) follows ?_
  refine of_tr (fun ZT ZW ZQ ZK=>(fun Za=>(ZK 14 [(.agg [(di c.t),(.slc 7 c.es.length (enF c.es))]),(.agg [(di y.kind),(ds y.k.st),(ds y.k.ex),(di y.k.n),(di y.t),(di y.v),(di y.h),(ds y.s),(db y.acc)])] (.tup [(.agg [(di (apB okE Za y).t),(.slc 7 (apB okE Za y).es.length (enF (apB okE Za y).es))]),(di (apC okE Za y))])∧ZW [cd Tryz.f7 [1,1,1,1,1,1,1,1,1,1,1,1,1,1]] (stS ZT []) ZQ)) (xBk (DV.agg [di c.t,DV.slc 7 c.es.length (enF c.es)]))) (by kernel_rfl) ?_
  refine⟨by rw[xBk_eq];exact f14 c y (bkS_val vc) (by omega) (by omega),?_⟩
  refine AWP.weaken (st':=S7c x y r b c d (apB okE c y) (apC okE c y)) ?_ ?_
  ·refine AS.leZ [8] [6] (b:=((T0∧T0∧T0∧T0∧T0∧T0∧T0∧T0∧((vi (apC okE (xBk (DV.agg [di c.t,ensD c.es])) y)):AV)=(vi (apC okE c y))∧T0∧T0∧True)∧T0∧T0∧T0∧T0∧T0∧T0∧((some [(vi (apB okE (xBk (DV.agg [di c.t,ensD c.es])) y).t),(.d (.slc 7 (apB okE (xBk (DV.agg [di c.t,ensD c.es])) y).es.length (enF (apB okE (xBk (DV.agg [di c.t,ensD c.es])) y).es)))]):(Option (List AV)))=(some [(vi (apB okE c y).t),(.d (.slc 7 (apB okE c y).es.length (enF (apB okE c y).es)))])∧True)) (by kernel_rfl) (by kernel_rfl) ?_
   rw[xBk_eq]
   exact⟨⟨rfl,rfl,rfl,rfl,rfl,rfl,rfl,rfl,rfl,rfl,rfl,trivial⟩,rfl,rfl,rfl,rfl,rfl,rfl,rfl,trivial⟩
  refine walkK (orc:=orc7 true b x y x r) (keep:=[]) (cuts:=[]) (n:=1000) follows ?_
  refine of_tr (fun _ _ _ ZK=>(fun Za Zb Zc Zd=>(ZK 14 [(.agg [(di d.t),(.slc 7 d.es.length (enF d.es))]),(.agg [(di x.kind),(ds x.k.st),(ds x.k.ex),(di x.k.n),(di x.t),(di x.v),(di x.h),(ds x.s),(db x.acc)])] (.tup [(.agg [(di (apB okE Za x).t),(.slc 7 (apB okE Za x).es.length (enF (apB okE Za x).es))]),(di (apC okE Za x))])∧((((!apC okE c y==8&&(apC okE c y==0&&apC okE Za x==0))=true)→ZK 27 [Zd,(ds y.k.st)] (.agg [(di (maxT (evsB (Bk.mk 0 (stE Zc y.k.st))))),(.slc 7 (stE Zc y.k.st).length (enF (stE Zc y.k.st)))]))∧(((!apC okE c y==8&&(apC okE c y==0&&apC okE Za x==0))=true)→ZK 27 [(.agg [(di (apB okE Za x).t),(.slc 7 (apB okE Za x).es.length (enF (apB okE Za x).es))]),(ds y.k.st)] (.agg [(di (maxT (evsB (Bk.mk 0 (stE (xL xEn (DV.slc 7 (apB okE Za x).es.length (enF (apB okE Za x).es))) y.k.st))))),(.slc 7 (stE (xL xEn (DV.slc 7 (apB okE Za x).es.length (enF (apB okE Za x).es))) y.k.st).length (enF (stE (xL xEn (DV.slc 7 (apB okE Za x).es.length (enF (apB okE Za x).es))) y.k.st)))]))∧(((!apC okE c y==8&&(apC okE c y==0&&apC okE Za x==0))=true)→ZK 17 [(.agg [(di (maxT (evsB (Bk.mk 0 (stE Zc y.k.st))))),(.slc 7 (stE Zc y.k.st).length (enF (stE Zc y.k.st)))]),(.agg [(di (maxT (evsB (Bk.mk 0 (stE (xL xEn (DV.slc 7 (apB okE Za x).es.length (enF (apB okE Za x).es))) y.k.st))))),(.slc 7 (stE (xL xEn (DV.slc 7 (apB okE Za x).es.length (enF (apB okE Za x).es))) y.k.st).length (enF (stE (xL xEn (DV.slc 7 (apB okE Za x).es.length (enF (apB okE Za x).es))) y.k.st)))])] (db (decide (xBk (bkD (stB Zb y.k.st))=xBk (bkD (stB (xBk (DV.agg [DV.con (Value.int IntKind.i64 (apB okE Za x).t),DV.slc 7 (apB okE Za x).es.length (enF (apB okE Za x).es)])) y.k.st))))))∧(((!apC okE c y==8&&(apC okE c y==0&&apC okE Za x==0&&decide (xBk (bkD (stB Zb y.k.st))=xBk (bkD (stB (xBk (DV.agg [DV.con (Value.int IntKind.i64 (apB okE Za x).t),DV.slc 7 (apB okE Za x).es.length (enF (apB okE Za x).es)])) y.k.st)))))=true)→ZK 27 [Zd,(ds x.k.st)] (.agg [(di (maxT (evsB (Bk.mk 0 (stE Zc x.k.st))))),(.slc 7 (stE Zc x.k.st).length (enF (stE Zc x.k.st)))]))∧(((!apC okE c y==8&&(apC okE c y==0&&apC okE Za x==0&&decide (xBk (bkD (stB Zb y.k.st))=xBk (bkD (stB (xBk (DV.agg [DV.con (Value.int IntKind.i64 (apB okE Za x).t),DV.slc 7 (apB okE Za x).es.length (enF (apB okE Za x).es)])) y.k.st)))))=true)→ZK 27 [(.agg [(di (apB okE Za x).t),(.slc 7 (apB okE Za x).es.length (enF (apB okE Za x).es))]),(ds x.k.st)] (.agg [(di (maxT (evsB (Bk.mk 0 (stE (xL xEn (DV.slc 7 (apB okE Za x).es.length (enF (apB okE Za x).es))) x.k.st))))),(.slc 7 (stE (xL xEn (DV.slc 7 (apB okE Za x).es.length (enF (apB okE Za x).es))) x.k.st).length (enF (stE (xL xEn (DV.slc 7 (apB okE Za x).es.length (enF (apB okE Za x).es))) x.k.st)))]))∧(((!apC okE c y==8&&(apC okE c y==0&&apC okE Za x==0&&decide (xBk (bkD (stB Zb y.k.st))=xBk (bkD (stB (xBk (DV.agg [DV.con (Value.int IntKind.i64 (apB okE Za x).t),DV.slc 7 (apB okE Za x).es.length (enF (apB okE Za x).es)])) y.k.st)))))=true)→ZK 17 [(.agg [(di (maxT (evsB (Bk.mk 0 (stE Zc x.k.st))))),(.slc 7 (stE Zc x.k.st).length (enF (stE Zc x.k.st)))]),(.agg [(di (maxT (evsB (Bk.mk 0 (stE (xL xEn (DV.slc 7 (apB okE Za x).es.length (enF (apB okE Za x).es))) x.k.st))))),(.slc 7 (stE (xL xEn (DV.slc 7 (apB okE Za x).es.length (enF (apB okE Za x).es))) x.k.st).length (enF (stE (xL xEn (DV.slc 7 (apB okE Za x).es.length (enF (apB okE Za x).es))) x.k.st)))])] (db (decide (xBk (bkD (stB Zb x.k.st))=xBk (bkD (stB (xBk (DV.agg [DV.con (Value.int IntKind.i64 (apB okE Za x).t),DV.slc 7 (apB okE Za x).es.length (enF (apB okE Za x).es)])) x.k.st)))))))∧((db (apC okE c y==8||apC okE c y==0&&apC okE Za x==0&&decide (xBk (bkD (stB Zb y.k.st))=xBk (bkD (stB (xBk (DV.agg [DV.con (Value.int IntKind.i64 (apB okE Za x).t),DV.slc 7 (apB okE Za x).es.length (enF (apB okE Za x).es)])) y.k.st)))&&decide (xBk (bkD (stB Zb x.k.st))=xBk (bkD (stB (xBk (DV.agg [DV.con (Value.int IntKind.i64 (apB okE Za x).t),DV.slc 7 (apB okE Za x).es.length (enF (apB okE Za x).es)])) x.k.st))))):DV)=(db true))) (xBk (DV.agg [di d.t,DV.slc 7 d.es.length (enF d.es)])) (xBk (DV.agg [DV.con (Value.int IntKind.i64 (apB okE c y).t),DV.slc 7 (apB okE c y).es.length (enF (apB okE c y).es)])) (xL xEn (DV.slc 7 (apB okE c y).es.length (enF (apB okE c y).es))) ((.agg [(di (apB okE c y).t),(.slc 7 (apB okE c y).es.length (enF (apB okE c y).es))]):DV)) (by kernel_rfl) ?_
  try dsimp only
  simp only[xBk_eq,xEns_eq]
  have h14:=f14 (G:=G) d x (bkS_val vd) (by omega) (by omega)
  rcases ho1 with h8|⟨hg0,hh0⟩
  ·rw[hcy,h8]
   exact⟨h14,⟨fun c=>(by simp at c),fun c=>(by simp at c),fun c=>(by simp at c),fun c=>(by simp at c),fun c=>(by simp at c),fun c=>(by simp at c)⟩,rfl⟩
  ·have p0:apC okE c y=0:=by rw[hcy,hg0]
   have q0:apC okE d x=0:=by rw[hdx,hh0]
   have hp:apB okE c y=appB c y:=by unfold apB;rw[if_pos p0]
   have hq:apB okE d x=appB d x:=by unfold apB;rw[if_pos q0]
   have vp:=(ap_val (fun _=>ok_form) p0).2.2.2
   have vq:=(ap_val (fun _=>ok_form) q0).2.2.2
   have e1:=stB_eq (b:=appB c y) (c:=appB d x) (ho2 y.k.st)
   have e2:=stB_eq (b:=appB c y) (c:=appB d x) (ho2 x.k.st)
   rw[p0,q0,hp,hq]
   rw[q0,hq] at h14
   generalize appB c y=p at *
   generalize appB d x=q at *
   refine⟨h14,⟨fun _=>f27v vp y.k.st,fun _=>f27v vq y.k.st,fun _=>f17v vp y.k.st (stB q y.k.st),fun _=>f27v vp x.k.st,fun _=>f27v vq x.k.st,fun _=>f17v vp x.k.st (stB q x.k.st)⟩,congrArg db ?_⟩
   rw[decide_eq_true e1,decide_eq_true e2]
   rfl
end Go.Proofs
namespace Go.Proofs.YtflgdeobcgmgnaaGreatDoor
open Go Go.Ab Go.ChangeShapes Go.WideShapes Go.ChangeAt Go.RowKit
set_option maxRecDepth 100000
theorem own:ownKnob Tryz.prog.godebug=none:=by kernel_rfl
theorem laidOut:laidOutB Tryz.prog=true:=by kernel_rfl
theorem gPow : Tryz.prog.globalNamed "internal/strconv.uint64pow10" = some 2 := by kernel_rfl
theorem tPow:(Tryz.prog.globals[2]?).map (·.type)=some 185:=by kernel_rfl
theorem laidVars_get {P:Program} {W:World}:∀{l:List (String×DataW Unit)} {ps:List MemPlace},DataW.LaidVars P W l ps→
  ∀{i:Nat} {n:String} {d:DataW Unit},l[i]?=some (n,d)→∃g t cs fuel p,P.globalNamed n=some g∧(P.globals[g]?).map (·.type)=some t∧W.var? P n=some cs∧DataW.trod (fun _=>()) P W 0 (fun _=>true) false fuel t cs.toList=some (d,p)
 | [],ps,h,i,n,d,h1=>by simp at h1
 | (m,e) :: l,ps,⟨g,t,cs,fuel,p,q,a1,a2,a3,a4,a5,a6⟩,i,n,d,h1=>by
  cases i with
  | zero=>
   simp at h1;obtain ⟨rfl,rfl⟩:=h1
   exact⟨g,t,cs,fuel,p,a1,a2,a3,a4⟩
  | succ i=>exact laidVars_get a5 (i:=i) (by simpa using h1)
theorem tab_of_laid {laid : List (String × DataW Unit)} {W : World} (h : laidMetH Tryz.prog laid W) (hm : laidMetH Tryz.prog laid W = laidMet Tryz.prog laid W) {i : Nat} (hi : laid[i]? = some ("internal/strconv.uint64pow10", Rows.laid_internal_strconv_uint64pow10)) : Tab (allOf W) := by
 rw[hm] at h
 obtain ⟨ps,h,_⟩:=h
 obtain ⟨g2,t2,cs2,f2,p2,hg2,ht2,hv2,hd2⟩:=laidVars_get h hi
 obtain rfl:=Option.some.inj (gPow.symm.trans hg2)
 obtain rfl:=Option.some.inj (tPow.symm.trans ht2)
 have hT : Lib.TabIs Tryz.prog W "internal/strconv.uint64pow10" .u64 Lib.pow10Tab := by
  unfold Lib.TabIs
  rw[hv2,←Lib.cells_of_tab Tryz.underlying185 (by kernel_rfl) (by kernel_rfl) (by kernel_rfl) (k:=.u64) (zs:=Lib.pow10Tab) hd2]
 intro w hw
 unfold Lib.TabIs at hT⊢
 rw[←hT]
 unfold World.var? at hT⊢
 rw[gPow] at hT⊢
 simp only[Option.bind_some] at hT⊢
 cases ho:W.heap[2]? with
 | none=>rw[ho] at hT;cases hT
 | some o=>rw[hw.2 2 o ho]
end Go.Proofs.YtflgdeobcgmgnaaGreatDoor
