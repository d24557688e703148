import Derived.Test.YtflgdeobcgmgnaaGreatDoorAcD
import Derived.Test.YtflgdeobcgmgnaaGreatDoorG5
import Derived.Test.YtflgdeobcgmgnaaGreatDoorRows
import Derived.Lib.LaidTab
import Derived.ProofKit
import Derived.LaidMore
import Derived.OpenShut
import Derived.Stop.Joined
import Derived.Test.YtflgdeobcgmgnaaGreatDoorG0
/- The law BookTwice. -/
set_option autoImplicit false
namespace Go.Proofs
open Go Go.Ab Go.RowKit
set_option maxHeartbeats 4000000
set_option maxRecDepth 100000
variable {G:IH}
def orc55D (few:Bool) (b c:Bk) (x:Ev) (h:Bool):Oracle:=fun f a=>match f,a with
 | 11,_=>some (db true)
 | 12,[_,.con (.int _ n)]=>some (db (if n=24 then few else fewE [x] 1))
 | 13,_=>some (bkD b)
 | 14,_=>some (.tup [bkD (apB okE c x),di (apC okE c x)])
 | 20,_=>some (db h)
 | 24,[y]=>some (evsD (evsB (xBk y)))
 | _,_=>none
def orc55 (few:Bool) (b c:Bk) (x:Ev) (h:Bool):Orc:={ d:=orc55D few b c x h,rows:=fun n=>Nat.beq n 17 }
theorem f12e (e:Ev) {f:Nat→DV} (hf:f 0=evD e):FnOK Tryz.prog G 12 [.slc 9 1 f,di 1] (db (fewE [e] 1)):=
 FnOK.args (f12 [e] 1 (show 1≤9223372036854775807 by decide)) fun _ us hh=>DV.rels_cons (fun _ hv=>DV.rel_slc_congr (fun i hi=>by
  have hi:i<1:=hi
  obtain rfl:i=0:=by omega
  exact hf) hv) (fun _ h=>h) us hh
theorem few_one {x:Ev} (h:fewE [x] 1=true):x.k.st.size≤1000000∧x.k.ex.size≤1000000:=by
 have:=(few_of h).1 x (by simp)
 exact⟨by omega,by omega⟩
theorem few_l {l:List Ev} (h:fewE l 24=true):l.length≤24∧∀e∈l,e.k.st.size≤1000000∧e.k.ex.size≤1000000:=by
 obtain ⟨h1,h2⟩:=few_of h
 refine⟨by omega,fun e he=>?_⟩
 have:=h1 e he
 exact⟨by omega,by omega⟩
theorem f24v (b:Bk) (h:valB okE b=true):FnOK Tryz.prog G 24 [bkD b] (evsD (evsB b)):=by
 have:=f24 (G:=G) b (bkS_val h)
 rwa [if_pos h] at this
noncomputable def S5 (x:Ev) (b c:Bk):AS:=⟨regs Tryz.f5.ntmps [(3,.box 3 0),(4,vb false),(5,.box 5 0),(6,.box 6 0)],[(3,(evL x).map .d),(5,(bkL b).map .d),(6,(bkL c).map .d)]⟩
theorem f5 (hT:Tab G) (l:List Ev) (x:Ev) (hl:l.length≤9223372036854775807):FnOK Tryz.prog G 5 [evsD l,evD x] (db true):=by
 cases hf:fewE l 24 with
 | false=>
  refine FnOK.walkK (orc:=orc55 false bk0 bk0 x true) (keep:=[]) follows Tryz.func5 rfl Tryz.call5 ?_
  have h12:=f12 (G:=G) l 24 hl
  rw[hf] at h12
  refine of_tr (fun _ _ _ ZK=>(fun Za Zb Zc Zd Ze Zf=>(ZK 11 [] (db true)∧((false=true)→(((db false):DV)=(db true)))∧((false=false)→((ZK 12 [(.slc 9 l.length (evF l)),(di 24)] (db (if (24:Int)=(24:Int) then false else fewE [x] (1:Int)))∧(((!!if (24:Int)=(24:Int) then false else fewE [x] (1:Int))=true)→ZK 12 [(db false),(di 1)] (db (if (1:Int)=(24:Int) then false else fewE [x] (1:Int)))))∧((((!if (24:Int)=(24:Int) then false else fewE [x] (1:Int))||!if (1:Int)=(24:Int) then false else fewE [x] (1:Int))=true)→(ZS ((db true):DV)))∧((((!if (24:Int)=(24:Int) then false else fewE [x] (1:Int))||!if (1:Int)=(24:Int) then false else fewE [x] (1:Int))=false)→(ZK 13 [(.slc 9 l.length (evF l))] Zf∧ZK 14 [Zf,Zb] (.tup [Za,(di (apC okE bk0 x))])∧ZK 20 [Zf,Zb] (db true)∧(((!(apC okE bk0 x==6)==true)=true)→(((db false):DV)=(db true)))∧(((!(apC okE bk0 x==6)==true)=false)→((((apC okE bk0 x != 0)=true)→(((db ((↑(apB okE bk0 x).es.length:Int)==0&&(apB okE bk0 x).t==0)):DV)=(db true)))∧(((apC okE bk0 x != 0)=false)→(ZK 14 [Za,Zb] (.tup [Za,(di (apC okE bk0 x))])∧(ZK 20 [Za,Zb] (db true)∧((Ze=true)→ZK 24 [Za] (.slc 9 Zc.length (evF Zc)))∧((Ze=true)→ZK 24 [Zf] (.slc 9 0 (evF Zd)))∧((Ze=true)→(I64 (↑Zd.length+1))))∧((db (true&&apC okE bk0 x==6&&(↑(apB okE bk0 x).es.length:Int)==0&&(↑Zc.length:Int)==↑Zd.length+1)):DV)=(db true))))))))))) ((.agg [(di (apB okE bk0 x).t),(.slc 7 (apB okE bk0 x).es.length (enF (apB okE bk0 x).es))]):DV) ((.agg [(di x.kind),(ds x.k.st),(ds x.k.ex),(di x.k.n),(di x.t),(di x.v),(di x.h),(ds x.s),(db x.acc)]):DV) (evsB (xBk (DV.agg [DV.con (Value.int IntKind.i64 (apB okE bk0 x).t),DV.slc 7 (apB okE bk0 x).es.length (enF (apB okE bk0 x).es)]))) (evsB (xBk (DV.agg [di 0,DV.slc 7 0 (enF [])]))) (true&&apC okE bk0 x==6&&(↑(apB okE bk0 x).es.length:Int)==0) ((.agg [(di 0),(.slc 7 0 (enF []))]):DV)) (by kernel_rfl) ?_
  exact⟨f11 hT,fun c=>(by cases c),fun _=>⟨⟨h12,fun c=>(by cases c)⟩,fun _=>rfl,fun c=>(by cases c)⟩⟩
 | true=>
  obtain ⟨l24,lk⟩:=few_l hf
  have hv:=mk_valE l
  have tw:=twice (ok:=okE) (fun _=>ok_form) l x
  have h13:=f13 (G:=G) l (by omega) lk
  have h12:=f12 (G:=G) l 24 hl
  rw[hf] at h12
  generalize mkB okE l=b at hv tw h13
  obtain ⟨t6,t0⟩:=tw
  refine FnOK.of_body Tryz.func5 rfl Tryz.call5 ?_
  refine walkK (orc:=orc55 true b b x (okE x&&(valB okE b&&hasB b.es x))) (keep:=[]) (cuts:=[11]) (n:=1000) follows ?_
  refine of_tr (fun ZT ZW ZQ ZK=>(fun Za Zb Zc=>(ZK 11 [] (db true)∧((false=true)→(((db false):DV)=(db true)))∧((false=false)→((ZK 12 [(.slc 9 l.length (evF l)),(di 24)] (db (if (24:Int)=(24:Int) then true else fewE [x] (1:Int)))∧(((!!if (24:Int)=(24:Int) then true else fewE [x] (1:Int))=true)→ZK 12 [(.slc 9 1 (fun i=>elemF true 9 [di x.kind,ds x.k.st,ds x.k.ex,di x.k.n,di x.t,di x.v,di x.h,ds x.s,DV.con (Value.bool x.acc)] (0+i))),(di 1)] (db (if (1:Int)=(24:Int) then true else fewE [x] (1:Int)))))∧((((!if (24:Int)=(24:Int) then true else fewE [x] (1:Int))||!if (1:Int)=(24:Int) then true else fewE [x] (1:Int))=true)→(ZS ((db true):DV)))∧((((!if (24:Int)=(24:Int) then true else fewE [x] (1:Int))||!if (1:Int)=(24:Int) then true else fewE [x] (1:Int))=false)→(ZK 13 [(.slc 9 l.length (evF l))] Zb∧ZK 14 [Zb,Za] (.tup [(.agg [(di (apB okE b x).t),(.slc 7 (apB okE b x).es.length (enF (apB okE b x).es))]),(di (apC okE b x))])∧ZK 20 [Zb,Za] (db Zc)∧(((!(apC okE b x==6)==Zc)=true)→(((db false):DV)=(db true)))∧(((!(apC okE b x==6)==Zc)=false)→((((apC okE b x != 0)=true)→(((db ((↑(apB okE b x).es.length:Int)==0&&(apB okE b x).t==0)):DV)=(db true)))∧(((apC okE b x != 0)=false)→ZW [cd Tryz.f5 [1,1,1,1,1,1,1]] (stS ZT [1,1,1,1]) ZQ))))))))) ((.agg [(di x.kind),(ds x.k.st),(ds x.k.ex),(di x.k.n),(di x.t),(di x.v),(di x.h),(ds x.s),(db x.acc)]):DV) ((.agg [(di b.t),(.slc 7 b.es.length (enF b.es))]):DV) (okE x&&(valB okE b&&hasB b.es x))) (by kernel_rfl) ?_
  refine⟨f11 hT,fun c=>(by cases c),fun _=>⟨⟨h12,fun _=>f12e x rfl⟩,fun _=>rfl,fun c=>?_⟩⟩
  have hx:fewE [x] 1=true:=by
   cases q:fewE [x] 1 with
   | true=>rfl
   | false=>rw[q] at c;cases c
  obtain ⟨x1,x2⟩:=few_one hx
  refine⟨h13,f14 b x (bkS_val hv) x1 x2,f20 b x (bkS_val hv) x1 x2,fun c=>?_,fun _=>⟨fun c=>?_,fun c=>?_⟩⟩
  ·exfalso
   rw[hv,Bool.true_and] at c
   by_cases h6:apC okE b x=6
   ·obtain ⟨a1,a2⟩:=t6.1 h6
    rw[h6,a1,a2] at c;cases c
   ·have:(okE x&&hasB b.es x)=false:=by
     rw[Bool.eq_false_iff]
     intro q
     rw[bAt] at q
     exact h6 (t6.2 q)
    rw[this] at c
    have e6:(apC okE b x==6)=false:=by simpa using h6
    rw[e6] at c;cases c
  ·have c:apC okE b x≠0:=by simpa using c
   have:apB okE b x=bk0:=by unfold apB;rw[if_neg c]
   rw[this];rfl
  ·have c:apC okE b x=0:=by simpa using c
   obtain ⟨p6,ph,po,pv,pl⟩:=t0 c
   have hab:apB okE b x=appB b x:=by unfold apB;rw[if_pos c]
   refine AWP.weaken (st':=S5 x b (apB okE b x)) ?_ ?_
   ·exact AS.leA (by kernel_rfl)
   rw[hab]
   generalize appB b x=d at p6 ph pv pl⊢
   refine walkK (orc:=orc55 true b d x true) (keep:=[]) (cuts:=[]) (n:=1000) follows ?_
   refine of_tr (fun _ _ _ ZK=>(fun Za Zb Zc Zd Ze=>(ZK 14 [Ze,Zd] (.tup [(.agg [(di (apB okE d x).t),(.slc 7 (apB okE d x).es.length (enF (apB okE d x).es))]),(di (apC okE d x))])∧(ZK 20 [Ze,Zd] (db true)∧((Zc=true)→ZK 24 [Ze] (.slc 9 Zb.length (evF Zb)))∧((Zc=true)→ZK 24 [(.agg [(di b.t),(.slc 7 b.es.length (enF b.es))])] (.slc 9 Za.length (evF Za)))∧((Zc=true)→(I64 (↑Za.length+1))))∧((db (true&&apC okE d x==6&&(↑(apB okE d x).es.length:Int)==0&&(↑Zb.length:Int)==↑Za.length+1)):DV)=(db true))) (evsB (xBk (DV.agg [di b.t,DV.slc 7 b.es.length (enF b.es)]))) (evsB (xBk (DV.agg [di d.t,DV.slc 7 d.es.length (enF d.es)]))) (true&&apC okE d x==6&&(↑(apB okE d x).es.length:Int)==0) ((.agg [(di x.kind),(ds x.k.st),(ds x.k.ex),(di x.k.n),(di x.t),(di x.v),(di x.h),(ds x.s),(db x.acc)]):DV) ((.agg [(di d.t),(.slc 7 d.es.length (enF d.es))]):DV)) (by kernel_rfl) ?_
   try dsimp only
   simp only[xBk_eq]
   have h20:=f20 (G:=G) d x (bkS_val pv) x1 x2
   rw[po,pv,ph] at h20
   have hd0:apB okE d x=bk0:=by unfold apB;rw[if_neg (by rw[p6];decide)]
   have hb:=(bkS_val hv).evs
   refine⟨f14 d x (bkS_val pv) x1 x2,⟨h20,fun _=>f24v d pv,fun _=>f24v b hv,fun _=>⟨by omega,by omega⟩⟩,congrArg db ?_⟩
   rw[p6,hd0,pl]
   show (true&&true&&true&&_)=true
   simp
end Go.Proofs
/- The law BookKeeps. -/
namespace Go.Proofs
open Go Go.Ab Go.RowKit
set_option maxHeartbeats 4000000
set_option maxRecDepth 100000
variable {G:IH}
noncomputable def S3 (x:Ev) (b c:Bk) (i:Nat) (ch:Int):AS:=⟨regs Tryz.f3.ntmps [(3,.box 3 0),(4,vb false),(5,.box 5 0),(6,.box 6 0),(8,vi ch),(82,.d (ensD b.es)),(83,vi b.es.length),(84,vi i)],[(3,(evL x).map .d),(5,(bkL b).map .d),(6,(bkL c).map .d)]⟩
noncomputable def S3i (x:Ev) (b c:Bk) (i:Nat) (p q:En) (ch:Int) (k:Nat):AS:=⟨regs Tryz.f3.ntmps [(3,.box 3 0),(4,vb false),(5,.box 5 0),(6,.box 6 0),(8,vi ch),(82,.d (ensD b.es)),(83,vi b.es.length),(84,vi i),(10,.box 10 0),(11,.box 11 0),(12,vi p.gs.length),(13,vi p.aps.length),(157,.d (alsD p.aps)),(158,vi p.aps.length),(159,vi k)],[(3,(evL x).map .d),(5,(bkL b).map .d),(6,(bkL c).map .d),(10,(enL p).map .d),(11,(enL q).map .d)]⟩
def orc3D (eq:Bool):Oracle:=fun f _=>match f with
 | 15=>some (db eq)
 | _=>none
theorem chgs_mono {b c:List En} {i:Nat}:∀{n:Nat},i≤n→chgs b c i≤chgs b c n
 | 0,h=>by
  obtain rfl:i=0:=by omega
  exact Nat.le_refl _
 | n+1,h=>by
  by_cases q:i=n+1
  ·subst q;exact Nat.le_refl _
  ·have:=chgs_mono (b:=b) (c:=c) (i:=i) (n:=n) (by omega)
   show _≤chgs b c n+chg _ _
   omega
theorem difA_le (p q:En):∀k,difA p q k≤k
 | 0=>Nat.le_refl _
 | k+1=>by
  have:=difA_le p q k
  unfold difA
  split<;>omega
theorem f15k (p q:List Gv) {n:Nat} {f:Nat→DV} (hn:n=p.length) (hq:q.length≤1000000) (hf:∀i,f i=gvF q i) (h:q.take p.length=p):FnOK Tryz.prog G 15 [.slc 4 n f,.slc 4 p.length (gvF p)] (db true):=by
 have hl:(q.take p.length).length=p.length:=by rw[h]
 have h15:=f15 (G:=G) (q.take p.length) p (by rw[hl];rw[←hl,List.length_take];omega)
 rw[hl,decide_eq_true h] at h15
 subst hn
 refine FnOK.args h15 fun _ us hh=>DV.rels_cons (fun _ hv=>DV.rel_slc_congr (fun i hi=>?_) hv) (fun _ h=>h) us hh
 rw[hf]
 unfold gvF
 rw[List.getD,List.getD,List.getElem?_take_of_lt hi]
theorem alEq (a b:Al):((a.t==b.t)&&(decide (a.s=b.s)&&((a.dec==b.dec)&&((a.acc==b.acc)&&((a.at_==b.at_)&&decide (a.ans=b.ans))))))=decide (a=b):=by
 obtain ⟨a1,a2,a3,a4,a5,a6⟩:=a
 obtain ⟨b1,b2,b3,b4,b5,b6⟩:=b
 rw[Bool.eq_iff_iff]
 simp[Al.mk.injEq]
theorem f3_loop (x:Ev) (b c:Bk) (hb:b.es.length≤1000000) (hl:c.es.length≤1000000) (hle:b.es.length≤c.es.length) (hz:SzB c.es) (hk:∀i,i<b.es.length→Keeps x (b.es.getD i en0) (c.es.getD i en0)) (h1:c.es.length-b.es.length+chgs b.es c.es b.es.length=1):AWP Tryz.prog G [cd Tryz.f3 [1,1,1,1,1,1,1,1,0,1,0],.blk 0,cd Tryz.f3 [1,1,1,1,1,1,1,1,1]] (S3 x b c 0 (c.es.length-b.es.length:Nat)) (Ret Tryz.prog Tryz.f3 (db true)):=by
 refine AWP.loop (c:=cAt (bodyOf Tryz.f3) [1,1,1,1,1,1,1,1,0,1,0,0]) (by kernel_rfl) (fun i=>S3 x b c i ((c.es.length-b.es.length+chgs b.es c.es i:Nat):Int)) (fun i=>i≤b.es.length) (fun i=>b.es.length-i) 0 ?_ (Nat.zero_le _) ?_
 ·exact AS.leA (by kernel_rfl)
 ·intro i hi
  by_cases h2:i<b.es.length
  ·have hK:=hk i h2
   have hsz:=hz.2 i (by omega)
   have hm1:=chgs_mono (b:=b.es) (c:=c.es) (show i≤b.es.length by omega)
   have hc1:chgs b.es c.es (i+1)=chgs b.es c.es i+chg (b.es.getD i en0) (c.es.getD i en0):=rfl
   have hm2:=chgs_mono (b:=b.es) (c:=c.es) (show i+1≤b.es.length by omega)
   refine walkK (orc:={ d:=orc3D true }) (keep:=[]) (cuts:=[21]) (n:=1000) follows ?_
   refine of_rd (fun ZT ZW ZQ ZK _ ZR=>(fun Za Zb Zc Zd=>((((decide ((↑i:Int)<↑b.es.length))=true)→(((0≤(↑i:Int))∧((↑i:Int)<↑b.es.length))∧((0≤(↑i:Int))∧((↑i:Int)<↑c.es.length))∧((((!(!Bool.rec false (ByteArray.toList (Ky.ex (En.k Za))==ByteArray.toList (Ky.ex (En.k Zb))&&Ky.n (En.k Za)==Ky.n (En.k Zb)) (ByteArray.toList (Ky.st (En.k Za))==ByteArray.toList (Ky.st (En.k Zb)))||En.t Za != En.t Zb||!ByteArray.toList (En.s Za)==ByteArray.toList (En.s Zb)||decide ((↑(List.length (En.gs Zb)):Int)<(↑(List.length (En.gs Za)):Int))||decide ((↑(List.length (En.aps Zb)):Int)<(↑(List.length (En.aps Za)):Int))))=true)→(((0:Int)≤(0:Int))∧(0≤(↑Zc.gs.length:Int))∧((↑Zc.gs.length:Int)≤↑Zd.gs.length)))∧(((!(!Bool.rec false (ByteArray.toList (Ky.ex (En.k Za))==ByteArray.toList (Ky.ex (En.k Zb))&&Ky.n (En.k Za)==Ky.n (En.k Zb)) (ByteArray.toList (Ky.st (En.k Za))==ByteArray.toList (Ky.st (En.k Zb)))||En.t Za != En.t Zb||!ByteArray.toList (En.s Za)==ByteArray.toList (En.s Zb)||decide ((↑(List.length (En.gs Zb)):Int)<(↑(List.length (En.gs Za)):Int))||decide ((↑(List.length (En.aps Zb)):Int)<(↑(List.length (En.aps Za)):Int))))=true)→ZK 15 [(.slc 4 ((↑Zc.gs.length:Int)-0).toNat (fun i_1=>gvF Zd.gs (Int.toNat 0+i_1))),(.slc 4 Zc.gs.length (gvF Zc.gs))] (db true)))∧(((!Bool.rec false (ByteArray.toList (Ky.ex (En.k Za))==ByteArray.toList (Ky.ex (En.k Zb))&&Ky.n (En.k Za)==Ky.n (En.k Zb)) (ByteArray.toList (Ky.st (En.k Za))==ByteArray.toList (Ky.st (En.k Zb)))||En.t Za != En.t Zb||!ByteArray.toList (En.s Za)==ByteArray.toList (En.s Zb)||decide ((↑(List.length (En.gs Zb)):Int)<(↑(List.length (En.gs Za)):Int))||decide ((↑(List.length (En.aps Zb)):Int)<(↑(List.length (En.aps Za)):Int))||!true)=true)→(((db false):DV)=(db true)))∧(((!Bool.rec false (ByteArray.toList (Ky.ex (En.k Za))==ByteArray.toList (Ky.ex (En.k Zb))&&Ky.n (En.k Za)==Ky.n (En.k Zb)) (ByteArray.toList (Ky.st (En.k Za))==ByteArray.toList (Ky.st (En.k Zb)))||En.t Za != En.t Zb||!ByteArray.toList (En.s Za)==ByteArray.toList (En.s Zb)||decide ((↑(List.length (En.gs Zb)):Int)<(↑(List.length (En.gs Za)):Int))||decide ((↑(List.length (En.aps Zb)):Int)<(↑(List.length (En.aps Za)):Int))||!true)=false)→(((I64 (↑Zd.gs.length - ↑Zc.gs.length))∧(I64 (↑Zd.gs.length - ↑Zc.gs.length + ↑Zd.aps.length))∧(I64 (↑Zd.gs.length - ↑Zc.gs.length + ↑Zd.aps.length - ↑Zc.aps.length))∧(I64 (↑(c.es.length-b.es.length+chgs b.es c.es i)+(↑Zd.gs.length - ↑Zc.gs.length + ↑Zd.aps.length - ↑Zc.aps.length))))∧ZW [cd Tryz.f3 [1,1,1,1,1,1,1,1,0,1,0,0,1,1,0,0,1,1,1,1,1,1,0],(.blk 2),(.blk 1),cd Tryz.f3 [1,1,1,1,1,1,1,1,0,1,0,0,1,1,1]] (stS ZT [0,1]) ZR))))∧(((decide ((↑i:Int)<↑b.es.length))=false)→ZW [cd Tryz.f3 [1,1,1,1,1,1,1,1,1]] (stS ZT [1]) ZQ))) (List.getD (Bk.es b) (Int.toNat (↑i:Int)) en0) (List.getD (Bk.es c) (Int.toNat (↑i:Int)) en0) (b.es.getD (↑i:Int).toNat en0) (c.es.getD (↑i:Int).toNat en0)) (by kernel_rfl) ?_
   try dsimp only
   simp only[show ((i:Int)).toNat=i from rfl,rec_and,toList_beq]
   generalize hp:b.es.getD i en0=p at hK hc1⊢
   generalize hq:c.es.getD i en0=q at hK hc1 hsz⊢
   obtain ⟨hs1,hs2⟩:=hsz
   obtain ⟨k1,k2,k3,k4,k5,k6,k7⟩:=hK
   have e1:(decide (p.k.st=q.k.st)&&(decide (p.k.ex=q.k.ex)&&p.k.n==q.k.n))=true:=by rw[k1];simp
   have e2:(p.t != q.t)=false:=by simp[k2]
   have e3:decide (p.s=q.s)=true:=decide_eq_true k3
   have e4:decide ((q.gs.length:Int)<(p.gs.length:Int))=false:=decide_eq_false (by omega)
   have e5:decide ((q.aps.length:Int)<(p.aps.length:Int))=false:=decide_eq_false (by omega)
   rw[e1,e2,e3,e4,e5]
   refine⟨fun _=>⟨⟨by omega,by omega⟩,⟨by omega,by omega⟩,⟨fun _=>⟨Int.le_refl _,by omega,by omega⟩,fun _=>f15k p.gs q.gs (by omega) hs1 (fun i=>by rw[show Int.toNat 0+i=i from Nat.zero_add i]) k6⟩,fun c=>(by cases c),fun _=>⟨⟨⟨by omega,by omega⟩,⟨by omega,by omega⟩,⟨by omega,by omega⟩,⟨by omega,by omega⟩⟩,?_⟩⟩,fun hd=>absurd (of_decide_eq_false hd) (by omega)⟩
   have hchg:chg p q=(q.gs.length-p.gs.length)+(q.aps.length-p.aps.length)+difA p q p.aps.length:=rfl
   obtain ⟨ch,hch⟩:∃ch:Nat,ch=c.es.length-b.es.length+chgs b.es c.es i+((q.gs.length-p.gs.length)+(q.aps.length-p.aps.length)):=⟨_,rfl⟩
   refine AWP.weaken (st':=S3i x b c i p q ((ch+difA p q 0:Nat):Int) 0) ?_ ?_
   ·have hd0:difA p q 0=0:=rfl
    refine AS.leZ [4,7,8,12,13] [3,4] (b:=((T0∧T0∧T0∧T0∧((vi (↑(c.es.length-b.es.length+chgs b.es c.es i)+(↑(c.es.getD (↑i:Int).toNat en0).gs.length - ↑(b.es.getD (↑i:Int).toNat en0).gs.length + ↑(c.es.getD (↑i:Int).toNat en0).aps.length - ↑(b.es.getD (↑i:Int).toNat en0).aps.length))):AV)=(vi (↑(ch+difA p q 0)))∧T0∧T0∧((vi (↑(b.es.getD (↑i:Int).toNat en0).gs.length)):AV)=(vi (↑p.gs.length))∧((vi (↑(b.es.getD (↑i:Int).toNat en0).aps.length)):AV)=(vi (↑p.aps.length))∧T0∧T0∧T0∧((.d (.slc 6 (b.es.getD (↑i:Int).toNat en0).aps.length (alF (b.es.getD (↑i:Int).toNat en0).aps))):AV)=(.d (.slc 6 p.aps.length (alF p.aps)))∧((vi (↑(b.es.getD (↑i:Int).toNat en0).aps.length)):AV)=(vi (↑p.aps.length))∧T0∧True)∧T0∧T0∧T0∧((some [(vs (b.es.getD (↑i:Int).toNat en0).k.st),(vs (b.es.getD (↑i:Int).toNat en0).k.ex),(vi (b.es.getD (↑i:Int).toNat en0).k.n),(vi (b.es.getD (↑i:Int).toNat en0).t),(vs (b.es.getD (↑i:Int).toNat en0).s),(.d (.slc 4 (b.es.getD (↑i:Int).toNat en0).gs.length (gvF (b.es.getD (↑i:Int).toNat en0).gs))),(.d (.slc 6 (b.es.getD (↑i:Int).toNat en0).aps.length (alF (b.es.getD (↑i:Int).toNat en0).aps)))]):(Option (List AV)))=(some [(vs p.k.st),(vs p.k.ex),(vi p.k.n),(vi p.t),(vs p.s),(.d (.slc 4 p.gs.length (gvF p.gs))),(.d (.slc 6 p.aps.length (alF p.aps)))])∧((some [(vs (c.es.getD (↑i:Int).toNat en0).k.st),(vs (c.es.getD (↑i:Int).toNat en0).k.ex),(vi (c.es.getD (↑i:Int).toNat en0).k.n),(vi (c.es.getD (↑i:Int).toNat en0).t),(vs (c.es.getD (↑i:Int).toNat en0).s),(.d (.slc 4 (c.es.getD (↑i:Int).toNat en0).gs.length (gvF (c.es.getD (↑i:Int).toNat en0).gs))),(.d (.slc 6 (c.es.getD (↑i:Int).toNat en0).aps.length (alF (c.es.getD (↑i:Int).toNat en0).aps)))]):(Option (List AV)))=(some [(vs q.k.st),(vs q.k.ex),(vi q.k.n),(vi q.t),(vs q.s),(.d (.slc 4 q.gs.length (gvF q.gs))),(.d (.slc 6 q.aps.length (alF q.aps)))])∧True)) (by kernel_rfl) (by kernel_rfl) ?_
    rw[show ((i:Int)).toNat=i from rfl,hp,hq]
    exact⟨⟨rfl,rfl,rfl,rfl,congrArg (fun z=>AV.d (di z)) (by rw[hd0];omega),rfl,rfl,rfl,rfl,rfl,rfl,rfl,rfl,rfl,rfl,trivial⟩,rfl,rfl,rfl,rfl,rfl,trivial⟩
   refine AWP.loop (c:=cAt (bodyOf Tryz.f3) [1,1,1,1,1,1,1,1,0,1,0,0,1,1,0,0,1,1,1,1,1,1,0,0]) (by kernel_rfl) (fun k=>S3i x b c i p q ((ch+difA p q k:Nat):Int) k) (fun k=>k≤p.aps.length) (fun k=>p.aps.length-k) 0 ?_ (Nat.zero_le _) ?_
   ·exact AS.leA (by kernel_rfl)
   ·intro k hkp
    have hd:=difA_le p q k
    by_cases h3:k<p.aps.length
    ·have k7:p.aps.getD k al0≠q.aps.getD k al0→(p.aps.getD k al0).dec=false∧k+1=p.aps.length∧(q.aps.getD k al0).dec=true∧(p.aps.getD k al0).t=(q.aps.getD k al0).t∧(p.aps.getD k al0).s=(q.aps.getD k al0).s∧p.k=x.k:=k7 k h3
     have hdk:difA p q (k+1)=difA p q k+if p.aps.getD k al0=q.aps.getD k al0 then 0 else 1:=rfl
     refine walkK (orc:={ d:=orc3D true }) (keep:=[]) (cuts:=[]) (n:=1000) follows ?_
     refine of_rd (fun ZT ZW ZQ _ ZA _=>(fun Za Zb Zc=>((((decide ((↑k:Int)<↑p.aps.length))=true)→(((0≤(↑k:Int))∧((↑k:Int)<↑p.aps.length))∧((0≤(↑k:Int))∧((↑k:Int)<↑q.aps.length))∧(((Bool.rec false (Zb.s.toList==Za.s.toList&&(Zb.dec==Za.dec&&(Zb.acc==Za.acc&&(Zb.at_==Za.at_&&Zb.ans.toList==Za.ans.toList)))) (Zb.t==Za.t))=true)→((I64 (↑k+1))∧(ZA (stS ZT [0,0]))))∧(((Bool.rec false (Zb.s.toList==Za.s.toList&&(Zb.dec==Za.dec&&(Zb.acc==Za.acc&&(Zb.at_==Za.at_&&Zb.ans.toList==Za.ans.toList)))) (Zb.t==Za.t))=false)→(((((!Zb.dec)=true)→(I64 (↑p.aps.length-1)))∧(((!(Zc.dec||(↑k:Int) != ↑p.aps.length-1))=true)→((0≤(↑k:Int))∧((↑k:Int)<↑q.aps.length)))∧(((!(Zc.dec||(↑k:Int) != ↑p.aps.length-1||!Za.dec))=true)→((0≤(↑k:Int))∧((↑k:Int)<↑q.aps.length)))∧(((!(Zc.dec||(↑k:Int) != ↑p.aps.length-1||!Za.dec||Zb.t != Za.t))=true)→((0≤(↑k:Int))∧((↑k:Int)<↑q.aps.length))))∧(((Zc.dec||(↑k:Int) != ↑p.aps.length-1||!Za.dec||Zb.t != Za.t||!Zb.s.toList==Za.s.toList||!Bool.rec false (p.k.ex.toList==x.k.ex.toList&&p.k.n==x.k.n) (p.k.st.toList==x.k.st.toList))=true)→(((db false):DV)=(db true)))∧(((Zc.dec||(↑k:Int) != ↑p.aps.length-1||!Za.dec||Zb.t != Za.t||!Zb.s.toList==Za.s.toList||!Bool.rec false (p.k.ex.toList==x.k.ex.toList&&p.k.n==x.k.n) (p.k.st.toList==x.k.st.toList))=false)→((I64 (↑(ch+difA p q k)+1))∧(I64 (↑k+1))∧(ZA (stS ZT [0,1,1]))))))))∧(((decide ((↑k:Int)<↑p.aps.length))=false)→ZW [(.blk 1),cd Tryz.f3 [1,1,1,1,1,1,1,1,0,1,0,0,1,1,1]] (stS ZT [1]) ZQ))) (q.aps.getD (↑k:Int).toNat al0) (p.aps.getD (↑k:Int).toNat al0) (p.aps.getD ((↑k:Int):Int).toNat al0)) (by kernel_rfl) ?_
     try dsimp only
     simp only[show ((k:Int)).toNat=k from rfl,rec_and,toList_beq,alEq]
     generalize p.aps.getD k al0=u at k7 hdk⊢
     generalize q.aps.getD k al0=v at k7 hdk⊢
     refine⟨fun _=>⟨⟨by omega,by omega⟩,⟨by omega,by omega⟩,fun c1=>⟨⟨by omega,by omega⟩,Again.mk (k+1) ?_ h3 (by omega)⟩,fun c1=>?_⟩,fun hd=>absurd (of_decide_eq_false hd) (by omega)⟩
     ·have c1:u=v:=of_decide_eq_true c1
      rw[if_pos c1] at hdk
      refine AS.leZ [4] [] (b:=((T0∧T0∧T0∧T0∧((vi (↑(ch+difA p q k))):AV)=(vi (↑(ch+difA p q (k+1))))∧T0∧T0∧T0∧T0∧T0∧T0∧T0∧T0∧T0∧T0∧True)∧T0∧T0∧T0∧T0∧T0∧True)) (by kernel_rfl) (by kernel_rfl) ?_
      rw[hdk]
      exact⟨⟨rfl,rfl,rfl,rfl,rfl,rfl,rfl,rfl,rfl,rfl,rfl,rfl,rfl,rfl,rfl,trivial⟩,rfl,rfl,rfl,rfl,rfl,trivial⟩
     ·have c1:u≠v:=of_decide_eq_false c1
      rw[if_neg c1] at hdk
      obtain ⟨q1,q2,q3,q4,q5,q6⟩:=k7 c1
      have e1:((k:Int) != (p.aps.length:Int)-1)=false:=by
       have:(k:Int)=(p.aps.length:Int)-1:=by omega
       rw[this];simp
      have e2:(u.t != v.t)=false:=by rw[q4];simp
      have e3:decide (u.s=v.s)=true:=decide_eq_true q5
      have e4:(decide (p.k.st=x.k.st)&&(decide (p.k.ex=x.k.ex)&&p.k.n==x.k.n))=true:=by rw[q6];simp
      rw[q1,e1,q3,e2,e3,e4]
      refine⟨⟨fun _=>⟨by omega,by omega⟩,fun _=>⟨by omega,by omega⟩,fun _=>⟨by omega,by omega⟩,fun _=>⟨by omega,by omega⟩⟩,fun c=>(by cases c),fun _=>⟨⟨by omega,by omega⟩,⟨by omega,by omega⟩,Again.mk (k+1) ?_ h3 (by omega)⟩⟩
      refine AS.leZ [4] [] (b:=((T0∧T0∧T0∧T0∧((vi (↑(ch+difA p q k)+1)):AV)=(vi (↑(ch+difA p q (k+1))))∧T0∧T0∧T0∧T0∧T0∧T0∧T0∧T0∧T0∧T0∧True)∧T0∧T0∧T0∧T0∧T0∧True)) (by kernel_rfl) (by kernel_rfl) ?_
      rw[hdk]
      exact⟨⟨rfl,rfl,rfl,rfl,congrArg (fun z=>AV.d (di z)) (by omega),rfl,rfl,rfl,rfl,rfl,rfl,rfl,rfl,rfl,rfl,trivial⟩,rfl,rfl,rfl,rfl,rfl,trivial⟩
    ·obtain rfl:k=p.aps.length:=by omega
     refine walkK (orc:={ d:=orc3D true }) (keep:=[]) (cuts:=[22]) (n:=1000) follows ?_
     refine of_rd (fun ZT ZW ZQ _ _ ZR=>((((decide ((↑p.aps.length:Int)<↑p.aps.length))=true)→ZW [cd Tryz.f3 [1,1,1,1,1,1,1,1,0,1,0,0,1,1,0,0,1,1,1,1,1,1,0,0,1,1,0,0],(.blk 3),cd Tryz.f3 [1,1,1,1,1,1,1,1,0,1,0,0,1,1,0,0,1,1,1,1,1,1,0,0,1,1,1]] (stS ZT [0]) ZR)∧(((decide ((↑p.aps.length:Int)<↑p.aps.length))=false)→ZW [(.blk 1),cd Tryz.f3 [1,1,1,1,1,1,1,1,0,1,0,0,1,1,1]] (stS ZT [1]) ZQ))) (by kernel_rfl) ?_
     refine⟨fun hd=>absurd (of_decide_eq_true hd) (by omega),fun _=>?_⟩
     refine walkK (orc:={ d:=orc3D true }) (keep:=[]) (cuts:=[]) (n:=1000) follows ?_
     refine of_rd (fun ZT _ _ _ ZA _=>((I64 (↑i+1))∧(ZA (stS ZT [])))) (by kernel_rfl) ?_
     refine⟨⟨by omega,by omega⟩,Again.mk (i+1) ?_ h2 (by omega)⟩
     refine AS.leZ [4] [] (b:=((T0∧T0∧T0∧T0∧((vi (↑(ch+difA p q p.aps.length))):AV)=(vi (↑(c.es.length-b.es.length+chgs b.es c.es (i+1))))∧T0∧T0∧T0∧True)∧T0∧T0∧T0∧True)) (by kernel_rfl) (by kernel_rfl) ?_
     exact⟨⟨rfl,rfl,rfl,rfl,congrArg (fun z=>AV.d (di z)) (by omega),rfl,rfl,rfl,trivial⟩,rfl,rfl,rfl,trivial⟩
  ·obtain rfl:i=b.es.length:=by omega
   refine walkK (orc:={ d:=orc3D true }) (keep:=[]) (cuts:=[14]) (n:=1000) follows ?_
   refine of_rd (fun ZT ZW ZQ _ _ ZR=>((((decide ((↑b.es.length:Int)<↑b.es.length))=true)→ZW [cd Tryz.f3 [1,1,1,1,1,1,1,1,0,1,0,0,1,1,0,0],(.blk 1),cd Tryz.f3 [1,1,1,1,1,1,1,1,0,1,0,0,1,1,1]] (stS ZT [0]) ZR)∧(((decide ((↑b.es.length:Int)<↑b.es.length))=false)→ZW [cd Tryz.f3 [1,1,1,1,1,1,1,1,1]] (stS ZT [1]) ZQ))) (by kernel_rfl) ?_
   refine⟨fun hd=>absurd (of_decide_eq_true hd) (by omega),fun _=>?_⟩
   refine walkK (orc:={ d:=orc3D true }) (keep:=[]) (cuts:=[]) (n:=1000) follows ?_
   refine of_tr (fun _ _ _ _=>(((db ((↑(c.es.length-b.es.length+chgs b.es c.es b.es.length):Int)==1)):DV)=(db true))) (by kernel_rfl) ?_
   rw[h1];rfl
theorem f3 (hT:Tab G) (l:List Ev) (x:Ev) (hl:l.length≤9223372036854775807):FnOK Tryz.prog G 3 [evsD l,evD x] (db true):=by
 cases hf:fewE l 24 with
 | false=>
  refine FnOK.of_body Tryz.func3 rfl Tryz.call3 ?_
  refine walkK (orc:=orc55 false bk0 bk0 x true) (keep:=[]) (cuts:=[5]) (n:=1000) follows ?_
  have h12:=f12 (G:=G) l 24 hl
  rw[hf] at h12
  refine of_tr (fun ZT ZW ZQ ZK=>(ZK 11 [] (db true)∧((false=true)→(((db false):DV)=(db true)))∧((false=false)→((ZK 12 [(.slc 9 l.length (evF l)),(di 24)] (db (if (24:Int)=(24:Int) then false else fewE [x] (1:Int)))∧(((!!if (24:Int)=(24:Int) then false else fewE [x] (1:Int))=true)→ZK 12 [(.slc 9 1 (elemF true 9 [(di x.kind),(ds x.k.st),(ds x.k.ex),(di x.k.n),(di x.t),(di x.v),(di x.h),(ds x.s),(db x.acc)])),(di 1)] (db (if (1:Int)=(24:Int) then false else fewE [x] (1:Int)))))∧((((!if (24:Int)=(24:Int) then false else fewE [x] (1:Int))||!if (1:Int)=(24:Int) then false else fewE [x] (1:Int))=true)→(ZS ((db true):DV)))∧((((!if (24:Int)=(24:Int) then false else fewE [x] (1:Int))||!if (1:Int)=(24:Int) then false else fewE [x] (1:Int))=false)→ZW [cd Tryz.f3 [1,1,1]] (stS ZT [1,1]) ZQ))))) (by kernel_rfl) ?_
  exact⟨f11 hT,fun c=>(by cases c),fun _=>⟨⟨h12,fun c=>(by cases c)⟩,fun _=>rfl,fun c=>(by cases c)⟩⟩
 | true=>
  obtain ⟨l24,lk⟩:=few_l hf
  have hv:=mk_valE l
  have h13:=f13 (G:=G) l (by omega) lk
  have h12:=f12 (G:=G) l 24 hl
  rw[hf] at h12
  generalize mkB okE l=b at hv h13
  refine FnOK.of_body Tryz.func3 rfl Tryz.call3 ?_
  refine walkK (orc:=orc55 true b b x true) (keep:=[]) (cuts:=[13]) (n:=1000) follows ?_
  refine of_tr (fun ZT ZW ZQ ZK=>(fun Za=>(ZK 11 [] (db true)∧((false=true)→(((db false):DV)=(db true)))∧((false=false)→((ZK 12 [(.slc 9 l.length (evF l)),(di 24)] (db (if (24:Int)=(24:Int) then true else fewE [x] (1:Int)))∧(((!!if (24:Int)=(24:Int) then true else fewE [x] (1:Int))=true)→ZK 12 [(.slc 9 1 (elemF true 9 [(di x.kind),(ds x.k.st),(ds x.k.ex),(di x.k.n),(di x.t),(di x.v),(di x.h),(ds x.s),(db x.acc)])),(di 1)] (db (if (1:Int)=(24:Int) then true else fewE [x] (1:Int)))))∧((((!if (24:Int)=(24:Int) then true else fewE [x] (1:Int))||!if (1:Int)=(24:Int) then true else fewE [x] (1:Int))=true)→(ZS ((db true):DV)))∧((((!if (24:Int)=(24:Int) then true else fewE [x] (1:Int))||!if (1:Int)=(24:Int) then true else fewE [x] (1:Int))=false)→(ZK 13 [(.slc 9 l.length (evF l))] (.agg [(di b.t),(.slc 7 b.es.length (enF b.es))])∧ZK 14 [(.agg [(di b.t),(.slc 7 b.es.length (enF b.es))]),(.agg [(di x.kind),(ds x.k.st),(ds x.k.ex),(di x.k.n),(di x.t),(di x.v),(di x.h),(ds x.s),(db x.acc)])] (.tup [(.agg [(di (apB okE b x).t),(.slc 7 (apB okE b x).es.length (enF (apB okE b x).es))]),(di (apC okE b x))])∧(((apC okE b x != 0)=true)→(ZS ((db true):DV)))∧(((apC okE b x != 0)=false)→((((!((apB okE b x).t != x.t||decide ((↑(apB okE b x).es.length:Int)<↑b.es.length)))=true)→(I64 (↑b.es.length+1)))∧((Za=true)→(((db false):DV)=(db true)))∧((Za=false)→((I64 (↑(apB okE b x).es.length - ↑b.es.length))∧ZW [cd Tryz.f3 [1,1,1,1,1,1,1,1,0,1,0],(.blk 0),cd Tryz.f3 [1,1,1,1,1,1,1,1,1]] (stS ZT [1,1,1,1]) ZQ)))))))))) ((apB okE b x).t != x.t||decide ((↑(apB okE b x).es.length:Int)<(↑b.es.length:Int))||decide ((↑(apB okE b x).es.length:Int)>(↑b.es.length:Int)+1)||!decide ((↑(apB okE b x).es.length:Int)>↑b.es.length)==(x.kind==0))) (by kernel_rfl) ?_
  refine⟨f11 hT,fun c=>(by cases c),fun _=>⟨⟨h12,fun _=>f12e x rfl⟩,fun _=>rfl,fun c=>?_⟩⟩
  have hx:fewE [x] 1=true:=by
   cases q:fewE [x] 1 with
   | true=>rfl
   | false=>rw[q] at c;cases c
  obtain ⟨x1,x2⟩:=few_one hx
  have hlb:=(bkS_val hv).sz.1
  refine⟨h13,f14 b x (bkS_val hv) x1 x2,fun _=>rfl,fun c=>?_⟩
  have c:apC okE b x=0:=by simpa using c
  obtain ⟨_,po,pc,pv⟩:=ap_val (fun _=>ok_form) c
  have hab:apB okE b x=appB b x:=by unfold apB;rw[if_pos c]
  obtain ⟨q1,q2,q3,q4⟩:=keeps (ok_form po) pc
  have hz:=(bkS_val pv).sz
  have ht:(appB b x).t=x.t:=rfl
  rw[hab]
  generalize appB b x=d at q1 q2 q3 q4 hz ht hab⊢
  have hlc:=hz.1
  have e1:(d.t != x.t)=false:=by rw[ht];simp
  have e2:decide ((d.es.length:Int)<(b.es.length:Int))=false:=decide_eq_false (by omega)
  have e3:decide ((d.es.length:Int)>(b.es.length:Int)+1)=false:=decide_eq_false (by split at q2<;>omega)
  have e4:(decide ((d.es.length:Int)>(b.es.length:Int))==(x.kind==0))=true:=by
   by_cases h0:x.kind=0
   ·rw[if_pos h0] at q2
    rw[decide_eq_true (show (d.es.length:Int)>(b.es.length:Int) by omega),h0];rfl
   ·rw[if_neg h0] at q2
    rw[decide_eq_false (show ¬(d.es.length:Int)>(b.es.length:Int) by omega)]
    simpa using h0
  rw[e1,e2,e3,e4]
  refine⟨fun _=>⟨by omega,by omega⟩,fun c=>(by cases c),fun _=>⟨⟨by omega,by omega⟩,?_⟩⟩
  refine AWP.weaken (st':=S3 x b d 0 (d.es.length-b.es.length:Nat)) ?_ (f3_loop x b d hlb hlc q1 hz q3 q4)
  refine AS.leZ [4] [2] (b:=((T0∧T0∧T0∧T0∧((vi (↑(apB okE b x).es.length - ↑b.es.length)):AV)=(vi (↑(d.es.length-b.es.length)))∧T0∧T0∧T0∧True)∧T0∧T0∧((some [(vi (apB okE b x).t),(.d (.slc 7 (apB okE b x).es.length (enF (apB okE b x).es)))]):(Option (List AV)))=(some [(vi d.t),(.d (.slc 7 d.es.length (enF d.es)))])∧True)) (by kernel_rfl) (by kernel_rfl) ?_
  rw[hab]
  exact⟨⟨rfl,rfl,rfl,rfl,congrArg (fun z=>AV.d (di z)) (by omega),rfl,rfl,rfl,trivial⟩,rfl,rfl,rfl,trivial⟩
end Go.Proofs
namespace Go.Proofs.YtflgdeobcgmgnaaGreatDoor
open Go Go.Ab Go.ChangeShapes Go.WideShapes Go.ChangeAt Go.RowKit
set_option maxRecDepth 100000
theorem own:ownKnob Tryz.prog.godebug=none:=by kernel_rfl
theorem laidOut:laidOutB Tryz.prog=true:=by kernel_rfl
theorem gPow : Tryz.prog.globalNamed "internal/strconv.uint64pow10" = some 2 := by kernel_rfl
theorem tPow:(Tryz.prog.globals[2]?).map (·.type)=some 185:=by kernel_rfl
theorem laidVars_get {P:Program} {W:World}:∀{l:List (String×DataW Unit)} {ps:List MemPlace},DataW.LaidVars P W l ps→
  ∀{i:Nat} {n:String} {d:DataW Unit},l[i]?=some (n,d)→∃g t cs fuel p,P.globalNamed n=some g∧(P.globals[g]?).map (·.type)=some t∧W.var? P n=some cs∧DataW.trod (fun _=>()) P W 0 (fun _=>true) false fuel t cs.toList=some (d,p)
 | [],ps,h,i,n,d,h1=>by simp at h1
 | (m,e) :: l,ps,⟨g,t,cs,fuel,p,q,a1,a2,a3,a4,a5,a6⟩,i,n,d,h1=>by
  cases i with
  | zero=>
   simp at h1;obtain ⟨rfl,rfl⟩:=h1
   exact⟨g,t,cs,fuel,p,a1,a2,a3,a4⟩
  | succ i=>exact laidVars_get a5 (i:=i) (by simpa using h1)
theorem tab_of_laid {laid : List (String × DataW Unit)} {W : World} (h : laidMetH Tryz.prog laid W) (hm : laidMetH Tryz.prog laid W = laidMet Tryz.prog laid W) {i : Nat} (hi : laid[i]? = some ("internal/strconv.uint64pow10", Rows.laid_internal_strconv_uint64pow10)) : Tab (allOf W) := by
 rw[hm] at h
 obtain ⟨ps,h,_⟩:=h
 obtain ⟨g2,t2,cs2,f2,p2,hg2,ht2,hv2,hd2⟩:=laidVars_get h hi
 obtain rfl:=Option.some.inj (gPow.symm.trans hg2)
 obtain rfl:=Option.some.inj (tPow.symm.trans ht2)
 have hT : Lib.TabIs Tryz.prog W "internal/strconv.uint64pow10" .u64 Lib.pow10Tab := by
  unfold Lib.TabIs
  rw[hv2,←Lib.cells_of_tab Tryz.underlying185 (by kernel_rfl) (by kernel_rfl) (by kernel_rfl) (k:=.u64) (zs:=Lib.pow10Tab) hd2]
 intro w hw
 unfold Lib.TabIs at hT⊢
 rw[←hT]
 unfold World.var? at hT⊢
 rw[gPow] at hT⊢
 simp only[Option.bind_some] at hT⊢
 cases ho:W.heap[2]? with
 | none=>rw[ho] at hT;cases hT
 | some o=>rw[hw.2 2 o ho]
end Go.Proofs.YtflgdeobcgmgnaaGreatDoor
