import Derived.Test.YtflgdeobcgmgnaaGreatDoorAcD
import Derived.Test.YtflgdeobcgmgnaaGreatDoorG5
import Derived.Test.YtflgdeobcgmgnaaGreatDoorG8
import Derived.Test.YtflgdeobcgmgnaaGreatDoorAcE
set_option autoImplicit false
set_option maxHeartbeats 4000000
set_option maxRecDepth 100000
namespace Go.Proofs
open Go Go.Ab Go.RowKit
variable {G:IH}
def VN (G:IH):Prop:=∀b,gq b.es→aA Tryz.prog G 63 [cu b] (cu b)
def lastT (E:List Ev):Int:=if E.length=0 then 0 else (E.getD (E.length-1) ev0).t
theorem U7 (l:List Ev) (e:Ev):kL (l++[e])=if e.t>kL l then e.t else kL l:=by
 unfold kL
 rw[List.foldl_append];rfl
theorem V4 {E:List Ev} (hs:E.Pairwise (fun a b=>a.t≤b.t)) (h0:∀e∈E,0≤e.t):lastT E=kL E:=by
 suffices h:∀r:List Ev,r.reverse.Pairwise (fun a b=>a.t≤b.t)→(∀e∈r,0≤e.t)→(∀e∈r,e.t≤kL r.reverse)∧0≤kL r.reverse∧lastT r.reverse=kL r.reverse by
  have:=h E.reverse (by rwa [List.reverse_reverse]) (fun e he=>h0 e (List.mem_reverse.1 he))
  rw[List.reverse_reverse] at this
  exact this.2.2
 intro r
 induction r with
 | nil=>exact fun _ _=>⟨fun e he=>by simp at he,Int.le_refl _,rfl⟩
 | cons a r ih=>
  intro h1 h2
  rw[List.reverse_cons] at h1⊢
  obtain ⟨p1,_,p3⟩:=List.pairwise_append.1 h1
  obtain ⟨i1,i2,i3⟩:=ih p1 fun e he=>h2 e (List.mem_cons_of_mem _ he)
  have ha:=h2 a (by simp)
  have hm:kL r.reverse≤a.t:=by
   rw[←i3]
   unfold lastT
   split
   ·exact ha
   ·rename_i c
    refine p3 _ ?_ a (by simp)
    rw[List.getD,gy (by omega)]
    exact List.getElem_mem (by omega)
  have hx:kL (r.reverse++[a])=a.t:=by
   rw[U7]
   split<;>omega
  refine⟨fun e he=>?_,by rw[hx];exact ha,?_⟩
  ·rw[hx]
   rcases List.mem_cons.1 he with rfl|he
   ·exact Int.le_refl _
   ·have:=i1 e he;omega
  ·rw[hx]
   unfold lastT
   rw[if_neg (by simp)]
   simp
theorem Yq {b:Bk} {s:ByteArray} (h:aJ aG b=true):lastT (ak ⟨0,dM b.es s⟩)=kL (ak ⟨0,dM b.es s⟩):=by
 refine V4 (I9 _) fun e he=>?_
 have h1:e∈bn (dM b.es s):=(ng _).1 he
 have h2:e∈bn b.es:=by
  unfold bn at h1⊢
  obtain ⟨l,hl,hel⟩:=List.mem_flatten.1 h1
  obtain ⟨x,hx,rfl⟩:=List.mem_map.1 hl
  exact List.mem_flatten.2 ⟨_,List.mem_map.2 ⟨x,(List.mem_filter.1 hx).1,rfl⟩,hel⟩
 exact(Vb (val_ok h e h2)).2.2.1.1
def TS (b:Bk) (s:ByteArray):dU:={ d:=fun f _=>bif Nat.beq f 33 then some (db (aJ aG b)) else bif Nat.beq f 63 then some (cu ⟨lastT (ak ⟨0,dM b.es s⟩),dM b.es s⟩) else bif Nat.beq f 59 then some (eu (ak ⟨0,dM b.es s⟩)) else none,rows:=fun n=>Nat.beq n 36 }
noncomputable def aa3 (b:Bk) (s:ByteArray) (j:Nat) (f:Nat→DV) (m:Nat):AS:=⟨regs Tryz.f36.ntmps [(1,.d (ds s)),(2,.box 2 0),(4,.box 4 0),(5,.box 5 0),(6,vi j)],[(5,[.d (di 0),.vec 905 7 0 m]),(905,[.arr fO 7 f]),(2,(fQ b).map .d),(4,[.d (di 0),.d (.con (.slice none 0 0))])]⟩
noncomputable abbrev Ll (b:Bk) (s:ByteArray) (j:Nat) (l:List En):AS:=aa3 b s j (bK l) l.length
noncomputable def adV (b:Bk) (s:ByteArray):AS:=⟨regs Tryz.f36.ntmps [(1,.d (ds s)),(2,.box 2 0),(4,.box 4 0),(5,.box 5 0),(6,vi 0)],[(5,[.d (di 0),.d (.con (.slice none 0 0))]),(2,(fQ b).map .d),(4,[.d (di 0),.d (.con (.slice none 0 0))])]⟩
theorem ab7 (b:Bk) (s:ByteArray) (hl:b.es.length≤1000000) {Q:Exit→AS→Prop} (h:aX Tryz.prog G [cd Tryz.f36 [1,1,1,1]] (Ll b s b.es.length (dM b.es s)) Q):aX Tryz.prog G [cd Tryz.f36 [1,1,1,0,1,0],.blk 0,cd Tryz.f36 [1,1,1,1]] (Ll b s 0 []) Q:=by
 refine aX.loop (c:=aU (au Tryz.f36) [1,1,1,0,1,0,0]) (by kernel_rfl) (fun j=>Ll b s j (dM (b.es.take j) s)) (fun j=>j≤b.es.length) (fun j=>b.es.length-j) 0 ?_ (Nat.zero_le _) ?_
 ·refine AS.leZ [] [1] (b:=((T0∧T0∧T0∧T0∧T0∧True)∧T0∧((some [(.arr eP 7 (bK []))]):dS)=(some [(.arr eP 7 (bK (dM (List.take 0 b.es) s)))])∧T0∧T0∧True)) (by kernel_rfl) (by kernel_rfl) ?_
  exact⟨⟨rfl,rfl,rfl,rfl,rfl,trivial⟩,rfl,rfl,rfl,rfl,trivial⟩
 ·intro j hj
  have hj:j≤b.es.length:=hj
  show aX _ _ _ (Ll b s j (dM (b.es.take j) s)) _
  have hll:(dM (b.es.take j) s).length≤1000000:=by
   have h1:(dM (b.es.take j) s).length≤(b.es.take j).length:=List.length_filter_le _ _
   have h2:(b.es.take j).length≤b.es.length:=by rw[List.length_take];omega
   omega
  generalize hL:dM (b.es.take j) s=l at hll
  refine dh (aj:=TS b s) ?_
  refine aV (fun ZT ZW _ _ ZA _=>((((decide ((↑j:Int)<↑b.es.length))=true)→(((0≤(↑j:Int))∧((↑j:Int)<↑b.es.length))∧((((b.es.getD (↑j:Int).toNat en0).k.st.toList==s.toList)=true)→((((0≤(↑j:Int))∧((↑j:Int)<↑b.es.length))∧((l.length+1)*112≤1099511627776)∧(l.length+1≤1099511627776))∧(I64 (↑j+1))∧(ZA (aB ZT [0,0]))))∧((((b.es.getD (↑j:Int).toNat en0).k.st.toList==s.toList)=false)→((I64 (↑j+1))∧(ZA (aB ZT [0,1]))))))∧(((decide ((↑j:Int)<↑b.es.length))=false)→ZW [cd Tryz.f36 [1,1,1,1]] (aB ZT [1]) Q))) (by kernel_rfl) ?_
  simp only[gW]
  refine⟨fun c=>?_,fun c=>?_⟩
  ·have hj2:j<b.es.length:=by have:=dn c;omega
   have hn:=P8 (s:=s) hj2
   rw[hL] at hn
   refine⟨⟨by omega,by omega⟩,fun c2=>⟨⟨⟨by omega,by omega⟩,by omega,by omega⟩,⟨by omega,by omega⟩,?_⟩,fun c2=>⟨⟨by omega,by omega⟩,?_⟩⟩
   ·rw[dJ,eF] at c2
    rw[if_pos c2] at hn
    refine⟨j+1,?_,hj2,show b.es.length-(j+1)<b.es.length-j from by omega⟩
    show AS.cO _ (Ll b s (j+1) (dM (List.take (j+1) b.es) s))
    rw[hn]
    refine(AS.cO.moves [(37,905)] _ rfl).trans ((AS.cO.of_le (st':=aa3 b s (j+1) (fun i=>bif i.blt l.length then bK l i else aW true 7 (wP (b.es.getD j en0)) (0+(i-l.length))) (l.length+1)) ?_).trans ((AS.cO.rowB _ 5 1 905 (l.length+1) (bK (l++[b.es.getD j en0])) rfl rfl (by kernel_rfl) (by kernel_rfl) rfl rfl rfl (by kernel_rfl) fun i hi=>RQ i hi).trans (.of_le ?_)))
    ·refine AS.leZ [] [1] (b:=((T0∧T0∧T0∧T0∧T0∧True)∧T0∧((some [(.arr eP 7 (fun i=>bif i.blt l.length then bK l i else aW true 7 [DV.con (Value.string (b.es.getD (↑j:Int).toNat en0).k.st),DV.con (Value.string (b.es.getD (↑j:Int).toNat en0).k.ex),DV.con (Value.int IntKind.i64 (b.es.getD (↑j:Int).toNat en0).k.n),DV.con (Value.int IntKind.i64 (b.es.getD (↑j:Int).toNat en0).t),DV.con (Value.string (b.es.getD (↑j:Int).toNat en0).s),DV.slc 4 (b.es.getD (↑j:Int).toNat en0).gs.length (dP (b.es.getD (↑j:Int).toNat en0).gs),DV.slc 6 (b.es.getD (↑j:Int).toNat en0).ah.length (dI (b.es.getD (↑j:Int).toNat en0).ah)] (0+(i-l.length))))]):dS)=(some [(.arr eP 7 (fun i=>bif i.blt l.length then bK l i else aW true 7 [DV.con (Value.string (b.es.getD j en0).k.st),DV.con (Value.string (b.es.getD j en0).k.ex),DV.con (Value.int IntKind.i64 (b.es.getD j en0).k.n),DV.con (Value.int IntKind.i64 (b.es.getD j en0).t),DV.con (Value.string (b.es.getD j en0).s),DV.slc 4 (b.es.getD j en0).gs.length (dP (b.es.getD j en0).gs),DV.slc 6 (b.es.getD j en0).ah.length (dI (b.es.getD j en0).ah)] (0+(i-l.length))))])∧T0∧T0∧True)) (by kernel_rfl) (by kernel_rfl) ?_
     exact⟨⟨rfl,rfl,rfl,rfl,rfl,trivial⟩,rfl,by rw[gW],rfl,rfl,trivial⟩
    ·refine AS.leZ [] [0] (b:=((T0∧T0∧T0∧T0∧T0∧True)∧((some [(vi 0),(.vec 905 7 0 (l.length+1))]):dS)=(some [(vi 0),(.vec 905 7 0 (l++[b.es.getD j en0]).length)])∧T0∧T0∧T0∧True)) (by kernel_rfl) (by kernel_rfl) ?_
     exact⟨⟨rfl,rfl,rfl,rfl,rfl,trivial⟩,by rw[iE],rfl,rfl,rfl,trivial⟩
   ·rw[dJ,decide_eq_false_iff_not] at c2
    rw[if_neg c2,List.append_nil] at hn
    refine⟨j+1,?_,hj2,show b.es.length-(j+1)<b.es.length-j from by omega⟩
    show AS.cO _ (Ll b s (j+1) (dM (List.take (j+1) b.es) s))
    rw[hn]
    refine .of_le ?_
    exact AS.bD (by kernel_rfl)
  ·obtain rfl:j=b.es.length:=by have:=of_decide_eq_false c;omega
   rw[List.take_length] at hL
   rw[hL] at h
   refine aX.weaken ?_ h
   exact AS.bD (by kernel_rfl)
noncomputable def aeA (L:List En):AS:=⟨regs Tryz.f36.ntmps [(4,.box 4 0),(5,.box 5 0)],[(5,[.d (di 0),.d (jI L)]),(4,[.d (di 0),.d (.con (.slice none 0 0))])]⟩
theorem ab6 (h63:VN G) (b:Bk) (s:ByteArray) (hs:gq (dM b.es s)) (hl:(bn (dM b.es s)).length≤1000000):aX Tryz.prog G [cd Tryz.f36 [1,1,1,1]] (Ll b s b.es.length (dM b.es s)) (JK Tryz.prog Tryz.f36 (cu ⟨lastT (ak ⟨0,dM b.es s⟩),dM b.es s⟩)):=by
 have hE:(ak ⟨0,dM b.es s⟩).length≤1000000:=by
  show (gY (bn (dM b.es s))).length≤_
  rw[qF];exact hl
 have h59:=f59 (G:=G) ⟨0,dM b.es s⟩ hs hl
 have hT:lastT (ak ⟨0,dM b.es s⟩)=if (ak ⟨0,dM b.es s⟩).length=0 then 0 else ((ak ⟨0,dM b.es s⟩).getD ((ak ⟨0,dM b.es s⟩).length-1) ev0).t:=rfl
 have h63':=h63 ⟨lastT (ak ⟨0,dM b.es s⟩),dM b.es s⟩ hs
 refine aX.freeze 905 rfl ?_
 refine aX.weaken (st':=aeA (dM b.es s)) ?_ ?_
 ·refine AS.leZ [] [0] (b:=((T0∧T0∧True)∧((some [(vi 0),(.d (.slc 7 (dM b.es s).length (fun i=>bK (dM b.es s) (0+i))))]):dS)=(some [(vi 0),(.d (.slc 7 (dM b.es s).length (bK (dM b.es s))))])∧T0∧True)) (by kernel_rfl) (by kernel_rfl) ?_
  exact⟨⟨rfl,rfl,trivial⟩,by simp only[Nat.zero_add],rfl,trivial⟩
 refine dh (aj:=TS b s) ?_
 refine aC (fun _ _ _ ZK=>(fun Za (Zb:Int) Zc=>(ZK 59 [(.agg [(di 0),Za])] (.slc 9 (ak (Bk.mk 0 (dM b.es s))).length (bW (ak (Bk.mk 0 (dM b.es s)))))∧(((decide (Zb>0))=true)→(((I64 (↑(ak (Bk.mk 0 (dM b.es s))).length-1))∧(0≤Zb-1)∧(Zb-1<↑(ak (Bk.mk 0 (dM b.es s))).length))∧ZK 63 [(.agg [(di ((ak (Bk.mk 0 (dM b.es s))).getD (Zb-1).toNat ev0).t),Za])] (.agg [(di Zc),Za])∧(ZS ((cu (Bk.mk Zc (dM b.es s))):DV))))∧(((decide (Zb>0))=false)→(ZK 63 [(.agg [(di 0),Za])] (.agg [(di Zc),Za])∧(ZS ((cu (Bk.mk Zc (dM b.es s))):DV)))))) ((.slc 7 (dM b.es s).length (bK (dM b.es s))):DV) (↑(ak (Bk.mk 0 (dM b.es s))).length:Int) (lastT (ak (Bk.mk 0 (dM b.es s))))) (by kernel_rfl) ?_
 generalize ak ⟨0,dM b.es s⟩=E at *
 refine⟨h59,fun c=>?_,fun c=>?_⟩
 ·have c:0<E.length:=by have:=dn c;omega
  rw[if_neg (by omega)] at hT
  rw[show ((E.length:Int)-1).toNat=E.length-1 by omega,←hT]
  exact⟨⟨⟨by omega,by omega⟩,by omega,by omega⟩,h63',rfl⟩
 ·have c:E.length=0:=by have:=of_decide_eq_false c;omega
  rw[if_pos c] at hT
  rw[hT] at h63'⊢
  exact⟨h63',rfl⟩
theorem aea (h46:PU G) (h63:VN G) (b:Bk) (s:ByteArray) (h:tY b) (hs:gq (dM b.es s)) (hl:(bn (dM b.es s)).length≤1000000):aA Tryz.prog G 36 [cu b,ds s] (bif aJ aG b then cu (stB b s) else .agg [di 0,.con (.slice none 0 0)]):=by
 refine aA.dA Tryz.func36 rfl Tryz.call36 ?_
 refine walk (aj:=TS b s) (keep:=[]) (cuts:=[5]) (n:=1000) follows ?_
 refine aC (fun ZT ZW ZQ ZK=>(ZK 33 [(.agg [(di b.t),(.slc 7 b.es.length (bK b.es))])] (db (aJ aG b))∧(((!aJ aG b)=true)→(((.agg [(di 0),dG]):DV)=(bif aJ aG b then cu (stB b s) else DV.agg [di 0,dG])))∧(((!aJ aG b)=false)→ZW [cd Tryz.f36 [1,1,1,0,1,0],(.blk 0),cd Tryz.f36 [1,1,1,1]] (aB ZT [1]) ZQ))) (by kernel_rfl) ?_
 refine⟨f33 h46 b h,fun c=>?_,fun c=>?_⟩
 ·have c:aJ aG b=false:=by simpa using c
  rw[c];rfl
 ·have c:aJ aG b=true:=by simpa using c
  have hB:stB b s=⟨lastT (ak ⟨0,dM b.es s⟩),dM b.es s⟩:=by rw[Yq c];rfl
  rw[c,cond_true,hB]
  refine aX.weaken (st':=adV b s) ?_ ?_
  ·exact AS.bD (by kernel_rfl)
  refine aX.pre (.Aq _ 5 1 905 7 fO (bK []) (by kernel_rfl) (by kernel_rfl)) ?_
  refine aX.weaken (st':=Ll b s 0 []) ?_ (ab7 b s h.sz.1 (ab6 h63 b s hs hl))
  exact AS.bD (by kernel_rfl)
theorem f36 (h46:PU G) (h63:VN G) (b:Bk) (s:ByteArray) (h:tY b) (hs:gq (dM b.es s)) (hl:(bn (dM b.es s)).length≤1000000):aA Tryz.prog G 36 [cu b,ds s] (cu (if aJ aG b=true then stB b s else fA)):=by
 refine aA.imp (aea h46 h63 b s h hs hl) fun k v hv=>?_
 cases c:aJ aG b with
 | true=>rw[c] at hv;exact hv
 | false=>
  rw[c] at hv
  obtain ⟨vs,rfl,v0,vs1,rfl,r0,v1,vs2,rfl,r1,r2⟩:=hv
  exact⟨_,rfl,_,_,rfl,r0,_,_,rfl,⟨none,0,r1,Nat.le_refl _,.inl rfl⟩,r2⟩
end Go.Proofs
namespace Go.Proofs
open Go Go.Ab Go.RowKit
variable {G:IH} {w:World}
noncomputable abbrev X63 (x:En) (g a:DV):List AV:=[.d (ds x.k.st),.d (ds x.k.ex),.d (di x.k.n),.d (di x.t),.d (ds x.s),.d g,.d a]
noncomputable def qZ (b:Bk) (E:Nat→DV) (j:Nat) (g a:DV):AS:=⟨regs Tryz.f63.ntmps [(1,.box 1 0),(2,.box 2 0),(3,.box 3 0),(4,vi j),(5,.box 5 0)],[(5,X63 (b.es.getD j en0) g a),(1,(fQ b).map .d),(2,[.d (di 0),.d (.con (.slice none 0 0))]),(3,[.d (di b.t),.vec 8 7 0 j]),(8,[.arr fO 7 E])]⟩
noncomputable def VY (b:Bk) (E:Nat→DV) (j:Nat) (g a:DV) (n:Nat) (f:Nat→DV):AS:=⟨regs Tryz.f63.ntmps [(1,.box 1 0),(2,.box 2 0),(3,.box 3 0),(4,vi j),(5,.box 5 0),(24,.vec 24 4 0 n)],[(24,[.arr jU 4 f]),(5,X63 (b.es.getD j en0) g a),(1,(fQ b).map .d),(2,[.d (di 0),.d (.con (.slice none 0 0))]),(3,[.d (di b.t),.vec 8 7 0 j]),(8,[.arr fO 7 E])]⟩
def FK:dU:={ d:=bG,rows:=fun n=>Nat.beq n 21||(Nat.beq n 26||Nat.beq n 34) }
theorem RU {st:AS} {e:Nat} {m:List AV} (ha:(st.boxes.all fun p=>!(Nat.beq p.1 e))=true) {s:Nat} {l:List AV} (h:st.box s=some l):s≠e∧Go.Ab.look ((e,m) :: st.boxes) s=some l:=by
 have hne:s≠e:=by
  intro hs;subst hs
  have:=List.all_eq_true.1 ha _ (sO h)
  simp at this
 refine⟨hne,?_⟩
 simp only[Go.Ab.look]
 rw[aQ (Ne.symm hne),cond_false]
 exact h
theorem abM {b:Bk} {w0 w:World} {hh:IH} {on:Nat→Prop} {β1 β:Nat→Nat} {V:Nat→Option Addr×Nat} {E:Nat→DV} {j:Nat} (q:mZ b w0 (2*j) hh on β V w) (hj:j<b.es.length) (hs:gq b.es) {R:Exit→Act→World→Prop} {its:List It}
  (K:∀(h':IH) (on':Nat→Prop) (sZ β':Nat→Nat) (pc:Option Addr×Nat) (a':Act) (w':World),mZ b w0 (2*j+1) h' on' β' (eU V (2*j+2) pc) w'→aO h' ⟨on',sZ⟩ w' h' (qZ b E j (.con (.slice pc.1 (b.es.getD j en0).gs.length pc.2)) (iD (b.es.getD j en0).ah)) sZ h' a'.tmps w'→a'.defers=[]→wpS Tryz.prog its R .normal a' w') :
  aK Tryz.prog hh ⟨on,β1⟩ w hh (cd Tryz.f63 [1,1,0,1,0,0,1,0,0,1,0] :: its) (qZ b E j (jZ (b.es.getD j en0).gs) (iD (b.es.getD j en0).ah)) R:=by
 refine aK.qR (aj:=FK) follows (fun _=>none) 4 (by kernel_rfl) ?_
 refine iG (b:=(((((0+(b.es.getD j en0).gs.length)*40≤1099511627776)∧(0+(b.es.getD j en0).gs.length≤1099511627776))∧(∀(i:Nat),i<(b.es.getD j en0).gs.length→qm true 4 (dP (b.es.getD j en0).gs i)=true))∧aP hh (Fr.mk on β1) w hh (iP Tryz.prog (opsOf (aU (au Tryz.f63) [1,1,0,1,0,0,1,0,0,1,0])).toList 4 ((opsOf (aU (au Tryz.f63) [1,1,0,1,0,0,1,0,0,1,0])).toList.length-4) (wpS Tryz.prog its R)) .normal ⟨regs 38 [(1,(.box 1 0)),(2,(.box 2 0)),(3,(.box 3 0)),(4,(vi (↑j))),(5,(.box 5 0)),(21,(.vec 21 4 0 0)),(22,(.box 5 5)),(23,(.d (.slc 4 (b.es.getD j en0).gs.length (dP (b.es.getD j en0).gs)))),(24,(.vec 24 4 0 (0+(b.es.getD j en0).gs.length)))],[(24,[(.arr qW 4 (fun i=>bif i.blt 0 then DV.con undef else dP (b.es.getD j en0).gs (i-0)))]),(21,[.dead]),(5,[(vs (b.es.getD j en0).k.st),(vs (b.es.getD j en0).k.ex),(vi (b.es.getD j en0).k.n),(vi (b.es.getD j en0).t),(vs (b.es.getD j en0).s),(.d (.slc 4 (b.es.getD j en0).gs.length (dP (b.es.getD j en0).gs))),(.d (.slc 6 (b.es.getD j en0).ah.length (dI (b.es.getD j en0).ah)))]),(1,[(vi b.t),(.d (.slc 7 b.es.length (bK b.es)))]),(2,[(vi 0),(.d dG)]),(3,[(vi b.t),(.vec 8 7 0 j)]),(8,[(.arr eP 7 E)])]⟩)) (by kernel_rfl) ?_
 simp only[Nat.zero_add]
 have hx:=hs.2 j hj
 refine⟨⟨⟨by have:=hx.1;omega,by have:=hx.1;omega⟩,fun i _=>rfl⟩,?_⟩
 intro β3 h3 a3 w3 g3 hd3
 have g4:=g3.weaken (st':=VY b E j (jZ (b.es.getD j en0).gs) (iD (b.es.getD j en0).ah) (b.es.getD j en0).gs.length (dP (b.es.getD j en0).gs)) (by
  refine AS.leZ [] [0] (b:=((T0∧T0∧T0∧T0∧T0∧T0∧True)∧((some [(.arr qW 4 (fun i=>bif i.blt 0 then DV.con undef else dP (b.es.getD j en0).gs (i-0)))]):dS)=(some [(.arr qW 4 (dP (b.es.getD j en0).gs))])∧T0∧T0∧T0∧T0∧T0∧True)) (by kernel_rfl) (by kernel_rfl) ?_
  exact⟨⟨rfl,rfl,rfl,rfl,rfl,rfl,trivial⟩,rfl,rfl,rfl,rfl,rfl,rfl,trivial⟩)
 have q0:=q.next g4
 obtain ⟨p,hpv,hp,hm,g5⟩:=g4.shift (q:=24) (m:=(b.es.getD j en0).gs.length) (e:=1000003) (on:=fun c=>∃s l,(VY b E j (jZ (b.es.getD j en0).gs) (iD (b.es.getD j en0).ah) (b.es.getD j en0).gs.length (dP (b.es.getD j en0).gs)).box s=some l∧Live β3 s l∧blk β3 s=c) (by kernel_rfl) (by kernel_rfl) (by kernel_rfl) (by kernel_rfl) fun s l q1 q2=>⟨s,l,q1,q2,rfl⟩
 refine(dV.tree (aj:={ d:=bG }) ?_:dV Tryz.prog hh _ w3 h3 (opsOf (aU (au Tryz.f63) [1,1,0,1,0,0,1,0,0,1,0])).toList 4 (2+0) _ _) _ _ _ _ g5 hd3
 refine iG (b:=aP hh (Fr.mk (fun c=>∃s l,(VY b E j (jZ (b.es.getD j en0).gs) (iD (b.es.getD j en0).ah) (b.es.getD j en0).gs.length (dP (b.es.getD j en0).gs)).box s=some l∧Live β3 s l∧blk β3 s=c) (upd β3 1000003 (blk β3 24) (room β3 24) (many β3 24))) w3 h3 (iP Tryz.prog (opsOf (aU (au Tryz.f63) [1,1,0,1,0,0,1,0,0,1,0])).toList (4+2) 0 (wpS Tryz.prog its R)) .normal ⟨regs 38 [(1,(.box 1 0)),(2,(.box 2 0)),(3,(.box 3 0)),(4,(vi (↑j))),(5,(.box 5 0)),(24,(.d (.con (.slice p (b.es.getD j en0).gs.length (β3 (3*24+1)))))),(25,(.box 5 5))],[(1000003,[(.arr qW 4 (dP (b.es.getD j en0).gs))]),(5,[(vs (b.es.getD j en0).k.st),(vs (b.es.getD j en0).k.ex),(vi (b.es.getD j en0).k.n),(vi (b.es.getD j en0).t),(vs (b.es.getD j en0).s),(.d (.con (.slice p (b.es.getD j en0).gs.length (β3 (3*24+1))))),(.d (.slc 6 (b.es.getD j en0).ah.length (dI (b.es.getD j en0).ah)))]),(1,[(vi b.t),(.d (.slc 7 b.es.length (bK b.es)))]),(2,[(vi 0),(.d dG)]),(3,[(vi b.t),(.vec 8 7 0 j)]),(8,[(.arr eP 7 E)])]⟩) (by kernel_rfl) ?_
 refine aP.kP ?_
 intro β6 h6 a6 w6 g6 hd6
 have g6:=g6.weaken (st':=⟨(qZ b E j (.con (.slice p (b.es.getD j en0).gs.length (room β3 24))) (iD (b.es.getD j en0).ah)).regs,(1000003,[.arr jU 4 (dP (b.es.getD j en0).gs)]) :: (qZ b E j (.con (.slice p (b.es.getD j en0).gs.length (room β3 24))) (iD (b.es.getD j en0).ah)).boxes⟩) (by
  exact AS.bD (by kernel_rfl))
 have q1:=q0.next (I4 g6)
 obtain ⟨f1,f2,f3⟩:=g6.fix 1000003 (by decide)
 have f1:blk β6 1000003=blk β3 24:=f1.trans (aT ..)
 have f2:room β6 1000003=room β3 24:=f2.trans (aH ..)
 have hb3:=g6.box 1000003 _ rfl
 have hv:=l7 (G:=h6) g6 (e:=1000003) (by decide) (aT ..) (aH ..) (Nat.le_trans hm (Nat.le_of_eq (bH ..).symm)) rfl rfl (fun i=>lJ (b.es.getD j en0).gs i) (fun _ _=>rfl) hp
 have hbc:∀s l,(qZ b E j (.con (.slice p (b.es.getD j en0).gs.length (room β3 24))) (iD (b.es.getD j en0).ah)).box s=some l→s≠1000003∧Go.Ab.look ((1000003,[.arr jU 4 (dP (b.es.getD j en0).gs)]) :: (qZ b E j (.con (.slice p (b.es.getD j en0).gs.length (room β3 24))) (iD (b.es.getD j en0).ah)).boxes) s=some l:=fun s l h=>RU (by kernel_rfl) h
 have g7:=g6.weaken (st':=qZ b E j (.con (.slice p (b.es.getD j en0).gs.length (room β3 24))) (iD (b.es.getD j en0).ah)) (by
  exact AS.bD (by kernel_rfl))
 have hlive:0<room β3 24→Live β6 1000003 [.arr jU 4 (dP (b.es.getD j en0).gs)]:=fun h0=>by
  show 0<room β6 1000003
  rw[f2];exact h0
 refine K h6 _ β6 (upd β (2*j+2) (blk β3 24) (room β3 24) 0) (p,room β3 24) a6 w6 (q1.grow (m:=2*j) ?_ (fun h0=>?_) (fun h0 s s1 s2 s3=>?_) (fun h0=>?_) (fun i hi _=>?_) (fun i hi _=>?_)) (fZ g7) hd6
 ·rintro c ⟨s,l,hl,hv,rfl⟩
  exact⟨s,l,(hbc s l hl).2,hv,rfl⟩
 ·have h1:=hb3.1 (hlive h0)
  have h2:=Own.lt (hlive h0) hb3.2
  rw[f1] at h1 h2
  refine⟨?_,h2,h1.2⟩
  exact(q1.apart _ ⟨1000003,_,rfl,hlive h0,f1⟩).1
 ·exact(q1.apart _ ⟨1000003,_,rfl,hlive h0,f1⟩).2 s s1 s2 s3
 ·rintro ⟨s,l,hl,hv,he⟩
  have he:=he.trans f1.symm
  obtain ⟨b1,b2⟩:=hbc s l hl
  exact absurd (g6.inj s 1000003 _ _ b2 rfl hv (hlive h0) he) b1
 ·obtain rfl:i=j:=by omega
  exact hv
 ·omega
noncomputable def XA (b:Bk) (E:Nat→DV) (j:Nat) (g a:DV) (n:Nat) (f:Nat→DV):AS:=⟨regs Tryz.f63.ntmps [(1,.box 1 0),(2,.box 2 0),(3,.box 3 0),(4,vi j),(5,.box 5 0),(29,.vec 29 6 0 n)],[(29,[.arr iZ 6 f]),(5,X63 (b.es.getD j en0) g a),(1,(fQ b).map .d),(2,[.d (di 0),.d (.con (.slice none 0 0))]),(3,[.d (di b.t),.vec 8 7 0 j]),(8,[.arr fO 7 E])]⟩
theorem abY {b:Bk} {w0 w:World} {hh:IH} {on:Nat→Prop} {β1 β:Nat→Nat} {V:Nat→Option Addr×Nat} {E:Nat→DV} {j:Nat} {gp:Option Addr} {gn gc:Nat} (q:mZ b w0 (2*j+1) hh on β V w) (hj:j<b.es.length) (hs:gq b.es) {R:Exit→Act→World→Prop} {its:List It}
  (K:∀(h':IH) (on':Nat→Prop) (sZ β':Nat→Nat) (pc:Option Addr×Nat) (a':Act) (w':World),mZ b w0 (2*(j+1)) h' on' β' (eU V (2*j+3) pc) w'→aO h' ⟨on',sZ⟩ w' h' (qZ b E j (.con (.slice gp gn gc)) (.con (.slice pc.1 (b.es.getD j en0).ah.length pc.2))) sZ h' a'.tmps w'→a'.defers=[]→wpS Tryz.prog its R .normal a' w') :
  aK Tryz.prog hh ⟨on,β1⟩ w hh (cd Tryz.f63 [1,1,0,1,0,0,1,0,0,1,1,0] :: its) (qZ b E j (.con (.slice gp gn gc)) (iD (b.es.getD j en0).ah)) R:=by
 refine aK.qR (aj:=FK) follows (fun _=>none) 4 (by kernel_rfl) ?_
 refine iG (b:=(((((0+(b.es.getD j en0).ah.length)*56≤1099511627776)∧(0+(b.es.getD j en0).ah.length≤1099511627776))∧(∀(i:Nat),i<(b.es.getD j en0).ah.length→qm true 6 (dI (b.es.getD j en0).ah i)=true))∧aP hh (Fr.mk on β1) w hh (iP Tryz.prog (opsOf (aU (au Tryz.f63) [1,1,0,1,0,0,1,0,0,1,1,0])).toList 4 ((opsOf (aU (au Tryz.f63) [1,1,0,1,0,0,1,0,0,1,1,0])).toList.length-4) (wpS Tryz.prog its R)) .normal ⟨regs 38 [(1,(.box 1 0)),(2,(.box 2 0)),(3,(.box 3 0)),(4,(vi (↑j))),(5,(.box 5 0)),(26,(.vec 26 6 0 0)),(27,(.box 5 6)),(28,(.d (.slc 6 (b.es.getD j en0).ah.length (dI (b.es.getD j en0).ah)))),(29,(.vec 29 6 0 (0+(b.es.getD j en0).ah.length)))],[(29,[(.arr oz 6 (fun i=>bif i.blt 0 then DV.con undef else dI (b.es.getD j en0).ah (i-0)))]),(26,[.dead]),(5,[(vs (b.es.getD j en0).k.st),(vs (b.es.getD j en0).k.ex),(vi (b.es.getD j en0).k.n),(vi (b.es.getD j en0).t),(vs (b.es.getD j en0).s),(.d (.con (.slice gp gn gc))),(.d (.slc 6 (b.es.getD j en0).ah.length (dI (b.es.getD j en0).ah)))]),(1,[(vi b.t),(.d (.slc 7 b.es.length (bK b.es)))]),(2,[(vi 0),(.d dG)]),(3,[(vi b.t),(.vec 8 7 0 j)]),(8,[(.arr eP 7 E)])]⟩)) (by kernel_rfl) ?_
 simp only[Nat.zero_add]
 have hx:=hs.2 j hj
 refine⟨⟨⟨by have:=hx.2;omega,by have:=hx.2;omega⟩,fun i _=>rfl⟩,?_⟩
 intro β3 h3 a3 w3 g3 hd3
 have g4:=g3.weaken (st':=XA b E j (.con (.slice gp gn gc)) (iD (b.es.getD j en0).ah) (b.es.getD j en0).ah.length (dI (b.es.getD j en0).ah)) (by
  refine AS.leZ [] [0] (b:=((T0∧T0∧T0∧T0∧T0∧T0∧True)∧((some [(.arr oz 6 (fun i=>bif i.blt 0 then DV.con undef else dI (b.es.getD j en0).ah (i-0)))]):dS)=(some [(.arr oz 6 (dI (b.es.getD j en0).ah))])∧T0∧T0∧T0∧T0∧T0∧True)) (by kernel_rfl) (by kernel_rfl) ?_
  exact⟨⟨rfl,rfl,rfl,rfl,rfl,rfl,trivial⟩,rfl,rfl,rfl,rfl,rfl,rfl,trivial⟩)
 have q0:=q.next g4
 obtain ⟨p,hpv,hp,hm,g5⟩:=g4.shift (q:=29) (m:=(b.es.getD j en0).ah.length) (e:=1000003) (on:=fun c=>∃s l,(XA b E j (.con (.slice gp gn gc)) (iD (b.es.getD j en0).ah) (b.es.getD j en0).ah.length (dI (b.es.getD j en0).ah)).box s=some l∧Live β3 s l∧blk β3 s=c) (by kernel_rfl) (by kernel_rfl) (by kernel_rfl) (by kernel_rfl) fun s l q1 q2=>⟨s,l,q1,q2,rfl⟩
 refine(dV.tree (aj:={ d:=bG }) ?_:dV Tryz.prog hh _ w3 h3 (opsOf (aU (au Tryz.f63) [1,1,0,1,0,0,1,0,0,1,1,0])).toList 4 (2+0) _ _) _ _ _ _ g5 hd3
 refine iG (b:=aP hh (Fr.mk (fun c=>∃s l,(XA b E j (DV.con (Value.slice gp gn gc)) (iD (b.es.getD j en0).ah) (b.es.getD j en0).ah.length (dI (b.es.getD j en0).ah)).box s=some l∧Live β3 s l∧blk β3 s=c) (upd β3 1000003 (blk β3 29) (room β3 29) (many β3 29))) w3 h3 (iP Tryz.prog (opsOf (aU (au Tryz.f63) [1,1,0,1,0,0,1,0,0,1,1,0])).toList (4+2) 0 (wpS Tryz.prog its R)) .normal ⟨regs 38 [(1,(.box 1 0)),(2,(.box 2 0)),(3,(.box 3 0)),(4,(vi (↑j))),(5,(.box 5 0)),(29,(.d (.con (.slice p (b.es.getD j en0).ah.length (β3 (3*29+1)))))),(30,(.box 5 6))],[(1000003,[(.arr oz 6 (dI (b.es.getD j en0).ah))]),(5,[(vs (b.es.getD j en0).k.st),(vs (b.es.getD j en0).k.ex),(vi (b.es.getD j en0).k.n),(vi (b.es.getD j en0).t),(vs (b.es.getD j en0).s),(.d (.con (.slice gp gn gc))),(.d (.con (.slice p (b.es.getD j en0).ah.length (β3 (3*29+1)))))]),(1,[(vi b.t),(.d (.slc 7 b.es.length (bK b.es)))]),(2,[(vi 0),(.d dG)]),(3,[(vi b.t),(.vec 8 7 0 j)]),(8,[(.arr eP 7 E)])]⟩) (by kernel_rfl) ?_
 refine aP.kP ?_
 intro β6 h6 a6 w6 g6 hd6
 have g6:=g6.weaken (st':=⟨(qZ b E j (.con (.slice gp gn gc)) (.con (.slice p (b.es.getD j en0).ah.length (room β3 29)))).regs,(1000003,[.arr iZ 6 (dI (b.es.getD j en0).ah)]) :: (qZ b E j (.con (.slice gp gn gc)) (.con (.slice p (b.es.getD j en0).ah.length (room β3 29)))).boxes⟩) (by
  exact AS.bD (by kernel_rfl))
 have q1:=q0.next (I4 g6)
 obtain ⟨f1,f2,f3⟩:=g6.fix 1000003 (by decide)
 have f1:blk β6 1000003=blk β3 29:=f1.trans (aT ..)
 have f2:room β6 1000003=room β3 29:=f2.trans (aH ..)
 have hb3:=g6.box 1000003 _ rfl
 have hv:=l7 (G:=h6) g6 (e:=1000003) (by decide) (aT ..) (aH ..) (Nat.le_trans hm (Nat.le_of_eq (bH ..).symm)) rfl rfl (fun i=>kR (b.es.getD j en0).ah i) (fun _ _=>rfl) hp
 have hbc:∀s l,(qZ b E j (.con (.slice gp gn gc)) (.con (.slice p (b.es.getD j en0).ah.length (room β3 29)))).box s=some l→s≠1000003∧Go.Ab.look ((1000003,[.arr iZ 6 (dI (b.es.getD j en0).ah)]) :: (qZ b E j (.con (.slice gp gn gc)) (.con (.slice p (b.es.getD j en0).ah.length (room β3 29)))).boxes) s=some l:=fun s l h=>RU (by kernel_rfl) h
 have g7:=g6.weaken (st':=qZ b E j (.con (.slice gp gn gc)) (.con (.slice p (b.es.getD j en0).ah.length (room β3 29)))) (by
  exact AS.bD (by kernel_rfl))
 have hlive:0<room β3 29→Live β6 1000003 [.arr iZ 6 (dI (b.es.getD j en0).ah)]:=fun h0=>by
  show 0<room β6 1000003
  rw[f2];exact h0
 refine K h6 _ β6 (upd β (2*j+3) (blk β3 29) (room β3 29) 0) (p,room β3 29) a6 w6 (q1.grow (m:=2*j+1) ?_ (fun h0=>?_) (fun h0 s s1 s2 s3=>?_) (fun h0=>?_) (fun i hi _=>?_) (fun i hi _=>?_)) (fZ g7) hd6
 ·rintro c ⟨s,l,hl,hv,rfl⟩
  exact⟨s,l,(hbc s l hl).2,hv,rfl⟩
 ·have h1:=hb3.1 (hlive h0)
  have h2:=Own.lt (hlive h0) hb3.2
  rw[f1] at h1 h2
  refine⟨?_,h2,h1.2⟩
  exact(q1.apart _ ⟨1000003,_,rfl,hlive h0,f1⟩).1
 ·exact(q1.apart _ ⟨1000003,_,rfl,hlive h0,f1⟩).2 s s1 s2 s3
 ·rintro ⟨s,l,hl,hv,he⟩
  have he:=he.trans f1.symm
  obtain ⟨b1,b2⟩:=hbc s l hl
  exact absurd (g6.inj s 1000003 _ _ b2 rfl hv (hlive h0) he) b1
 ·omega
 ·obtain rfl:i=j:=by omega
  exact hv
noncomputable def EI (b:Bk) (E:Nat→DV) (j:Nat):AS:=⟨regs Tryz.f63.ntmps [(1,.box 1 0),(2,.box 2 0),(3,.box 3 0),(4,vi j)],[(1,(fQ b).map .d),(2,[.d (di 0),.d (.con (.slice none 0 0))]),(3,[.d (di b.t),.vec 8 7 0 j]),(8,[.arr fO 7 E])]⟩
noncomputable abbrev wz:List It:=[.blk 0,cd Tryz.f63 [1,1,1]]
def Oi (b:Bk) (w0:World) (n:Nat) (a:Act) (w:World):Prop:=∃j hh on β1 β V,n=b.es.length-j∧j≤b.es.length∧mZ b w0 (2*j) hh on β V w∧aO hh ⟨on,β1⟩ w hh (EI b (bJ V b.es) j) β1 hh a.tmps w∧a.defers=[]
theorem Zn {b:Bk} {w0 w:World} {h0 hh:IH} (hw0:h0.holds w0) {on:Nat→Prop} {β1 β:Nat→Nat} {V:Nat→Option Addr×Nat} {j:Nat} (q:mZ b w0 (2*j) hh on β V w) (hj:j=b.es.length) {β2:Nat→Nat} {h2:IH} {a:Act} {w2:World} (g:aO hh ⟨on,β1⟩ w hh (EI b (bJ V b.es) j) β2 h2 a.tmps w2) (hd:a.defers=[]) :
  wpS Tryz.prog [cd Tryz.f63 [1,1,1]] (aS Tryz.prog Tryz.f63 (oZ b w0 h0)) .normal a w2:=by
 subst hj
 have hA:aK Tryz.prog hh ⟨on,β1⟩ w hh [cd Tryz.f63 [1,1,1]] (EI b (bJ V b.es) b.es.length) (aS Tryz.prog Tryz.f63 (oZ b w0 h0)):=by
  refine dX (aj:=FK) follows (fun _=>none) (cuts:=[]) (n:=1000) ?_
  refine iG (b:=aP hh (Fr.mk on β1) w hh (aS Tryz.prog Tryz.f63 (oZ b w0 h0)) .ret ⟨regs 38 [(1,(.box 1 0)),(2,(.box 2 0)),(3,(.box 3 0)),(4,(vi (↑b.es.length))),(37,(.agg [(vi b.t),(.vec 8 7 0 b.es.length)]))],[(1,[(vi b.t),(.d (.slc 7 b.es.length (bK b.es)))]),(2,[(vi b.t),(.vec 8 7 0 b.es.length)]),(3,[(vi b.t),(.vec 8 7 0 b.es.length)]),(8,[(.arr eP 7 (bJ V b.es))])]⟩) (by kernel_rfl) ?_
  refine aP.ret (x:=.agg [.d (di b.t),.vec 8 7 0 b.es.length]) rfl rfl fun β4 h4 tm w4 v g4 hv=>?_
  have q2:=q.next g4
  obtain ⟨vs,rfl,v0,vs1,rfl,r0,v1,vs2,rfl,⟨hm1,hm2,p,hp,hpp⟩,r2⟩:=hv
  have r2:vs2=[]:=r2
  have r0:v0=.int .i64 b.t:=r0
  subst r2 r0
  rw[Nat.sub_zero] at hp
  subst hp
  obtain ⟨b1,b2⟩:=g4.box 8 _ rfl
  have hO:dw h4 fO 7 (bJ V b.es) (room β4 8) (many β4 8) w4.heap[blk β4 8]?:=b2
  have hpp:p=some ⟨blk β4 8,0,none⟩∨room β4 8=0:=hpp.imp (fun e=>by simpa using e) fun e=>by omega
  have Zp:h0.holds w4:=wR hw0 q2.kept fun _ hc=>hc.elim
  have hex:bJ (eU V 1 (p,room β4 8)) b.es=bJ V b.es:=by
   funext i
   unfold bJ
   rw[dW _ (by omega),dW _ (by omega)]
  have bo:∀t,t≠1→blk (upd β 1 (blk β4 8) (room β4 8) 0) t=blk β t∧room (upd β 1 (blk β4 8) (room β4 8) 0) t=room β t:=fun t ht=>⟨aZ ht,bI ht⟩
  have h8:0<room β4 8→w0.heap.size≤blk β4 8∧∀s,2≤s→s<2*b.es.length+2→0<room β s→blk β4 8≠blk β s:=fun h0'=>q2.apart _ ⟨8,_,rfl,h0',rfl⟩
  have h8l:0<room β4 8→blk β4 8<w4.heap.size:=fun h0'=>Own.lt (show Live β4 8 [.arr fO 7 (bJ V b.es)] from h0') b2
  refine⟨upd β 1 (blk β4 8) (room β4 8) 0,eU V 1 (p,room β4 8),by rw[jh],⟨Zp,?_,fun i hi=>?_,fun i hi=>?_,fun s s1 s2 s3=>?_,fun s t s1 s2 t1 t2 hs ht he=>?_,q2.kept⟩⟩
  ·rw[aT,aH,jh,hex]
   exact⟨⟨p,rfl,hpp⟩,(dw.less hO rfl (by omega) fun _ _=>rfl).flat fun i _=>mg V b.es i⟩
  ·rw[(bo _ (by omega)).1,(bo _ (by omega)).2,dW _ (by omega)]
   exact(q2.gr i (by omega) hi).flat fun k _=>lJ _ k
  ·rw[(bo _ (by omega)).1,(bo _ (by omega)).2,dW _ (by omega)]
   exact(q2.ap i (by omega) hi).flat fun k _=>kR _ k
  ·by_cases e:s=1
   ·subst e
    rw[aH] at s3
    rw[aT]
    exact⟨(h8 s3).1,h8l s3⟩
   ·rw[(bo s e).2] at s3
    rw[(bo s e).1]
    obtain ⟨n1,n2,_⟩:=q2.new s (by omega) (by omega) s3
    exact⟨n1,n2⟩
  ·by_cases e1:s=1
   ·by_cases e2:t=1
    ·rw[e1,e2]
    ·subst e1
     rw[aH] at hs
     rw[(bo t e2).2] at ht
     rw[aT,(bo t e2).1] at he
     exact absurd he ((h8 hs).2 t (by omega) (by omega) ht)
   ·by_cases e2:t=1
    ·subst e2
     rw[aH] at ht
     rw[(bo s e1).2] at hs
     rw[aT,(bo s e1).1] at he
     exact absurd he.symm ((h8 ht).2 s (by omega) (by omega) hs)
    ·rw[(bo s e1).2] at hs
     rw[(bo t e2).2] at ht
     rw[(bo s e1).1,(bo t e2).1] at he
     exact q2.inj s t (by omega) (by omega) (by omega) (by omega) hs ht he
 exact hA β2 h2 a w2 g hd
abbrev Vl (V:Nat→Option Addr×Nat) (j:Nat) (pc pd:Option Addr×Nat):Nat→Option Addr×Nat:=eU (eU V (2*j+2) pc) (2*j+3) pd
noncomputable abbrev SS (V:Nat→Option Addr×Nat) (b:Bk) (j:Nat) (pc pd:Option Addr×Nat) (i:Nat):DV:=bif i.blt j then bJ V b.es i else aW true 7 (jv (b.es.getD j en0) (.slice pc.1 (b.es.getD j en0).gs.length pc.2) (.slice pd.1 (b.es.getD j en0).ah.length pd.2)) (0+(i-j))
theorem Yp {V:Nat→Option Addr×Nat} {b:Bk} {j:Nat} {pc pd:Option Addr×Nat} {i:Nat} (hi:i<j+1):SS V b j pc pd i=bJ (Vl V j pc pd) b.es i:=by
 unfold SS bJ Vl
 by_cases c:i<j
 ·rw[show i.blt j=true from by rw[Nat.blt_eq];exact c,cond_true,dW _ (by omega),dW _ (by omega),dW _ (by omega),dW _ (by omega)]
 ·obtain rfl:i=j:=by omega
  rw[show i.blt i=false from by rw[Bool.eq_false_iff,ne_eq,Nat.blt_eq];omega,cond_false,Nat.sub_self,dW _ (by omega),jh,jh]
  rfl
theorem Vh {b:Bk} {w0 w:World} {h0 hh:IH} (hw0:h0.holds w0) {on:Nat→Prop} {β1 β:Nat→Nat} {V:Nat→Option Addr×Nat} {j:Nat} (q:mZ b w0 (2*j) hh on β V w) (hs:gq b.es) (hj:j≤b.es.length) {a:Act} (g:aO hh ⟨on,β1⟩ w hh (EI b (bJ V b.es) j) β1 hh a.tmps w) (hd:a.defers=[]) :
  wpS Tryz.prog [cd Tryz.f63 [1,1,0,1,0,0]] (oC Tryz.prog wz (aS Tryz.prog Tryz.f63 (oZ b w0 h0)) (Oi b w0) (b.es.length-j)) .normal a w:=by
 have hl:=hs.1
 have hA:aK Tryz.prog hh ⟨on,β1⟩ w hh [cd Tryz.f63 [1,1,0,1,0,0]] (EI b (bJ V b.es) j) (oC Tryz.prog wz (aS Tryz.prog Tryz.f63 (oZ b w0 h0)) (Oi b w0) (b.es.length-j)):=by
  refine dX (aj:=FK) follows (fun _=>none) (cuts:=[6]) (n:=1000) ?_
  refine KA (b.es.getD (↑j:Int).toNat en0) ((.d (.slc 7 b.es.length (bK b.es))):AV) (decide ((↑j:Int)<↑b.es.length)) (oC Tryz.prog wz (aS Tryz.prog Tryz.f63 (oZ b w0 h0)) (Oi b w0) (b.es.length-j)) (fun Za Zb Zc Zd=>(((Zc=true)→(((0≤(↑j:Int))∧((↑j:Int)<↑b.es.length))∧aK Tryz.prog hh (Fr.mk on β1) w hh [cd Tryz.f63 [1,1,0,1,0,0,1,0,0,1],(.blk 1),cd Tryz.f63 [1,1,0,1,0,0,1,1]] ⟨regs 38 [(1,(.box 1 0)),(2,(.box 2 0)),(3,(.box 3 0)),(4,(vi (↑j))),(5,(.box 5 0)),(9,(vi (↑j))),(10,(.box 1 1)),(11,Zb),(12,(vi (↑b.es.length))),(13,(vb Zc)),(16,(.box 1 1)),(17,Zb),(18,(vi (↑j))),(19,(.d (.ptr [(ds Za.k.st),(ds Za.k.ex),(di Za.k.n),(di Za.t),(ds Za.s),(.slc 4 Za.gs.length (dP Za.gs)),(.slc 6 Za.ah.length (dI Za.ah))]))),(20,(.d (.agg [(ds Za.k.st),(ds Za.k.ex),(di Za.k.n),(di Za.t),(ds Za.s),(.slc 4 Za.gs.length (dP Za.gs)),(.slc 6 Za.ah.length (dI Za.ah))])))],[(5,[(vs Za.k.st),(vs Za.k.ex),(vi Za.k.n),(vi Za.t),(vs Za.s),(.d (.slc 4 Za.gs.length (dP Za.gs))),(.d (.slc 6 Za.ah.length (dI Za.ah)))]),(1,[(vi b.t),Zb]),(2,[(vi 0),(.d dG)]),(3,[(vi b.t),(.vec 8 7 0 j)]),(8,[(.arr eP 7 (bJ V b.es))])]⟩ Zd))∧((Zc=false)→aP hh (Fr.mk on β1) w hh Zd (.exit 0) ⟨regs 38 [(1,(.box 1 0)),(2,(.box 2 0)),(3,(.box 3 0)),(4,(vi (↑j))),(9,(vi (↑j))),(10,(.box 1 1)),(11,Zb),(12,(vi (↑b.es.length))),(13,(vb Zc))],[(1,[(vi b.t),Zb]),(2,[(vi 0),(.d dG)]),(3,[(vi b.t),(.vec 8 7 0 j)]),(8,[(.arr eP 7 (bJ V b.es))])]⟩))) (by kernel_rfl) ?_
  try dsimp only
  rw[show ((j:Int)).toNat=j from rfl]
  refine⟨fun c=>⟨⟨by omega,by have:=dn c;omega⟩,?_⟩,fun c=>?_⟩
  ·have hj2:j<b.es.length:=by have:=dn c;omega
   refine aK.weaken (st':=qZ b (bJ V b.es) j (jZ (b.es.getD j en0).gs) (iD (b.es.getD j en0).ah)) ?_ ?_
   ·exact AS.bD (by kernel_rfl)
   refine aK.seq (a:=aU (au Tryz.f63) [1,1,0,1,0,0,1,0,0,1,0]) (b:=aU (au Tryz.f63) [1,1,0,1,0,0,1,0,0,1,1]) (by kernel_rfl) ?_
   refine abM q hj2 hs fun h' on' sZ β' pc a' w' q' g' hd'=>?_
   have hB:=aK.seq (c:=aU (au Tryz.f63) [1,1,0,1,0,0,1,0,0,1,1]) (a:=aU (au Tryz.f63) [1,1,0,1,0,0,1,0,0,1,1,0]) (b:=aU (au Tryz.f63) [1,1,0,1,0,0,1,0,0,1,1,1]) (by kernel_rfl) (abY (its:=cd Tryz.f63 [1,1,0,1,0,0,1,0,0,1,1,1] :: [.blk 1,cd Tryz.f63 [1,1,0,1,0,0,1,1]]) (R:=oC Tryz.prog wz (aS Tryz.prog Tryz.f63 (oZ b w0 h0)) (Oi b w0) (b.es.length-j)) (β1:=sZ) (E:=bJ V b.es) (gp:=pc.1) (gn:=(b.es.getD j en0).gs.length) (gc:=pc.2) q' hj2 hs fun h2 fV Zw β2 pd a2 w2 q2 g2 hd2=>?_)
   ·exact hB sZ h' a' w' g' hd'
   have hC:aK Tryz.prog h2 ⟨fV,Zw⟩ w2 h2 [cd Tryz.f63 [1,1,0,1,0,0,1,0,0,1,1,1],.blk 1,cd Tryz.f63 [1,1,0,1,0,0,1,1]] (qZ b (bJ V b.es) j (.con (.slice pc.1 (b.es.getD j en0).gs.length pc.2)) (.con (.slice pd.1 (b.es.getD j en0).ah.length pd.2))) (oC Tryz.prog wz (aS Tryz.prog Tryz.f63 (oZ b w0 h0)) (Oi b w0) (b.es.length-j)):=by
    refine dX (aj:=FK) follows (fun _=>none) (cuts:=[]) (n:=1000) ?_
    refine qL ((.con (.slice pd.fst (b.es.getD j en0).ah.length pd.snd)):DV) ((.con (.slice pc.fst (b.es.getD j en0).gs.length pc.snd)):DV) (fun Za Zb=>((((j+1)*112≤1099511627776)∧(j+1≤1099511627776))∧(I64 (↑j+1))∧aP h2 (Fr.mk fV Zw) w2 h2 (oC Tryz.prog wz (aS Tryz.prog Tryz.f63 (oZ b w0 h0)) (Oi b w0) (b.es.length-j)) .normal ⟨regs 38 [(1,(.box 1 0)),(2,(.box 2 0)),(3,(.box 3 0)),(4,(vi (↑j+1))),(5,(.box 5 0)),(14,(vi (↑j))),(15,(vi (↑j+1))),(31,(.box 3 1)),(32,(.vec 8 7 0 j)),(33,(.d (.agg [(ds (b.es.getD j en0).k.st),(ds (b.es.getD j en0).k.ex),(di (b.es.getD j en0).k.n),(di (b.es.getD j en0).t),(ds (b.es.getD j en0).s),Zb,Za]))),(34,(.vec 34 7 0 1)),(35,(.vec 35 7 0 (j+1))),(36,(.box 3 1))],[(35,[(.arr eP 7 (fun i=>bif i.blt j then bJ V b.es i else aW true 7 [DV.con (Value.string (b.es.getD j en0).k.st),DV.con (Value.string (b.es.getD j en0).k.ex),DV.con (Value.int IntKind.i64 (b.es.getD j en0).k.n),DV.con (Value.int IntKind.i64 (b.es.getD j en0).t),DV.con (Value.string (b.es.getD j en0).s),DV.con (Value.slice pc.fst (b.es.getD j en0).gs.length pc.snd),DV.con (Value.slice pd.fst (b.es.getD j en0).ah.length pd.snd)] (0+(i-j))))]),(34,[(.arr eP 7 (aW true 7 [(ds (b.es.getD j en0).k.st),(ds (b.es.getD j en0).k.ex),(di (b.es.getD j en0).k.n),(di (b.es.getD j en0).t),(ds (b.es.getD j en0).s),Zb,Za]))]),(5,[(vs (b.es.getD j en0).k.st),(vs (b.es.getD j en0).k.ex),(vi (b.es.getD j en0).k.n),(vi (b.es.getD j en0).t),(vs (b.es.getD j en0).s),(.d Zb),(.d Za)]),(1,[(vi b.t),(.d (.slc 7 b.es.length (bK b.es)))]),(2,[(vi 0),(.d dG)]),(3,[(vi b.t),(.vec 35 7 0 (j+1))]),(8,[.dead])]⟩)) (by kernel_rfl) ?_
    refine⟨⟨by omega,by omega⟩,⟨by omega,by omega⟩,?_⟩
    intro β4 h4 a4 w4 g4 hd4
    obtain ⟨afG,g4a⟩:=(AS.cO.moves [(35,8)] _ (by rfl)) _ _ _ _ _ _ _ _ g4
    have g4b:=g4a.weaken (st':=EI b (SS V b j pc pd) (j+1)) (by
     exact AS.bD (by kernel_rfl))
    obtain ⟨β5,g4c⟩:=(AS.cO.rowB (EI b (SS V b j pc pd) (j+1)) 3 1 8 (j+1) (bJ (Vl V j pc pd) b.es) rfl rfl (by kernel_rfl) (by kernel_rfl) rfl rfl rfl (by kernel_rfl) fun i hi=>Yp hi) _ _ _ _ _ _ _ _ g4b
    have g5:=g4c.weaken (st':=EI b (bJ (Vl V j pc pd) b.es) (j+1)) (by
     exact AS.bD (by kernel_rfl))
    exact⟨b.es.length-(j+1),by omega,j+1,h4,_,β5,β2,Vl V j pc pd,rfl,hj2,q2.next g5,fZ g5,hd4⟩
   exact hC Zw h2 a2 w2 g2 hd2
  ·intro β2 h2 a2 w2 g2 hd2
   show wpS Tryz.prog wz (aS Tryz.prog Tryz.f63 (oZ b w0 h0)) (.exit 0) a2 w2
   refine nV (k:=wz) ?_
   show wpS Tryz.prog [cd Tryz.f63 [1,1,1]] (aS Tryz.prog Tryz.f63 (oZ b w0 h0)) .normal a2 w2
   exact Zn hw0 q (by have:=of_decide_eq_false c;omega) (g2.weaken (st':=EI b (bJ V b.es) j) (by refine AS.leZ [] [] (b:=((T0∧T0∧T0∧T0∧True)∧T0∧T0∧T0∧T0∧True)) (by kernel_rfl) (by kernel_rfl) ?_;exact⟨⟨rfl,rfl,rfl,rfl,trivial⟩,rfl,rfl,rfl,rfl,trivial⟩)) hd2
 exact hA β1 hh a w g hd
theorem abE {h:IH} {b:Bk} {u:Value} (hu:DV.rel h (cu b) u):∃V:Nat→PC,∀i,i<b.es.length→DV.rel h (jZ (b.es.getD i en0).gs) (sv V (2*i+2) (b.es.getD i en0).gs.length)∧DV.rel h (iD (b.es.getD i en0).ah) (sv V (2*i+3) (b.es.getD i en0).ah.length):=by
 obtain ⟨vs,rfl,v0,vs1,rfl,r0,v1,vs2,rfl,⟨p,c,rfl,hc,hr⟩,r2⟩:=hu
 have hx:∀i,∃q:PC×PC,i<b.es.length→DV.rel h (jZ (b.es.getD i en0).gs) (.slice q.1.1 (b.es.getD i en0).gs.length q.1.2)∧DV.rel h (iD (b.es.getD i en0).ah) (.slice q.2.1 (b.es.getD i en0).ah.length q.2.2):=by
  intro i
  by_cases hi:i<b.es.length
  ·rcases hr with hr|⟨bk,off,_,hr⟩
   ·omega
   ·obtain ⟨v,hv,_⟩:=hr i hi
    obtain ⟨q,g1,g2,_⟩:=X9 hv
    exact⟨q,fun _=>⟨g1,g2⟩⟩
  ·exact⟨((none,0),(none,0)),fun hc=>absurd hc hi⟩
 obtain ⟨W,hW⟩:=Classical.axiomOfChoice hx
 refine⟨QX W,fun i hi=>?_⟩
 simp only[sv,SE,TY]
 exact hW i hi
noncomputable def abb (b:Bk):AS:=⟨regs Tryz.f63.ntmps [(1,.box 1 0),(2,.box 2 0),(3,.box 3 0),(4,vi 0)],[(1,(fQ b).map .d),(2,[.d (di 0),.d (.con (.slice none 0 0))]),(3,[.d (di b.t),.d (.con (.slice none 0 0))])]⟩
theorem Ye (b:Bk) (hs:gq b.es) (hw:G.holds w) {u:Value} (hu:DV.rel G (cu b) u):Calls Tryz.prog 63 #[u] w fun r w'=>∃v,r=.returned v∧oZ b w G v w':=by
 have g:=aO.bare (G:=G) (rs:=[.d (cu b)]) (β:=fun _=>0) (tm:=#[u]) (IH.le.refl G) hw rfl (fun t x hx=>by
  rcases t with _|t
  ·simp at hx;subst hx;exact⟨_,rfl,hu⟩
  ·simp at hx) (fun _=>False)
 obtain ⟨V,hV⟩:=abE hu
 refine Calls.BF Tryz.func63 rfl g ?_
 refine dX (aj:=FK) follows (fun _=>none) (cuts:=[]) (n:=1000) ?_
 refine iG (b:=aK Tryz.prog G (Fr.mk (fun x=>False) fun x=>0) w G [cd Tryz.f63 [1,1,0,1,0],(.blk 0),cd Tryz.f63 [1,1,1]] ⟨regs 38 [(0,(.d (.agg [(di b.t),(.slc 7 b.es.length (bK b.es))]))),(1,(.box 1 0)),(2,(.box 2 0)),(3,(.box 3 0)),(4,(vi 0)),(6,(.box 1 0)),(7,(vi b.t)),(8,(.d (.agg [(di b.t),dG])))],[(3,[(vi b.t),(.d dG)]),(2,[(vi 0),(.d dG)]),(1,[(vi b.t),(.d (.slc 7 b.es.length (bK b.es)))])]⟩ (aS Tryz.prog Tryz.f63 (oZ b w G))) (by kernel_rfl) ?_
 refine aK.weaken (st':=abb b) ?_ ?_
 ·exact AS.bD (by kernel_rfl)
 intro β1 h1 a w1 g1 hd
 obtain ⟨β2,g2a⟩:=(AS.cO.Aq (abb b) 3 1 8 7 fO (bJ V b.es) (by kernel_rfl) (by kernel_rfl)) _ _ _ _ _ _ _ _ g1
 have g2:=g2a.weaken (st':=EI b (bJ V b.es) 0) (by
  exact AS.bD (by kernel_rfl))
 have hkk:Kept (fun _=>False) w w1:=g2.kept
 have q:mZ b w (2*0) h1 (fun c=>∃s l,(EI b (bJ V b.es) 0).box s=some l∧Live β2 s l∧blk β2 s=c) (fun _=>0) V w1:=by
  refine⟨fun i hi=>absurd hi (by omega),fun i hi=>absurd hi (by omega),fun i _ hi=>DV.rel.mono g2.glob _ _ (hV i hi).1,fun i _ hi=>DV.rel.mono g2.glob _ _ (hV i hi).2,fun s q1 q2=>absurd q2 (by omega),fun s t q1 q2=>absurd q2 (by omega),?_,hkk⟩
  rintro c ⟨s,l,hl,hv,rfl⟩
  exact⟨((g2.box s l hl).1 hv).1.resolve_left id,fun t t1 t2=>absurd t2 (by omega)⟩
 refine BJ (c:=aU (au Tryz.f63) [1,1,0,1,0,0]) (by kernel_rfl) (Oi b w) (b.es.length-0) ⟨0,h1,_,β2,_,V,rfl,Nat.zero_le _,q,fZ g2,hd⟩ ?_
 rintro n a2 w2 ⟨j,hh,on,β3,β,V,rfl,hj,q,g,hd2⟩
 exact Vh hw q hs hj g hd2
theorem h63:VN G:=fun b hs=>by
 refine⟨Tryz.call63,fun w h vs hG hw hr=>?_⟩
 obtain ⟨u,vs1,rfl,r,hn⟩:=hr
 have hn:vs1=[]:=hn
 subst hn
 refine(Ye (G:=h) b hs hw r).mono ?_
 rintro _ w' ⟨v,rfl,β,V,rfl,q⟩
 obtain ⟨hle,hr⟩:=q.rel hw
 refine⟨_,_,rfl,hr,hle,IH.add_holds q.hold,q.kept,fun c hlt=>⟨fun o=>IH.jT ?_,rfl⟩⟩
 rintro ⟨s,h1,h2,h3,h4⟩
 have:=(q.new s h1 h2 h3).1
 omega
def iU (b:Bk) (e:Ev) (w:World) (h:IH) (v:Value) (w':World):Prop:=∃u k,v=.tuple #[u,.int .i64 (jm b e)]∧DV.rel k (cu (rB b e)) u∧h.le k∧k.holds w'∧Kept (fun _=>False) w w'∧∀c,c<w.heap.size→(∀o,k.cell c o=h.cell c o)∧k.obj c=h.obj c
noncomputable abbrev Bv:List AV:=[.d (di 0),.d (.con (.slice none 0 0))]
noncomputable def X6 (b:Bk) (e:Ev):AS:=⟨regs Tryz.f46.ntmps [(2,.box 2 0),(3,.box 3 0),(4,.box 4 0),(5,vi 0)],[(2,(fQ b).map .d),(3,(kE e).map .d),(4,Bv)]⟩
noncomputable def Wh (b:Bk) (e:Ev):AS:=⟨regs Tryz.f46.ntmps [(2,.box 2 0),(3,.box 3 0),(4,.box 4 0),(5,vi 0),(18,.d (cu b))],[(2,(fQ b).map .d),(3,(kE e).map .d),(4,Bv)]⟩
noncomputable def WC (b:Bk) (e:Ev) (s:PC):AS:=⟨regs Tryz.f46.ntmps [(2,.box 2 0),(3,.box 3 0),(4,.box 4 0),(5,vi 0),(19,.d (.agg [di b.t,.con (.slice s.1 b.es.length s.2)]))],[(2,(fQ b).map .d),(3,(kE e).map .d),(4,Bv)]⟩
theorem acn {b:Bk} {e:Ev} {w0:World} {h0:IH} {β1:Nat→Nat} (hs:gq b.es) {its:List It} {R:Exit→Act→World→Prop}
  (K:∀(h2:IH) (w3 w:World) (F:Fr) (β:Nat→Nat) (V:Nat→Option Addr×Nat),rP b w3 h2 β V w→h2.holds w3→(∀c,F.on c→w0.heap.size≤c∧c<w3.heap.size)→Kept (fun _=>False) w0 w3→h0.le h2→(∀c,c<w0.heap.size→(∀o,h2.cell c o=h0.cell c o)∧h2.obj c=h0.obj c)→dV Tryz.prog h2 F w h2 (opsOf (aU (au Tryz.f46) [1,1,0])).toList 2 (1+0) (WC b e (V 1)) (wpS Tryz.prog its R)) :
  dV Tryz.prog h0 ⟨fun _=>False,β1⟩ w0 h0 (opsOf (aU (au Tryz.f46) [1,1,0])).toList 1 (1+1) (Wh b e) (wpS Tryz.prog its R):=by
 refine dV.call (c:={ callee:=.value (.func 63),args:=#[.tmp 18],argTypes:=#[31] }) (g:=63) (a1:=[]) (a2:=[]) (γ:=none) rfl rfl rfl (by kernel_rfl) (fun _ _ _ hq=>by cases hq) (by kernel_rfl) Tryz.call63 ?_
 intro β2 h2 a w3 vs g1 hd hvs
 obtain ⟨v0,vs1,rfl,r0,r3⟩:=hvs
 have r3:vs1=[]:=r3
 subst r3
 have r0:DV.rel h2 (cu b) v0:=r0
 have hk3:Kept (fun _=>False) w0 w3:=g1.kept
 refine(Ye (G:=h2) b hs g1.holds r0).mono ?_
 rintro r w' ⟨v,rfl,β,V,rfl,q⟩
 refine⟨_,rfl,?_⟩
 have hlz:∀s l,(X6 b e).box s=some l→Live β2 s l∧(Wh b e).box s=some l:=by
  intro s l hl
  have hl0:=hl
  simp only[X6,AS.box,Go.Ab.look] at hl
  by_cases e1:(2:Nat)=s
  ·subst e1;simp at hl;subst hl;exact⟨trivial,hl0⟩
  ·rw[aQ e1,cond_false] at hl
   by_cases e2:(3:Nat)=s
   ·subst e2;simp at hl;subst hl;exact⟨trivial,hl0⟩
   ·rw[aQ e2,cond_false] at hl
    by_cases e3:(4:Nat)=s
    ·subst e3;simp at hl;subst hl;exact⟨trivial,hl0⟩
    ·rw[aQ e3,cond_false] at hl;cases hl
 have gz:=fZ (g1.weaken (st':=X6 b e) (by refine AS.leZ [] [] (b:=((T0∧T0∧T0∧T0∧True)∧T0∧T0∧T0∧True)) (by kernel_rfl) (by kernel_rfl) ?_;exact⟨⟨rfl,rfl,rfl,rfl,trivial⟩,rfl,rfl,rfl,trivial⟩))
 have gb:=xZ gz q.hold q.kept (fun s l hl=>⟨(hlz s l hl).1,id⟩)
 have gc:=gb.put (t:=some 19) (x:=.d (.agg [di b.t,.con (.slice (V 1).1 b.es.length (V 1).2)])) (v:=.agg #[.int .i64 b.t,sv V 1 b.es.length]) ⟨_,rfl,_,_,rfl,rfl,_,_,rfl,rfl,rfl⟩
 have ge:=gc.weaken (st':=WC b e (V 1)) (by refine AS.leZ [] [] (b:=((T0∧T0∧T0∧T0∧T0∧True)∧T0∧T0∧T0∧True)) (by kernel_rfl) (by kernel_rfl) ?_;exact⟨⟨rfl,rfl,rfl,rfl,rfl,trivial⟩,rfl,rfl,rfl,trivial⟩)
 refine K _ w3 _ _ β V q g1.holds (fun c hc=>?_) hk3 g1.ext (fun c hlt=>g1.old c hlt id) _ _ _ _ ge hd
 obtain ⟨s,l,hl,_,rfl⟩:=hc
 obtain ⟨hlv,hl1⟩:=hlz s l hl
 obtain ⟨b1,b2⟩:=g1.box s l hl1
 exact⟨(b1 hlv).1.resolve_left id,Own.lt hlv b2⟩
structure Beside (b:Bk) (h:IH) (β:Nat→Nat) (V:Nat→Option Addr×Nat) (w:World):Prop where
 hold:h.holds w
 ent:cZ h fO 7 b.es.length (bJ V b.es) (blk β 1) (room β 1) (sv V 1 b.es.length) w.heap[blk β 1]?
 gr:∀i,i<b.es.length→cZ h jU 4 (b.es.getD i en0).gs.length (dP (b.es.getD i en0).gs) (blk β (2*i+2)) (room β (2*i+2)) (sv V (2*i+2) (b.es.getD i en0).gs.length) w.heap[blk β (2*i+2)]?
 ap:∀i,i<b.es.length→cZ h iZ 6 (b.es.getD i en0).ah.length (dI (b.es.getD i en0).ah) (blk β (2*i+3)) (room β (2*i+3)) (sv V (2*i+3) (b.es.getD i en0).ah.length) w.heap[blk β (2*i+3)]?
 lt:∀s,1≤s→s<2*b.es.length+2→0<room β s→blk β s<w.heap.size
 unk:∀s,1≤s→s<2*b.es.length+2→0<room β s→(∀o,h.cell (blk β s) o=none)∧h.obj (blk β s)=none
 inj:∀s t,1≤s→s<2*b.es.length+2→1≤t→t<2*b.es.length+2→0<room β s→0<room β t→blk β s=blk β t→s=t
theorem rP.beside {b:Bk} {w0 w:World} {h:IH} {β:Nat→Nat} {V:Nat→Option Addr×Nat} (q:rP b w0 h β V w) (hh:h.holds w0):Beside b h β V w:=
 ⟨q.hold,q.ent,q.gr,q.ap,fun s h1 h2 h3=>(q.new s h1 h2 h3).2,fun s h1 h2 h3=>holds_none hh (q.new s h1 h2 h3).1,q.inj⟩
theorem Beside.next {b:Bk} {h h2:IH} {β β1 β2:Nat→Nat} {V:Nat→Option Addr×Nat} {on:Nat→Prop} {w w2:World} {st:AS} {tm:Array Value} (q:Beside b h β V w) (g:aO h ⟨on,β1⟩ w h st β2 h2 tm w2) (hon:∀c,on c→¬oL β b.es.length c):Beside b h2 β V w2:=by
 have hk:Kept on w w2:=g.kept
 have hno:∀s,1≤s→s<2*b.es.length+2→0<room β s→¬on (blk β s):=fun s h1 h2 h3 hc=>hon _ hc ⟨s,h1,h2,h3,rfl⟩
 refine⟨g.holds,(q.ent.keep hk fun h0=>hno 1 (by omega) (by omega) h0).flat fun i _=>mg V b.es i,fun i hi=>((q.gr i hi).keep hk fun h0=>hno _ (by omega) (by omega) h0).flat fun j _=>lJ _ j,fun i hi=>((q.ap i hi).keep hk fun h0=>hno _ (by omega) (by omega) h0).flat fun j _=>kR _ j,fun s h1 h2 h3=>Nat.lt_of_lt_of_le (q.lt s h1 h2 h3) hk.size,fun s h1 h2 h3=>?_,q.inj⟩
 obtain ⟨o1,o2⟩:=g.old (blk β s) (q.lt s h1 h2 h3) (hno s h1 h2 h3)
 obtain ⟨p1,p2⟩:=q.unk s h1 h2 h3
 exact⟨fun o=>(o1 o).trans (p1 o),o2.trans p2⟩
theorem Beside.rel {b:Bk} {h:IH} {β:Nat→Nat} {V:Nat→Option Addr×Nat} {w:World} (q:Beside b h β V w):h.le (IH.add h (oL β b.es.length) w)∧(IH.add h (oL β b.es.length) w).holds w∧DV.rel (IH.add h (oL β b.es.length) w) (jI b.es) (sv V 1 b.es.length):=by
 have hle:h.le (IH.add h (oL β b.es.length) w):=IH.rF fun c ⟨s,h1,h2,h3,h4⟩=>by rw[←h4];exact(q.unk s h1 h2 h3).1
 have hin:∀s,1≤s→s<2*b.es.length+2→0<room β s→∀o,(IH.add h (oL β b.es.length) w).cell (blk β s) o=w.cell? ⟨blk β s,o,none⟩:=fun s h1 h2 h3 o=>IH.nC ⟨s,h1,h2,h3,rfl⟩
 refine⟨hle,IH.add_holds q.hold,?_⟩
 refine xB (fun i hi y hy=>?_) (q.ent.slc hle fun h0 o=>hin 1 (by omega) (by omega) h0 o)
 exact xP ((q.gr i hi).slc hle fun h0 o=>hin _ (by omega) (by omega) h0 o) ((q.ap i hi).slc hle fun h0 o=>hin _ (by omega) (by omega) h0 o) hy
theorem ownRow {on:Nat→Prop} {β1:Nat→Nat} {rs:List AV} {bs:List (Nat×List AV)} {tm:Array Value} (g:aO G ⟨on,β1⟩ w G ⟨rs,bs⟩ β1 G tm w) {e:Nat} {K:RK} {sz m:Nat} {f:Nat→DV} {c bk:Nat} {v:Value} (hv:cZ G K sz m f bk c v w.heap[bk]?)
  (hun:0<c→(∀o,G.cell bk o=none)∧G.obj bk=none) (hap:0<c→∀t l,Go.Ab.look bs t=some l→Live β1 t l→blk β1 t≠bk) (hfe:AV.frees e rs=true) (hbe:(bs.all fun p=>AV.frees e p.2&&!(Nat.beq p.1 e))=true) :
  ∃bb,(0<c→bb=bk)∧(¬0<c→bb=w.heap.size)∧aO G ⟨fun k=>on k∨k=bb,upd β1 e bb c m⟩ w G ⟨rs,(e,[.arr K sz f]) :: bs⟩ (upd β1 e bb c m) G tm w:=by
 obtain ⟨bb,hbb,P7⟩:∃bb,(0<c→bb=bk)∧(¬0<c→bb=w.heap.size):=by
  by_cases h0:0<c
  ·exact⟨bk,fun _=>rfl,fun hc=>absurd h0 hc⟩
  ·exact⟨w.heap.size,fun hc=>absurd hc h0,fun _=>rfl⟩
 have hO:Own (upd β1 e bb c m) G e [.arr K sz f] w.heap[bb]?:=by
  show dw G K sz f (room _ e) (many _ e) _
  rw[aH,bH]
  by_cases h0:0<c
  ·rw[hbb h0];exact hv.row
  ·exact⟨hv.row.1,.inl (by omega)⟩
 refine⟨bb,hbb,P7,g.more (s:=e) (b:=bb) (c:=c) (m:=m) (l:=[.arr K sz f]) hfe hbe hO (fun hl=>?_) fun t l hl hv2 he=>?_⟩
 ·have hl:0<room (upd β1 e bb c m) e:=hl
  rw[aH] at hl
  rw[hbb hl]
  exact hun hl
 ·by_cases h0:0<c
  ·rw[hbb h0] at he
   exact hap h0 t l hl hv2 he
  ·have:=Own.lt hv2 (g.box t l hl).2
   rw[he,P7 h0] at this;omega
noncomputable def rC (b:Bk) (e:Ev) (t:Int) (s:PC):AS:=⟨regs Tryz.f46.ntmps [(2,.box 2 0),(3,.box 3 0),(4,.box 4 0),(5,vi 0)],[(2,[.d (di t),.d (.con (.slice s.1 b.es.length s.2))]),(3,(kE e).map .d),(4,Bv)]⟩
structure yY (w0:World) (h0 h:IH) (w:World) (on:Nat→Prop):Prop where
 le:h0.le h
 kept:Kept (fun _=>False) w0 w
 old:∀c,c<w0.heap.size→(∀o,h.cell c o=h0.cell c o)∧h.obj c=h0.obj c
 new:∀c,on c→w0.heap.size≤c
theorem yY.fin {b:Bk} {e:Ev} {w0 w w4:World} {h0 k k4:IH} {F:Fr} {st:AS} {β4:Nat→Nat} {tm:Array Value} {u:Value} (o:yY w0 h0 k w F.on) (g:aO k F w k st β4 k4 tm w4) (hu:DV.rel k4 (cu (rB b e)) u):iU b e w0 h0 (.tuple #[u,.int .i64 (jm b e)]) w4:=by
 refine⟨u,k4,rfl,hu,o.le.trans g.glob,g.holds,iL ((o.kept.mono fun _ hc=>hc.elim).trans (g.kept.mono fun c hc=>.inr (o.new c hc))),fun c hlt=>?_⟩
 obtain ⟨o1,o2⟩:=g.old c (Nat.lt_of_lt_of_le hlt o.kept.size) (fun hc=>by have:=o.new c hc;omega)
 exact⟨fun x=>(o1 x).trans ((o.old c hlt).1 x),o2.trans (o.old c hlt).2⟩
theorem um {b:Bk} {e:Ev} {w0 w:World} {h0 k:IH} {F:Fr} {code:Int} (o:yY w0 h0 k w F.on) {st:AS} (hr:iM Tryz.prog st Tryz.f46.results.toList=some [.d (.agg [di 0,.con (.slice none 0 0)]),.d (di code)]) (hc:jm b e=code) (hn:code≠0):aP k F w k (aS Tryz.prog Tryz.f46 (iU b e w0 h0)) .ret st:=by
 refine vN rfl hr fun β3 k3 tm w3 v u g3 hv hu=>?_
 have hu:u=.int .i64 code:=hu
 subst hu
 rw[←hc]
 refine o.fin g3 ?_
 have hb:rB b e=fA:=by unfold rB;rw[if_neg (by rw[hc];exact hn)]
 rw[hb]
 obtain ⟨vs,rfl,v0,vs1,rfl,r0,v1,vs2,rfl,r1,r2⟩:=hv
 exact⟨_,rfl,_,_,rfl,r0,_,_,rfl,⟨none,0,r1,Nat.le_refl _,.inl rfl⟩,r2⟩
def acp (b:Bk) (e:Ev):dU:={ d:=fun f _=>bif Nat.beq f 23 then some (di (dQ b.es e.k)) else bif Nat.beq f 80 then some (di (iC b.es e.k)) else none }
def adN (b:Bk) (e:Ev):Nat→Option AV
 | 23=>some (.d (cu ⟨e.t,b.es⟩))
 | 33=>some (.d (cu ⟨e.t,b.es⟩))
 | 41=>some (.d (jI b.es))
 | _=>none
noncomputable def EO (b:Bk) (e:Ev) (s:PC) (i:Nat):AS:=⟨regs Tryz.f46.ntmps [(2,.box 2 0),(3,.box 3 0),(4,.box 4 0),(5,vi 0),(6,vi i)],[(2,[.d (di e.t),.d (.con (.slice s.1 b.es.length s.2))]),(3,(kE e).map .d),(4,Bv)]⟩
theorem abL {b:Bk} {e:Ev} {w0 w:World} {h0 k:IH} {F:Fr} {V:Nat→Option Addr×Nat} (o:yY w0 h0 k w F.on) (hr:DV.rel k (jI b.es) (sv V 1 b.es.length)) (hs:gq b.es) (ht:¬e.t<b.t)
  (K1:e.kind=0→jm b e=0→aK Tryz.prog k F w k [cd Tryz.f46 [1,1,1,1,1,0,1,0,1,1],cd Tryz.f46 [1,1,1,1,1,1]] (rC b e e.t (V 1)) (aS Tryz.prog Tryz.f46 (iU b e w0 h0)))
  (K2:e.kind≠0→∀i,dB b.es e.k=some i→aK Tryz.prog k F w k [cd Tryz.f46 [1,1,1,1,1,1,1]] (EO b e (V 1) i) (aS Tryz.prog Tryz.f46 (iU b e w0 h0))) :
  aK Tryz.prog k F w k [cd Tryz.f46 [1,1,1]] (rC b e b.t (V 1)) (aS Tryz.prog Tryz.f46 (iU b e w0 h0)):=by
 have hl:=hs.1
 have hv:bT k F (.d (.agg [di e.t,.con (.slice (V 1).1 b.es.length (V 1).2)])) (.d (cu ⟨e.t,b.es⟩)):=by
  intro β h v hG _ r
  obtain ⟨vs,rfl,v0,vs1,rfl,r0,v1,vs2,rfl,r1,r2⟩:=r
  have r1:v1=sv V 1 b.es.length:=r1
  subst r1
  exact⟨_,rfl,_,_,rfl,r0,_,_,rfl,DV.rel.mono hG _ _ hr,r2⟩
 have hv2:bT k F (.d (.con (.slice (V 1).1 b.es.length (V 1).2))) (.d (jI b.es)):=by
  intro β h v hG _ r
  have r:v=sv V 1 b.es.length:=r
  subst r
  exact DV.rel.mono hG _ _ hr
 have hA:jm b e=if e.kind=0 then (if e.k.n≠(iC b.es e.k:Int)+1 then 9 else if b.es.length=256 then 8 else 0) else match dB b.es e.k with
  | none=>7
  | some i=>zC (b.es.getD i en0) e:=by unfold jm;rw[if_neg ht];rfl
 have hcl:iC b.es e.k≤b.es.length:=by
  unfold iC keyS
  refine Nat.le_trans (List.length_filter_le _ _) ?_
  rw[List.length_map];exact Nat.le_refl _
 refine dX (aj:=acp b e) follows (adN b e) (cuts:=[11,15]) (n:=1000) ?_
 refine Y8 ((.agg [(di e.t),(.slc 7 b.es.length (bK b.es))]):DV) ((.agg [(ds e.k.st),(ds e.k.ex),(di e.k.n)]):DV) ((.con (.slice (V 1).fst b.es.length (V 1).snd)):DV) (aS Tryz.prog Tryz.f46 (iU b e w0 h0)) (e.k.n != ↑(iC b.es e.k)+1) ((.d (.agg [(di 0),dG])):AV) (fun Za Zb Zc Zd Ze Zf=>((bT k F (.d (.agg [(di e.t),Zc])) (.d Za)∧aA Tryz.prog k 23 [Za,Zb] (di (dQ b.es e.k)))∧(((e.kind==0)=true)→((bT k F (.d (.agg [(di e.t),Zc])) (.d Za)∧aA Tryz.prog k 80 [Za,Zb] (di (↑(iC b.es e.k)))∧(I64 (↑(iC b.es e.k)+1)))∧((Ze=true)→aP k F w k Zd .ret ⟨regs 211 [(2,(.box 2 0)),(3,(.box 3 0)),(4,(.box 4 0)),(5,(vi 9)),(6,(vi (dQ b.es e.k))),(20,(.box 3 4)),(21,(vi e.t)),(22,(.box 2 0)),(23,(.d Za)),(24,(.box 3 1)),(25,(.d Zb)),(26,(vi (dQ b.es e.k))),(27,(.box 3 0)),(28,(vi e.kind)),(29,(vb (e.kind==0))),(30,(.box 3 1)),(31,(.box 3 3)),(32,(vi e.k.n)),(33,(.d Za)),(34,(.box 3 1)),(35,(.d Zb)),(36,(vi (↑(iC b.es e.k)))),(37,(vi (↑(iC b.es e.k)+1))),(38,(vb Ze)),(39,Zf)],[(2,[(vi e.t),(.d Zc)]),(3,fJ e),(4,[(vi 0),(.d dG)])]⟩)∧((Ze=false)→(bT k F (.d Zc) (.d (.slc 7 b.es.length (bK b.es)))∧((((↑b.es.length:Int)==256)=true)→aP k F w k Zd .ret ⟨regs 211 [(2,(.box 2 0)),(3,(.box 3 0)),(4,(.box 4 0)),(5,(vi 8)),(6,(vi (dQ b.es e.k))),(20,(.box 3 4)),(21,(vi e.t)),(22,(.box 2 0)),(23,(.d Za)),(24,(.box 3 1)),(25,(.d Zb)),(26,(vi (dQ b.es e.k))),(27,(.box 3 0)),(28,(vi e.kind)),(29,(vb (e.kind==0))),(30,(.box 3 1)),(31,(.box 3 3)),(32,(vi e.k.n)),(33,(.d Za)),(34,(.box 3 1)),(35,(.d Zb)),(36,(vi (↑(iC b.es e.k)))),(37,(vi (↑(iC b.es e.k)+1))),(38,(vb Ze)),(40,(.box 2 1)),(41,(.d (.slc 7 b.es.length (bK b.es)))),(42,(vi (↑b.es.length))),(43,(vb ((↑b.es.length:Int)==256))),(44,Zf)],[(2,[(vi e.t),(.d Zc)]),(3,fJ e),(4,[(vi 0),(.d dG)])]⟩)∧((((↑b.es.length:Int)==256)=false)→aK Tryz.prog k F w k [cd Tryz.f46 [1,1,1,1,1,0,1,0,1,1],cd Tryz.f46 [1,1,1,1,1,1]] ⟨regs 211 [(2,(.box 2 0)),(3,(.box 3 0)),(4,(.box 4 0)),(5,(vi 0)),(6,(vi (dQ b.es e.k))),(20,(.box 3 4)),(21,(vi e.t)),(22,(.box 2 0)),(23,(.d Za)),(24,(.box 3 1)),(25,(.d Zb)),(26,(vi (dQ b.es e.k))),(27,(.box 3 0)),(28,(vi e.kind)),(29,(vb (e.kind==0))),(30,(.box 3 1)),(31,(.box 3 3)),(32,(vi e.k.n)),(33,(.d Za)),(34,(.box 3 1)),(35,(.d Zb)),(36,(vi (↑(iC b.es e.k)))),(37,(vi (↑(iC b.es e.k)+1))),(38,(vb Ze)),(40,(.box 2 1)),(41,(.d (.slc 7 b.es.length (bK b.es)))),(42,(vi (↑b.es.length))),(43,(vb ((↑b.es.length:Int)==256)))],[(2,[(vi e.t),(.d Zc)]),(3,fJ e),(4,[(vi 0),(.d dG)])]⟩ Zd)))))∧(((e.kind==0)=false)→((((decide (dQ b.es e.k<0))=true)→aP k F w k Zd .ret ⟨regs 211 [(2,(.box 2 0)),(3,(.box 3 0)),(4,(.box 4 0)),(5,(vi 7)),(6,(vi (dQ b.es e.k))),(20,(.box 3 4)),(21,(vi e.t)),(22,(.box 2 0)),(23,(.d Za)),(24,(.box 3 1)),(25,(.d Zb)),(26,(vi (dQ b.es e.k))),(27,(.box 3 0)),(28,(vi e.kind)),(29,(vb (e.kind==0))),(58,(vi (dQ b.es e.k))),(59,(vb (decide (dQ b.es e.k<0)))),(60,Zf)],[(2,[(vi e.t),(.d Zc)]),(3,fJ e),(4,[(vi 0),(.d dG)])]⟩)∧(((decide (dQ b.es e.k<0))=false)→aK Tryz.prog k F w k [cd Tryz.f46 [1,1,1,1,1,1,1]] ⟨regs 211 [(2,(.box 2 0)),(3,(.box 3 0)),(4,(.box 4 0)),(5,(vi 0)),(6,(vi (dQ b.es e.k))),(20,(.box 3 4)),(21,(vi e.t)),(22,(.box 2 0)),(23,(.d Za)),(24,(.box 3 1)),(25,(.d Zb)),(26,(vi (dQ b.es e.k))),(27,(.box 3 0)),(28,(vi e.kind)),(29,(vb (e.kind==0))),(58,(vi (dQ b.es e.k))),(59,(vb (decide (dQ b.es e.k<0))))],[(2,[(vi e.t),(.d Zc)]),(3,fJ e),(4,[(vi 0),(.d dG)])]⟩ Zd))))) (by kernel_rfl) ?_
 refine⟨⟨hv,f23 ⟨e.t,b.es⟩ e.k hl⟩,fun c=>⟨⟨hv,f80 ⟨e.t,b.es⟩ e.k hl,by omega,by omega⟩,fun c2=>?_,fun c2=>⟨hv2,fun c3=>?_,fun c3=>?_⟩⟩,fun c=>⟨fun c2=>?_,fun c2=>?_⟩⟩
 ·have c:e.kind=0:=by simpa using c
  have c2:e.k.n≠(iC b.es e.k:Int)+1:=by simpa using c2
  exact um (code:=9) o rfl (by rw[hA,if_pos c,if_pos c2]) (by decide)
 ·have c:e.kind=0:=by simpa using c
  have c2:¬e.k.n≠(iC b.es e.k:Int)+1:=by simpa using c2
  have c3:b.es.length=256:=by
   have:(b.es.length:Int)=256:=by simpa using c3
   omega
  exact um (code:=8) o rfl (by rw[hA,if_pos c,if_neg c2,if_pos c3]) (by decide)
 ·have c:e.kind=0:=by simpa using c
  have c2:¬e.k.n≠(iC b.es e.k:Int)+1:=by simpa using c2
  have c3:¬b.es.length=256:=by
   have:¬(b.es.length:Int)=256:=by simpa using c3
   omega
  refine aK.weaken (st':=rC b e e.t (V 1)) ?_ (K1 c (by rw[hA,if_pos c,if_neg c2,if_neg c3]))
  exact AS.bD (by kernel_rfl)
 ·have c:e.kind≠0:=by simpa using c
  have c2:dQ b.es e.k<0:=dn c2
  have hf:dB b.es e.k=none:=by
   unfold dQ at c2
   cases hf:dB b.es e.k with
   | none=>rfl
   | some i=>rw[hf] at c2;have c2:(i:Int)<0:=c2;omega
  exact um (code:=7) o rfl (by rw[hA,if_neg c,hf]) (by decide)
 ·have c:e.kind≠0:=by simpa using c
  have c2:¬dQ b.es e.k<0:=of_decide_eq_false c2
  obtain ⟨i,hf⟩:∃i,dB b.es e.k=some i:=by
   unfold dQ at c2
   cases hf:dB b.es e.k with
   | none=>rw[hf] at c2;exact absurd (show (-1:Int)<0 by decide) c2
   | some i=>exact⟨i,rfl⟩
  have hfi:dQ b.es e.k=(i:Int):=by unfold dQ;rw[hf]
  refine aK.weaken (st':=EO b e (V 1) i) ?_ (K2 c i hf)
  refine AS.leZ [4] [] (b:=((T0∧T0∧T0∧T0∧((vi (dQ b.es e.k)):AV)=(vi (↑i))∧True)∧T0∧T0∧T0∧True)) (by kernel_rfl) (by kernel_rfl) ?_
  rw[hfi]
  exact⟨⟨rfl,rfl,rfl,rfl,rfl,trivial⟩,rfl,rfl,rfl,trivial⟩
structure lD (b:Bk) (w0:World) (h0 h:IH) (β:Nat→Nat) (V:Nat→Option Addr×Nat) (w:World) (on:Nat→Prop):Prop where
 q:Beside b h β V w
 le:h0.le h
 kept:Kept (fun _=>False) w0 w
 old:∀c,c<w0.heap.size→(∀o,h.cell c o=h0.cell c o)∧h.obj c=h0.obj c
 new:∀c,on c→w0.heap.size≤c∧¬oL β b.es.length c
 xX:∀c,oL β b.es.length c→w0.heap.size≤c
theorem lD.out {b:Bk} {w0 w:World} {h0 h:IH} {β:Nat→Nat} {V:Nat→Option Addr×Nat} {on:Nat→Prop} (a:lD b w0 h0 h β V w on):yY w0 h0 (IH.add h (oL β b.es.length) w) w on:=by
 obtain ⟨hle,_,_⟩:=a.q.rel
 refine⟨a.le.trans hle,a.kept,fun c hlt=>?_,fun c hc=>(a.new c hc).1⟩
 have hn:¬oL β b.es.length c:=fun hc=>by have:=a.xX c hc;omega
 exact⟨fun o=>by rw[IH.jT hn];exact(a.old c hlt).1 o,by rw[IH.xA];exact(a.old c hlt).2⟩
theorem lD.next {b:Bk} {w0 w w2:World} {h0 h h2:IH} {β β1 β2:Nat→Nat} {V:Nat→Option Addr×Nat} {on:Nat→Prop} {st:AS} {tm:Array Value} (a:lD b w0 h0 h β V w on) (g:aO h ⟨on,β1⟩ w h st β2 h2 tm w2):lD b w0 h0 h2 β V w2 (fun c=>∃s l,st.box s=some l∧Live β2 s l∧blk β2 s=c):=by
 refine⟨a.q.next g fun c hc=>(a.new c hc).2,a.le.trans g.glob,iL ((a.kept.mono fun _ hc=>hc.elim).trans (g.kept.mono fun c hc=>.inr (a.new c hc).1)),fun c hlt=>?_,?_,a.xX⟩
 ·obtain ⟨o1,o2⟩:=g.old c (Nat.lt_of_lt_of_le hlt a.kept.size) (fun hc=>by have:=(a.new c hc).1;omega)
  exact⟨fun o=>(o1 o).trans ((a.old c hlt).1 o),o2.trans (a.old c hlt).2⟩
 ·rintro c ⟨s,l,hl,hv,rfl⟩
  rcases ((g.box s l hl).1 hv).1 with r|r
  ·exact a.new _ r
  ·have r:w.heap.size≤blk β2 s:=r
   refine⟨Nat.le_trans a.kept.size r,?_⟩
   rintro ⟨t,t1,t2,t3,t4⟩
   have:=a.q.lt t t1 t2 t3
   omega
theorem abU {b:Bk} {e:Ev} {w0 w3 w:World} {h0 h2:IH} {F:Fr} {β:Nat→Nat} {V:Nat→Option Addr×Nat} (q:rP b w3 h2 β V w) (hh3:h2.holds w3) (hs:gq b.es) (ht:¬e.t<b.t) (hon:∀c,F.on c→w0.heap.size≤c∧c<w3.heap.size) (hk:Kept (fun _=>False) w0 w3) (hle:h0.le h2) (hold:∀c,c<w0.heap.size→(∀o,h2.cell c o=h0.cell c o)∧h2.obj c=h0.obj c)
  (K1:e.kind=0→jm b e=0→∀(h:IH) (β:Nat→Nat) (V:Nat→Option Addr×Nat) (w:World) (on:Nat→Prop) (β1:Nat→Nat),lD b w0 h0 h β V w on→aK Tryz.prog (IH.add h (oL β b.es.length) w) ⟨on,β1⟩ w (IH.add h (oL β b.es.length) w) [cd Tryz.f46 [1,1,1,1,1,0,1,0,1,1],cd Tryz.f46 [1,1,1,1,1,1]] (rC b e e.t (V 1)) (aS Tryz.prog Tryz.f46 (iU b e w0 h0)))
  (K2:e.kind≠0→∀i,dB b.es e.k=some i→∀(h:IH) (β:Nat→Nat) (V:Nat→Option Addr×Nat) (w:World) (on:Nat→Prop) (β1:Nat→Nat),lD b w0 h0 h β V w on→aK Tryz.prog (IH.add h (oL β b.es.length) w) ⟨on,β1⟩ w (IH.add h (oL β b.es.length) w) [cd Tryz.f46 [1,1,1,1,1,1,1]] (EO b e (V 1) i) (aS Tryz.prog Tryz.f46 (iU b e w0 h0))) :
  dV Tryz.prog h2 F w h2 (opsOf (aU (au Tryz.f46) [1,1,0])).toList 2 (1+0) (WC b e (V 1)) (wpS Tryz.prog [cd Tryz.f46 [1,1,1]] (aS Tryz.prog Tryz.f46 (iU b e w0 h0))):=by
 refine dV.tree (aj:={ d:=bG }) ?_
 refine iG (b:=aP h2 F w h2 (iP Tryz.prog (opsOf (aU (au Tryz.f46) [1,1,0])).toList (2+1) 0 (wpS Tryz.prog [cd Tryz.f46 [1,1,1]] (aS Tryz.prog Tryz.f46 (iU b e w0 h0)))) .normal ⟨regs 211 [(2,(.box 2 0)),(3,(.box 3 0)),(4,(.box 4 0)),(5,(vi 0)),(19,(.d (.agg [(di b.t),(.con (.slice (V 1).fst b.es.length (V 1).snd))])))],[(2,[(vi b.t),(.d (.con (.slice (V 1).fst b.es.length (V 1).snd)))]),(3,fJ e),(4,[(vi 0),(.d dG)])]⟩) (by kernel_rfl) ?_
 refine aP.kP ?_
 intro β5 h5 a5 w5 g5 hd5
 have g6:=g5.weaken (st':=rC b e b.t (V 1)) (by
  exact AS.bD (by kernel_rfl))
 have hcn:∀c,oL β b.es.length c→w3.heap.size≤c:=by
  rintro c ⟨s,s1,s2,s3,rfl⟩
  exact(q.new s s1 s2 s3).1
 have a0:lD b w0 h0 h2 β V w F.on:=by
  refine⟨q.beside hh3,hle,iL ((hk.mono fun _ hc=>hc.elim).trans (q.kept.mono fun _ hc=>hc.elim)),hold,fun c hc=>⟨(hon c hc).1,fun hq=>?_⟩,fun c hc=>?_⟩
  ·have:=hcn c hq;have:=(hon c hc).2;omega
  ·have:=hcn c hc;have:=hk.size;omega
 have a1:=a0.next (β1:=F.β0) g6
 obtain ⟨hle1,hkw,hrel⟩:=a1.q.rel
 have gk:=Ny (fZ g6) hle1 hkw (fun s l hl hv=>by
  obtain ⟨_,r1,r2⟩:=(g6.box s l hl).1 hv
  refine⟨fun o=>?_,by rw[IH.xA];exact r2⟩
  rw[IH.jT (a1.new _ ⟨s,l,hl,hv,rfl⟩).2];exact r1 o)
 exact(abL a1.out hrel hs ht (fun c1 c2=>K1 c1 c2 _ _ _ _ _ _ a1) (fun c1 i hi=>K2 c1 i hi _ _ _ _ _ _ a1)) β5 _ a5 w5 gk hd5
theorem Beside.keep {b:Bk} {h:IH} {β:Nat→Nat} {V:Nat→Option Addr×Nat} {w w2:World} {on:Nat→Prop} (q:Beside b h β V w) (hk:Kept on w w2) (hw:h.holds w2) (hon:∀c,on c→¬oL β b.es.length c):Beside b h β V w2:=by
 have hno:∀s,1≤s→s<2*b.es.length+2→0<room β s→¬on (blk β s):=fun s h1 h2 h3 hc=>hon _ hc ⟨s,h1,h2,h3,rfl⟩
 exact⟨hw,q.ent.keep hk fun h0=>hno 1 (by omega) (by omega) h0,fun i hi=>(q.gr i hi).keep hk fun h0=>hno _ (by omega) (by omega) h0,fun i hi=>(q.ap i hi).keep hk fun h0=>hno _ (by omega) (by omega) h0,fun s h1 h2 h3=>Nat.lt_of_lt_of_le (q.lt s h1 h2 h3) hk.size,q.unk,q.inj⟩
theorem lD.down {b:Bk} {w0 w w2:World} {h0 h k k2:IH} {β β1 β2:Nat→Nat} {V:Nat→Option Addr×Nat} {on:Nat→Prop} {st:AS} {tm:Array Value} (a:lD b w0 h0 h β V w on) (hk:k=IH.add h (oL β b.es.length) w) (g:aO k ⟨on,β1⟩ w k st β2 k2 tm w2) (hr:AV.kV st.regs=true) (hb:∀s l,st.box s=some l→pU l) :
  lD b w0 h0 h β V w2 (fun c=>∃s l,st.box s=some l∧Live β2 s l∧blk β2 s=c)∧aO h ⟨fun c=>∃s l,st.box s=some l∧Live β2 s l∧blk β2 s=c,β2⟩ w2 h st β2 h tm w2:=by
 obtain ⟨hle,_,_⟩:=a.q.rel
 rw[←hk] at hle
 have hl2:h.le k2:=hle.trans g.glob
 have hw2:h.holds w2:=⟨fun c o v e=>g.holds.1 c o v (hl2.1 c o v e),fun c o e=>g.holds.2 c o (hl2.2 c o e)⟩
 refine⟨⟨a.q.keep g.kept hw2 fun c hc=>(a.new c hc).2,a.le,iL ((a.kept.mono fun _ hc=>hc.elim).trans (g.kept.mono fun c hc=>.inr (a.new c hc).1)),a.old,?_,a.xX⟩,?_⟩
 ·rintro c ⟨s,l,hl,hv,rfl⟩
  rcases ((g.box s l hl).1 hv).1 with r|r
  ·exact a.new _ r
  ·have r:w.heap.size≤blk β2 s:=r
   refine⟨Nat.le_trans a.kept.size r,?_⟩
   rintro ⟨t,t1,t2,t3,t4⟩
   have:=a.q.lt t t1 t2 t3
   omega
 ·refine g.anew (G':=h) (k:=h) (F':=⟨fun c=>∃s l,st.box s=some l∧Live β2 s l∧blk β2 s=c,β2⟩) (IH.le.refl _) hw2 hr hb (fun s l hl hv=>?_) (fun s l hl hv=>⟨s,l,hl,hv,rfl⟩) fun _ _=>⟨rfl,rfl,rfl⟩
  obtain ⟨_,q1,q2⟩:=(g.box s l hl).1 hv
  refine⟨fun o=>?_,?_⟩
  ·cases e:h.cell (blk β2 s) o with
   | none=>rfl
   | some x=>have:=hl2.1 _ _ _ e;rw[q1] at this;cases this
  ·cases e:h.obj (blk β2 s) with
   | none=>rfl
   | some x=>have:=hl2.2 _ _ e;rw[q2] at this;cases this
noncomputable abbrev adn (b:Bk) (e:Ev) (V:Nat→Option Addr×Nat):AS:=⟨(rC b e e.t (V 1)).regs,(1000001,[.arr fO 7 (bJ V b.es)]) :: (rC b e e.t (V 1)).boxes⟩
def abN (n:Nat):Nat→Option AV
 | 46=>some (.vec 1000001 7 0 n)
 | _=>none
theorem Au {h:IH} {F:Fr} {K:RK} {sz m bk c:Nat} {f:Nat→DV} {o:Option Obj} {p:PC} (hv:cZ h K sz m f bk c (.slice p.1 m p.2) o) {e:Nat} (he:K0≤e) (n1:0<c→blk F.β0 e=bk) (n2:room F.β0 e=c) (n3:many F.β0 e=m):bT G F (.d (.con (.slice p.1 m p.2))) (.vec e sz 0 m):=by
 have hmr:=hv.row.1.1
 obtain ⟨p',hp,hpp⟩:=hv.val
 simp only[Value.slice.injEq,true_and] at hp
 obtain ⟨e1,e2⟩:=hp
 intro β1 h1 u _ hf r
 have r:u=_:=r
 subst r
 obtain ⟨f1,f2,f3⟩:=hf e he
 refine⟨by rw[f3,n3];omega,by rw[f2,f3,n2,n3];exact hmr,p',?_,?_⟩
 ·rw[f2,n2,e1,e2];rfl
 ·rw[f1,f2,n2]
  by_cases h0:0<c
  ·rw[n1 h0,Nat.zero_mul];exact hpp.imp id fun e=>by omega
  ·right;omega
theorem aaX {b:Bk} {e:Ev} {w0 w:World} {h0 h:IH} {β β1:Nat→Nat} {V:Nat→Option Addr×Nat} {on:Nat→Prop} (hs:gq b.es) (h0k:e.kind=0) (hc:jm b e=0) (a:lD b w0 h0 h β V w on):aK Tryz.prog (IH.add h (oL β b.es.length) w) ⟨on,β1⟩ w (IH.add h (oL β b.es.length) w) [cd Tryz.f46 [1,1,1,1,1,0,1,0,1,1],cd Tryz.f46 [1,1,1,1,1,1]] (rC b e e.t (V 1)) (aS Tryz.prog Tryz.f46 (iU b e w0 h0)):=by
 have hl:=hs.1
 intro β2 k2 a2 w2 g2 hd2
 obtain ⟨b2,g3⟩:=a.down rfl g2 (by kernel_rfl) (fun s l hl=>by
  simp only[rC,AS.box,Go.Ab.look] at hl
  by_cases e1:(2:Nat)=s
  ·subst e1;simp at hl;subst hl;rfl
  ·rw[aQ e1,cond_false] at hl
   by_cases e2:(3:Nat)=s
   ·subst e2;simp at hl;subst hl;rfl
   ·rw[aQ e2,cond_false] at hl
    by_cases e3:(4:Nat)=s
    ·subst e3;simp at hl;subst hl;rfl
    ·rw[aQ e3,cond_false] at hl;cases hl)
 obtain ⟨bb,hb1,hb2,g4⟩:=ownRow (rs:=(rC b e e.t (V 1)).regs) (bs:=(rC b e e.t (V 1)).boxes) g3 (e:=1000001) b2.q.ent (fun h0=>b2.q.unk 1 (by omega) (by omega) h0) (fun h0 t l hl hv he=>(b2.new _ ⟨t,l,hl,hv,rfl⟩).2 ⟨1,by omega,by omega,h0,he.symm⟩) (by kernel_rfl) (by kernel_rfl)
 have hW:aK Tryz.prog h ⟨fun k=>(∃s l,(rC b e e.t (V 1)).box s=some l∧Live β2 s l∧blk β2 s=k)∨k=bb,upd β2 1000001 bb (room β 1) b.es.length⟩ w2 h [cd Tryz.f46 [1,1,1,1,1,0,1,0,1,1],cd Tryz.f46 [1,1,1,1,1,1]] (adn b e V) (aS Tryz.prog Tryz.f46 (iU b e w0 h0)):=by
  refine dX (aj:={ d:=bG,rows:=fun n=>Nat.beq n 54 }) follows (abN b.es.length) (cuts:=[]) (n:=1000) ?_
  refine je ((.vec 55 7 0 (b.es.length+1)):AV) (fun Za=>((bT h (Fr.mk (fun k=>(∃s l,(rC b e e.t (V 1)).box s=some l∧Live β2 s l∧blk β2 s=k)∨k=bb) (upd β2 1000001 bb (room β 1) b.es.length)) (.d (.con (.slice (V 1).fst b.es.length (V 1).snd))) (.vec 1000001 7 0 b.es.length)∧((b.es.length+1)*112≤1099511627776)∧(b.es.length+1≤1099511627776))∧aP h (Fr.mk (fun k=>(∃s l,(rC b e e.t (V 1)).box s=some l∧Live β2 s l∧blk β2 s=k)∨k=bb) (upd β2 1000001 bb (room β 1) b.es.length)) w2 h (aS Tryz.prog Tryz.f46 (iU b e w0 h0)) .ret ⟨regs 211 [(2,(.box 2 0)),(3,(.box 3 0)),(4,(.box 4 0)),(5,(vi 0)),(45,(.box 2 1)),(46,(.vec 1000001 7 0 b.es.length)),(47,(.box 3 1)),(48,(.d (.agg [(ds e.k.st),(ds e.k.ex),(di e.k.n)]))),(49,(.box 3 4)),(50,(vi e.t)),(51,(.box 3 7)),(52,(vs e.s)),(53,(.d (.agg [(ds e.k.st),(ds e.k.ex),(di e.k.n),(di e.t),(ds e.s),dG,dG]))),(54,(.vec 54 7 0 1)),(55,Za),(56,(.box 2 1)),(57,(.agg [(vi e.t),Za]))],[(55,[(.arr eP 7 (fun i=>bif i.blt b.es.length then bJ V b.es i else aW true 7 [ds e.k.st,ds e.k.ex,di e.k.n,di e.t,ds e.s,dG,dG] (0+(i-b.es.length))))]),(54,[(.arr eP 7 (aW true 7 [(ds e.k.st),(ds e.k.ex),(di e.k.n),(di e.t),(ds e.s),dG,dG]))]),(1000001,[.dead]),(2,[(vi e.t),Za]),(3,fJ e),(4,[(vi e.t),Za])]⟩)) (by kernel_rfl) ?_
  try dsimp only
  have Yb:=b2.q.ent.row.1.1
  refine⟨⟨Au (p:=V 1) b2.q.ent (by decide) (fun h0=>by rw[aT];exact hb1 h0) (aH ..) (bH ..),by omega,by omega⟩,?_⟩
  refine vN (x:=.agg [.d (di e.t),.vec 55 7 0 (b.es.length+1)]) (y:=.d (di 0)) rfl rfl fun β3 k3 tm w3 v u g5 hv hu=>?_
  have hu:u=.int .i64 0:=hu
  subst hu
  obtain ⟨vs,rfl,v0,vs1,rfl,r0,v1,vs2,rfl,⟨hm1,hm2,p,hp,hpp⟩,r2⟩:=hv
  have r2:vs2=[]:=r2
  have r0:v0=.int .i64 e.t:=r0
  subst r2 r0
  rw[Nat.sub_zero] at hp
  subst hp
  obtain ⟨c1,c2⟩:=g5.box 55 _ rfl
  have hO:dw k3 fO 7 (MK V b.es e) (room β3 55) (many β3 55) w3.heap[blk β3 55]?:=c2
  have hpp:p=some ⟨blk β3 55,0,none⟩∨room β3 55=0:=hpp.imp (fun e=>by simpa using e) fun e=>by omega
  have hE:cZ k3 fO 7 (b.es.length+1) (MK V b.es e) (blk β3 55) (room β3 55) (.slice p (b.es.length+1) (room β3 55)) w3.heap[blk β3 55]?:=⟨⟨p,rfl,hpp⟩,dw.less hO rfl (by omega) fun _ _=>rfl⟩
  have hon:∀c,((∃s l,(rC b e e.t (V 1)).box s=some l∧Live β2 s l∧blk β2 s=c)∨c=bb)→w0.heap.size≤c∧∀s,2≤s→s<2*b.es.length+2→0<room β s→c≠blk β s:=by
   rintro c (hc|rfl)
   ·obtain ⟨n1,n2⟩:=b2.new c hc
    exact⟨n1,fun s s1 s2 s3 s4=>n2 ⟨s,by omega,s2,s3,s4.symm⟩⟩
   ·by_cases h1:0<room β 1
    ·rw[hb1 h1]
     refine⟨b2.xX _ ⟨1,by omega,by omega,h1,rfl⟩,fun s s1 s2 s3 s4=>?_⟩
     have:=b2.q.inj 1 s (by omega) (by omega) (by omega) s2 h1 s3 s4
     omega
    ·rw[hb2 h1]
     refine⟨b2.kept.size,fun s s1 s2 s3 s4=>?_⟩
     have:=b2.q.lt s (by omega) s2 s3
     omega
  have hno:∀s,2≤s→s<2*b.es.length+2→0<room β s→¬((∃t l,(rC b e e.t (V 1)).box t=some l∧Live β2 t l∧blk β2 t=blk β s)∨blk β s=bb):=fun s s1 s2 s3 hc=>(hon _ hc).2 s s1 s2 s3 rfl
  have GH:0<room β3 55→w0.heap.size≤blk β3 55∧∀o,k3.cell (blk β3 55) o=none:=fun h0=>by
   obtain ⟨q1,q2,_⟩:=c1 h0
   refine⟨?_,q2⟩
   rcases q1 with q1|q1
   ·exact(hon _ q1).1
   ·have q1:w2.heap.size≤blk β3 55:=q1
    exact Nat.le_trans b2.kept.size q1
  let S:Nat→Prop:=fun c=>(∃s,2≤s∧s<2*b.es.length+2∧0<room β s∧blk β s=c)∨(0<room β3 55∧c=blk β3 55)
  have hle:k3.le (IH.add k3 S w3):=IH.rF fun c hc=>by
   rcases hc with ⟨s,s1,s2,s3,rfl⟩|⟨h0,rfl⟩
   ·intro o
    rw[(g5.old _ (b2.q.lt s (by omega) s2 s3) (hno s s1 s2 s3)).1 o]
    exact(b2.q.unk s (by omega) s2 s3).1 o
   ·exact(GH h0).2
  have hhK:h.le (IH.add k3 S w3):=g5.glob.trans hle
  have hin:∀s,2≤s→s<2*b.es.length+2→0<room β s→∀o,(IH.add k3 S w3).cell (blk β s) o=w3.cell? ⟨blk β s,o,none⟩:=fun s s1 s2 s3 o=>IH.nC (.inl ⟨s,s1,s2,s3,rfl⟩)
  have hrel:DV.rel (IH.add k3 S w3) (jI (b.es++[nO e])) (.slice p (b.es.length+1) (room β3 55)):=by
   have hl1:(b.es++[nO e]).length=b.es.length+1:=iE _ _
   show DV.rel _ (.slc 7 (b.es++[nO e]).length (bK (b.es++[nO e]))) _
   rw[hl1]
   refine xB (fun i hi y hy=>?_) (hE.slc hle fun h0 o=>IH.nC (.inr ⟨h0,rfl⟩))
   have hy:DV.rel (IH.add k3 S w3) (MK V b.es e i) y:=hy
   unfold MK at hy
   by_cases c:i<b.es.length
   ·rw[show i.blt b.es.length=true from by rw[Nat.blt_eq];exact c,cond_true] at hy
    show DV.rel _ (zi ((b.es++[nO e]).getD i en0)) y
    rw[nH c]
    exact xP (((b2.q.gr i c).keep g5.kept fun h0=>hno _ (by omega) (by omega) h0).slc hhK fun h0 o=>hin _ (by omega) (by omega) h0 o) (((b2.q.ap i c).keep g5.kept fun h0=>hno _ (by omega) (by omega) h0).slc hhK fun h0 o=>hin _ (by omega) (by omega) h0 o) hy
   ·obtain rfl:i=b.es.length:=by omega
    rw[show b.es.length.blt b.es.length=false from by rw[Bool.eq_false_iff,ne_eq,Nat.blt_eq];omega,cond_false,Nat.sub_self] at hy
    show DV.rel _ (zi ((b.es++[nO e]).getD b.es.length en0)) y
    rw[nK]
    exact xP (u:=ED) (v:=ED) ⟨none,0,rfl,Nat.le_refl _,.inl rfl⟩ ⟨none,0,rfl,Nat.le_refl _,.inl rfl⟩ hy
  have hB:rB b e=⟨e.t,b.es++[nO e]⟩:=by
   unfold rB gQ dY
   rw[if_pos hc,if_pos h0k]
  refine⟨_,IH.add k3 S w3,by rw[hc],?_,b2.le.trans hhK,IH.add_holds g5.holds,iL ((b2.kept.mono fun _ hc=>hc.elim).trans (g5.kept.mono fun c hc=>.inr (hon c hc).1)),fun c hlt=>?_⟩
  ·rw[hB]
   exact⟨_,rfl,_,_,rfl,rfl,_,_,rfl,hrel,rfl⟩
  ·have hS:¬S c:=by
    rintro (⟨s,s1,s2,s3,rfl⟩|⟨h0,rfl⟩)
    ·have:=b2.xX _ ⟨s,by omega,s2,s3,rfl⟩;omega
    ·have:=(GH h0).1;omega
   have hk2:=b2.kept.size
   obtain ⟨o1,o2⟩:=g5.old c (by omega) (fun hc=>by have:=(hon c hc).1;omega)
   exact⟨fun o=>by rw[IH.jT hS];exact(o1 o).trans ((b2.old c hlt).1 o),by rw[IH.xA];exact o2.trans (b2.old c hlt).2⟩
 exact hW _ h a2 w2 g4 hd2
def C9 (β:Nat→Nat) (n c:Nat):Prop:=∃s,2≤s∧s<2*n+2∧0<room β s∧blk β s=c
theorem Beside.lists {b:Bk} {h:IH} {β:Nat→Nat} {V:Nat→Option Addr×Nat} (q:Beside b h β V w):h.le (IH.add h (C9 β b.es.length) w)∧(IH.add h (C9 β b.es.length) w).holds w:=
 ⟨IH.rF fun c ⟨s,h1,h2,h3,h4⟩=>by rw[←h4];exact(q.unk s (by omega) h2 h3).1,IH.add_holds q.hold⟩
theorem lD.read {b:Bk} {w0 w w2:World} {h0 h k k2:IH} {β β1 β2:Nat→Nat} {V:Nat→Option Addr×Nat} {on:Nat→Prop} {rs:List AV} {bs:List (Nat×List AV)} {tm:Array Value} (a:lD b w0 h0 h β V w on) (hk:k=IH.add h (oL β b.es.length) w) (g:aO k ⟨on,β1⟩ w k ⟨rs,bs⟩ β2 k2 tm w2) (hr:AV.kV rs=true) (hb:∀s l,Go.Ab.look bs s=some l→pU l)
  (hfe:AV.frees 1000001 rs=true) (hbe:(bs.all fun p=>AV.frees 1000001 p.2&&!(Nat.beq p.1 1000001))=true) :
  ∃(fV:Nat→Prop) (bb:Nat),(0<room β 1→bb=blk β 1)∧(¬0<room β 1→bb=w2.heap.size)∧lD b w0 h0 h β V w2 fV∧
   aO (IH.add h (C9 β b.es.length) w2) ⟨fun c=>fV c∨c=bb,upd β2 1000001 bb (room β 1) b.es.length⟩ w2 (IH.add h (C9 β b.es.length) w2) ⟨rs,(1000001,[.arr fO 7 (bJ V b.es)]) :: bs⟩ (upd β2 1000001 bb (room β 1) b.es.length) (IH.add h (C9 β b.es.length) w2) tm w2:=by
 obtain ⟨b2,g3⟩:=a.down hk g hr hb
 obtain ⟨l1,l2⟩:=b2.q.lists
 have g4:=Ny g3 l1 l2 fun s l hl hv=>by
  obtain ⟨_,r1,r2⟩:=(g3.box s l hl).1 hv
  refine⟨fun o=>?_,r2⟩
  rw[IH.jT]
  ·exact r1 o
  ·rintro ⟨t,t1,t2,t3,t4⟩
   exact(b2.new _ ⟨s,l,hl,hv,rfl⟩).2 ⟨t,by omega,t2,t3,t4⟩
 obtain ⟨bb,hb1,hb2,g5⟩:=ownRow (rs:=rs) (bs:=bs) g4 (e:=1000001) (b2.q.ent.mono l1) (fun h0=>by
  obtain ⟨u1,u2⟩:=b2.q.unk 1 (by omega) (by omega) h0
  refine⟨fun o=>?_,u2⟩
  rw[IH.jT]
  ·exact u1 o
  ·rintro ⟨t,t1,t2,t3,t4⟩
   have:=b2.q.inj t 1 (by omega) t2 (by omega) (by omega) t3 h0 t4
   omega) (fun h0 t l hl hv he=>(b2.new _ ⟨t,l,hl,hv,rfl⟩).2 ⟨1,by omega,by omega,h0,he.symm⟩) hfe hbe
 exact⟨_,bb,hb1,hb2,b2,g5⟩
structure O6 (b:Bk) (w0 w2:World) (β:Nat→Nat) (s:Nat) (on:Nat→Prop):Prop where
 new:∀c,on c→w0.heap.size≤c
 ap:∀c,on c→∀t,2≤t→t<2*b.es.length+2→t≠s→0<room β t→c≠blk β t
theorem lD.list {b:Bk} {w0 w2 w4:World} {h0 h k k4:IH} {β β3 β4:Nat→Nat} {V:Nat→Option Addr×Nat} {fV:Nat→Prop} {bb:Nat} (b2:lD b w0 h0 h β V w2 fV) (hb1:0<room β 1→bb=blk β 1) (hb2:¬0<room β 1→bb=w2.heap.size) (hk:k=IH.add h (C9 β b.es.length) w2)
  {rs:List AV} {bs:List (Nat×List AV)} {tm:Array Value} (g:aO k ⟨fun c=>fV c∨c=bb,β3⟩ w2 k ⟨rs,bs⟩ β4 k4 tm w4) (hr:AV.kV rs=true) (hb:∀s l,Go.Ab.look bs s=some l→pU l)
  {s:Nat} (hs2:2≤s) (hs:s<2*b.es.length+2) {K:RK} {sz m:Nat} {f:Nat→DV} {v:Value} (hv:cZ h K sz m f (blk β s) (room β s) v w2.heap[blk β s]?)
  (hfe:AV.frees 1000002 rs=true) (hbe:(bs.all fun p=>AV.frees 1000002 p.2&&!(Nat.beq p.1 1000002))=true) :
  ∃(on:Nat→Prop) (bc:Nat),(0<room β s→bc=blk β s)∧O6 b w0 w2 β s on∧h.holds w4∧Kept (fun c=>fV c∨c=bb) w2 w4∧
   aO h ⟨on,upd β4 1000002 bc (room β s) m⟩ w4 h ⟨rs,(1000002,[.arr K sz f]) :: bs⟩ (upd β4 1000002 bc (room β s) m) h tm w4:=by
 have hle:h.le k:=by rw[hk];exact b2.q.lists.1
 have hl2:h.le k4:=hle.trans g.glob
 have hw4:h.holds w4:=⟨fun c o v e=>g.holds.1 c o v (hl2.1 c o v e),fun c o e=>g.holds.2 c o (hl2.2 c o e)⟩
 have SN:∀t,2≤t→t<2*b.es.length+2→0<room β t→¬(fV (blk β t)∨blk β t=bb):=by
  rintro t t1 t2 t3 (q|q)
  ·exact(b2.new _ q).2 ⟨t,by omega,t2,t3,rfl⟩
  ·by_cases h1:0<room β 1
   ·rw[hb1 h1] at q
    have:=b2.q.inj t 1 (by omega) t2 (by omega) (by omega) t3 h1 q
    omega
   ·rw[hb2 h1] at q
    have:=b2.q.lt t (by omega) t2 t3
    omega
 have hnew:∀c,(fV c∨c=bb)→w0.heap.size≤c:=by
  rintro c (q|rfl)
  ·exact(b2.new _ q).1
  ·by_cases h1:0<room β 1
   ·rw[hb1 h1];exact b2.xX _ ⟨1,by omega,by omega,h1,rfl⟩
   ·rw[hb2 h1];exact b2.kept.size
 have hbx:∀t l,Go.Ab.look bs t=some l→Live β4 t l→w0.heap.size≤blk β4 t∧∀u,2≤u→u<2*b.es.length+2→0<room β u→blk β4 t≠blk β u:=by
  intro t l hl hv
  rcases ((g.box t l hl).1 hv).1 with q|q
  ·exact⟨hnew _ q,fun u u1 u2 u3 he=>SN u u1 u2 u3 (by rw[←he];exact q)⟩
  ·have q:w2.heap.size≤blk β4 t:=q
   refine⟨Nat.le_trans b2.kept.size q,fun u u1 u2 u3 he=>?_⟩
   have:=b2.q.lt u (by omega) u2 u3
   omega
 have g2:=g.anew (G':=h) (k:=h) (F':=⟨fun c=>∃s l,Go.Ab.look bs s=some l∧Live β4 s l∧blk β4 s=c,β4⟩) (IH.le.refl _) hw4 hr hb (fun s l hl hv=>by
  obtain ⟨_,q1,q2⟩:=(g.box s l hl).1 hv
  refine⟨fun o=>?_,?_⟩
  ·cases e:h.cell (blk β4 s) o with
   | none=>rfl
   | some x=>have:=hl2.1 _ _ _ e;rw[q1] at this;cases this
  ·cases e:h.obj (blk β4 s) with
   | none=>rfl
   | some x=>have:=hl2.2 _ _ e;rw[q2] at this;cases this) (fun s l hl hv=>⟨s,l,hl,hv,rfl⟩) fun _ _=>⟨rfl,rfl,rfl⟩
 obtain ⟨bc,c1,c2,g3⟩:=ownRow (rs:=rs) (bs:=bs) g2 (e:=1000002) (hv.keep g.kept fun h0=>SN s hs2 hs h0) (fun h0=>b2.q.unk s (by omega) hs h0) (fun h0 t l hl hv he=>(hbx t l hl hv).2 s hs2 hs h0 he) hfe hbe
 refine⟨_,bc,c1,⟨?_,?_⟩,hw4,g.kept,g3⟩
 ·rintro c (⟨t,l,hl,hv,rfl⟩|rfl)
  ·exact(hbx t l hl hv).1
  ·by_cases h1:0<room β s
   ·rw[c1 h1];exact b2.xX _ ⟨s,by omega,hs,h1,rfl⟩
   ·rw[c2 h1];exact Nat.le_trans b2.kept.size g.kept.size
 ·rintro c (⟨t,l,hl,hv,rfl⟩|rfl) u u1 u2 u3 u4
  ·exact(hbx t l hl hv).2 u u1 u2 u4
  ·by_cases h1:0<room β s
   ·rw[c1 h1]
    exact fun he=>u3 (b2.q.inj u s (by omega) u2 (by omega) hs u4 h1 he.symm)
   ·rw[c2 h1]
    intro he
    have h1:=b2.q.lt u (by omega) u2 u4
    have h2:=g.kept.size
    omega
theorem ZB {b:Bk} {e:Ev} {w0 w2 w4 w5 w6:World} {h0 h h5 k6:IH} {β:Nat→Nat} {V:Nat→Option Addr×Nat} {fV:Nat→Prop} {bb:Nat} (b2:lD b w0 h0 h β V w2 fV) (hb1:0<room β 1→bb=blk β 1) (hb2:¬0<room β 1→bb=w2.heap.size) {i s:Nat} (hi:i<b.es.length) (hs:s=2*i+2∨s=2*i+3) {F:Fr} {st:AS} {β6:Nat→Nat} {tm:Array Value}
  (hon:O6 b w0 w2 β s F.on) (hk:Kept (fun c=>fV c∨c=bb) w2 w4) {RG:Nat→Prop} (hk5:Kept RG w4 w5) (Ih:O6 b w0 w2 β s RG) (hh5:∀c,c<w4.heap.size→¬RG c→(∀o,h5.cell c o=h.cell c o)∧h5.obj c=h.obj c) (g:aO h F w5 h5 st β6 k6 tm w6)
  (n1:(0<room β 1→blk F.β0 1000001=blk β 1)∧room F.β0 1000001=room β 1∧many F.β0 1000001=b.es.length) {x':En} {p:Option Addr} {c bk:Nat} {f:Nat→DV} (e1:st.box 1000001=some [.arr fO 7 f]) (hf:∀j,j<b.es.length→f j=bJ (eU V s (p,c)) (b.es.set i x') j)
  (hg:(∀t,2≤t→t<2*b.es.length+2→t≠s→0<room β t→w6.heap[blk β t]?=w2.heap[blk β t]?)→cZ k6 jU 4 x'.gs.length (dP x'.gs) (blk (upd β s bk c 0) (2*i+2)) (room (upd β s bk c 0) (2*i+2)) (sv (eU V s (p,c)) (2*i+2) x'.gs.length) w6.heap[blk (upd β s bk c 0) (2*i+2)]?)
  (ha:(∀t,2≤t→t<2*b.es.length+2→t≠s→0<room β t→w6.heap[blk β t]?=w2.heap[blk β t]?)→cZ k6 iZ 6 x'.ah.length (dI x'.ah) (blk (upd β s bk c 0) (2*i+3)) (room (upd β s bk c 0) (2*i+3)) (sv (eU V s (p,c)) (2*i+3) x'.ah.length) w6.heap[blk (upd β s bk c 0) (2*i+3)]?)
  (hnew:0<c→(∀o,k6.cell bk o=none)∧w0.heap.size≤bk) (hB:rB b e=⟨e.t,b.es.set i x'⟩) (hc:jm b e=0) :
  iU b e w0 h0 (.tuple #[.agg #[.int .i64 e.t,sv V 1 b.es.length],.int .i64 0]) w6:=by
 have s24:=hk.size
 have s45:=hk5.size
 have SN:∀t,2≤t→t<2*b.es.length+2→0<room β t→¬(fV (blk β t)∨blk β t=bb):=by
  rintro t t1 t2 t3 (q|q)
  ·exact(b2.new _ q).2 ⟨t,by omega,t2,t3,rfl⟩
  ·by_cases h1:0<room β 1
   ·rw[hb1 h1] at q
    have:=b2.q.inj t 1 (by omega) t2 (by omega) (by omega) t3 h1 q
    omega
   ·rw[hb2 h1] at q
    have:=b2.q.lt t (by omega) t2 t3
    omega
 have hnew2:∀c,(fV c∨c=bb)→w0.heap.size≤c:=by
  rintro c (q|rfl)
  ·exact(b2.new _ q).1
  ·by_cases h1:0<room β 1
   ·rw[hb1 h1];exact b2.xX _ ⟨1,by omega,by omega,h1,rfl⟩
   ·rw[hb2 h1];exact b2.kept.size
 have hsame:∀t,2≤t→t<2*b.es.length+2→t≠s→0<room β t→w6.heap[blk β t]?=w2.heap[blk β t]?:=fun t t1 t2 t3 t4=>by
  have hlt:=b2.q.lt t (by omega) t2 t4
  rw[g.kept.block _ (by omega) (fun q=>hon.ap _ q t t1 t2 t3 t4 rfl),hk5.block _ (by omega) (fun q=>Ih.ap _ q t t1 t2 t3 t4 rfl),hk.block _ hlt (SN t t1 t2 t4)]
 have hvk:∀{K:RK} {sz n:Nat} {f:Nat→DV} {v:Value} {t:Nat},cZ h K sz n f (blk β t) (room β t) v w2.heap[blk β t]?→(0<room β t→w6.heap[blk β t]?=w2.heap[blk β t]?)→cZ k6 K sz n f (blk β t) (room β t) v w6.heap[blk β t]?:=by
  intro K sz n f v t hv he
  refine cZ.mono g.glob ⟨hv.val,hv.row.1,?_⟩
  by_cases h1:0<room β t
  ·rw[he h1];exact hv.row.2
  ·exact .inl (by omega)
 have hgg:=hg hsame
 have haa:=ha hsame
 have bo:∀t,t≠s→blk (upd β s bk c 0) t=blk β t∧room (upd β s bk c 0) t=room β t:=fun t ht=>⟨aZ ht,bI ht⟩
 obtain ⟨d1,d2,d3⟩:=g.fix 1000001 (by decide)
 obtain ⟨o1,o2⟩:=g.box _ _ e1
 have o2:dw k6 fO 7 f (room β6 1000001) (many β6 1000001) w6.heap[blk β6 1000001]?:=o2
 have hE:cZ k6 fO 7 b.es.length (bJ (eU V s (p,c)) (b.es.set i x')) (blk β 1) (room β 1) (sv V 1 b.es.length) w6.heap[blk β 1]?:=by
  refine⟨b2.q.ent.val,?_⟩
  rw[d2,n1.2.1,d3,n1.2.2,d1] at o2
  by_cases h1:0<room β 1
  ·rw[n1.1 h1] at o2
   exact dw.less o2 rfl (Nat.le_refl _) hf
  ·exact⟨b2.q.ent.row.1,.inl (by omega)⟩
 have hu1:0<room β 1→∀o,k6.cell (blk β 1) o=none:=fun h1=>by
  have hl:Live β6 1000001 [.arr fO 7 f]:=by
   show 0<room β6 1000001
   rw[d2,n1.2.1];exact h1
  have:=(o1 hl).2.1
  rw[d1,n1.1 h1] at this
  exact this
 have hut:∀t,2≤t→t<2*b.es.length+2→t≠s→0<room β t→∀o,k6.cell (blk β t) o=none:=fun t t1 t2 t3 t4 o=>by
  have hlt:=b2.q.lt t (by omega) t2 t4
  rw[(g.old _ (by omega) (fun q=>hon.ap _ q t t1 t2 t3 t4 rfl)).1 o,(hh5 _ (by omega) (fun q=>Ih.ap _ q t t1 t2 t3 t4 rfl)).1 o]
  exact(b2.q.unk t (by omega) t2 t4).1 o
 have hs2:2≤s:=by omega
 let S:Nat→Prop:=fun x=>(∃t,1≤t∧t<2*b.es.length+2∧t≠s∧0<room β t∧blk β t=x)∨(0<c∧x=bk)
 have hle:k6.le (IH.add k6 S w6):=IH.rF fun x hx=>by
  rcases hx with ⟨t,t1,t2,t3,t4,rfl⟩|⟨q,rfl⟩
  ·by_cases e:t=1
   ·subst e;exact hu1 t4
   ·exact hut t (by omega) t2 t3 t4
  ·exact(hnew q).1
 have hin:∀t,1≤t→t<2*b.es.length+2→t≠s→0<room β t→∀o,(IH.add k6 S w6).cell (blk β t) o=w6.cell? ⟨blk β t,o,none⟩:=fun t t1 t2 t3 t4 o=>IH.nC (.inl ⟨t,t1,t2,t3,t4,rfl⟩)
 have hin2:∀t,(2≤t∧t<2*b.es.length+2)→0<room (upd β s bk c 0) t→∀o,(IH.add k6 S w6).cell (blk (upd β s bk c 0) t) o=w6.cell? ⟨blk (upd β s bk c 0) t,o,none⟩:=fun t t1 t2 o=>by
  by_cases e:t=s
  ·subst e
   rw[aH] at t2
   rw[aT]
   exact IH.nC (.inr ⟨t2,rfl⟩)
  ·rw[(bo t e).2] at t2
   rw[(bo t e).1]
   exact hin t (by omega) t1.2 e t2 o
 have hlen:(b.es.set i x').length=b.es.length:=List.length_set
 have hxi:(b.es.set i x').getD i en0=x':=by rw[List.getD,List.getElem?_set_self hi];rfl
 have hx:∀j,j≠i→(b.es.set i x').getD j en0=b.es.getD j en0:=fun j hj=>by
  rw[List.getD,List.getD,List.getElem?_set_ne (Ne.symm hj)]
 have hrel:DV.rel (IH.add k6 S w6) (jI (b.es.set i x')) (sv V 1 b.es.length):=by
  show DV.rel _ (.slc 7 (b.es.set i x').length (bK (b.es.set i x'))) _
  rw[hlen]
  refine xB (fun j hj y hy=>?_) (hE.slc hle fun h1 o=>hin 1 (by omega) (by omega) (by omega) h1 o)
  by_cases e:j=i
  ·subst e
   have hg3:=hgg.slc hle fun h1 o=>hin2 _ ⟨by omega,by omega⟩ h1 o
   have ha3:=haa.slc hle fun h1 o=>hin2 _ ⟨by omega,by omega⟩ h1 o
   show DV.rel _ (zi ((b.es.set j x').getD j en0)) y
   have hy:DV.rel (IH.add k6 S w6) (.agg (jv ((b.es.set j x').getD j en0) (sv (eU V s (p,c)) (2*j+2) ((b.es.set j x').getD j en0).gs.length) (sv (eU V s (p,c)) (2*j+3) ((b.es.set j x').getD j en0).ah.length))) y:=hy
   rw[hxi] at hy⊢
   exact xP hg3 ha3 hy
  ·show DV.rel _ (zi ((b.es.set i x').getD j en0)) y
   have hy:DV.rel (IH.add k6 S w6) (.agg (jv ((b.es.set i x').getD j en0) (sv (eU V s (p,c)) (2*j+2) ((b.es.set i x').getD j en0).gs.length) (sv (eU V s (p,c)) (2*j+3) ((b.es.set i x').getD j en0).ah.length))) y:=hy
   rw[hx j e,dW _ (by omega),dW _ (by omega)] at hy
   rw[hx j e]
   exact xP ((hvk (b2.q.gr j hj) fun h1=>hsame _ (by omega) (by omega) (by omega) h1).slc hle fun h1 o=>hin _ (by omega) (by omega) (by omega) h1 o) ((hvk (b2.q.ap j hj) fun h1=>hsame _ (by omega) (by omega) (by omega) h1).slc hle fun h1 o=>hin _ (by omega) (by omega) (by omega) h1 o) hy
 refine⟨_,IH.add k6 S w6,by rw[hc],?_,b2.le.trans (g.glob.trans hle),IH.add_holds g.holds,iL ((((b2.kept.mono fun _ hc=>hc.elim).trans (hk.mono fun c hc=>.inr (hnew2 c hc))).trans (hk5.mono fun c hc=>.inr (Ih.new c hc))).trans (g.kept.mono fun c hc=>.inr (hon.new c hc))),fun x hlt=>?_⟩
 ·rw[hB]
  exact⟨_,rfl,_,_,rfl,rfl,_,_,rfl,hrel,rfl⟩
 ·have hS:¬S x:=by
   rintro (⟨t,t1,t2,t3,t4,rfl⟩|⟨q,rfl⟩)
   ·have:=b2.xX _ ⟨t,t1,t2,t4,rfl⟩;omega
   ·have:=(hnew q).2;omega
  have hk2:=b2.kept.size
  obtain ⟨o1,o2⟩:=g.old x (by omega) (fun hc=>by have:=hon.new x hc;omega)
  obtain ⟨p1,p2⟩:=hh5 x (by omega) (fun hc=>by have:=Ih.new x hc;omega)
  exact⟨fun o=>by rw[IH.jT hS];exact((o1 o).trans (p1 o)).trans ((b2.old x hlt).1 o),by rw[IH.xA];exact(o2.trans p2).trans (b2.old x hlt).2⟩
end Go.Proofs
