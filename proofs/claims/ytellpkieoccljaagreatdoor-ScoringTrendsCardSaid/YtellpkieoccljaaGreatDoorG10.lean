import Derived.Test.YtellpkieoccljaaGreatDoorAcD
import Derived.Test.YtellpkieoccljaaGreatDoorG7
import Derived.Test.YtellpkieoccljaaGreatDoorG8
import Derived.Test.YtellpkieoccljaaGreatDoorG9
set_option autoImplicit false
namespace Go.Proofs
open Go Go.Ab Go.RowKit
set_option maxHeartbeats 4000000
set_option maxRecDepth 100000
variable {G:IH}
/-! The deciding atoms,by the reference. -/
section
variable (Fl F:List Ft) (l:List Fc) (ws:List ByteArray) (m:Nat) (x:Ex) (first:Int) (hx:ht x≤m)
include hx
variable (hs:Sm x) (hl:x.kids.length=2) (hk:x.k=19∨x.k=20) (hf:0≤first∧first+jV x≤100000) {v b:Bool} (hv:gu F l ws x=({ eY 1 with tr:=v },0)) (hb:gu F l ws (x.kids.getD 0 ak)=({ eY 1 with tr:=b },0))
 (hV:aj Tryz.prog G 50 [bG m x,iJ Fl] (.au [eX { eY 1 with tr:=v },di 0])) (hB:aj Tryz.prog G 50 [aS m x 0,iJ Fl] (.au [eX { eY 1 with tr:=b },di 0]))
 (h57:aj Tryz.prog G 57 [aS m x 0] (qG m (bM (x.kids.getD 0 ak))))
include hs hl hk hf hv hb hV hB h57
end
/-! Reasons,by the reference. -/
section
variable (hT:Tab G) (F:List Ft) (L:List Fc) (h:∀i,i<L.length→sS (L.getD i aG)) (hl:L.length≤1000) (hF:F.length≤100000) (m:Nat) (x:Ex) (hx:ht x≤m) (hs:Sm x)
include hT h hl hF hx hs
end
/-! Atoms. -/
def atR (L:List Fc) (x:Ex):List Ex:=if (aP L x).2.2=0∧(aP L x).1=1 then bM x else []
/-! An expression is itself;the law about atoms and reasons. -/
noncomputable def d4 (x:Ex) (F:List Ft) (L:List Fc) (m:Nat) (e:Bool):aZ:=fun f a=>match f,a with
 | 10,[]=>some (db true)
 | 11,[_,_,_]=>some (db (qE x F L))
 | 16,[_,_]=>some (qG m (atR L x))
 | 17,[_,_]=>some (qG m (atR L x))
 | 18,[_,_]=>some (db true)
 | 19,[_,_,_]=>match e with|true=>some (.au [.con (.slice none 0 0),di (Gz F L x).2])|false=>none
 | 20,[_,_,_]=>match e with|true=>some (.au [.con (.slice none 0 0),di (Gz F L x).2])|false=>none
 | 21,[_,_]=>some (db true)
 | _,_=>none
/-! afA: Rw. -/
theorem cZ.res {f:FuncId} {args:List AV} {pre post post':List (Nat×List AV)} {r r':AV} (hle:AS.jq ⟨[r],post⟩ ⟨[r'],post'⟩) (h:cZ Tryz.prog G f args pre r post):cZ Tryz.prog G f args pre r' post':=
 ⟨h.1,fun F w h0 β us g=>(h.2 F w h0 β us g).mono fun e w' ⟨v,β',h',e1,g1⟩=>
  let ⟨β2,g2⟩:=hle G F w h0 β' h' #[v] w' g1
  ⟨v,β2,h',e1,g2⟩⟩
/-! afA of facts;a value as a fraction. -/
abbrev aaY:RK:=⟨true,32,false,none⟩
theorem f33 (F:List Ft) (h0:0<F.length) (hL:F.length≤100000):cZ Tryz.prog G 33 [.d (iJ F)] [] (.vec 900 6 0 F.length) [(900,[.arr aaY 6 (kT F)])]:=by
 refine cZ.walk (ay:=jo) (keep:=[]) [(5,900),(7,900)] follows (by kernel_rfl) Tryz.func33 rfl Tryz.call33 ?_
 refine aA (fun _ _ _ _=>((0<F.length)∧((false=true)→(((.d (.con (.slice none 0 0))):AV)=(.vec 900 6 0 F.length)∧(none:(Option (List AV)))=(some [(.arr ⟨true,32,false,none⟩ 6 (kT F))])∧True))∧((false=false)→(((((0+F.length)*64≤1099511627776)∧(0+F.length≤1099511627776))∧(∀(i:Nat),i<F.length→jW true 6 (kT F i)=true))∧((.vec 900 6 0 (0+F.length)):AV)=(.vec 900 6 0 F.length)∧((some [(.arr ⟨true,32,false,none⟩ 6 (fun i=>bif i.blt 0 then DV.con undef else kT F (i-0)))]):(Option (List AV)))=(some [(.arr ⟨true,32,false,none⟩ 6 (kT F))])∧True)))) (by kernel_rfl) ?_
 exact⟨h0,fun h=>(by cases h),fun _=>⟨⟨⟨by omega,by omega⟩,fun i _=>rfl⟩,by rw[Nat.zero_add],rfl,trivial⟩⟩
theorem f34 (f:Ft):aj Tryz.prog G 34 [eX f] (fr (BA f).1 (BA f).2):=by
 refine aj.aK (ay:=jo) (keep:=[]) follows Tryz.func34 rfl Tryz.call34 ?_
 refine aA (fun _ _ _ _=>((((f.kind==0)=true)→(((.agg [(di f.n),(di f.d)]):DV)=(fr (BA f).fst (BA f).snd)))∧(((f.kind==0)=false)→(((f.tr=true)→(((.agg [(di 1),(di 1)]):DV)=(fr (BA f).fst (BA f).snd)))∧((f.tr=false)→(((.agg [(di 0),(di 1)]):DV)=(fr (BA f).fst (BA f).snd))))))) (by kernel_rfl) ?_
 unfold BA
 refine⟨fun h=>by rw[if_pos (eq_of_beq h)],fun h=>?_⟩
 rw[if_neg (beq_eq_false_iff_ne.1 h)]
 exact⟨fun h=>by rw[if_pos h],fun h=>by rw[if_neg (by rw[h];decide)]⟩
/-! The law of ScoringTrends. -/
def rkG (k n d:Int) (t:Bool):gY:=BA ⟨.empty,k,n,d,t,.empty⟩
theorem agw (f:Ft):rkG f.kind f.n f.d f.tr=BA f:=rfl
noncomputable def d9 (x:Ex) (F:List Ft) (L:List Fc) (w:Ft×Int):aZ:=fun f a=>match f,a with
 | 10,[]=>some (db true)
 | 11,[_,_,_]=>some (db (qE x F L))
 | 14,[_,_]=>some (db (gJ F L))
 | 12,[_,_,_]=>some (.au [eX w.1,di w.2])
 | 25,[fr a b,fr c d]=>some (.au [di (dM a b c d),db (iF a b c d)])
 | 34,[.agg [.con (.string _),.con (.int .i64 k),.con (.int .i64 n),.con (.int .i64 d),.con (.bool t),.con (.string _)]]=>some (fr (rkG k n d t).1 (rkG k n d t).2)
 | 35,[_,.con (.string s),_]=>some (di (Iu L x s))
 | _,_=>none
def m9 (F:List Ft):FuncId→List AV→List (Nat×List AV)→Option (AV×List (Nat×List AV)):=fun f _ _=>match f with
 | 33=>some (.vec 900 6 0 F.length,[(900,[.arr aaY 6 (kT F)])])
 | _=>none
noncomputable def aeB (x:Ex) (F:List Ft) (L:List Fc) (w:Ft×Int):iq:={ d:=d9 x F L w,m:=m9 F }
noncomputable def S9 (x:Ex) (F:List Ft) (L:List Fc) (m i:Nat) (a b:Int):AS:=⟨regs Tryz.f9.ntmps [(1,.d (iJ F)),(2,.d (fC L)),(5,.box 5 0),(9,.box 9 0),(11,vi i),(12,.vec 46900 6 0 F.length)],[(5,l7 m x),(9,[vi a,vi b]),(46900,[.arr aaY 6 (kT F)])]⟩
noncomputable def S9t (x:Ex) (F F':List Ft) (L:List Fc) (m i:Nat):AS:=⟨regs Tryz.f9.ntmps [(1,.d (iJ F)),(2,.d (fC L)),(5,.box 5 0),(11,vi i),(12,.d (iJ F'))],[(5,l7 m x)]⟩
noncomputable def S9u (x:Ex) (F F':List Ft) (L:List Fc) (m i:Nat) (w:Ft×Int):AS:=⟨regs Tryz.f9.ntmps [(1,.d (iJ F)),(2,.d (fC L)),(5,.box 5 0),(11,vi i),(12,.d (iJ F')),(15,.box 15 0),(16,vi w.2)],[(5,l7 m x),(15,[vs w.1.nm,vi w.1.kind,vi w.1.n,vi w.1.d,.d (db w.1.tr),vs w.1.wd])]⟩
noncomputable abbrev ac4:List It:=[.code (dR (aQ Tryz.f9) [1,1,1,1,1,1])]
theorem tail9 (hT:Tab G) (m:Nat) (x:Ex) (F F':List Ft) (L:List Fc) (i:Nat) (hx:ht x≤m) (hs:Sm x) (h:∀i,i<L.length→sS (L.getD i aG)) (hl:L.length≤1000) (hF:F.length≤100000) (hF':F'.length=F.length) (hi:i<F.length) (h1:gJ F L=true) (hr:gJ F' L=true→ad5 L (F.getD i aJ).nm (bC F F.length) (bC F' F'.length)) :
  aC Tryz.prog G ac4 (S9t x F F' L m i) (fF Tryz.prog Tryz.f9 (db true)):=by
 refine aK (ay:=aeB x F L (dU F L x)) (keep:=[]) (cuts:=[17]) (n:=1000) follows ?_
 refine aA (fun ZT ZW ZQ ZK=>(ZK 12 [(aB m x),(.slc 6 F.length (kT F)),(.slc 7 L.length (gV L))] (.au [(.agg [(ds (dU F L x).fst.nm),(di (dU F L x).fst.kind),(di (dU F L x).fst.n),(di (dU F L x).fst.d),(db (dU F L x).fst.tr),(ds (dU F L x).fst.wd)]),(di (dU F L x).snd)])∧ZW [cd Tryz.f9 [1,1,1,1,1,1,1]] (aI ZT []) ZQ)) (by kernel_rfl) ?_
 refine⟨f12 hT F L h hl hF m x hx hs,?_⟩
 refine aC.weaken (st':=S9u x F F' L m i (dU F L x)) ?_ ?_
 ·exact AS.dB (by kernel_rfl)
 refine aK (ay:=aeB x F L (dU F' L x)) (keep:=[]) (cuts:=[]) (n:=1000) follows ?_
 refine aA (fun _ _ _ ZK=>(fun Za Zb Zc Zd=>(ZK 12 [(aB m x),(.slc 6 F'.length (kT F')),(.slc 7 L.length (gV L))] (.au [Zc,(di (dU F' L x).snd)])∧((Zd=true)→(ZS ((db true):DV)))∧((Zd=false)→((ZK 34 [(.agg [(ds (dU F L x).fst.nm),(di (dU F L x).fst.kind),(di (dU F L x).fst.n),(di (dU F L x).fst.d),(db (dU F L x).fst.tr),(ds (dU F L x).fst.wd)])] (.agg [(di Zb.fst),(di Zb.snd)])∧ZK 34 [Zc] (.agg [(di Za.fst),(di Za.snd)])∧ZK 25 [(.agg [(di Zb.fst),(di Zb.snd)]),(.agg [(di Za.fst),(di Za.snd)])] (.au [(di (dM Zb.fst Zb.snd Za.fst Za.snd)),(db (iF Zb.fst Zb.snd Za.fst Za.snd))]))∧(((0≤(↑i:Int))∧((↑i:Int)<↑F.length))∧ZK 35 [(aB m x),(ds (F.getD (↑i:Int).toNat aJ).nm),(.slc 7 L.length (gV L))] (di (Iu L x (F.getD (↑i:Int).toNat aJ).nm)))∧(((Iu L x (F.getD (↑i:Int).toNat aJ).nm==0)=true)→(((db (iF Zb.fst Zb.snd Za.fst Za.snd&&dM Zb.fst Zb.snd Za.fst Za.snd==0)):DV)=(db true)))∧(((Iu L x (F.getD (↑i:Int).toNat aJ).nm==0)=false)→((((Iu L x (F.getD (↑i:Int).toNat aJ).nm==1)=true)→(((db (iF Zb.fst Zb.snd Za.fst Za.snd&&decide (dM Zb.fst Zb.snd Za.fst Za.snd≤0))):DV)=(db true)))∧(((Iu L x (F.getD (↑i:Int).toNat aJ).nm==1)=false)→((((Iu L x (F.getD (↑i:Int).toNat aJ).nm==2)=true)→(((db (iF Zb.fst Zb.snd Za.fst Za.snd&&decide (dM Zb.fst Zb.snd Za.fst Za.snd≥0))):DV)=(db true)))∧(((Iu L x (F.getD (↑i:Int).toNat aJ).nm==2)=false)→(((db (iF Zb.fst Zb.snd Za.fst Za.snd)):DV)=(db true))))))))))) (rkG (dU F' L x).fst.kind (dU F' L x).fst.n (dU F' L x).fst.d (dU F' L x).fst.tr) (rkG (dU F L x).fst.kind (dU F L x).fst.n (dU F L x).fst.d (dU F L x).fst.tr) ((.agg [(ds (dU F' L x).fst.nm),(di (dU F' L x).fst.kind),(di (dU F' L x).fst.n),(di (dU F' L x).fst.d),(db (dU F' L x).fst.tr),(ds (dU F' L x).fst.wd)]):DV) ((dU F L x).snd != 0||(dU F' L x).snd != 0||(dU F L x).fst.kind==2)) (by kernel_rfl) ?_
 simp only[Int.toNat_natCast,agw]
 refine⟨f12 hT F' L h hl (by omega) m x hx hs,fun _=>trivial,fun c=>?_⟩
 simp only[Bool.or_eq_false_iff,bne_eq_false_iff_eq,beq_eq_false_iff_ne] at c
 obtain ⟨⟨c1,c2⟩,c3⟩:=c
 have h2:gJ F' L=true:=by
  refine Classical.byContradiction fun hh=>?_
  unfold dU at c2
  rw[if_neg hh] at c2
  cases c2
 obtain ⟨t0,t1,t2,t3⟩:=agS h1 h2 (hr h2) c1 c2 c3
 have o:∀b:Bool,b=true→(DV.con (.bool b))=db true:=fun b h=>by rw[h]
 refine⟨⟨f34 _,f34 _,f25 _ _ _ _⟩,⟨⟨by omega,by omega⟩,f35 hT m x _ L hx hs h hl⟩,fun d=>o _ ?_,fun d=>⟨fun d2=>o _ ?_,fun d2=>⟨fun d3=>o _ ?_,fun d3=>o _ t0⟩⟩⟩
 ·rw[aT]
  exact⟨t0,beq_iff_eq.2 (t1 (eq_of_beq d))⟩
 ·rw[aT]
  exact⟨t0,decide_eq_true (t2 (eq_of_beq d2))⟩
 ·rw[aT]
  exact⟨t0,decide_eq_true (t3 (eq_of_beq d3))⟩
noncomputable def S9r (x:Ex) (F F':List Ft) (L:List Fc) (m i:Nat):AS:=⟨regs Tryz.f9.ntmps [(1,.d (iJ F)),(2,.d (fC L)),(5,.box 5 0),(11,vi i),(12,.vec 46900 6 0 F.length)],[(5,l7 m x),(46900,[.arr aaY 6 (kT F')])]⟩
theorem agF {m:Nat} {x:Ex} {F F':List Ft} {L:List Fc} {i:Nat} (hF':F'.length=F.length) (h:aC Tryz.prog G ac4 (S9t x F F' L m i) (fF Tryz.prog Tryz.f9 (db true))):aC Tryz.prog G ac4 (S9r x F F' L m i) (fF Tryz.prog Tryz.f9 (db true)):=by
 refine aC.freeze (agg:=aaY) (sz:=6) (f:=kT F') 46900 (by kernel_rfl) ?_
 refine aC.pre (.reg _ 12 (.d (iJ F')) fun β h v hv=>?_) (aC.weaken ?_ h)
 ·have hv:DV.rel h (.slc 6 F.length fun i=>kT F' (0+i)) v:=hv
  show DV.rel h (.slc 6 F'.length _) v
  rw[hF']
  exact DV.dJ (fun i hi=>by rw[Nat.zero_add]) hv
 ·exact AS.dB (by kernel_rfl)
theorem agh {α:Type} {l:List α} {n:Nat} {a d:α} (h:n<l.length):(l.set n a).getD n d=a:=by rw[List.getD,List.getElem?_set_self h];rfl
theorem ag5 {α:Type} {l:List α} {n i:Nat} {a d:α} (h:n≠i):(l.set n a).getD i d=l.getD i d:=by rw[List.getD,List.getElem?_set_ne h];rfl
theorem aex {F:List Ft} {i:Nat} (hi:i<F.length) {y:Ft} (j:Nat):(bif Nat.beq j i then eX y else kT F j)=kT (F.set i y) j:=by
 unfold kT
 by_cases h:j=i
 ·subst h
  rw[Nat.beq_refl,agh hi];rfl
 ·rw[show Nat.beq j i=false from by rw[Bool.eq_false_iff,ne_eq,Nat.beq_eq];exact h,ag5 (fun hh=>h hh.symm)];rfl
theorem f9 (hT:Tab G) (m:Nat) (x:Ex) (F:List Ft) (L:List Fc) (q a b:Int) (hx:ht x≤m) (hw:rP x) (hl:L.length≤9223372036854775807) (Sl:F.length≤9223372036854775807) (hw2:∀i,i<L.length→PX (L.getD i aG)) (hq:0≤q∧q≤255) :
  aj Tryz.prog G 9 [bG m x,iJ F,fC L,.con (.int .u8 q),fr a b] (db true):=by
 have er:ah (aB m x)=x:=fU hx
 refine aj.iE Tryz.func9 rfl Tryz.call9 ?_
 refine aK (ay:=aeB x F L (aJ,0)) (keep:=[]) (cuts:=[7]) (n:=1000) follows ?_
 refine aA (fun ZT ZW ZQ ZK=>(ZK 10 [] (db true)∧((false=true)→(((db false):DV)=(db true)))∧((false=false)→((ZK 11 [(aB m x),(.slc 6 F.length (kT F)),(.slc 7 L.length (gV L))] (db (qE x F L))∧(((!(!qE x F L||(↑F.length:Int)==0))=true)→ZK 14 [(.slc 6 F.length (kT F)),(.slc 7 L.length (gV L))] (db (gJ F L))))∧(((!qE x F L||(↑F.length:Int)==0||!gJ F L)=true)→(ZS ((db true):DV)))∧(((!qE x F L||(↑F.length:Int)==0||!gJ F L)=false)→(((↑F.length:Int)≠0)∧cZ Tryz.prog G 33 [(.d (.slc 6 F.length (kT F)))] [] (.vec 900 6 0 F.length) [(900,[(.arr ⟨true,32,false,none⟩ 6 (kT F))])]∧ZW [cd Tryz.f9 [1,1,1,1,1,0],cd Tryz.f9 [1,1,1,1,1,1]] (aI ZT [1,1]) ZQ)))))) (by kernel_rfl) ?_
 have hfew:qE x F L=true→acs x F L:=fun h=>P6 hw h
 refine⟨f10 hT,fun h=>Bool.noConfusion h,fun _=>⟨⟨f11 m x F L hx hw hl Sl hw2,fun c=>?_⟩,fun _=>rfl,fun c=>?_⟩⟩
 ·have h:=hfew (by revert c;cases qE x F L<;>simp)
  exact f14 hT F L h.fc (by have:=h.ll;omega) (by have:=h.lf;omega)
 simp only[Bool.or_eq_false_iff,Bool.not_eq_false',beq_eq_false_iff_ne] at c
 obtain ⟨⟨c1,c2⟩,c3⟩:=c
 have h:=hfew c1
 have hll:L.length≤1000:=by have:=h.ll;omega
 have hlf:F.length≤100000:=by have:=h.lf;omega
 refine⟨c2,f33 F (by omega) (by omega),?_⟩
 obtain ⟨i,hi,ei⟩:∃i:Nat,i<F.length∧q.tmod F.length=i:=⟨(q.tmod F.length).toNat,by
  have:=Int.tmod_lt_of_pos q (b:=F.length) (by omega)
  omega,by
  have:=Int.tmod_nonneg (F.length:Int) hq.1
  omega⟩
 refine aC.weaken (st':=S9 x F L m i a b) ?_ ?_
 ·refine AS.leZ [4] [] (b:=((T0∧T0∧T0∧T0∧((vi ((IntKind.i64.wrap q).tmod ↑F.length)):AV)=(vi (↑i))∧T0∧True)∧T0∧T0∧T0∧True)) (by kernel_rfl) (by kernel_rfl) ?_
  refine⟨⟨rfl,rfl,rfl,rfl,?_,rfl,trivial⟩,rfl,rfl,rfl,trivial⟩
  rw[nY ⟨by omega,by omega⟩,ei]
 refine aK (ay:=aeB x F L (aJ,0)) (keep:=[]) (cuts:=[16]) (n:=1000) follows ?_
 refine aA (fun ZT ZW ZQ ZK=>(fun Za Zb=>(((0≤(↑i:Int))∧((↑i:Int)<↑F.length))∧(((Zb.kind==0)=true)→(((0≤(↑i:Int))∧((↑i:Int)<↑F.length))∧(((0≤(↑i:Int))∧((↑i:Int)<↑F.length))∧ZK 25 [(.agg [(di (F.getD (↑i:Int).toNat aJ).n),(di (F.getD (↑i:Int).toNat aJ).d)]),(.agg [(di a),(di b)])] (.au [(di (dM (F.getD (↑i:Int).toNat aJ).n (F.getD (↑i:Int).toNat aJ).d a b)),(db (iF (F.getD (↑i:Int).toNat aJ).n (F.getD (↑i:Int).toNat aJ).d a b))]))∧((Za=true)→(ZS ((db true):DV)))∧((Za=false)→ZW [cd Tryz.f9 [1,1,1,1,1,1]] (aI ZT [0,1]) ZQ)))∧(((Zb.kind==0)=false)→((((Zb.kind==1)=true)→(((0≤(↑i:Int))∧((↑i:Int)<↑F.length))∧ZW [cd Tryz.f9 [1,1,1,1,1,1]] (aI ZT [1,0]) ZQ))∧(((Zb.kind==1)=false)→(ZS ((db true):DV))))))) (!iF (F.getD (↑i:Int).toNat aJ).n (F.getD (↑i:Int).toNat aJ).d a b||decide (dM (F.getD (↑i:Int).toNat aJ).n (F.getD (↑i:Int).toNat aJ).d a b>0)) (F.getD (0+(↑i:Int).toNat) aJ)) (by kernel_rfl) ?_
 have hR:∀y:Ft,y.nm=(F.getD i aJ).nm→((F.getD i aJ).kind=0→qv (F.getD i aJ).n (F.getD i aJ).d≤qv y.n y.d)→((F.getD i aJ).tr=true→y.tr=true)→gJ (F.set i y) L=true→ad5 L (F.getD i aJ).nm (bC F F.length) (bC (F.set i y) (F.set i y).length):=fun y h1 h2 h3 h4=>afR (DR c3) (DR h4) hi h1 h2 h3
 have tail:∀y:Ft,y.nm=(F.getD i aJ).nm→((F.getD i aJ).kind=0→qv (F.getD i aJ).n (F.getD i aJ).d≤qv y.n y.d)→((F.getD i aJ).tr=true→y.tr=true)→aC Tryz.prog G ac4 (S9r x F (F.set i y) L m i) (fF Tryz.prog Tryz.f9 (db true)):=fun y h1 h2 h3=>
  agF (List.length_set ..) (tail9 hT m x F _ L i hx h.sm h.fc hll hlf (List.length_set ..) hi c3 (hR y h1 h2 h3))
 refine⟨⟨by omega,by omega⟩,fun k0=>⟨⟨by omega,by omega⟩,⟨⟨by omega,by omega⟩,f25 _ _ _ _⟩,fun _=>rfl,fun c=>?_⟩,fun k0=>⟨fun k1=>⟨⟨by omega,by omega⟩,?_⟩,fun _=>rfl⟩⟩
 ·have k0:(F.getD i aJ).kind=0:=by simpa using k0
  rw[Bool.or_eq_false_iff,Bool.not_eq_false',decide_eq_false_iff_not] at c
  have e1:ok2 (F.getD i aJ).n (F.getD i aJ).d a b=true:=c.1
  have e2:¬fG (F.getD i aJ).n (F.getD i aJ).d a b>0:=c.2
  unfold ok2 at e1
  rw[aT] at e1
  have i1:Is ((F.getD i aJ).n,(F.getD i aJ).d) (qv (F.getD i aJ).n (F.getD i aJ).d):=⟨e1.1,rfl⟩
  have i2:Is (a,b) (qv a b):=⟨e1.2,rfl⟩
  refine aC.weaken (st':=S9r x F (F.set i { F.getD i aJ with n:=a,d:=b }) L m i) ?_ (tail _ rfl (fun _=>(Aw i1 i2).2.2.1 (by show fG (F.getD i aJ).n (F.getD i aJ).d a b≤0;omega)) (fun h=>h))
  refine AS.leZ [] [1] (b:=((T0∧T0∧T0∧T0∧T0∧True)∧T0∧((some [(.arr ⟨true,32,false,none⟩ 6 (fun j=>bif j.beq (0+(↑i:Int).toNat) then DV.agg (List.take (0+2) [DV.con (Value.string (F.getD (0+(↑i:Int).toNat) aJ).nm),DV.con (Value.int IntKind.i64 (F.getD (0+(↑i:Int).toNat) aJ).kind),DV.con (Value.int IntKind.i64 (F.getD (0+(↑i:Int).toNat) aJ).n),DV.con (Value.int IntKind.i64 (F.getD (0+(↑i:Int).toNat) aJ).d),DV.con (Value.bool (F.getD (0+(↑i:Int).toNat) aJ).tr),DV.con (Value.string (F.getD (0+(↑i:Int).toNat) aJ).wd)]++[di a,di b]++List.drop (0+2+2) [DV.con (Value.string (F.getD (0+(↑i:Int).toNat) aJ).nm),DV.con (Value.int IntKind.i64 (F.getD (0+(↑i:Int).toNat) aJ).kind),DV.con (Value.int IntKind.i64 (F.getD (0+(↑i:Int).toNat) aJ).n),DV.con (Value.int IntKind.i64 (F.getD (0+(↑i:Int).toNat) aJ).d),DV.con (Value.bool (F.getD (0+(↑i:Int).toNat) aJ).tr),DV.con (Value.string (F.getD (0+(↑i:Int).toNat) aJ).wd)]) else kT F j))]):(Option (List AV)))=(some [(.arr ⟨true,32,false,none⟩ 6 (kT (F.set i (Ft.mk (F.getD i aJ).nm (F.getD i aJ).kind a b (F.getD i aJ).tr (F.getD i aJ).wd))))])∧True)) (by kernel_rfl) (by kernel_rfl) ?_
  refine⟨⟨rfl,rfl,rfl,rfl,rfl,trivial⟩,rfl,congrArg (fun f=>some [AV.arr aaY 6 f]) (funext fun j=>?_),trivial⟩
  rw[←aex hi,Nat.zero_add];rfl
 ·have k0:(F.getD i aJ).kind≠0:=by simpa using k0
  refine aC.weaken (st':=S9r x F (F.set i { F.getD i aJ with tr:=true }) L m i) ?_ (tail _ rfl (fun h=>absurd h k0) (fun _=>rfl))
  refine AS.leZ [] [1] (b:=((T0∧T0∧T0∧T0∧T0∧True)∧T0∧((some [(.arr ⟨true,32,false,none⟩ 6 (fun j=>bif j.beq (0+(↑i:Int).toNat) then DV.agg (List.take (0+4) [DV.con (Value.string (F.getD (0+(↑i:Int).toNat) aJ).nm),DV.con (Value.int IntKind.i64 (F.getD (0+(↑i:Int).toNat) aJ).kind),DV.con (Value.int IntKind.i64 (F.getD (0+(↑i:Int).toNat) aJ).n),DV.con (Value.int IntKind.i64 (F.getD (0+(↑i:Int).toNat) aJ).d),DV.con (Value.bool (F.getD (0+(↑i:Int).toNat) aJ).tr),DV.con (Value.string (F.getD (0+(↑i:Int).toNat) aJ).wd)]++[DV.con (Value.bool true)]++List.drop (0+4+1) [DV.con (Value.string (F.getD (0+(↑i:Int).toNat) aJ).nm),DV.con (Value.int IntKind.i64 (F.getD (0+(↑i:Int).toNat) aJ).kind),DV.con (Value.int IntKind.i64 (F.getD (0+(↑i:Int).toNat) aJ).n),DV.con (Value.int IntKind.i64 (F.getD (0+(↑i:Int).toNat) aJ).d),DV.con (Value.bool (F.getD (0+(↑i:Int).toNat) aJ).tr),DV.con (Value.string (F.getD (0+(↑i:Int).toNat) aJ).wd)]) else kT F j))]):(Option (List AV)))=(some [(.arr ⟨true,32,false,none⟩ 6 (kT (F.set i (Ft.mk (F.getD i aJ).nm (F.getD i aJ).kind (F.getD i aJ).n (F.getD i aJ).d true (F.getD i aJ).wd))))])∧True)) (by kernel_rfl) (by kernel_rfl) ?_
  refine⟨⟨rfl,rfl,rfl,rfl,rfl,trivial⟩,rfl,congrArg (fun f=>some [AV.arr aaY 6 f]) (funext fun j=>?_),trivial⟩
  rw[←aex hi,Nat.zero_add];rfl
end Go.Proofs
