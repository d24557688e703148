import Derived.Test.YtellpkieoccljaaGreatDoorProg
import Derived.Test.YtellpkieoccljaaGreatDoorAcC
import Derived.Lib.ItoaLen
import Derived.Test.YtellpkieoccljaaGreatDoorAcD
import Derived.WalkSmall
import Derived.Lib.AtoiTie
import Derived.Lib.AtoiAllCases
import Derived.Lib.ItoaNum
import Derived.Lib.IndexLaws
import Derived.Lib.Bytealg
import Derived.Shelf.Small.Wraps
import Derived.Shelf.Strconv.Itoa0
import Derived.Shelf.Strconv.Itoa1
import Derived.Shelf.LaysM
import Derived.Shelf.Strconv.Itoa2
import Derived.Shelf.Strconv.Itoa3
import Derived.Shelf.Strings.Search1
import Derived.Shelf.Strings.Search2
import Derived.Shelf.Strings.Cut
import Derived.Shelf.Strings.Shaped
import Derived.Lib.CutLaws
set_option autoImplicit false
namespace Go.Proofs
open Go Go.Ab
set_option maxHeartbeats 1000000
set_option maxRecDepth 100000
theorem follows:Tryz.prog.follows .mixedOrders=true:=by kernel_rfl
@[match_pattern] abbrev fr (n d:Int):DV:=.agg [di n,di d]
def ok (n d:Int):Bool:=decide (1≤d∧d≤1000000∧-1000000000≤n∧n≤1000000000∧Int.gcd n d=1)
abbrev FE:=Int×Int×Int
def fe (x:FE):DV:=.au [fr x.1 x.2.1,di x.2.2]
def oJ (n d:Int):FE:=if ok (n.tdiv (Int.gcd n d)) (d.tdiv (Int.gcd n d)) then (n.tdiv (Int.gcd n d),d.tdiv (Int.gcd n d),0) else (0,0,2)
def red (n d:Int):FE:=if d<0 then oJ (-n) (-d) else oJ n d
def big (n:Int):Bool:=decide (-1000000000000000≤n∧n≤1000000000000000)
def mk (n d:Int):FE:=if d=0 then (0,0,1) else if big n=true∧big d=true then red n d else (0,0,2)
abbrev str (l:List UInt8):ByteArray:=⟨l.toArray⟩
def sg (n:Int):List UInt8:=if n<0 then [45] else []
def pt (n p:Int):List UInt8:=sg n++(Lib.itoa ((n.natAbs:Int).tdiv p)++46 :: (Lib.itoa (p+(n.natAbs:Int).tmod p)).drop 1)
def zf (n d:Int):Nat→Int→List UInt8×Bool
 | 0,_=>([],false)
 | k+1,p=>if p.tmod d=0 then (if p=1 then (Lib.itoa n,true) else (pt (n*p.tdiv d) p,true)) else zf n d k (10*p)
def nI (n d:Int):List UInt8×Bool:=if ok n d then zf n d 7 1 else ([],false)
def oG (d:Nat):Nat→Nat→List UInt8
 | 0,_=>[]
 | k+1,r=>if r=0 then [] else Lib.decDigits (10*r / d)++oG d k (10*r % d)
def jG (n d:Int):List UInt8×Bool:=
 if ok n d=true∧(1000000:Int).tmod d=0 then
  (sg n++(Lib.decDigits (n.natAbs / d.toNat)++(if n.natAbs % d.toNat=0 then [] else 46 :: oG d.toNat 7 (n.natAbs % d.toNat))),true)
 else ([],false)
def sb (x:List UInt8×Bool):DV:=.au [ds (str x.1),db x.2]
def ay:aZ
 | 169,[di n]=>some (di (n.natAbs:Int))
 | 168,[di a,di b]=>some (di (Int.gcd a b))
 | 109,[di a,di b]=>some (di (Int.gcd a b))
 | 137,[fr a b]=>some (db (ok a b))
 | 65,[fr a b]=>some (db (ok a b))
 | 167,[di a,di b]=>some (fe (red a b))
 | 145,[di a,di b]=>some (fe (red a b))
 | 205,[di a]=>some (ds (str (Lib.itoa a)))
 | 198,[di n]=>some (.au [ds (str (sg n)),di (n.natAbs:Int)])
 | 199,[di n]=>some (ds (str (Lib.decDigits n.toNat)))
 | 206,[di n,di p]=>some (ds (str (pt n p)))
 | 185,[fr n d]=>some (sb (nI n d))
 | 172,[fr n d]=>some (sb (nI n d))
 | _,_=>none
open Go Go.Ab Go.RowKit
variable {G:IH}
abbrev dY:Value:=.iface 119 (.agg #[])
theorem Nh (w:World):(Instr.build 119 #[]).run Tryz.prog w=.ok (.agg #[]) w:=by kernel_rfl
theorem MW (v:Value) (w:World):(Instr.makeInterface 119 v).run Tryz.prog w=.ok (.iface 119 v) w:=by kernel_rfl
theorem aC.giveUp {k:List It} {st:AS} {Q:Exit→AS→Prop} {o1 o2 o3:Oper} {d e:Nat} (hl:lead k=some (#[o1,o2,o3],false)) (hh:(o1.op=.build 119 #[]∧o1.dst=some d∧o1.guard=none)∧(o2.op=.makeInterface 119 (.tmp d)∧o2.dst=some e∧o2.guard=none)∧o3.op=.panic (.tmp e)∧o3.guard=none) (hde:d<st.regs.length∧e<st.regs.length)
  (hQ:Q (.panic (oC dY)) ⟨List.replicate st.regs.length .any,st.boxes⟩):aC Tryz.prog G k st Q:=by
 obtain ⟨⟨p1,d1,g1⟩,⟨p2,d2,g2⟩,p3,g3⟩:=hh
 intro F w0 h0 β h1 a w g hd
 refine Ad (fun a' w'=>∃β' h',a'.defers=[]∧bF G F w0 h0 ⟨List.replicate st.regs.length .any,st.boxes⟩ β' h' a'.tmps w') (fun id Q hQ=>?_) (fun a' w' ⟨β',h',hd',g'⟩=>⟨_,β',h',hQ,g',hd'⟩) k hl
 refine wp_region ?_
 have hsz:=g.size
 have q1:(execOp a.eval o1).run Tryz.prog w=.ok (.value (.agg #[])) w:=by
  simp only[execOp,p1,Sem.run_bind,Sem.run_pure,Result.andThen_ok,Array.map_empty,Nh]
 have e1:(a.put (some d) (.agg #[])).eval (.tmp d)=.agg #[]:=by
  simp[Act.put,Act.eval,Array.getD_eq_getD_getElem?,hsz,hde.1]
 have q2:(execOp (a.put (some d) (.agg #[])).eval o2).run Tryz.prog w=.ok (.value dY) w:=by
  simp only[execOp,p2,Sem.run_bind,Sem.run_pure,Result.andThen_ok,MW,e1]
 have e2:((a.put (some d) (.agg #[])).put (some e) dY).eval (.tmp e)=dY:=by
  simp[Act.put,Act.eval,Array.getD_eq_getD_getElem?,hsz,hde.2]
 have q3:(execOp ((a.put (some d) (.agg #[])).put (some e) dY).eval o3).run Tryz.prog w=.halt (.panic dY) w:=by
  simp only[execOp,p3,Sem.run_bind,e2,run_panic_iface]
  rfl
 have w1:Region.wanted o1 (yielded #[o1,o2,o3] a.tmps)=true:=by simp[Region.wanted,g1]
 have w2:Region.wanted o2 (yielded #[o1,o2,o3] (a.put (some d) (.agg #[])).tmps)=true:=by simp[Region.wanted,g2]
 have w3:Region.wanted o3 (yielded #[o1,o2,o3] ((a.put (some d) (.agg #[])).put (some e) dY).tmps)=true:=by simp[Region.wanted,g3]
 show wpOps Tryz.prog #[o1,o2,o3] Q [0,1,2] a w
 rw[wpOps_cons]
 show (if Region.wanted o1 (yielded #[o1,o2,o3] a.tmps)=true then Oper.wp Tryz.prog o1 a w (wpOps Tryz.prog #[o1,o2,o3] Q [1,2]) Q∨_ else _)
 rw[if_pos w1]
 refine .inl ?_
 unfold Oper.wp
 rw[q1,Oper.upon_value,d1,wpOps_cons]
 show (if Region.wanted o2 (yielded #[o1,o2,o3] (a.put (some d) (.agg #[])).tmps)=true then Oper.wp Tryz.prog o2 _ w (wpOps Tryz.prog #[o1,o2,o3] Q [2]) Q∨_ else _)
 rw[if_pos w2]
 refine .inl ?_
 unfold Oper.wp
 rw[q2,Oper.upon_value,d2,wpOps_cons]
 show (if Region.wanted o3 (yielded #[o1,o2,o3] ((a.put (some d) (.agg #[])).put (some e) dY).tmps)=true then Oper.wp Tryz.prog o3 _ w (wpOps Tryz.prog #[o1,o2,o3] Q []) Q∨_ else _)
 rw[if_pos w3]
 refine .inl ?_
 unfold Oper.wp
 rw[q3,Oper.upon_panic]
 refine hQ _ _ ⟨β,h1,by rw[put_defers,put_defers];exact hd,?_⟩
 rw[dS,dS]
 have ga:=(g.put (t:=some d) (x:=.any) (v:=.agg #[]) trivial).put (t:=some e) (x:=.any) (v:=dY) trivial
 exact ga.left rfl _ (by simp[ku])
end Go.Proofs
/- Expressions,plain: trees,and how they lie in memory. -/
namespace Go.Proofs
open Go Go.Ab
inductive Ex where
 | mk (k:Int) (s:ByteArray) (n d at_:Int) (kids:List Ex)
def Ex.k:Ex→Int | .mk k _ _ _ _ _=>k
def Ex.s:Ex→ByteArray | .mk _ s _ _ _ _=>s
def Ex.n:Ex→Int | .mk _ _ n _ _ _=>n
def Ex.d:Ex→Int | .mk _ _ _ d _ _=>d
def Ex.pos:Ex→Int | .mk _ _ _ _ a _=>a
def Ex.kids:Ex→List Ex | .mk _ _ _ _ _ l=>l
def ak:Ex:=.mk 0 .empty 0 0 0 []
theorem Ex.eta (x:Ex):Ex.mk x.k x.s x.n x.d x.pos x.kids=x:=by cases x;rfl
@[match_pattern] abbrev exV (k:Int) (s:ByteArray) (n d a:Int) (l:Nat) (g:Nat→DV):DV:=.agg [di k,ds s,di n,di d,di a,.slc 6 l g]
def lay (g:List Ex→Nat→DV) (l:List Ex) (i:Nat):DV:=exV (l.getD i ak).k (l.getD i ak).s (l.getD i ak).n (l.getD i ak).d (l.getD i ak).pos (l.getD i ak).kids.length (g (l.getD i ak).kids)
def bJ:Nat→List Ex→Nat→DV
 | 0=>fun _ _=>.con undef
 | m+1=>lay (bJ m)
def bG (m:Nat) (x:Ex):DV:=exV x.k x.s x.n x.d x.pos x.kids.length (lay (bJ m) x.kids)
mutual
def ht:Ex→Nat
 | .mk _ _ _ _ _ l=>iI l
def iI:List Ex→Nat
 | []=>0
 | x :: l=>max (ht x+1) (iI l)
end
mutual
def jV:Ex→Nat
 | .mk _ _ _ _ _ l=>1+iK l
def iK:List Ex→Nat
 | []=>0
 | x :: l=>jV x+iK l
end
theorem Ho (x:Ex):ht x=iI x.kids:=by cases x;simp only[ht,Ex.kids]
theorem zh (x:Ex):jV x=1+iK x.kids:=by cases x;simp only[jV,Ex.kids]
theorem Vw:∀{l:List Ex} {x:Ex},x∈l→ht x+1≤iI l
 | y :: l,x,h=>by
  simp only[iI]
  rcases List.mem_cons.1 h with rfl|h
  ·omega
  ·have:=Vw h;omega
theorem Qa:∀{l:List Ex} {x:Ex},x∈l→jV x≤iK l
 | y :: l,x,h=>by
  simp only[iK]
  rcases List.mem_cons.1 h with rfl|h
  ·omega
  ·have:=Qa h;omega
theorem PK:∀l:List Ex,l.length≤iK l
 | []=>Nat.le_refl _
 | x :: l=>by
  have:=PK l
  have:=zh x
  simp only[iK,List.length_cons];omega
theorem zy {x:Ex} {i:Nat} (h:i<x.kids.length):x.kids.getD i ak∈x.kids:=by
 rw[List.getD,bQ h];exact List.getElem_mem h
theorem iC {x:Ex} {i:Nat} (h:i<x.kids.length):ht (x.kids.getD i ak)+1≤ht x:=by
 rw[Ho x];exact Vw (zy h)
theorem Bl {x:Ex} {i:Nat} (h:i<x.kids.length):jV (x.kids.getD i ak)+1≤jV x:=by
 have:=Qa (zy h)
 rw[zh x];omega
mutual
theorem UU:∀x:Ex,ht x+1≤jV x
 | .mk _ _ _ _ _ l=>by
  have:=Qh l
  simp only[ht,jV];omega
theorem Qh:∀l:List Ex,iI l≤iK l
 | []=>Nat.le_refl _
 | x :: l=>by
  have:=UU x
  have:=Qh l
  simp only[iI,iK];omega
end
theorem X9:∀(m m':Nat) (x y:Ex),ht x≤m→ht y≤m'→bG m x=bG m' y→x=y:=by
 intro m
 induction m with
 | zero=>
  intro m' x y hx hy h
  unfold bG exV at h
  simp only[DV.agg.injEq,List.cons.injEq,DV.con.injEq,Value.int.injEq,Value.string.injEq,DV.slc.injEq,true_and,and_true] at h
  obtain ⟨h1,h2,h3,h4,h5,h6,_⟩:=h
  have hk:x.kids=[]:=by
   refine Classical.byContradiction fun hh=>?_
   have:0<x.kids.length:=List.length_pos_iff.2 hh
   have:=iC this
   omega
  have hk':y.kids=[]:=List.eq_nil_of_length_eq_zero (by rw[←h6,hk];rfl)
  rw[←Ex.eta x,←Ex.eta y,h1,h2,h3,h4,h5,hk,hk']
 | succ m ih=>
  intro m' x y hx hy h
  have h0:=h
  unfold bG exV at h
  simp only[DV.agg.injEq,List.cons.injEq,DV.con.injEq,Value.int.injEq,Value.string.injEq,DV.slc.injEq,true_and,and_true] at h
  obtain ⟨h1,h2,h3,h4,h5,h6,h7⟩:=h
  have hk:x.kids=y.kids:=by
   refine List.ext_getElem h6 fun i hi hi'=>?_
   have e:=congrFun h7 i
   have k1:=iC hi
   have k2:=iC hi'
   obtain ⟨m2,rfl⟩:∃m2,m'=m2+1:=⟨m' - 1,by omega⟩
   have:=ih m2 (x.kids.getD i ak) (y.kids.getD i ak) (by omega) (by omega) e
   rwa [List.getD,bQ hi,List.getD,bQ hi'] at this
  rw[←Ex.eta x,←Ex.eta y,h1,h2,h3,h4,h5,hk]
open Classical in
noncomputable def ah (d:DV):Ex:=if h:∃m x,ht x≤m∧d=bG m x then (Classical.choose_spec h).choose else ak
theorem fU {m:Nat} {x:Ex} (h:ht x≤m):ah (bG m x)=x:=by
 have hh:∃m' x',ht x'≤m'∧bG m x=bG m' x':=⟨m,x,h,rfl⟩
 unfold ah
 rw[dif_pos hh]
 obtain ⟨h1,h2⟩:=(Classical.choose_spec hh).choose_spec
 exact(X9 _ _ _ _ h h1 h2).symm
abbrev aS (m:Nat) (x:Ex) (i:Nat):DV:=exV (x.kids.getD i ak).k (x.kids.getD i ak).s (x.kids.getD i ak).n (x.kids.getD i ak).d (x.kids.getD i ak).pos (x.kids.getD i ak).kids.length (bJ m (x.kids.getD i ak).kids)
theorem jD {Q:DV→Prop} {m:Nat} {x:Ex} (hx:ht x≤m) {i:Nat} (hi:i<x.kids.length) (ih:∀m',m' < m→ht (x.kids.getD i ak)≤m'→Q (bG m' (x.kids.getD i ak))):Q (aS m x i):=by
 have:=iC hi
 cases m with
 | zero=>omega
 | succ m=>exact ih m (by omega) (by omega)
theorem dL {m:Nat} {x:Ex} (hx:ht x≤m) {i:Nat} (hi:i<x.kids.length):ah (aS m x i)=x.kids.getD i ak:=
 jD (Q:=fun d=>ah d=x.kids.getD i ak) hx hi fun _ _ h=>fU h
abbrev aY (m:Nat) (y:Ex):DV:=exV y.k y.s y.n y.d y.pos y.kids.length (bJ m y.kids)
abbrev aB (m:Nat) (y:Ex):DV:=exV y.k y.s y.n y.d y.pos y.kids.length (lay (bJ m) y.kids)
set_option maxHeartbeats 2000000
set_option maxRecDepth 100000
open Go Go.Ab Go.RowKit
variable {G:IH}
mutual
def rP:Ex→Prop
 | .mk _ s _ _ _ l=>s.size≤maxLen∧l.length≤8796093022208∧JM l
def JM:List Ex→Prop
 | []=>True
 | x :: l=>rP x∧JM l
end
theorem Qk:∀{l:List Ex} {x:Ex},JM l→x∈l→rP x
 | y :: l,x,h,hx=>by
  simp only[JM] at h
  rcases List.mem_cons.1 hx with rfl|hx
  ·exact h.1
  ·exact Qk h.2 hx
theorem Vo {x:Ex} (h:rP x):x.kids.length≤8796093022208∧x.s.size≤9223372036854775807:=by
 cases x
 simp only[rP] at h
 have:maxLen≤9223372036854775807:=by decide
 exact⟨h.2.1,Nat.le_trans h.1 this⟩
theorem Uw {x:Ex} (h:rP x) {i:Nat} (hi:i<x.kids.length):rP (x.kids.getD i ak):=by
 have:=zy hi
 cases x
 simp only[rP] at h
 exact Qk h.2.2 this
abbrev l7 (m:Nat) (x:Ex):List AV:=[vi x.k,vs x.s,vi x.n,vi x.d,vi x.pos,.d (.slc 6 x.kids.length (lay (bJ m) x.kids))]
theorem Va {l:List Ex} {k:Nat} (h:k<l.length):iK (l.take (k+1))=iK (l.take k)+jV (l.getD k ak):=by
 have app:∀a b:List Ex,iK (a++b)=iK a+iK b:=by
  intro a b
  induction a with
  | nil=>simp[iK]
  | cons y a ih=>simp only[List.cons_append,iK,ih];omega
 rw[List.take_succ_eq_append_getElem h,app,List.getD,bQ h]
 simp[iK]
theorem wrap_eq (n:Int):IntKind.wrap .i64 n=if n % 18446744073709551616≥9223372036854775808 then n % 18446744073709551616-18446744073709551616 else n % 18446744073709551616:=by
 simp[IntKind.wrap,IntKind.bits,IntKind.signed]
theorem LY {n:Int}:∃q:Int,IntKind.wrap .i64 n=n+18446744073709551616*q:=by
 rw[wrap_eq]
 have h:=Int.emod_add_mul_ediv n 18446744073709551616
 split
 ·exact⟨-(n / 18446744073709551616)-1,by omega⟩
 ·exact⟨-(n / 18446744073709551616),by omega⟩
theorem Ru {n q:Int}:IntKind.wrap .i64 (n+18446744073709551616*q)=IntKind.wrap .i64 n:=by
 rw[wrap_eq,wrap_eq,Int.add_mul_emod_self_left]
theorem wrap_add (a b:Int):IntKind.wrap .i64 (IntKind.wrap .i64 a+IntKind.wrap .i64 b)=IntKind.wrap .i64 (a+b):=by
 obtain ⟨p,hp⟩:=LY (n:=a)
 obtain ⟨q,hq⟩:=LY (n:=b)
 rw[hp,hq,show a+18446744073709551616*p+(b+18446744073709551616*q)=a+b+18446744073709551616*(p+q) by omega,Ru]
def wn (x:Ex):Int:=IntKind.wrap .i64 (jV x)
noncomputable def Z4:aZ:=fun f a=>match f,a with
 | 71,[e]=>some (di (wn (ah e)))
 | _,_=>none
noncomputable def QM:iq:={ d:=Z4,w:=true }
def wk (x:Ex) (k:Nat):Int:=IntKind.wrap .i64 (1+iK (x.kids.take k):Nat)
noncomputable def S63 (m:Nat) (x:Ex) (k:Nat):AS:=⟨regs Tryz.f71.ntmps [(1,.box 1 0),(3,vi (wk x k)),(4,vi k)],[(1,l7 m x)]⟩
theorem f71 (m:Nat):∀(x:Ex),ht x≤m→rP x→aj Tryz.prog G 71 [bG m x] (di (wn x)):=by
 induction m using Nat.strongRecOn with
 | _ m ih=>
 intro x hx hw
 refine aj.walk (ay:=QM) (keep:=[]) follows Tryz.func71 rfl Tryz.call71 ?_
 refine aA (fun ZT ZW ZQ _=>ZW [cd Tryz.f71 [1,1,0,1,0],(.blk 0),cd Tryz.f71 [1,1,1]] (aI ZT []) ZQ) (by kernel_rfl) ?_
 refine aC.loop (c:=dR (aQ Tryz.f71) [1,1,0,1,0,0]) (by kernel_rfl) (S63 m x) (fun k=>k≤x.kids.length) (fun k=>x.kids.length-k) 0 ?_ (Nat.zero_le _) ?_
 ·refine AS.leZ [1] [] (b:=((T0∧((vi 1):AV)=(vi (wk x 0))∧T0∧True)∧T0∧True)) (by kernel_rfl) (by kernel_rfl) ?_
  exact⟨⟨rfl,rfl,rfl,trivial⟩,rfl,trivial⟩
 ·intro k hk
  refine walk (ay:=QM) (keep:=[]) (cuts:=[]) (n:=1000) follows ?_
  refine bW (fun ZT ZW ZQ ZK ZA _=>((((decide ((↑k:Int)<↑x.kids.length))=true)→((((0≤(↑k:Int))∧((↑k:Int)<↑x.kids.length))∧ZK 71 [(aY m (x.kids.getD (↑k:Int).toNat ak))] (di (wn (ah (aY m (x.kids.getD (↑k:Int).toNat ak))))))∧(ZA (aI ZT [0]))))∧(((decide ((↑k:Int)<↑x.kids.length))=false)→ZW [cd Tryz.f71 [1,1,1]] (aI ZT [1]) ZQ))) (by kernel_rfl) ?_
  simp only[Int.toNat_natCast]
  have hl:=(Vo hw).1
  refine⟨fun h=>?_,fun h=>?_⟩
  ·have hk2:k<x.kids.length:=by have:=of_decide_eq_true h;omega
   have e1:IntKind.wrap .i64 ((k:Int)+1)=(k+1:Nat):=nY ⟨by omega,by omega⟩
   refine⟨⟨⟨by omega,by omega⟩,?_⟩,Again.mk (k+1) ?_ hk2 (by omega)⟩
   ·show aj Tryz.prog G 71 [aS m x k] (di (wn (ah (aS m x k))))
    rw[dL hx hk2]
    exact jD (Q:=fun d=>aj Tryz.prog G 71 [d] _) hx hk2 fun m' h1 h2=>ih m' h1 _ h2 (Uw hw hk2)
   ·refine AS.leZ [1,2] [] (b:=((T0∧((vi (IntKind.i64.wrap (wk x k+wn (ah (aY m (x.kids.getD (↑k:Int).toNat ak)))))):AV)=(vi (wk x (k+1)))∧((vi (IntKind.i64.wrap (↑k+1))):AV)=(vi (↑(k+1)))∧True)∧T0∧True)) (by kernel_rfl) (by kernel_rfl) ?_
    refine⟨⟨rfl,?_,?_,trivial⟩,rfl,trivial⟩
    ·show vi (IntKind.wrap .i64 (wk x k+wn (ah (aS m x k))))=vi (wk x (k+1))
     rw[dL hx hk2]
     unfold wk wn
     rw[wrap_add,Va hk2]
     congr 4
     omega
    ·rw[e1]
  ·simp only[decide_eq_false_iff_not] at h
   have hk2:k=x.kids.length:=by omega
   refine walk (ay:=QM) (keep:=[]) (cuts:=[]) (n:=1000) follows ?_
   refine aA (fun _ _ _ _=>(((di (wk x k)):DV)=(di (wn x)))) (by kernel_rfl) ?_
   unfold wk wn
   rw[hk2,List.take_length,zh]
mutual
def kY (most:Int):Ex→Bool
 | .mk k s n d a l=>!(decide ((s.size:Int)>40)||decide (wn (.mk k s n d a l)>most))&&xM most l
def xM (most:Int):List Ex→Bool
 | []=>true
 | x :: l=>kY most x&&xM most l
end
theorem zq (most:Int) (x:Ex):kY most x=(!(decide ((x.s.size:Int)>40)||decide (wn x>most))&&xM most x.kids):=by cases x;simp only[kY,Ex.s,Ex.kids];rfl
theorem Gj {most:Int}:∀{l:List Ex},xM most l=true↔∀i,i<l.length→kY most (l.getD i ak)=true
 | []=>by simp[xM]
 | x :: l=>by
  simp only[xM,aT,Gj]
  constructor
  ·rintro ⟨h1,h2⟩ i hi
   cases i with
   | zero=>exact h1
   | succ i=>exact h2 i (by simpa using hi)
  ·intro h
   exact⟨h 0 (by simp),fun i hi=>h (i+1) (by simpa using hi)⟩
noncomputable def aaf:aZ:=fun f a=>match f,a with
 | 71,[e]=>some (di (wn (ah e)))
 | 41,[e,.con (.int .i64 m)]=>some (db (kY m (ah e)))
 | _,_=>none
noncomputable def Q8:iq:={ d:=aaf,w:=true }
noncomputable def S32 (m:Nat) (x:Ex) (M:Int) (k:Nat):AS:=⟨regs Tryz.f41.ntmps [(1,vi M),(2,.box 2 0),(5,vi k)],[(2,l7 m x)]⟩
theorem f41 (M:Int) (m:Nat):∀(x:Ex),ht x≤m→rP x→aj Tryz.prog G 41 [bG m x,di M] (db (kY M x)):=by
 induction m using Nat.strongRecOn with
 | _ m ih=>
 intro x hx hw
 have hl:=(Vo hw).1
 refine aj.walk (ay:=Q8) (keep:=[]) follows Tryz.func41 rfl Tryz.call41 ?_
 refine aA (fun ZT ZW ZQ ZK=>((((!decide ((↑x.s.size:Int)>40))=true)→ZK 71 [(aB m x)] (di (wn (ah (aB m x)))))∧(((decide ((↑x.s.size:Int)>40)||decide (wn (ah (aB m x))>M))=true)→(((db false):DV)=(db (kY M x))))∧(((decide ((↑x.s.size:Int)>40)||decide (wn (ah (aB m x))>M))=false)→ZW [cd Tryz.f41 [1,1,0,1,0],(.blk 0),cd Tryz.f41 [1,1,1]] (aI ZT [1]) ZQ))) (by kernel_rfl) ?_
 have h63:ah (bG m x)=x:=fU hx
 refine⟨fun _=>?_,fun h=>?_,fun h=>?_⟩
 ·show aj Tryz.prog G 71 [bG m x] (di (wn (ah (bG m x))))
  rw[h63];exact f71 m x hx hw
 ·rw[zq]
  have h:(decide ((x.s.size:Int)>40)||decide (wn (ah (bG m x))>M))=true:=h
  rw[h63] at h
  rw[h];rfl
 ·have h:(decide ((x.s.size:Int)>40)||decide (wn (ah (bG m x))>M))=false:=h
  rw[h63] at h
  refine aC.loop (c:=dR (aQ Tryz.f41) [1,1,0,1,0,0]) (by kernel_rfl) (S32 m x M) (fun k=>k≤x.kids.length∧∀i,i<k→kY M (x.kids.getD i ak)=true) (fun k=>x.kids.length-k) 0 ?_ ⟨Nat.zero_le _,fun i hi=>absurd hi (Nat.not_lt_zero _)⟩ ?_
  ·exact AS.dB (by kernel_rfl)
  ·rintro k ⟨hk,hkd⟩
   refine walk (ay:=Q8) (keep:=[]) (cuts:=[]) (n:=1000) follows ?_
   refine bW (fun ZT ZW ZQ ZK ZA _=>(fun Za=>((((decide ((↑k:Int)<↑x.kids.length))=true)→((((0≤(↑k:Int))∧((↑k:Int)<↑x.kids.length))∧ZK 41 [Za,(di M)] (db (kY M (ah Za))))∧(((!kY M (ah Za))=true)→(((db false):DV)=(db (kY M x))))∧(((!kY M (ah Za))=false)→(ZA (aI ZT [0,1])))))∧(((decide ((↑k:Int)<↑x.kids.length))=false)→ZW [cd Tryz.f41 [1,1,1]] (aI ZT [1]) ZQ))) (aY m (x.kids.getD (↑k:Int).toNat ak))) (by kernel_rfl) ?_
   simp only[Int.toNat_natCast]
   refine⟨fun h1=>?_,fun h1=>?_⟩
   ·have hk2:k<x.kids.length:=by have:=of_decide_eq_true h1;omega
    have e1:IntKind.wrap .i64 ((k:Int)+1)=(k+1:Nat):=nY ⟨by omega,by omega⟩
    refine⟨⟨⟨by omega,by omega⟩,?_⟩,fun h2=>?_,fun h2=>Again.mk (k+1) ?_ ⟨hk2,fun i hi=>?_⟩ (by omega)⟩
    ·show aj Tryz.prog G 41 [aS m x k,di M] (db (kY M (ah (aS m x k))))
     rw[dL hx hk2]
     exact jD (Q:=fun d=>aj Tryz.prog G 41 [d,di M] _) hx hk2 fun m' h1 h2=>ih m' h1 _ h2 (Uw hw hk2)
    ·have h2:(!kY M (ah (aS m x k)))=true:=h2
     rw[dL hx hk2] at h2
     have e2:xM M x.kids=false:=by
      rw[Bool.eq_false_iff]
      intro hh
      rw[Gj.1 hh k hk2] at h2
      cases h2
     rw[zq,e2,Bool.and_false]
    ·refine AS.leZ [2] [] (b:=((T0∧T0∧((vi (IntKind.i64.wrap (↑k+1))):AV)=(vi (↑(k+1)))∧True)∧T0∧True)) (by kernel_rfl) (by kernel_rfl) ?_
     exact⟨⟨rfl,rfl,by rw[e1],trivial⟩,rfl,trivial⟩
    ·rcases Nat.lt_or_ge i k with h3|h3
     ·exact hkd i h3
     ·obtain rfl:i=k:=by omega
      have h2:(!kY M (ah (aS m x i)))=false:=h2
      rw[dL hx hk2] at h2
      simpa using h2
   ·simp only[decide_eq_false_iff_not] at h1
    have hk2:k=x.kids.length:=by omega
    refine walk (ay:=Q8) (keep:=[]) (cuts:=[]) (n:=1000) follows ?_
    refine aA (fun _ _ _ _=>(((db true):DV)=(db (kY M x)))) (by kernel_rfl) ?_
    rw[zq,h,Gj.2 (fun i hi=>hkd i (by omega))];rfl
mutual
theorem OH {M:Int} (hM:0≤M∧M≤1000000):∀x:Ex,rP x→kY M x=true→(jV x:Int)≤M
 | .mk k s n d a l,hw,hf=>by
  rw[zq] at hf
  simp only[aT,Bool.not_eq_true',Bool.or_eq_false_iff,decide_eq_false_iff_not,Ex.kids] at hf
  simp only[rP] at hw
  have h1:=MO hM l hw.2.2 hf.2
  have h2:(jV (.mk k s n d a l):Int)≤1+1000000*8796093022208:=by
   simp only[jV]
   have h3:=Int.mul_le_mul hM.2 (show (l.length:Int)≤8796093022208 by have:=hw.2.1;omega) (by omega) (by omega)
   omega
  have h3:wn (.mk k s n d a l)=jV (.mk k s n d a l):=nY ⟨by omega,by omega⟩
  have h4:=hf.1.2
  rw[h3] at h4
  omega
theorem MO {M:Int} (hM:0≤M∧M≤1000000):∀l:List Ex,JM l→xM M l=true→(iK l:Int)≤M*l.length
 | [],_,_=>by simp[iK]
 | x :: l,hw,hf=>by
  simp only[xM,aT] at hf
  simp only[JM] at hw
  have h1:=OH hM x hw.1 hf.1
  have h2:=MO hM l hw.2 hf.2
  simp only[iK,List.length_cons]
  rw[Int.natCast_add,Int.natCast_add,Int.mul_add]
  omega
end
mutual
def xU:Ex→Prop
 | .mk _ s _ _ _ l=>s.size≤1000∧zC l
def zC:List Ex→Prop
 | []=>True
 | x :: l=>xU x∧zC l
end
mutual
theorem UO {M:Int}:∀x:Ex,kY M x=true→xU x
 | .mk k s n d a l,hf=>by
  rw[zq] at hf
  simp only[aT,Bool.not_eq_true',Bool.or_eq_false_iff,decide_eq_false_iff_not,Ex.kids,Ex.s] at hf
  simp only[xU]
  have h0:¬((s.size:Int)>40):=of_decide_eq_false hf.1.1
  exact⟨by omega,P5 l hf.2⟩
theorem P5 {M:Int}:∀l:List Ex,xM M l=true→zC l
 | [],_=>by simp only[zC]
 | x :: l,hf=>by
  simp only[xM,aT] at hf
  simp only[zC]
  exact⟨UO x hf.1,P5 l hf.2⟩
end
structure Sm (x:Ex):Prop where
 nd:jV x≤1000
 tx:xU x
theorem PY:∀{l:List Ex} {x:Ex},zC l→x∈l→xU x
 | y :: l,x,h,hx=>by
  simp only[zC] at h
  rcases List.mem_cons.1 hx with rfl|hx
  ·exact h.1
  ·exact PY h.2 hx
theorem Sm.kid {x:Ex} (h:Sm x) {i:Nat} (hi:i<x.kids.length):Sm (x.kids.getD i ak):=by
 have h1:=Bl hi
 refine⟨by have:=h.nd;omega,?_⟩
 have h2:=zy hi
 have h3:=h.tx
 cases x
 simp only[xU] at h3
 exact PY h3.2 h2
theorem Sm.len {x:Ex} (h:Sm x):x.kids.length≤1000∧x.s.size≤1000:=by
 have h1:=h.nd
 have h2:=PK x.kids
 have h3:=zh x
 have h4:=h.tx
 cases x
 simp only[xU] at h4
 exact⟨by simp only[Ex.kids] at *;omega,h4.1⟩
theorem Sm.ht {x:Ex} (h:Sm x):Go.Proofs.ht x≤999:=by
 have:=UU x
 have:=h.nd
 omega
theorem ZG {M:Int} (hM:0≤M∧M≤1000) {x:Ex} (hw:rP x) (h:kY M x=true):Sm x:=
 ⟨(by have:=OH ⟨hM.1,by omega⟩ x hw h;omega),UO x h⟩
theorem Om {l:List Ex} {k:Nat} (h:k<l.length):iI (l.take (k+1))=max (iI (l.take k)) (ht (l.getD k ak)+1):=by
 have app:∀a b:List Ex,iI (a++b)=max (iI a) (iI b):=by
  intro a b
  induction a with
  | nil=>simp[iI]
  | cons y a ih=>simp only[List.cons_append,iI,ih];omega
 rw[List.take_succ_eq_append_getElem h,app,List.getD,bQ h]
 simp[iI]
noncomputable def Eb:aZ:=fun f a=>match f,a with
 | 32,[e]=>some (di ((ht (ah e):Int)+1))
 | 121,[e]=>some (di ((ht (ah e):Int)+1))
 | _,_=>none
noncomputable def S12 (m:Nat) (x:Ex) (k:Nat):AS:=⟨regs Tryz.f32.ntmps [(1,.box 1 0),(3,vi (iI (x.kids.take k))),(4,vi k)],[(1,l7 m x)]⟩
theorem f32 (m:Nat):∀(x:Ex),ht x≤m→Sm x→aj Tryz.prog G 32 [bG m x] (di ((ht x:Int)+1)):=by
 induction m using Nat.strongRecOn with
 | _ m ih=>
 intro x hx hs
 have hl:=hs.len.1
 refine aj.walk (ay:=Eb) (keep:=[]) follows Tryz.func32 rfl Tryz.call32 ?_
 refine aA (fun ZT ZW ZQ _=>ZW [cd Tryz.f32 [1,1,0,1,0],(.blk 0),cd Tryz.f32 [1,1,1]] (aI ZT []) ZQ) (by kernel_rfl) ?_
 refine aC.loop (c:=dR (aQ Tryz.f32) [1,1,0,1,0,0]) (by kernel_rfl) (S12 m x) (fun k=>k≤x.kids.length) (fun k=>x.kids.length-k) 0 ?_ (Nat.zero_le _) ?_
 ·exact AS.dB (by kernel_rfl)
 ·intro k hk
  refine walk (ay:=Eb) (keep:=[]) (cuts:=[]) (n:=1000) follows ?_
  refine Pq (x.kids.getD (↑k:Int).toNat ak) ((.d (.slc 6 x.kids.length (lay (bJ m) x.kids))):AV) (decide ((↑k:Int)<↑x.kids.length)) (fun Za Zb Zc=>(((Zc=true)→((((0≤(↑k:Int))∧((↑k:Int)<↑x.kids.length))∧aj Tryz.prog G 32 [(aY m Za)] (di (↑(ht (ah (aY m Za)))+1)))∧(I64 (↑k+1))∧Again (S12 m x) (fun k=>k≤x.kids.length) (fun k=>x.kids.length-k) k ⟨[.any,(.box 1 0),.any,(vi (if (↑(ht (ah (aY m Za))):Int)+1>↑(iI (List.take k x.kids)) then ↑(ht (ah (aY m Za)))+1 else ↑(iI (List.take k x.kids)))),(vi (↑k+1)),(vi (↑k)),(.box 1 5),Zb,(vi (↑x.kids.length)),(vb Zc),(vi (↑k)),(vi (↑k+1)),(vi (↑(iI (List.take k x.kids)))),(.box 1 5),Zb,(vi (↑k)),(.d (.ptr [(di Za.k),(ds Za.s),(di Za.n),(di Za.d),(di Za.pos),(.slc 6 Za.kids.length (bJ m Za.kids))])),(.d (aY m Za)),(vi (↑(ht (ah (aY m Za)))+1)),(vi (if (↑(ht (ah (aY m Za))):Int)+1>↑(iI (List.take k x.kids)) then ↑(ht (ah (aY m Za)))+1 else ↑(iI (List.take k x.kids)))),.any,.any],[(1,[(vi x.k),(vs x.s),(vi x.n),(vi x.d),(vi x.pos),Zb])]⟩))∧((Zc=false)→aC Tryz.prog G [cd Tryz.f32 [1,1,1]] ⟨regs 22 [(1,(.box 1 0)),(3,(vi (↑(iI (List.take k x.kids))))),(4,(vi (↑k))),(5,(vi (↑k))),(6,(.box 1 5)),(7,Zb),(8,(vi (↑x.kids.length))),(9,(vb Zc))],[(1,[(vi x.k),(vs x.s),(vi x.n),(vi x.d),(vi x.pos),Zb])]⟩ (fF Tryz.prog Tryz.f32 (di (↑(ht x)+1)))))) (by kernel_rfl) ?_
  simp only[Int.toNat_natCast]
  refine⟨fun h=>?_,fun h=>?_⟩
  ·have hk2:k<x.kids.length:=by have:=of_decide_eq_true h;omega
   refine⟨⟨⟨by omega,by omega⟩,?_⟩,⟨by omega,by omega⟩,Again.mk (k+1) ?_ hk2 (by omega)⟩
   ·show aj Tryz.prog G 32 [aS m x k] (di ((ht (ah (aS m x k)):Int)+1))
    rw[dL hx hk2]
    exact jD (Q:=fun d=>aj Tryz.prog G 32 [d] _) hx hk2 fun m' h1 h2=>ih m' h1 _ h2 (hs.kid hk2)
   ·refine lG (some [(vi x.k),(vs x.s),(vi x.n),(vi x.d),(vi x.pos),(.d (.slc 6 x.kids.length (lay (bJ m) x.kids)))]) (fun Za=>((((.box 1 0):AV)=(.box 1 0)∧((vi (if (↑(ht (ah (aY m (x.kids.getD k ak)))):Int)+1>↑(iI (List.take k x.kids)) then ↑(ht (ah (aY m (x.kids.getD k ak))))+1 else ↑(iI (List.take k x.kids)))):AV)=(vi (↑(iI (List.take (k+1) x.kids))))∧((vi (↑k+1)):AV)=(vi (↑(k+1)))∧True)∧(Za:(Option (List AV)))=Za∧True)) (by kernel_rfl) ?_
    refine⟨⟨rfl,?_,rfl,trivial⟩,rfl,trivial⟩
    rw[Om hk2]
    show vi (if (ht (ah (aS m x k)):Int)+1>iI (x.kids.take k) then _ else _)=_
    rw[dL hx hk2]
    refine congrArg vi ?_
    omega
  ·simp only[decide_eq_false_iff_not] at h
   have hk2:k=x.kids.length:=by omega
   refine walk (ay:=Eb) (keep:=[]) (cuts:=[]) (n:=1000) follows ?_
   refine aA (fun _ _ _ _=>((I64 (↑(iI (List.take k x.kids))+1))∧((di (↑(iI (List.take k x.kids))+1)):DV)=(di (↑(ht x)+1)))) (by kernel_rfl) ?_
   rw[hk2,List.take_length,←Ho]
   have:=hs.ht
   exact⟨⟨by omega,by omega⟩,rfl⟩
noncomputable def S72 (m:Nat) (x:Ex) (k:Nat):AS:=⟨regs Tryz.f121.ntmps [(1,.box 1 0),(3,vi (iI (x.kids.take k))),(7,.d (.slc 6 x.kids.length (lay (bJ m) x.kids))),(8,vi x.kids.length),(9,vi k)],[(1,l7 m x)]⟩
theorem f121 (m:Nat):∀(x:Ex),ht x≤m→Sm x→aj Tryz.prog G 121 [bG m x] (di ((ht x:Int)+1)):=by
 induction m using Nat.strongRecOn with
 | _ m ih=>
 intro x hx hs
 have hl:=hs.len.1
 refine aj.walk (ay:=Eb) (keep:=[]) follows Tryz.func121 rfl Tryz.call121 ?_
 refine aA (fun ZT ZW ZQ _=>ZW [cd Tryz.f121 [1,1,0,1,0],(.blk 0),cd Tryz.f121 [1,1,1]] (aI ZT []) ZQ) (by kernel_rfl) ?_
 refine aC.loop (c:=dR (aQ Tryz.f121) [1,1,0,1,0,0]) (by kernel_rfl) (S72 m x) (fun k=>k≤x.kids.length) (fun k=>x.kids.length-k) 0 ?_ (Nat.zero_le _) ?_
 ·exact AS.dB (by kernel_rfl)
 ·intro k hk
  refine walk (ay:=Eb) (keep:=[]) (cuts:=[]) (n:=1000) follows ?_
  refine Pq (x.kids.getD (↑k:Int).toNat ak) ((.d (.slc 6 x.kids.length (lay (bJ m) x.kids))):AV) (decide ((↑k:Int)<↑x.kids.length)) (fun Za Zb Zc=>(((Zc=true)→(((0≤(↑k:Int))∧((↑k:Int)<↑x.kids.length))∧aj Tryz.prog G 121 [(aY m Za)] (di (↑(ht (ah (aY m Za)))+1))∧(I64 (↑k+1))∧Again (S72 m x) (fun k=>k≤x.kids.length) (fun k=>x.kids.length-k) k ⟨regs 20 [(1,(.box 1 0)),(3,(vi (if (↑(ht (ah (aY m Za))):Int)+1>↑(iI (List.take k x.kids)) then ↑(ht (ah (aY m Za)))+1 else ↑(iI (List.take k x.kids))))),(5,(.box 5 0)),(7,Zb),(8,(vi (↑x.kids.length))),(9,(vi (↑k+1))),(10,(vb Zc)),(11,(.d (.ptr [(di Za.k),(ds Za.s),(di Za.n),(di Za.d),(di Za.pos),(.slc 6 Za.kids.length (bJ m Za.kids))]))),(12,(.d (aY m Za))),(13,(vi (↑(iI (List.take k x.kids))))),(14,(.d (aY m Za))),(15,(vi (↑(ht (ah (aY m Za)))+1))),(16,(vi (if (↑(ht (ah (aY m Za))):Int)+1>↑(iI (List.take k x.kids)) then ↑(ht (ah (aY m Za)))+1 else ↑(iI (List.take k x.kids))))),(17,(vi (↑k+1)))],[(5,[(vi Za.k),(vs Za.s),(vi Za.n),(vi Za.d),(vi Za.pos),(.d (.slc 6 Za.kids.length (bJ m Za.kids)))]),(1,[(vi x.k),(vs x.s),(vi x.n),(vi x.d),(vi x.pos),Zb])]⟩))∧((Zc=false)→aC Tryz.prog G [cd Tryz.f121 [1,1,1]] ⟨regs 20 [(1,(.box 1 0)),(3,(vi (↑(iI (List.take k x.kids))))),(7,Zb),(8,(vi (↑x.kids.length))),(9,(vi (↑k))),(10,(vb Zc))],[(1,[(vi x.k),(vs x.s),(vi x.n),(vi x.d),(vi x.pos),Zb])]⟩ (fF Tryz.prog Tryz.f121 (di (↑(ht x)+1)))))) (by kernel_rfl) ?_
  simp only[Int.toNat_natCast]
  refine⟨fun h=>?_,fun h=>?_⟩
  ·have hk2:k<x.kids.length:=by have:=of_decide_eq_true h;omega
   refine⟨⟨by omega,by omega⟩,?_,⟨by omega,by omega⟩,Again.mk (k+1) ?_ hk2 (by omega)⟩
   ·show aj Tryz.prog G 121 [aS m x k] (di ((ht (ah (aS m x k)):Int)+1))
    rw[dL hx hk2]
    exact jD (Q:=fun d=>aj Tryz.prog G 121 [d] _) hx hk2 fun m' h1 h2=>ih m' h1 _ h2 (hs.kid hk2)
   ·refine lG ((.d (.slc 6 x.kids.length (lay (bJ m) x.kids))):AV) (fun Za=>((((.box 1 0):AV)=(.box 1 0)∧((vi (if (↑(ht (ah (aY m (x.kids.getD k ak)))):Int)+1>↑(iI (List.take k x.kids)) then ↑(ht (ah (aY m (x.kids.getD k ak))))+1 else ↑(iI (List.take k x.kids)))):AV)=(vi (↑(iI (List.take (k+1) x.kids))))∧(Za:AV)=Za∧((vi (↑x.kids.length)):AV)=(vi (↑x.kids.length))∧((vi (↑k+1)):AV)=(vi (↑(k+1)))∧True)∧((some [(vi x.k),(vs x.s),(vi x.n),(vi x.d),(vi x.pos),Za]):(Option (List AV)))=(some [(vi x.k),(vs x.s),(vi x.n),(vi x.d),(vi x.pos),Za])∧True)) (by kernel_rfl) ?_
    refine⟨⟨rfl,?_,rfl,rfl,rfl,trivial⟩,rfl,trivial⟩
    rw[Om hk2]
    show vi (if (ht (ah (aS m x k)):Int)+1>iI (x.kids.take k) then _ else _)=_
    rw[dL hx hk2]
    refine congrArg vi ?_
    omega
  ·simp only[decide_eq_false_iff_not] at h
   have hk2:k=x.kids.length:=by omega
   refine walk (ay:=Eb) (keep:=[]) (cuts:=[]) (n:=1000) follows ?_
   refine aA (fun _ _ _ _=>((I64 (↑(iI (List.take k x.kids))+1))∧((di (↑(iI (List.take k x.kids))+1)):DV)=(di (↑(ht x)+1)))) (by kernel_rfl) ?_
   rw[hk2,List.take_length,←Ho]
   have:=hs.ht
   exact⟨⟨by omega,by omega⟩,rfl⟩
end Go.Proofs
/- Names,plain. -/
namespace Go.Proofs
open Go Go.Ab
def lH (c:Int):Bool:=decide (97≤c)&&decide (c≤122)
def wZ (c:Int):Bool:=decide (48≤c)&&decide (c≤57)
def pO (c:Int):Bool:=lH c||wZ c||c==95
def aei (c:UInt8):Bool:=pO (c.toNat:Int)
def runN (s:ByteArray):Nat:=(s.data.toList.takeWhile aei).length
theorem xC {p:UInt8→Bool}:∀{l:List UInt8} {k:Nat},k≤l.length→(∀i (h:i<l.length),i<k→p l[i]=true)→(∀h:k<l.length,p l[k]=false)→(l.takeWhile p).length=k
 | [],k,h,_,_=>by simp at h;subst h;rfl
 | c :: l,0,_,_,h3=>by
  have:=h3 (by simp)
  simp only[List.getElem_cons_zero] at this
  rw[List.takeWhile_cons,this];rfl
 | c :: l,k+1,h1,h2,h3=>by
  have hc:=h2 0 (by simp) (by omega)
  simp only[List.getElem_cons_zero] at hc
  rw[List.takeWhile_cons,hc]
  simp only[if_true,List.length_cons]
  rw[xC (l:=l) (k:=k) (by simpa using h1) (fun i h hi=>by
   have:=h2 (i+1) (by simpa using h) (by omega)
   simpa using this) (fun h=>by
   have:=h3 (by simpa using h)
   simpa using this)]
theorem EX {s:ByteArray} {k:Nat} (h:k<s.size):byteAt s k=((s.data.toList[k]'(by rw[Array.length_toList];exact h)).toNat:Int):=by
 unfold byteAt
 have h':k<s.data.size:=h
 rw[Array.getElem?_eq_getElem h',Option.getD_some,Array.getElem_toList]
theorem zi {s:ByteArray} {k:Nat} (h1:k≤s.size) (h2:∀i,i<k→pO (byteAt s i)=true) (h3:k<s.size→pO (byteAt s k)=false):runN s=k:=by
 have hl:s.data.toList.length=s.size:=Array.length_toList
 refine xC (by omega) (fun i h hi=>?_) (fun h=>?_)
 ·have:=h2 i hi
  rw[EX (by omega)] at this;exact this
 ·have:=h3 (by omega)
  rw[EX (by omega)] at this;exact this
def Uf:List ByteArray:=[⟨#[112,111,105,110,116,115]⟩,⟨#[112,101,110,97,108,116,121]⟩,⟨#[99,97,112]⟩,⟨#[102,108,111,111,114]⟩,⟨#[105,110]⟩,⟨#[105,102]⟩,⟨#[97,110,100]⟩,⟨#[111,114]⟩,⟨#[110,111,116]⟩,⟨#[116,114,117,101]⟩,⟨#[102,97,108,115,101]⟩,⟨#[109,105,110]⟩,⟨#[109,97,120]⟩]
def DU (s:ByteArray):Bool:=Uf.any fun x=>decide (x=s)
def nameB (s:ByteArray):Bool:=decide (1≤s.size)&&(decide (s.size≤16)&&(lH (byteAt s 0)&&(decide (runN s=s.size)&&!DU s)))
def dX (l:List ByteArray) (i:Nat):DV:=ds (l.getD i .empty)
def xg (l:List ByteArray) (s:ByteArray):Int:=if l.any (fun x=>decide (x=s)) then ((l.takeWhile fun x=>!decide (x=s)).length:Nat) else -1
end Go.Proofs
/- Bytes,strings and decimal digits,plain;of no program. -/
namespace Go.Proofs
open Go Go.Ab
def bs (l:List UInt8):ByteArray:=⟨l.toArray⟩
theorem Di (s:ByteArray):s.data.toList.length=s.size:=Array.length_toList
theorem toList_inj {a b:ByteArray}:a.toList=b.toList↔a=b:=by
 rw[ByteArray.toList_eq,ByteArray.toList_eq]
 constructor
 ·intro h;apply ByteArray.ext;exact Array.toList_inj.1 h
 ·rintro rfl;rfl
theorem iT (a b:ByteArray):(ByteArray.toList a==ByteArray.toList b)=decide (a=b):=by
 rw[Bool.eq_iff_iff,beq_iff_eq,toList_inj,decide_eq_true_iff]
/-! Decimal digits. -/
def Vk (c:UInt8):Prop:=48≤c.toNat∧c.toNat≤57
def uM (l:List UInt8):Nat:=l.foldl (fun a c=>10*a+(c.toNat-48)) 0
theorem LQ (l:List UInt8) (c:UInt8):uM (l++[c])=10*uM l+(c.toNat-48):=by
 simp[uM,List.foldl_append]
theorem Qq {k:Nat} (h:k<10):(UInt8.ofNat (48+k)).toNat=48+k:=by
 rw[UInt8.toNat_ofNat'];omega
theorem KP:∀n:Nat,(∀c∈Lib.decDigits n,Vk c)∧uM (Lib.decDigits n)=n∧Lib.decDigits n≠[]∧(1<(Lib.decDigits n).length→∀c,(Lib.decDigits n).head?=some c→c.toNat≠48)∧(1≤n→∀c,(Lib.decDigits n).head?=some c→c.toNat≠48):=by
 intro n
 induction n using Nat.strongRecOn with
 | _ n ih=>
  rw[Lib.decDigits]
  by_cases h:n<10
  ·rw[dif_pos h]
   have hd:=Qq h
   refine⟨fun c hc=>?_,?_,by simp,fun h2=>by simp at h2,fun h2 c hc=>?_⟩
   ·rw[List.mem_singleton] at hc;subst hc;exact⟨by omega,by omega⟩
   ·show 10*0+((UInt8.ofNat (48+n)).toNat-48)=n
    rw[hd];omega
   ·simp only[List.head?_cons,aH] at hc;subst hc;omega
  ·rw[dif_neg h]
   obtain ⟨h1,h2,h3,h4,h5⟩:=ih (n / 10) (by omega)
   have hd:=Qq (show n % 10<10 by omega)
   have hhead:∀c,(Lib.decDigits (n / 10)++[UInt8.ofNat (48+n % 10)]).head?=some c→c.toNat≠48:=by
    intro c hc
    refine h5 (by omega) c ?_
    cases hq:Lib.decDigits (n / 10) with
    | nil=>exact absurd hq h3
    | cons a l=>rw[hq] at hc;simpa using hc
   refine⟨fun c hc=>?_,?_,by simp,fun _=>hhead,fun _=>hhead⟩
   ·rcases List.mem_append.1 hc with hc|hc
    ·exact h1 c hc
    ·rw[List.mem_singleton] at hc;subst hc;exact⟨by omega,by omega⟩
   ·rw[LQ,h2,hd];omega
theorem vS:∀k n:Nat,n<10 ^ (k+1)→(Lib.decDigits n).length≤k+1
 | 0,n,h=>by
  rw[Lib.decDigits,dif_pos (by omega)];simp
 | k+1,n,h=>by
  rw[Lib.decDigits]
  by_cases h2:n<10
  ·rw[dif_pos h2];simp
  ·rw[dif_neg h2,List.length_append]
   have:=vS k (n / 10) (by rw[Nat.pow_succ] at h;omega)
   simp;omega
theorem Jk:∀(n:Nat) (l:List UInt8),l.length=n→l≠[]→(∀c∈l,Vk c)→(1<l.length→∀c,l.head?=some c→c.toNat≠48)→Lib.decDigits (uM l)=l:=by
 intro n
 induction n with
 | zero=>intro l hn h0;exact absurd (List.eq_nil_of_length_eq_zero hn) h0
 | succ n ih=>
  intro l' hn h0 hd hz
  obtain ⟨l,c,rfl⟩:∃l c,l'=l++[c]:=⟨l'.dropLast,l'.getLast h0,(List.dropLast_concat_getLast h0).symm⟩
  have hc:=hd c (by simp)
  have hc':UInt8.ofNat (48+(c.toNat-48))=c:=by
   rw[Nat.add_sub_cancel' hc.1];exact UInt8.ofNat_toNat
  have hll:l.length=n:=by rw[List.length_append,List.length_singleton] at hn;omega
  rw[LQ]
  by_cases hl:l=[]
  ·subst hl
   have e:10*uM []+(c.toNat-48)=c.toNat-48:=by
    show 10*0+(c.toNat-48)=_
    omega
   rw[e,Lib.decDigits,dif_pos (by have:=hc.2;omega),hc',List.nil_append]
  ·have hh:∀a,l.head?=some a→a.toNat≠48:=by
    intro a ha
    refine hz (by rw[List.length_append];have:=List.length_pos_iff.2 hl;simp;omega) a ?_
    cases l with
    | nil=>exact absurd rfl hl
    | cons x l=>simpa using ha
   have ihl:=ih l hll hl (fun a ha=>hd a (by simp[ha])) (fun _=>hh)
   have hv:1≤uM l:=by
    rcases Nat.eq_zero_or_pos (uM l) with h|h
    ·rw[h,Lib.decDigits,dif_pos (by decide)] at ihl
     rw[←ihl] at hh
     exact absurd rfl (hh _ rfl)
    ·exact h
   rw[Lib.decDigits,dif_neg (by omega),show (10*uM l+(c.toNat-48)) / 10=uM l by have:=hc.2;omega,show (10*uM l+(c.toNat-48)) % 10=c.toNat-48 by have:=hc.2;omega,ihl,hc']
theorem KT {l:List UInt8} (h0:l≠[]) (hd:∀c∈l,Vk c) (hz:1<l.length→∀c,l.head?=some c→c.toNat≠48):Lib.decDigits (uM l)=l:=Jk _ l rfl h0 hd hz
set_option maxHeartbeats 1000000
set_option maxRecDepth 100000
open Go Go.Ab Go.RowKit
variable {G:IH}
@[match_pattern] abbrev b8 (c:Int):DV:=.con (.int .u8 c)
def NQ:Nat→DV:=aN false 1 (Uf.map fun s=>ds s)
def JJ:DV:=.slc 1 13 NQ
def cu (l:List ByteArray) (s:ByteArray):Bool:=l.any fun x=>decide (x=s)
def mZ:aZ:=fun f a=>match f,a with
 | 187,[b8 c]=>some (db (lH c))
 | 208,[b8 c]=>some (db (wZ c))
 | 189,[b8 c]=>some (db (pO c))
 | 181,[b8 c]=>some (db (lH c))
 | 204,[b8 c]=>some (db (wZ c))
 | 183,[b8 c]=>some (db (pO c))
 | 188,[.con (.string s),_]=>some (di (runN s))
 | 153,[.con (.string s)]=>some (db (nameB s))
 | 157,[.con (.string s)]=>some (db (nameB s))
 | 190,[]=>some JJ
 | 182,[]=>some JJ
 | 99,[_,.con (.string s)]=>some (db (DU s))
 | 55,[_,.con (.string s)]=>some (db (DU s))
 | _,_=>none
theorem f187 (c:Int):aj Tryz.prog G 187 [b8 c] (db (lH c)):=by
 refine aj.walk (ay:=mZ) (keep:=[]) follows Tryz.func187 rfl Tryz.call187 ?_
 refine aA (fun _ _ _ _=>(((db (decide (c≥97)&&decide (c≤122))):DV)=(db (lH c)))) (by kernel_rfl) ?_
 rfl
theorem f208 (c:Int):aj Tryz.prog G 208 [b8 c] (db (wZ c)):=by
 refine aj.walk (ay:=mZ) (keep:=[]) follows Tryz.func208 rfl Tryz.call208 ?_
 refine aA (fun _ _ _ _=>(((db (decide (c≥48)&&decide (c≤57))):DV)=(db (wZ c)))) (by kernel_rfl) ?_
 rfl
theorem f181 (c:Int):aj Tryz.prog G 181 [b8 c] (db (lH c)):=by
 refine aj.walk (ay:=mZ) (keep:=[]) follows Tryz.func181 rfl Tryz.call181 ?_
 refine aA (fun _ _ _ _=>(((db (decide (c≥97)&&decide (c≤122))):DV)=(db (lH c)))) (by kernel_rfl) ?_
 rfl
theorem f204 (c:Int):aj Tryz.prog G 204 [b8 c] (db (wZ c)):=by
 refine aj.walk (ay:=mZ) (keep:=[]) follows Tryz.func204 rfl Tryz.call204 ?_
 refine aA (fun _ _ _ _=>(((db (decide (c≥48)&&decide (c≤57))):DV)=(db (wZ c)))) (by kernel_rfl) ?_
 rfl
theorem f189 (c:Int):aj Tryz.prog G 189 [b8 c] (db (pO c)):=by
 refine aj.walk (ay:=mZ) (keep:=[]) follows Tryz.func189 rfl Tryz.call189 ?_
 refine aA (fun _ _ _ ZK=>((ZK 187 [(.con (.int .u8 c))] (db (lH c))∧(((!lH c)=true)→ZK 208 [(.con (.int .u8 c))] (db (wZ c))))∧((db (lH c||wZ c||c==95)):DV)=(db (pO c)))) (by kernel_rfl) ?_
 exact⟨⟨f187 c,fun _=>f208 c⟩,rfl⟩
theorem f183 (c:Int):aj Tryz.prog G 183 [b8 c] (db (pO c)):=by
 refine aj.walk (ay:=mZ) (keep:=[]) follows Tryz.func183 rfl Tryz.call183 ?_
 refine aA (fun _ _ _ ZK=>((ZK 181 [(.con (.int .u8 c))] (db (lH c))∧(((!lH c)=true)→ZK 204 [(.con (.int .u8 c))] (db (wZ c))))∧((db (lH c||wZ c||c==95)):DV)=(db (pO c)))) (by kernel_rfl) ?_
 exact⟨⟨f181 c,fun _=>f204 c⟩,rfl⟩
noncomputable def ad8 (s:ByteArray) (k:Nat):AS:=⟨regs Tryz.f188.ntmps [(0,vs s),(1,.d (.con (.func (.func 189) #[] #[]))),(5,vi k)],[]⟩
theorem f188 (s:ByteArray) (hs:s.size≤1000000):aj Tryz.prog G 188 [ds s,.con (.func (.func 189) #[] #[])] (di (runN s)):=by
 refine aj.walk (ay:=mZ) (keep:=[]) follows Tryz.func188 rfl Tryz.call188 ?_
 refine aA (fun ZT ZW ZQ _=>ZW [cd Tryz.f188 [1,1,0,0],(.blk 0),cd Tryz.f188 [1,1,1]] (aI ZT []) ZQ) (by kernel_rfl) ?_
 refine aC.loop (c:=dR (aQ Tryz.f188) [1,1,0,0,0]) (by kernel_rfl) (ad8 s) (fun k=>k≤s.size∧∀i,i<k→pO (byteAt s i)=true) (fun k=>s.size-k) 0 ?_ ⟨Nat.zero_le _,fun i hi=>by omega⟩ ?_
 ·exact AS.dB (by kernel_rfl)
 ·rintro k ⟨hk,hkd⟩
  refine walk (ay:=mZ) (keep:=[]) (cuts:=[]) (n:=1000) follows ?_
  refine bW (fun ZT ZW ZQ ZK ZA _=>(((((decide ((↑k:Int)<↑s.size))=true)→((0≤(↑k:Int))∧((↑k:Int)<↑s.size)))∧(((decide ((↑k:Int)<↑s.size))=true)→ZK 189 [(.con (.int .u8 (byteAt s (↑k:Int).toNat)))] (db (pO (byteAt s (↑k:Int).toNat)))))∧(((decide ((↑k:Int)<↑s.size)&&pO (byteAt s (↑k:Int).toNat))=true)→((I64 (↑k+1))∧(ZA (aI ZT [0]))))∧(((decide ((↑k:Int)<↑s.size)&&pO (byteAt s (↑k:Int).toNat))=false)→ZW [cd Tryz.f188 [1,1,1]] (aI ZT [1]) ZQ))) (by kernel_rfl) ?_
  simp only[Int.toNat_natCast]
  refine⟨⟨fun h=>?_,fun _=>f189 _⟩,fun h=>?_,fun h=>?_⟩
  ·simp only[decide_eq_true_eq] at h
   exact⟨by omega,by omega⟩
  ·simp only[aT,decide_eq_true_eq] at h
   refine⟨⟨by omega,by omega⟩,Again.mk (k+1) ?_ ⟨by omega,fun i hi=>?_⟩ (by omega)⟩
   ·exact AS.dB (by kernel_rfl)
   ·rcases Nat.lt_or_ge i k with h1|h1
    ·exact hkd i h1
    ·obtain rfl:i=k:=by omega
     exact h.2
  ·have hst:runN s=k:=zi hk hkd fun h1=>by
    simp only[Bool.and_eq_false_imp,decide_eq_true_eq] at h
    exact h (by omega)
   refine walk (ay:=mZ) (keep:=[]) (cuts:=[]) (n:=1000) follows ?_
   refine aA (fun _ _ _ _=>(((di (↑k)):DV)=(di ↑(runN s)))) (by kernel_rfl) ?_
   rw[hst]
theorem f190:aj Tryz.prog G 190 [] JJ:=by
 refine aj.walk (ay:=mZ) (keep:=[]) follows Tryz.func190 rfl Tryz.call190 ?_
 refine aA (fun _ _ _ _=>(((.slc 1 13 (aN false 1 [(ds (ByteArray.mk #[112,111,105,110,116,115])),(ds (ByteArray.mk #[112,101,110,97,108,116,121])),(ds (ByteArray.mk #[99,97,112])),(ds (ByteArray.mk #[102,108,111,111,114])),(ds (ByteArray.mk #[105,110])),(ds (ByteArray.mk #[105,102])),(ds (ByteArray.mk #[97,110,100])),(ds (ByteArray.mk #[111,114])),(ds (ByteArray.mk #[110,111,116])),(ds (ByteArray.mk #[116,114,117,101])),(ds (ByteArray.mk #[102,97,108,115,101])),(ds (ByteArray.mk #[109,105,110])),(ds (ByteArray.mk #[109,97,120]))])):DV)=JJ)) (by kernel_rfl) ?_
 rfl
theorem f182:aj Tryz.prog G 182 [] JJ:=by
 refine aj.walk (ay:=mZ) (keep:=[]) follows Tryz.func182 rfl Tryz.call182 ?_
 refine aA (fun _ _ _ _=>(((.slc 1 13 (aN false 1 [(ds (ByteArray.mk #[112,111,105,110,116,115])),(ds (ByteArray.mk #[112,101,110,97,108,116,121])),(ds (ByteArray.mk #[99,97,112])),(ds (ByteArray.mk #[102,108,111,111,114])),(ds (ByteArray.mk #[105,110])),(ds (ByteArray.mk #[105,102])),(ds (ByteArray.mk #[97,110,100])),(ds (ByteArray.mk #[111,114])),(ds (ByteArray.mk #[110,111,116])),(ds (ByteArray.mk #[116,114,117,101])),(ds (ByteArray.mk #[102,97,108,115,101])),(ds (ByteArray.mk #[109,105,110])),(ds (ByteArray.mk #[109,97,120]))])):DV)=JJ)) (by kernel_rfl) ?_
 rfl
theorem NS {l:List ByteArray} {s:ByteArray} {k:Nat} (hk:k<l.length) (hno:∀i,i<k→l.getD i .empty≠s) (h:l.getD k .empty=s):cu l s=true∧xg l s=k:=by
 have hk2:l[k]=s:=by rw[←h,List.getD,bQ hk];rfl
 have h1:cu l s=true:=by
  unfold cu
  rw[List.any_eq_true]
  exact⟨l[k],List.getElem_mem hk,by rw[decide_eq_true_eq];exact hk2⟩
 refine⟨h1,?_⟩
 unfold xg
 unfold cu at h1
 rw[if_pos h1]
 have:∀(l:List ByteArray) (k:Nat) (hk:k<l.length),(∀i (h:i<l.length),i<k→l[i]≠s)→l[k]=s→(l.takeWhile fun x=>!decide (x=s)).length=k:=by
  intro l
  induction l with
  | nil=>intro k hk;simp at hk
  | cons x l ih=>
   intro k hk h2 h3
   cases k with
   | zero=>
    simp only[List.getElem_cons_zero] at h3
    rw[List.takeWhile_cons,h3];simp
   | succ k=>
    have h4:=h2 0 (by simp) (by omega)
    simp only[List.getElem_cons_zero] at h4
    rw[List.takeWhile_cons]
    simp only[h4,decide_false,Bool.not_false,if_true,List.length_cons]
    rw[ih k (by simpa using hk) (fun i h5 h6=>by
     have:=h2 (i+1) (by simpa using h5) (by omega)
     simpa using this) (by simpa using h3)]
 rw[this l k hk (fun i h5 h6=>by
  have:=hno i h6
  rw[List.getD,bQ h5] at this
  exact this) hk2]
theorem any_none {l:List ByteArray} {s:ByteArray} (hno:∀i,i<l.length→l.getD i .empty≠s):cu l s=false∧xg l s = -1:=by
 have h1:cu l s=false:=by
  rw[Bool.eq_false_iff]
  unfold cu
  intro h
  obtain ⟨x,hx,hd⟩:=List.any_eq_true.1 h
  obtain ⟨i,hi,rfl⟩:=List.getElem_of_mem hx
  rw[decide_eq_true_eq] at hd
  refine hno i hi ?_
  rw[List.getD,bQ hi];exact hd
 refine⟨h1,?_⟩
 unfold xg
 unfold cu at h1
 rw[if_neg (by rw[h1];simp)]
noncomputable def adr (l:List ByteArray) (s:ByteArray) (k:Nat):AS:=⟨regs Tryz.f150.ntmps [(0,.d (.slc 1 l.length (dX l))),(1,vs s),(7,vi l.length),(8,vi k)],[]⟩
theorem f150 (l:List ByteArray) (s:ByteArray) (hl:l.length≤1000000):aj Tryz.prog G 150 [.slc 1 l.length (dX l),ds s] (di (xg l s)):=by
 refine aj.walk (ay:=mZ) (keep:=[]) follows Tryz.func150 rfl Tryz.call150 ?_
 refine aA (fun ZT ZW ZQ _=>ZW [cd Tryz.f150 [1,0,1,0],(.blk 0),cd Tryz.f150 [1,1]] (aI ZT []) ZQ) (by kernel_rfl) ?_
 refine aC.loop (c:=dR (aQ Tryz.f150) [1,0,1,0,0]) (by kernel_rfl) (adr l s) (fun k=>k≤l.length∧∀i,i<k→l.getD i .empty≠s) (fun k=>l.length-k) 0 ?_ ⟨Nat.zero_le _,fun i hi=>by omega⟩ ?_
 ·exact AS.dB (by kernel_rfl)
 ·rintro k ⟨hk,hkd⟩
  refine walk (ay:=mZ) (keep:=[]) (cuts:=[]) (n:=1000) follows ?_
  refine bW (fun ZT ZW ZQ _ ZA _=>((((decide ((↑k:Int)<↑l.length))=true)→(((0≤(↑k:Int))∧((↑k:Int)<↑l.length))∧(((s.toList==(l.getD (↑k:Int).toNat ByteArray.empty).toList)=true)→(((di (↑k)):DV)=(di (xg l s))))∧(((s.toList==(l.getD (↑k:Int).toNat ByteArray.empty).toList)=false)→((I64 (↑k+1))∧(ZA (aI ZT [0,1]))))))∧(((decide ((↑k:Int)<↑l.length))=false)→ZW [cd Tryz.f150 [1,1]] (aI ZT [1]) ZQ))) (by kernel_rfl) ?_
  simp only[Int.toNat_natCast,iT]
  refine⟨fun h=>?_,fun h=>?_⟩
  ·simp only[decide_eq_true_eq] at h
   refine⟨⟨by omega,by omega⟩,fun h2=>?_,fun h2=>?_⟩
   ·simp only[decide_eq_true_eq] at h2
    rw[(NS (by omega) hkd h2.symm).2]
   ·simp only[decide_eq_false_iff_not] at h2
    refine⟨⟨by omega,by omega⟩,Again.mk (k+1) ?_ ⟨by omega,fun i hi=>?_⟩ (by omega)⟩
    ·exact AS.dB (by kernel_rfl)
    ·rcases Nat.lt_or_ge i k with h1|h1
     ·exact hkd i h1
     ·obtain rfl:i=k:=by omega
      exact fun h3=>h2 h3.symm
  ·simp only[decide_eq_false_iff_not] at h
   have hst:=any_none (l:=l) (s:=s) fun i hi=>hkd i (by omega)
   refine walk (ay:=mZ) (keep:=[]) (cuts:=[]) (n:=1000) follows ?_
   refine aA (fun _ _ _ _=>(((di (-1)):DV)=(di (xg l s)))) (by kernel_rfl) ?_
   rw[hst.2]
noncomputable def adv (l:List ByteArray) (s:ByteArray) (k:Nat):AS:=⟨regs Tryz.f55.ntmps [(0,.d (.slc 1 l.length (dX l))),(1,vs s),(5,vi k)],[]⟩
theorem f55 (l:List ByteArray) (s:ByteArray) (hl:l.length≤1000000):aj Tryz.prog G 55 [.slc 1 l.length (dX l),ds s] (db (cu l s)):=by
 refine aj.walk (ay:=mZ) (keep:=[]) follows Tryz.func55 rfl Tryz.call55 ?_
 refine aA (fun ZT ZW ZQ _=>ZW [cd Tryz.f55 [1,0,1,0],(.blk 0),cd Tryz.f55 [1,1]] (aI ZT []) ZQ) (by kernel_rfl) ?_
 refine aC.loop (c:=dR (aQ Tryz.f55) [1,0,1,0,0]) (by kernel_rfl) (adv l s) (fun k=>k≤l.length∧∀i,i<k→l.getD i .empty≠s) (fun k=>l.length-k) 0 ?_ ⟨Nat.zero_le _,fun i hi=>by omega⟩ ?_
 ·exact AS.dB (by kernel_rfl)
 ·rintro k ⟨hk,hkd⟩
  refine walk (ay:=mZ) (keep:=[]) (cuts:=[]) (n:=1000) follows ?_
  refine bW (fun ZT ZW ZQ _ ZA _=>((((decide ((↑k:Int)<↑l.length))=true)→(((0≤(↑k:Int))∧((↑k:Int)<↑l.length))∧((((l.getD (↑k:Int).toNat ByteArray.empty).toList==s.toList)=true)→(((db true):DV)=(db (cu l s))))∧((((l.getD (↑k:Int).toNat ByteArray.empty).toList==s.toList)=false)→((I64 (↑k+1))∧(ZA (aI ZT [0,1]))))))∧(((decide ((↑k:Int)<↑l.length))=false)→ZW [cd Tryz.f55 [1,1]] (aI ZT [1]) ZQ))) (by kernel_rfl) ?_
  simp only[Int.toNat_natCast,iT]
  refine⟨fun h=>?_,fun h=>?_⟩
  ·simp only[decide_eq_true_eq] at h
   refine⟨⟨by omega,by omega⟩,fun h2=>?_,fun h2=>?_⟩
   ·simp only[decide_eq_true_eq] at h2
    rw[(NS (by omega) hkd h2).1]
   ·simp only[decide_eq_false_iff_not] at h2
    refine⟨⟨by omega,by omega⟩,Again.mk (k+1) ?_ ⟨by omega,fun i hi=>?_⟩ (by omega)⟩
    ·exact AS.dB (by kernel_rfl)
    ·rcases Nat.lt_or_ge i k with h1|h1
     ·exact hkd i h1
     ·obtain rfl:i=k:=by omega
      exact h2
  ·simp only[decide_eq_false_iff_not] at h
   have hst:=any_none (l:=l) (s:=s) fun i hi=>hkd i (by omega)
   refine walk (ay:=mZ) (keep:=[]) (cuts:=[]) (n:=1000) follows ?_
   refine aA (fun _ _ _ _=>(((db false):DV)=(db (cu l s)))) (by kernel_rfl) ?_
   rw[hst.1]
def adu (l:List ByteArray):aZ:=fun f a=>match f,a with
 | 150,[_,.con (.string s)]=>some (di (xg l s))
 | _,_=>none
theorem uz (s:ByteArray):(ByteArray.toList s==ByteArray.toList { data:=#[] })=decide (s.size=0):=by
 rw[iT,decide_eq_decide]
 constructor
 ·rintro rfl;rfl
 ·intro h
  apply ByteArray.ext
  exact Array.eq_empty_of_size_eq_zero h
theorem f99 (l:List ByteArray) (s:ByteArray) (hl:l.length≤1000000):aj Tryz.prog G 99 [.slc 1 l.length (dX l),ds s] (db (cu l s)):=by
 refine aj.walk (ay:=adu l) (keep:=[]) follows Tryz.func99 rfl Tryz.call99 ?_
 refine aA (fun _ _ _ ZK=>(ZK 150 [(.slc 1 l.length (dX l)),(ds s)] (di (xg l s))∧((db (decide (xg l s≥0))):DV)=(db (cu l s)))) (by kernel_rfl) ?_
 refine⟨f150 l s hl,?_⟩
 unfold xg cu
 cases h:l.any (fun x=>decide (x=s)) with
 | true=>
  rw[if_pos rfl]
  have:decide ((((l.takeWhile fun x=>!decide (x=s)).length:Nat):Int)≥0)=true:=by rw[decide_eq_true_eq];omega
  rw[this]
 | false=>rfl
theorem LX:∀i,i<13→NQ i=dX Uf i:=by
 intro i hi
 unfold NQ
 match i,hi with
 | 0,_=>rfl
 | 1,_=>rfl
 | 2,_=>rfl
 | 3,_=>rfl
 | 4,_=>rfl
 | 5,_=>rfl
 | 6,_=>rfl
 | 7,_=>rfl
 | 8,_=>rfl
 | 9,_=>rfl
 | 10,_=>rfl
 | 11,_=>rfl
 | 12,_=>rfl
theorem abv (s:ByteArray):aj Tryz.prog G 99 [JJ,ds s] (db (DU s)):=
 (f99 Uf s (by decide)).args fun _=>DV.fK (fun _ h=>DV.dJ LX h) (DV.fK (fun _ h=>h) (fun _ h=>h))
theorem abl (s:ByteArray):aj Tryz.prog G 55 [JJ,ds s] (db (DU s)):=
 (f55 Uf s (by decide)).args fun _=>DV.fK (fun _ h=>DV.dJ LX h) (DV.fK (fun _ h=>h) (fun _ h=>h))
theorem name_eq (s:ByteArray):nameB s=(!decide (s.size=0)&&decide ((s.size:Int)≤16)&&lH (byteAt s (Int.toNat 0))&&(runN s:Int)==(s.size:Int)&&!DU s):=by
 unfold nameB
 have e1:decide (1≤s.size) = !decide (s.size=0):=by
  by_cases h:s.size=0
  ·simp[h]
  ·simp[h];omega
 have e2:decide (s.size≤16)=decide ((s.size:Int)≤16):=by rw[decide_eq_decide];omega
 have e3:decide (runN s=s.size)=((runN s:Int)==(s.size:Int)):=by
  by_cases h:runN s=s.size
  ·rw[h];simp
  ·rw[decide_eq_false h]
   symm
   rw[beq_eq_false_iff_ne]
   omega
 rw[e1,e2,e3]
 simp only[Bool.and_assoc];rfl
theorem f157 (s:ByteArray) (hs:s.size≤1000000):aj Tryz.prog G 157 [ds s] (db (nameB s)):=by
 refine aj.walk (ay:=mZ) (keep:=[]) follows Tryz.func157 rfl Tryz.call157 ?_
 refine aA (fun _ _ _ ZK=>(fun Za Zb=>((((Zb=true)→(((0:Int)≤(0:Int))∧(0<(↑s.size:Int))))∧((Zb=true)→ZK 187 [(.con (.int .u8 (byteAt s (Int.toNat 0))))] (db (lH (byteAt s (Int.toNat 0)))))∧(((!s.toList==(ByteArray.mk #[]).toList&&decide ((↑s.size:Int)≤16)&&lH (byteAt s (Int.toNat 0)))=true)→ZK 188 [(ds s),(.con (.func (.func 189) ⟨[]⟩ ⟨[]⟩))] (di (↑(runN s))))∧((Za=true)→ZK 190 [] (.slc 1 13 NQ))∧((Za=true)→ZK 99 [(.slc 1 13 NQ),(ds s)] (db (DU s))))∧((db (!s.toList==(ByteArray.mk #[]).toList&&decide ((↑s.size:Int)≤16)&&lH (byteAt s (Int.toNat 0))&&(↑(runN s):Int)==↑s.size&&!DU s)):DV)=(db (nameB s)))) (!s.toList==(ByteArray.mk #[]).toList&&decide ((↑s.size:Int)≤16)&&lH (byteAt s (Int.toNat 0))&&(↑(runN s):Int)==↑s.size) (!s.toList==(ByteArray.mk #[]).toList&&decide ((↑s.size:Int)≤16))) (by kernel_rfl) ?_
 simp only[uz]
 refine⟨⟨fun h=>?_,fun _=>f187 _,fun _=>f188 s hs,fun _=>f190,fun _=>abv s⟩,?_⟩
 ·simp only[aT,Bool.not_eq_true',decide_eq_false_iff_not] at h
  exact⟨by omega,by omega⟩
 ·rw[name_eq]
noncomputable def adk (s:ByteArray) (k:Nat):AS:=⟨regs Tryz.f153.ntmps [(0,vs s),(3,vi k)],[]⟩
theorem f153 (s:ByteArray) (hs:s.size≤1000000):aj Tryz.prog G 153 [ds s] (db (nameB s)):=by
 refine aj.walk (ay:=mZ) (keep:=[]) follows Tryz.func153 rfl Tryz.call153 ?_
 refine aA (fun ZT ZW ZQ ZK=>(fun Za Zb=>(((((!s.toList==(ByteArray.mk #[]).toList)=true)→(((0:Int)≤(0:Int))∧(0<(↑s.size:Int))))∧(((!s.toList==(ByteArray.mk #[]).toList)=true)→ZK 181 [(.con (.int .u8 (byteAt s (Int.toNat 0))))] (db (lH (byteAt s (Int.toNat 0)))))∧((Zb=true)→ZK 182 [] (.slc 1 13 NQ))∧((Zb=true)→ZK 55 [(.slc 1 13 NQ),(ds s)] (db (DU s))))∧((Za=true)→(((db false):DV)=(db (nameB s))))∧((Za=false)→ZW [cd Tryz.f153 [1,1,0,1,0],(.blk 0),cd Tryz.f153 [1,1,1]] (aI ZT [1]) ZQ))) (s.toList==(ByteArray.mk #[]).toList||!lH (byteAt s (Int.toNat 0))||decide ((↑s.size:Int)>16)||DU s) (!(s.toList==(ByteArray.mk #[]).toList||!lH (byteAt s (Int.toNat 0))||decide ((↑s.size:Int)>16)))) (by kernel_rfl) ?_
 simp only[uz]
 refine⟨⟨fun h=>?_,fun _=>f181 _,fun _=>f182,fun _=>abl s⟩,fun h=>?_,fun h=>?_⟩
 ·simp only[Bool.not_eq_true',decide_eq_false_iff_not] at h
  exact⟨by omega,by omega⟩
 ·have:nameB s=false:=by
   rw[name_eq]
   by_cases h0:s.size=0
   ·simp[h0]
   ·cases h1:lH (byteAt s (Int.toNat 0)) with
    | false=>simp
    | true=>
     cases h2:DU s with
     | true=>simp
     | false=>
      rw[h1,h2] at h
      simp[h0] at h
      have:decide ((s.size:Int)≤16)=false:=by rw[decide_eq_false_iff_not];omega
      rw[this];simp
  rw[this]
 ·simp only[Bool.or_eq_false_iff,decide_eq_false_iff_not,Bool.not_eq_false',gt_iff_lt] at h
  obtain ⟨⟨⟨h1,h2⟩,h3⟩,h4⟩:=h
  have hn:nameB s=decide (runN s=s.size):=by
   unfold nameB
   have e1:decide (1≤s.size)=true:=by rw[decide_eq_true_eq];omega
   have e2:decide (s.size≤16)=true:=by rw[decide_eq_true_eq];omega
   have h2':lH (byteAt s 0)=true:=h2
   rw[e1,e2,h2',h4];simp
  refine aC.loop (c:=dR (aQ Tryz.f153) [1,1,0,1,0,0]) (by kernel_rfl) (adk s) (fun k=>k≤s.size∧∀i,i<k→pO (byteAt s i)=true) (fun k=>s.size-k) 0 ?_ ⟨Nat.zero_le _,fun i hi=>by omega⟩ ?_
  ·exact AS.dB (by kernel_rfl)
  ·rintro k ⟨hk,hkd⟩
   refine walk (ay:=mZ) (keep:=[]) (cuts:=[]) (n:=1000) follows ?_
   refine bW (fun ZT ZW ZQ ZK ZA _=>((((decide ((↑k:Int)<↑s.size))=true)→((((0≤(↑k:Int))∧((↑k:Int)<↑s.size))∧ZK 183 [(.con (.int .u8 (byteAt s (↑k:Int).toNat)))] (db (pO (byteAt s (↑k:Int).toNat))))∧(((!pO (byteAt s (↑k:Int).toNat))=true)→(((db false):DV)=(db (nameB s))))∧(((!pO (byteAt s (↑k:Int).toNat))=false)→((I64 (↑k+1))∧(ZA (aI ZT [0,1]))))))∧(((decide ((↑k:Int)<↑s.size))=false)→ZW [cd Tryz.f153 [1,1,1]] (aI ZT [1]) ZQ))) (by kernel_rfl) ?_
   simp only[Int.toNat_natCast]
   refine⟨fun h=>?_,fun h=>?_⟩
   ·simp only[decide_eq_true_eq] at h
    refine⟨⟨⟨by omega,by omega⟩,f183 _⟩,fun h5=>?_,fun h5=>⟨⟨by omega,by omega⟩,Again.mk (k+1) ?_ ⟨by omega,fun i hi=>?_⟩ (by omega)⟩⟩
    ·simp only[Bool.not_eq_true'] at h5
     have hst:runN s=k:=zi hk hkd fun _=>h5
     rw[hn,decide_eq_false (by omega)]
    ·exact AS.dB (by kernel_rfl)
    ·rcases Nat.lt_or_ge i k with h1|h1
     ·exact hkd i h1
     ·obtain rfl:i=k:=by omega
      simpa using h5
   ·simp only[decide_eq_false_iff_not] at h
    have hst:runN s=k:=zi hk hkd fun h1=>by omega
    refine walk (ay:=mZ) (keep:=[]) (cuts:=[]) (n:=1000) follows ?_
    refine aA (fun _ _ _ _=>(((db true):DV)=(db (nameB s)))) (by kernel_rfl) ?_
    rw[hn,decide_eq_true (by omega)]
set_option maxHeartbeats 2000000
/-! slices.IndexFunc and ContainsFunc over kids,for a function that keeps what it captures. -/
def sZ (p:Ex→Bool) (l:List Ex):Int:=if l.any p then ((l.takeWhile fun x=>!p x).length:Int) else -1
theorem TW {p:Ex→Bool} {L:List Ex} {k:Nat} (hk:k<L.length) (hno:∀i,i<k→p (L.getD i ak)=false) (h:p (L.getD k ak)=true):L.any p=true∧sZ p L=k:=by
 have e:∀i (h:i<L.length),L.getD i ak=L[i]:=fun i h=>by rw[List.getD,bQ h];rfl
 have h1:L.any p=true:=by
  rw[List.any_eq_true]
  exact⟨L[k],List.getElem_mem hk,by rw[←e k hk];exact h⟩
 refine⟨h1,?_⟩
 unfold sZ
 rw[if_pos h1]
 have:∀(l:List Ex) (k:Nat) (hk:k<l.length),(∀i (h:i<l.length),i<k→p l[i]=false)→p l[k]=true→(l.takeWhile fun x=>!p x).length=k:=by
  intro l
  induction l with
  | nil=>intro k hk;simp at hk
  | cons x l ih=>
   intro k hk h2 h3
   cases k with
   | zero=>
    simp only[List.getElem_cons_zero] at h3
    rw[List.takeWhile_cons,h3];simp
   | succ k=>
    have h4:=h2 0 (by simp) (by omega)
    simp only[List.getElem_cons_zero] at h4
    rw[List.takeWhile_cons]
    simp only[h4,Bool.not_false,if_true,List.length_cons]
    rw[ih k (by simpa using hk) (fun i h5 h6=>by
     have:=h2 (i+1) (by simpa using h5) (by omega)
     simpa using this) (by simpa using h3)]
 rw[this L k hk (fun i h5 h6=>by rw[←e i h5];exact hno i h6) (by rw[←e k hk];exact h)]
theorem PO {p:Ex→Bool} {L:List Ex} (hno:∀i,i<L.length→p (L.getD i ak)=false):L.any p=false∧sZ p L = -1:=by
 have h1:L.any p=false:=by
  rw[Bool.eq_false_iff]
  intro h
  obtain ⟨x,hx,hd⟩:=List.any_eq_true.1 h
  obtain ⟨i,hi,rfl⟩:=List.getElem_of_mem hx
  have:=hno i hi
  rw[List.getD,bQ hi] at this
  rw[show p L[i]=false from this] at hd
  cases hd
 refine⟨h1,?_⟩
 unfold sZ
 rw[if_neg (by rw[h1];simp)]
theorem VH (p:Ex→Bool) (L:List Ex):decide (sZ p L≥0)=L.any p:=by
 unfold sZ
 cases h:L.any p with
 | true=>rw[if_pos rfl,decide_eq_true_eq];omega
 | false=>rfl
noncomputable def Lr (c:Nat) (p:Ex→Bool) (l:List Ex):aZ:=fun f a=>match Nat.beq f c,f,a with
 | true,_,[e]=>some (db (p (ah e)))
 | _,155,[_,_]=>some (di (sZ p l))
 | _,_,_=>none
noncomputable def adD (c:Nat) (m:Nat) (x:Ex) (k:Nat):AS:=⟨regs Tryz.f155.ntmps [(0,.d (.slc 6 x.kids.length (lay (bJ m) x.kids))),(1,.d (.con (.func (.func c) #[] #[]))),(7,vi x.kids.length),(8,vi k)],[]⟩
theorem f155 (p:Ex→Bool) (m:Nat) (x:Ex) (hx:ht x≤m) (hs:Sm x) (hc:∀i,i<x.kids.length→aj Tryz.prog G 191 [aS m x i] (db (p (x.kids.getD i ak)))) :
  aj Tryz.prog G 155 [.slc 6 x.kids.length (lay (bJ m) x.kids),.con (.func (.func 191) #[] #[])] (di (sZ p x.kids)):=by
 have hl:=hs.len.1
 refine aj.walk (ay:=Lr 191 p x.kids) (keep:=[]) follows Tryz.func155 rfl Tryz.call155 ?_
 refine aA (fun ZT ZW ZQ _=>ZW [cd Tryz.f155 [1,0,1,0],(.blk 0),cd Tryz.f155 [1,1]] (aI ZT []) ZQ) (by kernel_rfl) ?_
 refine aC.loop (c:=dR (aQ Tryz.f155) [1,0,1,0,0]) (by kernel_rfl) (adD 191 m x) (fun k=>k≤x.kids.length∧∀i,i<k→p (x.kids.getD i ak)=false) (fun k=>x.kids.length-k) 0 ?_ ⟨Nat.zero_le _,fun i hi=>by omega⟩ ?_
 ·exact AS.dB (by kernel_rfl)
 ·rintro k ⟨hk,hkd⟩
  refine walk (ay:=Lr 191 p x.kids) (keep:=[]) (cuts:=[]) (n:=1000) follows ?_
  refine bW (fun ZT ZW ZQ ZK ZA _=>(fun Za=>((((decide ((↑k:Int)<↑x.kids.length))=true)→((((0≤(↑k:Int))∧((↑k:Int)<↑x.kids.length))∧ZK 191 [Za] (db (p (ah Za))))∧(((p (ah Za))=true)→(((di (↑k)):DV)=(di (sZ p x.kids))))∧(((p (ah Za))=false)→((I64 (↑k+1))∧(ZA (aI ZT [0,1]))))))∧(((decide ((↑k:Int)<↑x.kids.length))=false)→ZW [cd Tryz.f155 [1,1]] (aI ZT [1]) ZQ))) (aY m (x.kids.getD (↑k:Int).toNat ak))) (by kernel_rfl) ?_
  simp only[Int.toNat_natCast]
  refine⟨fun h=>?_,fun h=>?_⟩
  ·have hk2:k<x.kids.length:=by have:=of_decide_eq_true h;omega
   have e1:p (ah (aS m x k))=p (x.kids.getD k ak):=by rw[dL hx hk2]
   refine⟨⟨⟨by omega,by omega⟩,?_⟩,fun h2=>?_,fun h2=>⟨⟨by omega,by omega⟩,Again.mk (k+1) ?_ ⟨hk2,fun i hi=>?_⟩ (by omega)⟩⟩
   ·show aj Tryz.prog G 191 [aS m x k] (db (p (ah (aS m x k))))
    rw[e1];exact hc k hk2
   ·have h2:p (ah (aS m x k))=true:=h2
    rw[e1] at h2
    rw[(TW hk2 hkd h2).2]
   ·exact AS.dB (by kernel_rfl)
   ·rcases Nat.lt_or_ge i k with h1|h1
    ·exact hkd i h1
    ·obtain rfl:i=k:=by omega
     rw[←e1];exact h2
  ·simp only[decide_eq_false_iff_not] at h
   have hst:=PO (p:=p) (L:=x.kids) fun i hi=>hkd i (by omega)
   refine walk (ay:=Lr 191 p x.kids) (keep:=[]) (cuts:=[]) (n:=1000) follows ?_
   refine aA (fun _ _ _ _=>(((di (-1)):DV)=(di (sZ p x.kids)))) (by kernel_rfl) ?_
   rw[hst.2]
theorem f116 (p:Ex→Bool) (m:Nat) (x:Ex) (hx:ht x≤m) (hs:Sm x) (hc:∀i,i<x.kids.length→aj Tryz.prog G 191 [aS m x i] (db (p (x.kids.getD i ak)))) :
  aj Tryz.prog G 116 [.slc 6 x.kids.length (lay (bJ m) x.kids),.con (.func (.func 191) #[] #[])] (db (x.kids.any p)):=by
 refine aj.walk (ay:=Lr 191 p x.kids) (keep:=[]) follows Tryz.func116 rfl Tryz.call116 ?_
 refine aA (fun _ _ _ ZK=>(ZK 155 [(.slc 6 x.kids.length (lay (bJ m) x.kids)),(.con (.func (.func 191) ⟨[]⟩ ⟨[]⟩))] (di (sZ p x.kids))∧((db (decide (sZ p x.kids≥0))):DV)=(db (x.kids.any p)))) (by kernel_rfl) ?_
 refine⟨f155 p m x hx hs hc,?_⟩
 rw[VH]
theorem Jm {f:FuncId} {args:List DV} {r r':DV} (h:aj Tryz.prog G f args r) (hr:∀k v,DV.rel k r v→DV.rel k r' v):aj Tryz.prog G f args r':=
 ⟨h.1,fun w k vs hG hw ha=>(h.2 w k vs hG hw ha).mono fun e w' ⟨v,h',e1,h2,h3⟩=>⟨v,h',e1,hr h' v h2,h3⟩⟩
abbrev iv (n:Int):Value:=.int .i64 n
def VK (z:Value→DV):Value→DV:=bV (iv 20) (ds ⟨#[111,114]⟩) (bV (iv 19) (ds ⟨#[97,110,100]⟩) (bV (iv 17) (ds ⟨#[62,61]⟩) (bV (iv 16) (ds ⟨#[62]⟩) (bV (iv 15) (ds ⟨#[60,61]⟩) (bV (iv 14) (ds ⟨#[60]⟩) (bV (iv 13) (ds ⟨#[33,61]⟩) (bV (iv 12) (ds ⟨#[61,61]⟩) (bV (iv 9) (ds ⟨#[47]⟩) (bV (iv 8) (ds ⟨#[42]⟩) (bV (iv 7) (ds ⟨#[45]⟩) (bV (iv 6) (ds ⟨#[43]⟩) z)))))))))))
def VX:Value→Bool:=bT (iv 20) (bT (iv 19) (bT (iv 17) (bT (iv 16) (bT (iv 15) (bT (iv 14) (bT (iv 13) (bT (iv 12) (bT (iv 9) (bT (iv 8) (bT (iv 7) (bT (iv 6) fun _=>false)))))))))))
def gq (k:Int):ByteArray:=bif decide (k=20) then ⟨#[111,114]⟩ else bif decide (k=19) then ⟨#[97,110,100]⟩ else bif decide (k=17) then ⟨#[62,61]⟩ else bif decide (k=16) then ⟨#[62]⟩ else bif decide (k=15) then ⟨#[60,61]⟩ else bif decide (k=14) then ⟨#[60]⟩ else bif decide (k=13) then ⟨#[33,61]⟩ else bif decide (k=12) then ⟨#[61,61]⟩ else bif decide (k=9) then ⟨#[47]⟩ else bif decide (k=8) then ⟨#[42]⟩ else bif decide (k=7) then ⟨#[45]⟩ else bif decide (k=6) then ⟨#[43]⟩ else .empty
def gU (k:Int):Bool:=decide (6≤k∧k≤9∨12≤k∧k≤17∨19≤k∧k≤20)
def iV (v:Value):Int:=match v with | .int _ n=>n|_=>0
abbrev Sj:DV:=.mp (some .i64) (fun v=>ds (gq (iV v))) (fun v=>gU (iV v))
theorem YH (c:Bool) (a b:ByteArray):(bif c then ds a else ds b)=ds (bif c then a else b):=by cases c<;>rfl
theorem f159:aj Tryz.prog G 159 [] Sj:=by
 refine Jm (r:=.mp (some .i64) (VK fun _=>ds .empty) VX) (aj.walk (ay:=({ d:=fun _ _=>none }:iq)) (keep:=[]) follows Tryz.func159 rfl Tryz.call159 ?_) fun k v hv=>?_
 ·refine aA (fun _ _ _ _=>(((.mp (some .i64) (bV (Value.int IntKind.i64 20) (ds (ByteArray.mk #[111,114])) (bV (Value.int IntKind.i64 19) (ds (ByteArray.mk #[97,110,100])) (bV (Value.int IntKind.i64 17) (ds (ByteArray.mk #[62,61])) (bV (Value.int IntKind.i64 16) (ds (ByteArray.mk #[62])) (bV (Value.int IntKind.i64 15) (ds (ByteArray.mk #[60,61])) (bV (Value.int IntKind.i64 14) (ds (ByteArray.mk #[60])) (bV (Value.int IntKind.i64 13) (ds (ByteArray.mk #[33,61])) (bV (Value.int IntKind.i64 12) (ds (ByteArray.mk #[61,61])) (bV (Value.int IntKind.i64 9) (ds (ByteArray.mk #[47])) (bV (Value.int IntKind.i64 8) (ds (ByteArray.mk #[42])) (bV (Value.int IntKind.i64 7) (ds (ByteArray.mk #[45])) (bV (Value.int IntKind.i64 6) (ds (ByteArray.mk #[43])) fun x=>ds (ByteArray.mk #[]))))))))))))) (bT (Value.int IntKind.i64 20) (bT (Value.int IntKind.i64 19) (bT (Value.int IntKind.i64 17) (bT (Value.int IntKind.i64 16) (bT (Value.int IntKind.i64 15) (bT (Value.int IntKind.i64 14) (bT (Value.int IntKind.i64 13) (bT (Value.int IntKind.i64 12) (bT (Value.int IntKind.i64 9) (bT (Value.int IntKind.i64 8) (bT (Value.int IntKind.i64 7) (bT (Value.int IntKind.i64 6) fun x=>false))))))))))))):DV)=(.mp (some .i64) (VK fun x=>ds ByteArray.empty) VX))) (by kernel_rfl) ?_
  rfl
 ·refine DV.LM (fun k hk _=>?_) (fun k hk=>?_) hv
  ·cases k<;>simp only[o9,MapKept.IsKey] at hk
   subst hk
   simp only[VK,bV,iR,gq,iV,decide_true,Bool.true_and,YH]
   rfl
  ·cases k<;>simp only[o9,MapKept.IsKey] at hk
   subst hk
   rename_i n
   simp only[VX,bT,iR,gU,iV,decide_true,Bool.true_and,Bool.or_false]
   rw[Bool.eq_iff_iff]
   simp only[Bool.or_eq_true,decide_eq_true_eq]
   constructor
   ·intro h;exact decide_eq_true (by omega)
   ·intro h;have h:=of_decide_eq_true h;omega
open Go Go.Ab
set_option maxHeartbeats 1000000
variable {G:IH}
theorem MB {x y:Int} (hx:0≤x) (hy:0≤y):Int.gcd y (x.tmod y)=Int.gcd x y:=by
 obtain ⟨a,rfl⟩:=Int.eq_ofNat_of_zero_le hx
 obtain ⟨b,rfl⟩:=Int.eq_ofNat_of_zero_le hy
 rw[←Int.ofNat_tmod]
 simp only[Int.gcd_natCast_natCast]
 rw[Nat.gcd_comm b,←Nat.gcd_rec,Nat.gcd_comm]
theorem f169 (n:Int) (h0:-9223372036854775807≤n) (h1:n≤9223372036854775807):aj Tryz.prog G 169 [di n] (di (n.natAbs:Int)):=by
 refine aj.walk (ay:=ay) (keep:=[]) follows Tryz.func169 rfl Tryz.call169 ?_
 refine aA (fun _ _ _ _=>((iO n)∧((di (if -n>n then -n else n)):DV)=(di ↑n.natAbs))) (by kernel_rfl) ?_
 refine⟨⟨h0,h1⟩,congrArg di ?_⟩
 split<;>omega
def Oo (a b:Int) (x:Int×Int):Prop:=0≤x.1∧0≤x.2∧Int.gcd x.1 x.2=Int.gcd a b
def IV (x:Int×Int):Nat:=x.2.toNat
theorem Ea {x y:Int} (hx:0≤x) (hy:0<y):0≤x.tmod y∧x.tmod y<y:=by
 rw[Int.tmod_eq_emod_of_nonneg hx]
 exact⟨Int.emod_nonneg _ (by omega),Int.emod_lt_of_pos _ hy⟩
def adH (x:Int×Int):AS:=⟨regs 12 [(0,vi x.1),(1,vi x.2)],[]⟩
theorem f168 (a b:Int) (ha:0≤a) (hb:0≤b):aj Tryz.prog G 168 [di a,di b] (di (Int.gcd a b)):=by
 refine aj.walk (ay:=ay) (keep:=[]) follows Tryz.func168 rfl Tryz.call168 ?_
 refine aA (fun ZT ZW ZQ _=>ZW [cd Tryz.f168 [1,0,0],(.blk 0),cd Tryz.f168 [1,1]] (aI ZT []) ZQ) (by kernel_rfl) ?_
 refine aC.loop (c:=dR (aQ Tryz.f168) [1,0,0,0]) (by kernel_rfl) adH (Oo a b) IV (a,b) ?_ ⟨ha,hb,rfl⟩ ?_
 ·exact AS.dB (by kernel_rfl)
 ·rintro ⟨x,y⟩ ⟨hx,hy,hg⟩
  simp only at hx hy hg
  refine walk (ay:=ay) (keep:=[]) (cuts:=[]) (n:=1000) follows ?_
  refine bW (fun ZT ZW ZQ _ ZA _=>((((decide (y>0))=true)→((y≠0)∧(ZA (aI ZT [0]))))∧(((decide (y>0))=false)→ZW [cd Tryz.f168 [1,1]] (aI ZT [1]) ZQ))) (by kernel_rfl) ?_
  refine⟨fun h=>?_,fun h=>?_⟩
  ·have hy':0<y:=by simpa using h
   have hb:=Ea hx hy'
   refine⟨by omega,Again.mk (y,x.tmod y) ?_ ⟨hy,hb.1,by rw[←hg];exact MB hx hy⟩ (by simp only[IV];omega)⟩
   exact AS.dB (by kernel_rfl)
  ·refine walk (ay:=ay) (keep:=[]) (cuts:=[]) (n:=1000) follows ?_
   refine aA (fun _ _ _ _=>(((di x):DV)=(di ↑(a.gcd b)))) (by kernel_rfl) ?_
   have:y=0:=by simp at h;omega
   subst this
   rw[←hg];simp;omega
def LJ (x:Int×Int):AS:=⟨regs 16 [(0,vi x.1),(1,vi x.2)],[]⟩
theorem f109 (a b:Int) (h0:-9223372036854775807≤a) (h1:a≤9223372036854775807) (hb:0≤b):aj Tryz.prog G 109 [di a,di b] (di (Int.gcd a b)):=by
 refine aj.walk (ay:=ay) (keep:=[]) follows Tryz.func109 rfl Tryz.call109 ?_
 have round:∀x,Oo a b x→aC Tryz.prog G [.code (dR (aQ Tryz.f109) [1,1,0,0,0])] (LJ x) (nR Tryz.prog G [.blk 0,.code (dR (aQ Tryz.f109) [1,1,1])] (fF Tryz.prog Tryz.f109 (di (Int.gcd a b))) LJ (Oo a b) IV x):=by
  rintro ⟨x,y⟩ ⟨hx,hy,hg⟩
  simp only at hx hy hg
  refine walk (ay:=ay) (keep:=[]) (cuts:=[]) (n:=1000) follows ?_
  refine bW (fun ZT ZW ZQ _ ZA _=>((((decide (y>0))=true)→((y≠0)∧(ZA (aI ZT [0]))))∧(((decide (y>0))=false)→ZW [cd Tryz.f109 [1,1,1]] (aI ZT [1]) ZQ))) (by kernel_rfl) ?_
  refine⟨fun h=>?_,fun h=>?_⟩
  ·have hy':0<y:=by simpa using h
   have hb:=Ea hx hy'
   refine⟨by omega,Again.mk (y,x.tmod y) ?_ ⟨hy,hb.1,by rw[←hg];exact MB hx hy⟩ (by simp only[IV];omega)⟩
   exact AS.dB (by kernel_rfl)
  ·refine walk (ay:=ay) (keep:=[]) (cuts:=[]) (n:=1000) follows ?_
   refine aA (fun _ _ _ _=>(((di x):DV)=(di ↑(a.gcd b)))) (by kernel_rfl) ?_
   have:y=0:=by simp at h;omega
   subst this
   rw[←hg];simp;omega
 refine aA (fun ZT ZW ZQ _=>((((decide (a<0))=true)→((iO a)∧ZW [cd Tryz.f109 [1,1,0,0],(.blk 0),cd Tryz.f109 [1,1,1]] (aI ZT [0]) ZQ))∧(((decide (a<0))=false)→ZW [cd Tryz.f109 [1,1,0,0],(.blk 0),cd Tryz.f109 [1,1,1]] (aI ZT [1]) ZQ))) (by kernel_rfl) ?_
 refine⟨fun h=>⟨⟨h0,h1⟩,?_⟩,fun h=>?_⟩
 ·have ha:a<0:=by simpa using h
  refine aC.loop (c:=dR (aQ Tryz.f109) [1,1,0,0,0]) (by kernel_rfl) LJ (Oo a b) IV (-a,b) ?_ ⟨by simp only;omega,hb,by simp⟩ round
  exact AS.dB (by kernel_rfl)
 ·have ha:¬a<0:=by simpa using h
  refine aC.loop (c:=dR (aQ Tryz.f109) [1,1,0,0,0]) (by kernel_rfl) LJ (Oo a b) IV (a,b) ?_ ⟨by simp only;omega,hb,rfl⟩ round
  exact AS.dB (by kernel_rfl)
theorem zB (n d:Int):Int.gcd (n.natAbs:Int) d=Int.gcd n d:=by simp[Int.gcd]
theorem f137 (n d:Int):aj Tryz.prog G 137 [fr n d] (db (ok n d)):=by
 refine aj.walk (ay:=ay) (keep:=[]) follows Tryz.func137 rfl Tryz.call137 ?_
 refine aA (fun _ _ _ ZK=>(fun Za=>((((Za=true)→ZK 169 [(di n)] (di (↑n.natAbs)))∧((Za=true)→ZK 168 [(di (↑n.natAbs)),(di d)] (di ((↑(Int.gcd (↑(Int.natAbs n):Int) d):Int)))))∧((db (decide (d≥1)&&decide (d≤1000000)&&decide (n≥-1000000000)&&decide (n≤1000000000)&&(↑(Int.gcd (↑(Int.natAbs n):Int) d):Int)==1)):DV)=(db (ok n d)))) (decide (d≥1)&&decide (d≤1000000)&&decide (n≥-1000000000)&&decide (n≤1000000000))) (by kernel_rfl) ?_
 refine⟨⟨fun h=>?_,fun h=>?_⟩,congrArg db ?_⟩
 ·simp at h;exact f169 n (by omega) (by omega)
 ·simp at h;exact f168 _ d (by omega) (by omega)
 ·rw[zB,Bool.eq_iff_iff];simp[ok];omega
theorem f65 (n d:Int):aj Tryz.prog G 65 [fr n d] (db (ok n d)):=by
 refine aj.walk (ay:=ay) (keep:=[]) follows Tryz.func65 rfl Tryz.call65 ?_
 refine aA (fun _ _ _ ZK=>((((decide (d≥1)&&decide (d≤1000000)&&decide (n≥-1000000000)&&decide (n≤1000000000))=true)→ZK 109 [(di n),(di d)] (di (↑(n.gcd d))))∧((db (decide (d≥1)&&decide (d≤1000000)&&decide (n≥-1000000000)&&decide (n≤1000000000)&&(↑(n.gcd d):Int)==1)):DV)=(db (ok n d)))) (by kernel_rfl) ?_
 refine⟨fun h=>?_,congrArg db ?_⟩
 ·simp at h;exact f109 n d (by omega) (by omega) (by omega)
 ·rw[Bool.eq_iff_iff];simp[ok];omega
theorem Jz {n d:Int} (hd:d≠0):Int.gcd n d≠0:=by
 intro h;rw[Int.gcd_eq_zero_iff] at h;exact hd h.2
theorem f167 (n d:Int) (hd:d≠0) (hn:iO n) (hd':iO d):aj Tryz.prog G 167 [di n,di d] (fe (red n d)):=by
 obtain ⟨n0,n1⟩:=hn
 obtain ⟨d0,d1⟩:=hd'
 refine aj.walk (ay:=ay) (keep:=[]) follows Tryz.func167 rfl Tryz.call167 ?_
 refine aA (fun _ _ _ ZK=>(fun Za Zb=>((((decide (d<0))=true)→(((iO n)∧(iO d))∧(ZK 169 [(di (-n))] (di (↑(-n).natAbs))∧ZK 168 [(di (↑(-n).natAbs)),(di (-d))] (di (Za)))∧((Za≠0)∧(iO (-n))∧(Za≠0)∧(iO (-d)))∧ZK 137 [(.agg [(di (Int.tdiv (-n) Za)),(di (Int.tdiv (-d) Za))])] (db (ok (Int.tdiv (-n) Za) (Int.tdiv (-d) Za)))∧(((!ok (Int.tdiv (-n) Za) (Int.tdiv (-d) Za))=true)→(((.au [(.agg [(di 0),(di 0)]),(di 2)]):DV)=(fe (red n d))))∧(((!ok (Int.tdiv (-n) Za) (Int.tdiv (-d) Za))=false)→(((.au [(.agg [(di (Int.tdiv (-n) Za)),(di (Int.tdiv (-d) Za))]),(di 0)]):DV)=(fe (red n d))))))∧(((decide (d<0))=false)→((ZK 169 [(di n)] (di (↑n.natAbs))∧ZK 168 [(di (↑n.natAbs)),(di d)] (di (Zb)))∧((Zb≠0)∧(iO n)∧(Zb≠0)∧(iO d))∧ZK 137 [(.agg [(di (Int.tdiv n Zb)),(di (Int.tdiv d Zb))])] (db (ok (Int.tdiv n Zb) (Int.tdiv d Zb)))∧(((!ok (Int.tdiv n Zb) (Int.tdiv d Zb))=true)→(((.au [(.agg [(di 0),(di 0)]),(di 2)]):DV)=(fe (red n d))))∧(((!ok (Int.tdiv n Zb) (Int.tdiv d Zb))=false)→(((.au [(.agg [(di (Int.tdiv n Zb)),(di (Int.tdiv d Zb))]),(di 0)]):DV)=(fe (red n d)))))))) (↑(Int.gcd (↑(Int.natAbs (-n)):Int) (-d)):Int) (↑(Int.gcd (↑(Int.natAbs n):Int) d):Int)) (by kernel_rfl) ?_
 have aux:∀n d:Int,0<d→iO n→iO d→(aj Tryz.prog G 169 [di n] (di (n.natAbs:Int))∧aj Tryz.prog G 168 [di (n.natAbs:Int),di d] (di (Int.gcd (n.natAbs:Int) d)))∧((Int.gcd (n.natAbs:Int) d:Int)≠0):=by
  intro n d hd hn hd'
  exact⟨⟨f169 n hn.1 hn.2,f168 _ d (by omega) (by omega)⟩,by have:=Jz (n:=(n.natAbs:Int)) (d:=d) (by omega);omega⟩
 refine⟨fun h=>?_,fun h=>?_⟩
 ·have hneg:d<0:=by simpa using h
  obtain ⟨h1,h2⟩:=aux (-n) (-d) (by omega) ⟨by omega,by omega⟩ ⟨by omega,by omega⟩
  refine⟨⟨⟨n0,n1⟩,d0,d1⟩,h1,⟨h2,⟨by omega,by omega⟩,h2,by omega,by omega⟩,f137 _ _,fun h=>?_,fun h=>?_⟩
  ·simp only[zB] at h
   simp only[red,if_pos hneg,oJ]
   rw[if_neg (by simpa using h)];rfl
  ·simp only[zB] at h⊢
   simp only[red,if_pos hneg,oJ]
   rw[if_pos (by simpa using h)];rfl
 ·have hpos:¬d<0:=by simpa using h
  obtain ⟨h1,h2⟩:=aux n d (by omega) ⟨by omega,by omega⟩ ⟨by omega,by omega⟩
  refine⟨h1,⟨h2,⟨by omega,by omega⟩,h2,by omega,by omega⟩,f137 _ _,fun h=>?_,fun h=>?_⟩
  ·simp only[zB] at h
   simp only[red,if_neg hpos,oJ]
   rw[if_neg (by simpa using h)];rfl
  ·simp only[zB] at h⊢
   simp only[red,if_neg hpos,oJ]
   rw[if_pos (by simpa using h)];rfl
open Go Go.Ab
variable {G:IH}
theorem NM {n d:Int} (hd:0<d):(0:Int)<Int.gcd n d:=by have:=Jz (n:=n) (d:=d) (by omega);omega
theorem Ig (n d:Int) (hd:0<d):ok (n.tdiv (Int.gcd n d)) (d.tdiv (Int.gcd n d))=decide (-1000000000≤n.tdiv (Int.gcd n d)∧n.tdiv (Int.gcd n d)≤1000000000∧d.tdiv (Int.gcd n d)≤1000000):=by
 have hg:=NM (n:=n) hd
 have h1:n.tdiv (Int.gcd n d)=n / (Int.gcd n d):=Int.tdiv_eq_ediv_of_dvd (Int.gcd_dvd_left ..)
 have h2:d.tdiv (Int.gcd n d)=d / (Int.gcd n d):=Int.tdiv_eq_ediv_of_dvd (Int.gcd_dvd_right ..)
 have h3:Int.gcd (n / (Int.gcd n d)) (d / (Int.gcd n d))=1:=Int.gcd_ediv_gcd_ediv_gcd_of_ne_zero_right (by omega)
 have h4:0<d / (Int.gcd n d):=Int.ediv_pos_of_pos_of_dvd hd (by omega) (Int.gcd_dvd_right ..)
 rw[Bool.eq_iff_iff,h1,h2]
 simp only[ok,decide_eq_true_eq]
 constructor
 ·intro h;omega
 ·intro h;exact⟨by omega,by omega,by omega,by omega,h3⟩
theorem kR {n d:Int} (h:ok n d=true):1≤d∧d≤1000000∧-1000000000≤n∧n≤1000000000∧Int.gcd n d=1:=by simpa [ok] using h
theorem V6 {a b:Int} (hb:0<b) (h:iO a):I64 (a / b):=by
 obtain ⟨h0,h1⟩:=h
 rcases Int.lt_or_le a 0 with h|h
 ·have h2:=Int.ediv_neg_of_neg_of_pos h hb
  have h3:a≤a / b:=by
   have h4:=Int.emod_add_mul_ediv a b
   have h5:=Int.emod_nonneg a (show b≠0 by omega)
   have h6:(a / b)*b≤(a / b)*1:=Int.mul_le_mul_of_nonpos_left (by omega) (by omega)
   have:=Int.emod_lt_of_pos a hb
   rcases Int.lt_or_le (a / b) a with h7|h7
   ·have h8:b*(a / b)≤b*(a-1):=Int.mul_le_mul_of_nonneg_left (by omega) (by omega)
    have h9:b*(a-1)≤1*(a-1):=Int.mul_le_mul_of_nonpos_right (by omega) (by omega)
    have h10:b*(a-1)=b*a-b:=by rw[Int.mul_sub,Int.mul_one]
    have h11:b*a≤1*a:=Int.mul_le_mul_of_nonpos_right (by omega) (by omega)
    omega
   ·exact h7
  exact⟨by omega,by omega⟩
 ·have h2:=Int.ediv_nonneg h (Int.le_of_lt hb)
  have h3:=Int.ediv_le_self b h
  exact⟨by omega,by omega⟩
theorem f198 (n:Int) (h:iO n):aj Tryz.prog G 198 [di n] (.au [ds (str (sg n)),di (n.natAbs:Int)]):=by
 refine aj.walk (ay:=ay) (keep:=[]) follows Tryz.func198 rfl Tryz.call198 ?_
 refine aA (fun _ _ _ _=>((((decide (n<0))=true)→((iO n)∧((.au [(ds (ByteArray.mk #[45])),(di (-n))]):DV)=(.au [(ds (str (sg n))),(di ↑n.natAbs)])))∧(((decide (n<0))=false)→(((.au [(ds (ByteArray.mk #[])),(di n)]):DV)=(.au [(ds (str (sg n))),(di ↑n.natAbs)]))))) (by kernel_rfl) ?_
 refine⟨fun hn=>⟨h,?_⟩,fun hn=>?_⟩
 ·simp at hn;simp only[sg,if_pos hn];rw[show (n.natAbs:Int) = -n by omega]
 ·simp at hn;simp only[sg,if_neg (show ¬n<0 by omega)];rw[show (n.natAbs:Int)=n by omega]
theorem f145 (n d:Int) (hd:d≠0) (hn:iO n) (hd':iO d):aj Tryz.prog G 145 [di n,di d] (fe (red n d)):=by
 refine aj.walk (ay:=ay) (keep:=[]) follows Tryz.func145 rfl Tryz.call145 ?_
 refine aA (fun _ _ _ ZK=>(fun Za Zb=>((((decide (d<0))=true)→(((iO n)∧(iO d))∧ZK 109 [(di (-n)),(di (-d))] (di (↑((-n).gcd (-d))))∧(((↑((-n).gcd (-d)):Int)≠0)∧(iO (-n))∧((↑((-n).gcd (-d)):Int)≠0)∧(iO (-d)))∧((Za=true)→(((.au [(.agg [(di 0),(di 0)]),(di 2)]):DV)=(fe (red n d))))∧((Za=false)→(((.au [(.agg [(di ((-n).tdiv ↑((-n).gcd (-d)))),(di ((-d).tdiv ↑((-n).gcd (-d))))]),(di 0)]):DV)=(fe (red n d))))))∧(((decide (d<0))=false)→(ZK 109 [(di n),(di d)] (di (↑(n.gcd d)))∧(((↑(n.gcd d):Int)≠0)∧(iO n)∧((↑(n.gcd d):Int)≠0)∧(iO d))∧((Zb=true)→(((.au [(.agg [(di 0),(di 0)]),(di 2)]):DV)=(fe (red n d))))∧((Zb=false)→(((.au [(.agg [(di (n.tdiv ↑(n.gcd d))),(di (d.tdiv ↑(n.gcd d)))]),(di 0)]):DV)=(fe (red n d)))))))) (decide ((-n).tdiv ↑((-n).gcd (-d)) < -1000000000)||decide ((-n).tdiv ↑((-n).gcd (-d))>1000000000)||decide ((-d).tdiv ↑((-n).gcd (-d))>1000000)) (decide (n.tdiv ↑(n.gcd d) < -1000000000)||decide (n.tdiv ↑(n.gcd d)>1000000000)||decide (d.tdiv ↑(n.gcd d)>1000000))) (by kernel_rfl) ?_
 obtain ⟨n0,n1⟩:=hn
 obtain ⟨d0,d1⟩:=hd'
 have aux:∀n d:Int,0<d→-9223372036854775808<n→n≤9223372036854775807→iO n→iO d→aj Tryz.prog G 109 [di n,di d] (di (Int.gcd n d))∧((Int.gcd n d:Int)≠0):=by
  intro n d hd h0 h1 hn hd'
  exact⟨f109 n d (by omega) (by omega) (by omega),by have:=Jz (n:=n) (d:=d) (by omega);omega⟩
 refine⟨fun h=>?_,fun h=>?_⟩
 ·have hneg:d<0:=by simpa using h
  obtain ⟨h1,h2⟩:=aux (-n) (-d) (by omega) (by omega) (by omega) ⟨by omega,by omega⟩ ⟨by omega,by omega⟩
  refine⟨⟨⟨n0,n1⟩,d0,d1⟩,h1,⟨h2,⟨by omega,by omega⟩,h2,by omega,by omega⟩,fun h=>?_,fun h=>?_⟩
  ·simp only[red,if_pos hneg,oJ]
   rw[if_neg (by rw[Ig _ _ (by omega)];simp at h⊢;omega)];rfl
  ·simp only[red,if_pos hneg,oJ]
   rw[if_pos (by rw[Ig _ _ (by omega)];simp at h⊢;omega)];rfl
 ·have hpos:¬d<0:=by simpa using h
  obtain ⟨h1,h2⟩:=aux n d (by omega) (by omega) (by omega) ⟨by omega,by omega⟩ ⟨by omega,by omega⟩
  refine⟨h1,⟨h2,⟨by omega,by omega⟩,h2,by omega,by omega⟩,fun h=>?_,fun h=>?_⟩
  ·simp only[red,if_neg hpos,oJ]
   rw[if_neg (by rw[Ig _ _ (by omega)];simp at h⊢;omega)];rfl
  ·simp only[red,if_neg hpos,oJ]
   rw[if_pos (by rw[Ig _ _ (by omega)];simp at h⊢;omega)];rfl
end Go.Proofs
/-
 DERIVED: THE SHELF's CONTRACTS AT THIS DUMP,IN PLAIN WORDS (tools/lay-plain.mjs out of 'Ux.lean',which tools/lay-shelf.mjs wrote): THE SAME Og UNDER THE SAME NAMES: 'import','QW,'open','adh,'theorem' AND NOTHING ELSE: no command of the shelf's: FOR A HAND-IN. Each laying: the table of numbers ('..abV) and one theorem,a field a fact of the dump's own or the kernel's comparison;each contract: ONE APPLICATION.
-/
namespace Go.Proofs
open Go.Shelf
def Tryz.laysM171_ren:Go.Shelf.Ren:=⟨fun|171=>205|243=>211|246=>214|283=>219|284=>220|285=>221|286=>222|129=>226|317=>225|318=>227|319=>228|320=>229|337=>230|338=>231|n=>n,fun|3=>3|9=>9|2=>2|4=>4|171=>214|0=>0|53=>215|37=>182|5=>5|173=>218|212=>224|51=>220|20=>20|213=>225|46=>213|232=>228|233=>229|n=>n,fun|17=>1|18=>2|19=>3|n=>n⟩
theorem Tryz.laysM171:Go.Proofs.LaysM.n171 Tryz.prog Tryz.laysM171_ren:={
 mixed:=by kernel_rfl
 f129:=Tryz.func226.trans (congrArg some (by kernel_rfl))
 f171:=Tryz.func205.trans (congrArg some (by kernel_rfl))
 f243:=Tryz.func211.trans (congrArg some (by kernel_rfl))
 f246:=Tryz.func214.trans (congrArg some (by kernel_rfl))
 f283:=Tryz.func219.trans (congrArg some (by kernel_rfl))
 f284:=Tryz.func220.trans (congrArg some (by kernel_rfl))
 f285:=Tryz.func221.trans (congrArg some (by kernel_rfl))
 f286:=Tryz.func222.trans (congrArg some (by kernel_rfl))
 f317:=Tryz.func225.trans (congrArg some (by kernel_rfl))
 f318:=Tryz.func227.trans (congrArg some (by kernel_rfl))
 f319:=Tryz.func228.trans (congrArg some (by kernel_rfl))
 f320:=Tryz.func229.trans (congrArg some (by kernel_rfl))
 f337:=Tryz.func230.trans (congrArg some (by kernel_rfl))
 f338:=Tryz.func231.trans (congrArg some (by kernel_rfl))
 t0:=Tryz.underlying0
 a0:=Tryz.isAgg0
 z0:=Tryz.sizeOf0
 v0:=Tryz.zeroValue0
 t2:=Tryz.underlying2
 a2:=Tryz.isAgg2
 z2:=Tryz.sizeOf2
 v2:=Tryz.zeroValue2
 t3:=Tryz.underlying3
 a3:=Tryz.isAgg3
 z3:=Tryz.sizeOf3
 v3:=Tryz.zeroValue3
 t4:=Tryz.underlying4
 a4:=Tryz.isAgg4
 z4:=Tryz.sizeOf4
 v4:=Tryz.zeroValue4
 t5:=Tryz.underlying5
 a5:=Tryz.isAgg5
 z5:=Tryz.sizeOf5
 v5:=Tryz.zeroValue5
 t9:=Tryz.underlying9
 a9:=Tryz.isAgg9
 z9:=Tryz.sizeOf9
 v9:=Tryz.zeroValue9
 t20:=Tryz.underlying20
 a20:=Tryz.isAgg20
 z20:=Tryz.sizeOf20
 v20:=Tryz.zeroValue20
 t37:=Tryz.underlying182
 a37:=Tryz.isAgg182
 z37:=Tryz.sizeOf182
 v37:=Tryz.zeroValue182
 t46:=Tryz.underlying213
 a46:=Tryz.isAgg213
 z46:=Tryz.sizeOf213
 v46:=Tryz.zeroValue213
 t51:=Tryz.underlying220
 a51:=Tryz.isAgg220
 z51:=Tryz.sizeOf220
 v51:=Tryz.zeroValue220
 t53:=Tryz.underlying215
 a53:=Tryz.isAgg215
 z53:=Tryz.sizeOf215
 v53:=Tryz.zeroValue215
 t171:=Tryz.underlying214
 a171:=Tryz.isAgg214
 z171:=Tryz.sizeOf214
 v171:=Tryz.zeroValue214
 t173:=Tryz.underlying218
 a173:=Tryz.isAgg218
 z173:=Tryz.sizeOf218
 v173:=Tryz.zeroValue218
 t212:=Tryz.underlying224
 a212:=Tryz.isAgg224
 z212:=Tryz.sizeOf224
 v212:=Tryz.zeroValue224
 t213:=Tryz.underlying225
 a213:=Tryz.isAgg225
 z213:=Tryz.sizeOf225
 t232:=Tryz.underlying228
 a232:=Tryz.isAgg228
 z232:=Tryz.sizeOf228
 v232:=Tryz.zeroValue228
 t233:=Tryz.underlying229
 a233:=Tryz.isAgg229
 z233:=Tryz.sizeOf229
 v233:=Tryz.zeroValue229
 g17:=by kernel_rfl
 g18:=by kernel_rfl
 g19:=by kernel_rfl
 i0:=by kernel_rfl
 i2:=by kernel_rfl
 i3:=by kernel_rfl
 i4:=by kernel_rfl
 i5:=by kernel_rfl
 i9:=by kernel_rfl
 i20:=by kernel_rfl
 i37:=by kernel_rfl
 i46:=by kernel_rfl
 i51:=by kernel_rfl
 i53:=by kernel_rfl
 i171:=by kernel_rfl
 i173:=by kernel_rfl
 i212:=by kernel_rfl
 i232:=by kernel_rfl
 i233:=by kernel_rfl
 m17:=by kernel_rfl
 m18:=by kernel_rfl
 m19:=by kernel_rfl }
open Go.RowKit Go.Sort Go.Lib in
theorem Tryz.strconv_Itoa (n : Int) (h0 : -9223372036854775808 ≤ n) (h1 : n ≤ 9223372036854775807) (w : World) (htab : Lib.TabIs Tryz.prog w "internal/strconv.uint64pow10" .u64 Lib.pow10Tab) :
  Calls Tryz.prog 205 #[.int .i64 n] w fun e w'=>e=.returned (.string ⟨(Lib.itoa n).toArray⟩)∧∃k os,w'=grow (w.drewN k) os:=Any.strconv_Itoa Tryz.laysM171 n h0 h1 w htab
def Tryz.lays219_ren:Go.Shelf.Ren:=⟨fun|219=>212|217=>215|225=>216|224=>217|267=>218|266=>223|314=>224|n=>n,fun|9=>9|3=>3|4=>4|5=>5|46=>213|146=>221|51=>220|n=>n,fun|1=>0|n=>n⟩
theorem Tryz.lays219:Go.Proofs.Lays.n219 Tryz.prog Tryz.lays219_ren:={
 mixed:=by kernel_rfl
 f217:=Tryz.func215.trans (congrArg some (by kernel_rfl))
 f219:=Tryz.func212.trans (congrArg some (by kernel_rfl))
 f224:=Tryz.func217.trans (congrArg some (by kernel_rfl))
 f225:=Tryz.func216.trans (congrArg some (by kernel_rfl))
 f266:=Tryz.func223.trans (congrArg some (by kernel_rfl))
 f267:=Tryz.func218.trans (congrArg some (by kernel_rfl))
 f314:=Tryz.func224.trans (congrArg some (by kernel_rfl))
 t3:=Tryz.underlying3
 a3:=Tryz.isAgg3
 z3:=Tryz.sizeOf3
 v3:=Tryz.zeroValue3
 t4:=Tryz.underlying4
 a4:=Tryz.isAgg4
 z4:=Tryz.sizeOf4
 v4:=Tryz.zeroValue4
 t5:=Tryz.underlying5
 a5:=Tryz.isAgg5
 z5:=Tryz.sizeOf5
 v5:=Tryz.zeroValue5
 t9:=Tryz.underlying9
 a9:=Tryz.isAgg9
 z9:=Tryz.sizeOf9
 v9:=Tryz.zeroValue9
 t46:=Tryz.underlying213
 a46:=Tryz.isAgg213
 z46:=Tryz.sizeOf213
 v46:=Tryz.zeroValue213
 t51:=Tryz.underlying220
 a51:=Tryz.isAgg220
 z51:=Tryz.sizeOf220
 v51:=Tryz.zeroValue220
 t146:=Tryz.underlying221
 a146:=Tryz.isAgg221
 z146:=Tryz.sizeOf221
 v146:=Tryz.zeroValue221
 g1:=by kernel_rfl }
open Go.RowKit Go.Lib in
theorem Tryz.stringslite_Index_one (s:ByteArray) (c:UInt8) (w:World) :
  Calls Tryz.prog 212 #[.string s,.string ⟨#[c]⟩] w fun e w'=>e=.returned (.int .i64 (Lib.indexByte s.data.toList c))∧w'=w:=Any.stringslite_Index_one Tryz.lays219 s c w
open Go Go.Ab
set_option maxHeartbeats 1000000
set_option maxRecDepth 100000
theorem En (a b:List UInt8):str a++str b=str (a++b):=ByteArray.ext (by rw[ByteArray.data_append];simp)
theorem pY (a:List UInt8):ByteArray.size (str a)=a.length:=by simp[ByteArray.size]
theorem Tt (a:List UInt8):ByteArray.toList (str a)=a:=by simp
theorem O8 (a:List UInt8) (i j:Nat):ByteArray.extract (str a) i j=str ((a.drop i).take (j-i)):=ByteArray.ext (by rw[ByteArray.data_extract];simp)
theorem Oy (n:Int) (h:I64 n):(Lib.itoa n).length≤21:=Lib.itoa_length_le n h.1 h.2
theorem Qr (n:Int) (h:n≤9223372036854775807):(Lib.decDigits n.toNat).length≤20:=by
 rw[Lib.decDigits_length];exact Lib.nDigits_le20 _ (by omega)
theorem QD (n:Int):Lib.itoa n=sg n++Lib.decDigits n.natAbs:=by
 unfold Lib.itoa sg
 split
 ·rfl
 ·rw[show n.toNat=n.natAbs by omega];rfl
theorem Zw (n:Int):(sg n).length≤1:=by unfold sg;split<;>simp
def Tab (G : IH) : Prop := ∀ w, G.holds w → Lib.TabIs Tryz.prog w "internal/strconv.uint64pow10" .u64 Lib.pow10Tab
variable {G:IH}
theorem f205 (hT:Tab G) (n:Int) (h:I64 n):aj Tryz.prog G 205 [di n] (ds (str (Lib.itoa n))):=by
 refine aj.Np (args:=[.int .i64 n]) (v:=.string (str (Lib.itoa n))) Tryz.call205 fun w hw=>?_
 refine Calls.mono (Tryz.strconv_Itoa n h.1 h.2 w (hT w hw)) ?_
 rintro e w' ⟨he,k,os,rfl⟩
 exact⟨he,below_grow w k os⟩
theorem f206 (hT:Tab G) (n p:Int) (hn:iO n) (hp:0<p) (hp':p≤1000000000):aj Tryz.prog G 206 [di n,di p] (ds (str (pt n p))):=by
 obtain ⟨n0,n1⟩:=hn
 have b1:=Ea (x:=(n.natAbs:Int)) (y:=p) (by omega) hp
 have hm:I64 (p+Int.tmod (n.natAbs:Int) p):=⟨by omega,by omega⟩
 have hq:I64 (Int.tdiv (n.natAbs:Int) p):=by
  rw[Int.tdiv_eq_ediv_of_nonneg (by omega)]
  exact V6 hp ⟨by omega,by omega⟩
 have l1:=Oy _ hm
 have l2:=Oy _ hq
 have l3:1≤(Lib.itoa (p+Int.tmod (n.natAbs:Int) p)).length:=by
  have h1:=Lib.decDigits_length ((p+Int.tmod (n.natAbs:Int) p).natAbs)
  have h2:1≤Lib.nDigits ((p+Int.tmod (n.natAbs:Int) p).natAbs):=by unfold Lib.nDigits;split<;>omega
  rw[QD,List.length_append];omega
 have tk:∀l:List UInt8,List.take (Int.toNat (l.length:Int)-Int.toNat 1) (List.drop (Int.toNat 1) l)=l.drop 1:=by
  intro l
  rw[List.take_of_length_le (by simp)];rfl
 refine aj.walk (ay:=ay) (keep:=[]) follows Tryz.func206 rfl Tryz.call206 ?_
 refine aA (fun _ _ _ ZK=>(fun Za Zb Zc Zd Ze=>((((decide (n<0))=true)→((ZK 169 [(di n)] (di (↑n.natAbs))∧(p≠0)∧(I64 Zd)∧ZK 205 [(di Zd)] (ds (str (Lib.itoa Zd)))∧((0:Int)≤(1:Int))∧(1≤Za)∧(Za≤Za))∧(ZK 169 [(di n)] (di (↑n.natAbs))∧(p≠0)∧(iO ↑n.natAbs)∧ZK 205 [(di (((↑n.natAbs:Int)).tdiv p))] (ds (str Zb))∧((ByteArray.mk #[45]).size+(str Zb).size≤9223372036854775807)∧((ByteArray.mk #[45]++str Zb).size+(ByteArray.mk #[46]).size≤9223372036854775807)∧(ByteArray.size ({ data:=#[45] }++str Ze ++ { data:=#[46] })+ByteArray.size (ByteArray.extract Zc (Int.toNat 1) (Int.toNat Za))≤9223372036854775807))∧((ds ({ data:=#[45] }++str Ze ++ { data:=#[46] }++ByteArray.extract Zc (Int.toNat 1) (Int.toNat Za))):DV)=(ds (str (pt n p)))))∧(((decide (n<0))=false)→((ZK 169 [(di n)] (di (↑n.natAbs))∧(p≠0)∧(I64 Zd)∧ZK 205 [(di Zd)] (ds (str (Lib.itoa Zd)))∧((0:Int)≤(1:Int))∧(1≤Za)∧(Za≤Za))∧(ZK 169 [(di n)] (di (↑n.natAbs))∧(p≠0)∧(iO ↑n.natAbs)∧ZK 205 [(di (((↑n.natAbs:Int)).tdiv p))] (ds (str Zb))∧((ByteArray.mk #[]).size+(str Zb).size≤9223372036854775807)∧((ByteArray.mk #[]++str Zb).size+(ByteArray.mk #[46]).size≤9223372036854775807)∧(ByteArray.size ({ data:=#[] }++str Ze ++ { data:=#[46] })+ByteArray.size (ByteArray.extract Zc (Int.toNat 1) (Int.toNat Za))≤9223372036854775807))∧((ds ({ data:=#[] }++str Ze ++ { data:=#[46] }++ByteArray.extract Zc (Int.toNat 1) (Int.toNat Za))):DV)=(ds (str (pt n p))))))) (↑(ByteArray.size (str (Lib.itoa (p+Int.tmod (↑(Int.natAbs n):Int) p)))):Int) (Lib.itoa (((↑n.natAbs:Int)).tdiv p)) (str (Lib.itoa (p+Int.tmod (↑(Int.natAbs n):Int) p))) (p+((↑n.natAbs:Int)).tmod p) (Lib.itoa (Int.tdiv (↑(Int.natAbs n):Int) p))) (by kernel_rfl) ?_
 simp only[En,pY,O8,tk,List.length_append,List.length_cons,List.length_nil,List.length_drop]
 refine⟨fun h=>?_,fun h=>?_⟩
 ·have h:n<0:=by simpa using h
  refine⟨⟨f169 n (by omega) (by omega),by omega,hm,f205 hT _ hm,by omega,by omega,by omega⟩,⟨f169 n (by omega) (by omega),by omega,⟨by omega,by omega⟩,f205 hT _ hq,by omega,by omega,by omega⟩,?_⟩
  simp[pt,sg,h]
 ·have h:¬n<0:=by simpa using h
  refine⟨⟨f169 n (by omega) (by omega),by omega,hm,f205 hT _ hm,by omega,by omega,by omega⟩,⟨f169 n (by omega) (by omega),by omega,⟨by omega,by omega⟩,f205 hT _ hq,by omega,by omega,by omega⟩,?_⟩
  simp[pt,sg,h]
open Go Go.Ab Go.RowKit
def cI (p s:ByteArray):Int:=Lib.indexByte s.data.toList (p.data.toList.headD 0)
def cD (p s:ByteArray):ByteArray:=if 0≤cI p s then s.extract 0 (cI p s).toNat else s
def cR (p s:ByteArray):ByteArray:=if 0≤cI p s then s.extract (cI p s+1).toNat s.size else { data:=#[] }
def cB (p s:ByteArray):Bool:=decide (0≤cI p s)
theorem f212 (s:ByteArray) (c:UInt8):aj Tryz.prog G 212 [ds s,ds ⟨#[c]⟩] (di (cI ⟨#[c]⟩ s)):=by
 refine aj.Np (args:=[.string s,.string ⟨#[c]⟩]) (v:=.int .i64 _) Tryz.call212 fun w _=>?_
 refine Calls.mono (Tryz.stringslite_Index_one s c w) ?_
 rintro e w' ⟨he,rfl⟩
 exact⟨he,Below.refl _ _⟩
theorem abj (p s:ByteArray):cI p s<s.size:=by
 rcases Int.lt_or_le (cI p s) 0 with h|h
 ·omega
 ·obtain ⟨n,hn⟩:=Int.eq_ofNat_of_zero_le h
  obtain ⟨h1,_⟩:=Lib.indexByte_some hn
  have:=(List.getElem?_eq_some_iff.1 h1).1
  rw[Di] at this
  rw[hn];omega
def aaJ:aZ:=fun f args=>match f,args with
 | 212,[.con (.string s),.con (.string p)]=>some (di (cI p s))
 | 207,[.con (.string s),.con (.string p)]=>some (.au [ds (cD p s),ds (cR p s),db (cB p s)])
 | 186,[.con (.string s),.con (.string p)]=>some (.au [ds (cD p s),ds (cR p s),db (cB p s)])
 | _,_=>none
theorem f207 (s:ByteArray) (c:UInt8) (hs:s.size≤1000000):aj Tryz.prog G 207 [ds s,ds ⟨#[c]⟩] (.au [ds (cD ⟨#[c]⟩ s),ds (cR ⟨#[c]⟩ s),db (cB ⟨#[c]⟩ s)]):=by
 have hlt:=abj ⟨#[c]⟩ s
 have ady:=f212 (G:=G) s c
 have e1:(((⟨#[c]⟩:ByteArray).size:Nat):Int)=1:=rfl
 generalize hp:(⟨#[c]⟩:ByteArray)=p at *
 refine aj.walk (ay:=aaJ) (keep:=[]) follows Tryz.func207 rfl Tryz.call207 ?_
 refine aA (fun _ _ _ ZK=>(ZK 212 [(ds s),(ds p)] (di (cI p s))∧(((decide (cI p s≥0))=true)→(((((0:Int)≤(0:Int))∧(0≤cI p s)∧(cI p s≤↑s.size))∧(I64 (cI p s + ↑p.size))∧(0≤cI p s + ↑p.size)∧(cI p s + ↑p.size≤↑s.size)∧((↑s.size:Int)≤↑s.size))∧((.au [(ds (s.extract (Int.toNat 0) (cI p s).toNat)),(ds (s.extract (cI p s + ↑p.size).toNat (↑s.size:Int).toNat)),(db true)]):DV)=(.au [(ds (cD p s)),(ds (cR p s)),(db (cB p s))])))∧(((decide (cI p s≥0))=false)→(((.au [(ds s),(ds (ByteArray.mk #[])),(db false)]):DV)=(.au [(ds (cD p s)),(ds (cR p s)),(db (cB p s))]))))) (by kernel_rfl) ?_
 have e0:Int.toNat (0:Int)=0:=rfl
 rw[e1]
 refine⟨ady,fun h=>?_,fun h=>?_⟩
 ·have h:0≤cI p s:=by simpa using h
  refine⟨⟨⟨by omega,by omega,by omega⟩,⟨by omega,by omega⟩,by omega,by omega,by omega⟩,?_⟩
  unfold cD cR cB
  rw[if_pos h,if_pos h,decide_eq_true h,e0,Int.toNat_natCast]
 ·have h:¬0≤cI p s:=by simpa using h
  unfold cD cR cB
  rw[if_neg h,if_neg h,decide_eq_false h]
theorem f186 (s:ByteArray) (c:UInt8) (hs:s.size≤1000000):aj Tryz.prog G 186 [ds s,ds ⟨#[c]⟩] (.au [ds (cD ⟨#[c]⟩ s),ds (cR ⟨#[c]⟩ s),db (cB ⟨#[c]⟩ s)]):=by
 have adB:=f207 (G:=G) s c hs
 generalize hp:(⟨#[c]⟩:ByteArray)=p at *
 refine aj.walk (ay:=aaJ) (keep:=[]) follows Tryz.func186 rfl Tryz.call186 ?_
 refine aA (fun _ _ _ ZK=>(ZK 207 [(ds s),(ds p)] (.au [(ds (cD p s)),(ds (cR p s)),(db (cB p s))])∧(ZS ((.au [(ds (cD p s)),(ds (cR p s)),(db (cB p s))]):DV)))) (by kernel_rfl) ?_
 exact⟨adB,rfl⟩
open Go Go.Ab
variable {G:IH}
theorem wrap_u8 {z:Int} (h0:0≤z) (h1:z<256):IntKind.wrap .u8 z=z:=by
 simp[IntKind.wrap,IntKind.bits,IntKind.signed];omega
theorem one_byte {z:Int} (h0:0≤z) (h1:z<256):BytesAt 1 (aN false 1 [.con (.int .u8 (IntKind.wrap .u8 z))])∧bytesOf 1 (aN false 1 [.con (.int .u8 (IntKind.wrap .u8 z))])=[UInt8.ofNat z.toNat]:=by
 rw[wrap_u8 h0 h1]
 refine⟨fun i hi=>?_,rfl⟩
 have:i=0:=by omega
 subst this;rfl
def aat (x:List UInt8×Int):AS:=⟨regs 21 [(0,vi x.2),(3,vs (str x.1))],[]⟩
def ZF (n:Int) (x:List UInt8×Int):Prop:=0≤x.2∧x.2≤n∧((x.1=[]∧x.2=n)∨(x.1≠[]∧0<x.2∧Lib.decDigits n.toNat=Lib.decDigits x.2.toNat++x.1)∨(x.1≠[]∧x.2=0∧Lib.decDigits n.toNat=x.1))
def Xb (x:List UInt8×Int):Nat:=x.2.toNat+(if x.1=[] then 1 else 0)
theorem yR {u:Nat} (h:u<10):Lib.decDigits u=[UInt8.ofNat (48+u)]:=by rw[Lib.decDigits,dif_pos h]
theorem PI {u:Nat} (h:¬u<10):Lib.decDigits u=Lib.decDigits (u / 10)++[UInt8.ofNat (48+u % 10)]:=by rw[Lib.decDigits,dif_neg h]
theorem f199 (n:Int) (h0:0≤n) (hn:n≤9223372036854775807):aj Tryz.prog G 199 [di n] (ds (str (Lib.decDigits n.toNat))):=by
 refine aj.walk (ay:=ay) (keep:=[0,2,3,9]) follows Tryz.func199 rfl Tryz.call199 ?_
 refine aA (fun ZT ZW ZQ _=>ZW [cd Tryz.f199 [1,1,0,0],(.blk 0),cd Tryz.f199 [1,1,1]] (aI ZT []) ZQ) (by kernel_rfl) ?_
 refine aC.loop (c:=dR (aQ Tryz.f199) [1,1,0,0,0]) (by kernel_rfl) aat (ZF n) Xb ([],n) ?_ ⟨h0,Int.le_refl _,.inl ⟨rfl,rfl⟩⟩ ?_
 ·exact AS.dB (by kernel_rfl)
 ·rintro ⟨l,k⟩ ⟨hk,hkn,hI⟩
  simp only at hk hkn hI
  refine walk (ay:=ay) (keep:=[0,2,3,9]) (cuts:=[]) (n:=1000) follows ?_
  refine rV ((str l).toList==(ByteArray.mk #[]).toList||decide (k>0)) (bytesOf 1 (aN false 1 [DV.con (Value.int IntKind.u8 (IntKind.u8.wrap (48+k.tmod 10)))])) (fun Za Zb=>(((Za=true)→(((I64 (48+k.tmod 10))∧BytesAt 1 (aN false 1 [(.con (.int .u8 (IntKind.u8.wrap (48+k.tmod 10))))])∧((ByteArray.mk Zb.toArray).size+(str l).size≤9223372036854775807))∧(iO k)∧Again aat (ZF n) Xb (l,k) ⟨regs 21 [(0,(vi (k.tdiv 10))),(3,(vs (ByteArray.mk Zb.toArray++str l))),(9,(vb Za))],[]⟩))∧((Za=false)→aC Tryz.prog G [cd Tryz.f199 [1,1,1]] ⟨regs 21 [(0,(vi k)),(3,(vs (str l))),(9,(vb Za))],[]⟩ (fF Tryz.prog Tryz.f199 (ds (str (Lib.decDigits n.toNat))))))) (by kernel_rfl) ?_
  simp only[Tt]
  have hlen:=Qr n hn
  have hll:l.length≤20:=by
   rcases hI with ⟨rfl,_⟩|⟨_,_,h⟩|⟨_,_,h⟩
   ·simp
   ·rw[h,List.length_append] at hlen;omega
   ·rw[h] at hlen;exact hlen
  have hm:=Ea (x:=k) (y:=10) hk (by omega)
  have hmod:k.tmod 10=k % 10:=Int.tmod_eq_emod_of_nonneg hk
  have hdiv:k.tdiv 10=k / 10:=Int.tdiv_eq_ediv_of_nonneg hk
  obtain ⟨b1,b2⟩:=one_byte (z:=48+k.tmod 10) (by omega) (by omega)
  rw[b2,hdiv]
  simp only[En,pY]
  refine⟨fun h=>⟨⟨⟨by omega,by omega⟩,b1,by simp;omega⟩,⟨by omega,by omega⟩,Again.mk ([UInt8.ofNat (48+k.tmod 10).toNat]++l,k / 10) ?_ ⟨by simp only;omega,by simp only;omega,?_⟩ ?_⟩,fun h=>?_⟩
  ·exact AS.dB (by kernel_rfl)
  ·have e1:(48+k.tmod 10).toNat=48+k.toNat % 10:=by omega
   rw[e1]
   have key:Lib.decDigits n.toNat=Lib.decDigits k.toNat++l:=by
    rcases hI with ⟨rfl,rfl⟩|⟨_,_,h⟩|⟨hl,hk0,_⟩
    ·simp
    ·exact h
    ·exfalso;revert h;simp[hl,hk0]
   by_cases hk9:k.toNat<10
   ·right;right
    refine⟨by simp,by omega,?_⟩
    rw[key,yR hk9,Nat.mod_eq_of_lt hk9]
   ·right;left
    refine⟨by simp,by omega,?_⟩
    rw[key,PI hk9,show (k / 10).toNat=k.toNat / 10 by omega]
    simp
  ·simp only[Xb,if_neg (show ¬([UInt8.ofNat (48+k.tmod 10).toNat]++l=[]) by simp)]
   rcases hI with ⟨rfl,_⟩|⟨hl,hk0,_⟩|⟨hl,hk0,_⟩
   ·rw[if_pos rfl];omega
   ·rw[if_neg hl];omega
   ·exfalso;revert h;simp[hl,hk0]
  ·refine walk (ay:=ay) (keep:=[]) (cuts:=[]) (n:=1000) follows ?_
   refine aA (fun _ _ _ _=>(((ds (str l)):DV)=(ds (str (Lib.decDigits n.toNat))))) (by kernel_rfl) ?_
   rcases hI with ⟨rfl,_⟩|⟨hl,hk0,_⟩|⟨hl,hk0,he⟩
   ·simp at h
   ·simp at h;omega
   ·rw[he]
open Go Go.Ab
def pad:Nat→Nat→List UInt8
 | 0,_=>[]
 | k+1,r=>pad k (r / 10)++[UInt8.ofNat (48+r % 10)]
theorem JZ:∀(k r:Nat),pad (k+1) r=UInt8.ofNat (48+r / 10 ^ k % 10) :: pad k (r % 10 ^ k)
 | 0,r=>by simp[pad]
 | k+1,r=>by
  have ih:=JZ k (r / 10)
  rw[pad,ih]
  simp only[pad,List.cons_append]
  rw[Nat.div_div_eq_div_mul,show 10*10 ^ k=10 ^ (k+1) by rw[Nat.pow_succ,Nat.mul_comm]]
  have h1:r % 10 ^ (k+1) / 10=r / 10 % 10 ^ k:=by
   rw[Nat.pow_succ,Nat.mul_comm,Nat.mod_mul_right_div_self]
  have h2:r % 10 ^ (k+1) % 10=r % 10:=Nat.mod_mod_of_dvd _ ⟨10 ^ k,by rw[Nat.pow_succ,Nat.mul_comm]⟩
  rw[h1,h2]
theorem PG:∀(k r:Nat),r<10 ^ k→Lib.decDigits (10 ^ k+r)=49 :: pad k r
 | 0,r,h=>by
  have:r=0:=by simpa using h
  subst this
  rw[yR (by decide)];rfl
 | k+1,r,h=>by
  have hp:0<10 ^ k:=Nat.pow_pos (by omega)
  have e:10 ^ (k+1)=10*10 ^ k:=by rw[Nat.pow_succ,Nat.mul_comm]
  rw[PI (by omega),show (10 ^ (k+1)+r) / 10=10 ^ k+r / 10 by omega,PG k (r / 10) (by omega),show (10 ^ (k+1)+r) % 10=r % 10 by omega]
  rfl
theorem MS (d:Nat) (hd:0<d):∀(m fuel r:Nat),m≤fuel→r<d→d∣r*10 ^ m→(∀i,i<m→¬d∣r*10 ^ i)→oG d fuel r=pad m (r*10 ^ m / d)
 | 0,fuel,r,_,hr,h,_=>by
  have:r=0:=Nat.eq_zero_of_dvd_of_lt (by simpa using h) hr
  subst this
  cases fuel<;>simp[oG,pad]
 | m+1,0,r,hf,_,_,_=>by omega
 | m+1,fuel+1,r,hf,hr,h,hmin=>by
  have hr0:r≠0:=by
   rintro rfl
   exact hmin 0 (by omega) (by simp)
  have hp:0<10 ^ m:=Nat.pow_pos (by omega)
  have hq:10*r / d<10:=by rw[Nat.div_lt_iff_lt_mul hd];omega
  have hmod:10*r % d<d:=Nat.mod_lt _ hd
  have hsplit:=Nat.div_add_mod (10*r) d
  have hdv:∀i,d∣(10*r % d)*10 ^ i↔d∣r*10 ^ (i+1):=by
   intro i
   have e:r*10 ^ (i+1)=d*(10*r / d*10 ^ i)+(10*r % d)*10 ^ i:=by
    rw[←Nat.mul_assoc,←Nat.add_mul,hsplit,Nat.pow_succ,Nat.mul_comm (10 ^ i) 10,←Nat.mul_assoc,Nat.mul_comm r 10]
   rw[e]
   exact(Nat.dvd_add_right (Nat.dvd_mul_right ..)).symm
  have hdm:=(hdv m).2 h
  obtain ⟨c,hc⟩:=hdm
  have hcl:c<10 ^ m:=by
   have:d*c<d*10 ^ m:=by rw[←hc];exact Nat.mul_lt_mul_of_pos_right hmod hp
   exact Nat.lt_of_mul_lt_mul_left this
  have hx:r*10 ^ (m+1) / d=10*r / d*10 ^ m+c:=by
   have e:r*10 ^ (m+1)=d*(10*r / d*10 ^ m+c):=by
    rw[Nat.mul_add,←hc,←Nat.mul_assoc,←Nat.add_mul,hsplit,Nat.pow_succ,Nat.mul_comm (10 ^ m) 10,←Nat.mul_assoc,Nat.mul_comm r 10]
   rw[e,Nat.mul_div_cancel_left _ hd]
  have hcd:(10*r % d)*10 ^ m / d=c:=by rw[hc,Nat.mul_div_cancel_left _ hd]
  rw[oG,if_neg hr0,MS d hd m fuel _ (by omega) hmod ⟨c,hc⟩ (fun i hi=>by rw[hdv];exact hmin (i+1) (by omega)),hcd,yR hq,JZ,hx]
  have e1:(10*r / d*10 ^ m+c) / 10 ^ m=10*r / d:=by
   rw[Nat.mul_comm,Nat.mul_add_div hp,Nat.div_eq_of_lt hcl,Nat.add_zero]
  have e2:(10*r / d*10 ^ m+c) % 10 ^ m=c:=by
   rw[Nat.mul_comm,Nat.mul_add_mod,Nat.mod_eq_of_lt hcl]
  rw[e1,e2,Nat.mod_eq_of_lt hq];rfl
theorem LP (n:Int) (d k:Nat) (hk:d∣10 ^ k) (hmin:∀i,i<k→¬d∣10 ^ i):∀(m f i:Nat),i+m=k→m<f→
  zf n d f ((10 ^ i:Nat):Int)=if k=0 then (Lib.itoa n,true) else (pt (n*((10 ^ k / d:Nat):Int)) ((10 ^ k:Nat):Int),true)
 | _,0,_,_,h=>by omega
 | m,f+1,i,hi,hf=>by
  rw[zf]
  by_cases hm:m=0
  ·subst hm
   have:i=k:=by omega
   subst this
   rw[if_pos (by rw[←Int.ofNat_tmod,Nat.mod_eq_zero_of_dvd hk];rfl)]
   by_cases h0:i=0
   ·subst h0;simp
   ·have h1:(10:Nat) ^ i≠1:=by
     have:10 ^ 1≤10 ^ i:=Nat.pow_le_pow_right (by omega) (by omega)
     omega
    rw[if_neg (by omega),if_neg h0,←Int.ofNat_tdiv]
  ·rw[if_neg (by
    rw[←Int.ofNat_tmod]
    intro h
    exact hmin i (by omega) (Nat.dvd_of_mod_eq_zero (by omega)))]
   have:=LP n d k hk hmin (m-1) f (i+1) (by omega) (by omega)
   rw[←this]
   congr 1
   rw[Nat.pow_succ];omega
theorem J4 (n:Int) (d:Nat):∀(f i:Nat),(∀j,j<i+f→¬d∣10 ^ j)→zf n d f ((10 ^ i:Nat):Int)=([],false)
 | 0,_,_=>rfl
 | f+1,i,h=>by
  rw[zf,if_neg (by
    rw[←Int.ofNat_tmod]
    intro h'
    exact h i (by omega) (Nat.dvd_of_mod_eq_zero (by omega)))]
  have:=J4 n d f (i+1) (fun j hj=>h j (by omega))
  rw[←this]
  congr 1
  rw[Nat.pow_succ];omega
theorem least {p:Nat→Prop}:∀(m:Nat),p m→∃k,k≤m∧p k∧∀i,i<k→¬p i
 | 0,h=>⟨0,by omega,h,fun i hi=>by omega⟩
 | m+1,h=>by
  classical
  by_cases h':∃i,i<m+1∧p i
  ·obtain ⟨i,hi,hp⟩:=h'
   obtain ⟨k,hk,h1,h2⟩:=least i hp
   exact⟨k,by omega,h1,h2⟩
  ·exact⟨m+1,by omega,h,fun i hi hp=>h' ⟨i,hi,hp⟩⟩
termination_by m=>m
theorem Ef (n d:Int):nI n d=jG n d:=by
 unfold nI jG
 cases hok:ok n d with
 | false=>simp
 | true=>
  obtain ⟨d1,d2,-,-,hg⟩:=kR hok
  obtain ⟨e,rfl⟩:=Int.eq_ofNat_of_zero_le (show 0≤d by omega)
  simp only[Int.toNat_natCast]
  have he:0<e:=by omega
  have hgn:Nat.gcd n.natAbs e=1:=by simpa [Int.gcd] using hg
  have hmod:((1000000:Int).tmod e=0)↔e∣10 ^ 6:=by
   rw[show (1000000:Int)=((10 ^ 6:Nat):Int) by rfl,←Int.ofNat_tmod]
   exact⟨fun h=>Nat.dvd_of_mod_eq_zero (by omega),fun h=>by rw[Nat.mod_eq_zero_of_dvd h];rfl⟩
  by_cases hdv:e∣10 ^ 6
  ·rw[if_pos trivial,if_pos ⟨trivial,hmod.2 hdv⟩]
   obtain ⟨k,hk6,hk,hmin⟩:=least (p:=fun k=>e∣10 ^ k) 6 hdv
   have:=LP n e k hk hmin k 7 0 (by omega) (by omega)
   rw[show (((10 ^ 0:Nat):Int))=1 by rfl] at this
   rw[this]
   by_cases h0:k=0
   ·subst h0
    have:e=1:=by simpa using hk
    subst this
    rw[if_pos rfl,QD,Nat.mod_one,if_pos rfl];simp
   ·rw[if_neg h0]
    obtain ⟨q,hq⟩:=hk
    have hq0:0<q:=by
     rcases Nat.eq_zero_or_pos q with rfl|h
     ·have:0<10 ^ k:=Nat.pow_pos (by omega)
      omega
     ·exact h
    have hqe:10 ^ k / e=q:=by rw[hq,Nat.mul_div_cancel_left _ he]
    have hrd:n.natAbs % e<e:=Nat.mod_lt _ he
    have Wv:Nat.gcd e (n.natAbs % e)=1:=by rw[Nat.gcd_comm,←Nat.gcd_rec,Nat.gcd_comm];exact hgn
    have hr0:n.natAbs % e≠0:=by
     intro h
     rw[h,Nat.gcd_zero_right] at Wv
     subst Wv
     exact hmin 0 (by omega) (by simp)
    rw[if_neg hr0,hqe]
    have ha:(n*(q:Int)).natAbs=n.natAbs*q:=by rw[Int.natAbs_mul];rfl
    have hs:sg (n*(q:Int))=sg n:=by
     unfold sg
     by_cases hn:n<0
     ·rw[if_pos hn,if_pos (Int.mul_neg_of_neg_of_pos hn (by omega))]
     ·rw[if_neg hn,if_neg (by have:=Int.mul_nonneg (show 0≤n by omega) (show (0:Int)≤q by omega);omega)]
    have hdiv:n.natAbs*q / 10 ^ k=n.natAbs / e:=by rw[hq,Nat.mul_div_mul_right _ _ hq0]
    have hmd:n.natAbs*q % 10 ^ k=n.natAbs % e*q:=by rw[hq,Nat.mul_mod_mul_right]
    have hlt:n.natAbs % e*q<10 ^ k:=by rw[hq];exact Nat.mul_lt_mul_of_pos_right hrd hq0
    have ht:=MS e he k 7 (n.natAbs % e) (by omega) hrd (by rw[hq];exact⟨n.natAbs % e*q,by simp only[Nat.mul_left_comm]⟩) (fun i hi h=>hmin i hi (Nat.Coprime.dvd_of_dvd_mul_left Wv h))
    rw[ht]
    have hx:n.natAbs % e*10 ^ k / e=n.natAbs % e*q:=by
     rw[hq,Nat.mul_left_comm,Nat.mul_div_cancel_left _ he]
    rw[hx]
    unfold pt
    rw[hs,ha,←Int.ofNat_tdiv,←Int.ofNat_tmod,hdiv,hmd]
    rw[Lib.itoa_nonneg,show (((10 ^ k:Nat):Int)+((n.natAbs % e*q:Nat):Int))=((10 ^ k+n.natAbs % e*q:Nat):Int) by omega,Lib.itoa_nonneg,PG k _ hlt]
    rfl
  ·rw[if_pos trivial,if_neg (fun h=>hdv (hmod.1 h.2))]
   have:=J4 n e 7 0 (fun j hj h=>hdv (Nat.dvd_trans h (Nat.pow_dvd_pow 10 (by omega))))
   exact this
open Go Go.Ab
variable {G:IH}
def ael (n d:Int) (x:Nat×Int):AS:=⟨regs 33 [(0,.d (fr n d)),(1,.box 1 0),(2,vs (str [])),(3,vb false),(4,vi x.2)],[(1,[vi n,vi d])]⟩
def ado (n d:Int) (x:Nat×Int):Prop:=1≤x.2∧x.2*10 ^ x.1=10000000∧nI n d=zf n d x.1 x.2
theorem f185 (hT:Tab G) (n d:Int):aj Tryz.prog G 185 [fr n d] (sb (nI n d)):=by
 refine aj.walk (ay:=ay) (keep:=[0,1,2,3,4,7,9,21,27]) follows Tryz.func185 rfl Tryz.call185 ?_
 refine aA (fun ZT ZW ZQ ZK=>(ZK 137 [(.agg [(di n),(di d)])] (db (ok n d))∧(((!ok n d)=true)→(((.au [(ds (ByteArray.mk #[])),(db false)]):DV)=(sb (nI n d))))∧(((!ok n d)=false)→ZW [cd Tryz.f185 [1,1,0,1,0],(.blk 0),cd Tryz.f185 [1,1,1]] (aI ZT [1]) ZQ))) (by kernel_rfl) ?_
 refine⟨f137 n d,fun h=>?_,fun h=>?_⟩
 ·have h:ok n d=false:=by simpa using h
  simp[sb,nI,h]
 ·have h:ok n d=true:=by simpa using h
  have hb:=kR h
  refine aC.loop (c:=dR (aQ Tryz.f185) [1,1,0,1,0,0]) (by kernel_rfl) (ael n d) (ado n d) (fun x=>x.1) (7,1) ?_ ⟨by simp,by simp,by simp[nI,h]⟩ ?_
  ·exact AS.dB (by kernel_rfl)
  ·rintro ⟨k,p⟩ ⟨hp,hpk,hI⟩
   simp only at hp hpk hI
   refine walk (ay:=ay) (keep:=[0,1,2,3,4,7,9,21,27]) (cuts:=[]) (n:=1000) follows ?_
   refine bW (fun ZT ZW ZQ ZK ZA _=>((((decide (p≤1000000))=true)→((d≠0)∧(((p.tmod d != 0)=true)→((I64 (p*10))∧(ZA (aI ZT [0,0]))))∧(((p.tmod d != 0)=false)→((((p==1)=true)→(ZK 205 [(di n)] (ds (str (Lib.itoa n)))∧((.au [(ds (str (Lib.itoa n))),(db true)]):DV)=(sb (nI n d))))∧(((p==1)=false)→(((d≠0)∧(iO p)∧(I64 (n*p.tdiv d))∧ZK 206 [(di (n*p.tdiv d)),(di p)] (ds (str (pt (n*p.tdiv d) p))))∧((.au [(ds (str (pt (n*p.tdiv d) p))),(db true)]):DV)=(sb (nI n d))))))))∧(((decide (p≤1000000))=false)→ZW [cd Tryz.f185 [1,1,1]] (aI ZT [1]) ZQ))) (by kernel_rfl) ?_
   have hp7:p≤10000000:=by
    have h1:(1:Int)≤10 ^ k:=by have:=Nat.one_le_pow k 10 (by omega);exact_mod_cast this
    have h2:p*1≤p*10 ^ k:=Int.mul_le_mul_of_nonneg_left h1 (by omega)
    omega
   refine⟨fun h6=>?_,fun h6=>?_⟩
   ·have h6:p≤1000000:=by simpa using h6
    obtain ⟨k,rfl⟩:∃k',k=k'+1:=by
     cases k with
     | zero=>simp at hpk;omega
     | succ k=>exact⟨k,rfl⟩
    refine⟨by omega,fun hm=>⟨⟨by omega,by omega⟩,Again.mk (k,p*10) ?_ ⟨by simp only;omega,?_,?_⟩ (by simp)⟩,fun hm=>⟨fun h1=>?_,fun h1=>?_⟩⟩
    ·exact AS.dB (by kernel_rfl)
    ·simp only
     rw[←hpk,Int.pow_succ,Int.mul_comm (10 ^ k) 10,Int.mul_assoc]
    ·have hm:p.tmod d≠0:=by simpa using hm
     rw[hI,zf,if_neg hm,Int.mul_comm]
    ·have hm:p.tmod d=0:=by simpa using hm
     have h1:p=1:=by simpa using h1
     refine⟨f205 hT n ⟨by omega,by omega⟩,?_⟩
     rw[hI,zf,if_pos hm,if_pos h1];rfl
    ·have hm:p.tmod d=0:=by simpa using hm
     have h1:p≠1:=by simpa using h1
     have hq0:0≤p.tdiv d:=Int.tdiv_nonneg (by omega) (by omega)
     have hq1:p.tdiv d≤1000000:=by
      rw[Int.tdiv_eq_ediv_of_nonneg (by omega)]
      have:=Int.ediv_le_self d (show 0≤p by omega);omega
     have hx1:n*p.tdiv d≤1000000000*p.tdiv d:=Int.mul_le_mul_of_nonneg_right (by omega) hq0
     have hx2:-1000000000*p.tdiv d≤n*p.tdiv d:=Int.mul_le_mul_of_nonneg_right (by omega) hq0
     refine⟨⟨by omega,⟨by omega,by omega⟩,⟨by omega,by omega⟩,f206 hT _ _ ⟨by omega,by omega⟩ (by omega) (by omega)⟩,?_⟩
     rw[hI,zf,if_pos hm,if_neg h1];rfl
   ·have h6:¬p≤1000000:=by simpa using h6
    have hk0:k=0:=by
     cases k with
     | zero=>rfl
     | succ k=>
      exfalso
      have h1:(1:Int)≤10 ^ k:=by have:=Nat.one_le_pow k 10 (by omega);exact_mod_cast this
      have h2:(p*10)*1≤(p*10)*10 ^ k:=Int.mul_le_mul_of_nonneg_left h1 (by omega)
      rw[Int.pow_succ,Int.mul_comm (10 ^ k) 10,←Int.mul_assoc] at hpk
      omega
    subst hk0
    refine walk (ay:=ay) (keep:=[]) (cuts:=[]) (n:=1000) follows ?_
    refine aA (fun _ _ _ _=>(((.au [(ds (ByteArray.mk #[])),(db false)]):DV)=(sb (nI n d)))) (by kernel_rfl) ?_
    rw[hI];rfl
def XI (n d:Int) (x:Nat×List UInt8×Int):AS:=⟨regs 54 [(0,.d (fr n d)),(1,.box 1 0),(2,vs (str [])),(3,vb false),(6,vs (str x.2.1)),(7,vi x.2.2)],[(1,[vi n,vi d])]⟩
def Xp (d:Int) (T:List UInt8) (x:Nat×List UInt8×Int):Prop:=0≤x.2.2∧x.2.2<d∧T=x.2.1++oG d.toNat x.1 x.2.2.toNat∧x.2.1.length+x.1≤29∧d.toNat∣x.2.2.toNat*10 ^ x.1
theorem JU (d k:Nat):oG d k 0=[]:=by cases k<;>rfl
theorem f172 (n d:Int):aj Tryz.prog G 172 [fr n d] (sb (jG n d)):=by
 refine aj.walk (ay:=ay) (keep:=[0,1,2,3,4,5,6,7,16,35,39]) follows Tryz.func172 rfl Tryz.call172 ?_
 have round:∀T,1≤d→d≤1000000→jG n d=(T,true)→∀x,Xp d T x→aC Tryz.prog G [.code (dR (aQ Tryz.f172) [1,1,1,1,1,0,0,0])] (XI n d x) (nR Tryz.prog G [(.blk 0),.code (dR (aQ Tryz.f172) [1,1,1,1,1,1])] (fF Tryz.prog Tryz.f172 (sb (jG n d))) (XI n d) (Xp d T) (fun x=>x.1) x):=by
  rintro T d1 d2 hT ⟨f,l,r⟩ ⟨hr0,hrd,hI,hl,hdv⟩
  simp only at hr0 hrd hI hl hdv
  refine walk (ay:=ay) (keep:=[0,1,2,3,4,5,6,7,16,35,39]) (cuts:=[]) (n:=1000) follows ?_
  refine bW (fun ZT ZW ZQ ZK ZA _=>((((decide (r>0))=true)→((I64 (10*r))∧((d≠0)∧(iO (10*r))∧ZK 199 [(di ((10*r).tdiv d))] (ds (str (Lib.decDigits ((10*r).tdiv d).toNat)))∧((str l).size+(str (Lib.decDigits ((10*r).tdiv d).toNat)).size≤9223372036854775807))∧(d≠0)∧(ZA (aI ZT [0]))))∧(((decide (r>0))=false)→ZW [cd Tryz.f172 [1,1,1,1,1,1]] (aI ZT [1]) ZQ))) (by kernel_rfl) ?_
  refine⟨fun h=>?_,fun h=>?_⟩
  ·have h:0<r:=by simpa using h
   obtain ⟨e,rfl⟩:=Int.eq_ofNat_of_zero_le (show 0≤d by omega)
   obtain ⟨s,rfl⟩:=Int.eq_ofNat_of_zero_le hr0
   simp only[Int.toNat_natCast] at hI hdv
   obtain ⟨f,rfl⟩:∃f',f=f'+1:=by
    cases f with
    | zero=>
     exfalso
     have:=Nat.eq_zero_of_dvd_of_lt (by simpa using hdv) (show s<e by omega)
     omega
    | succ f=>exact⟨f,rfl⟩
   have e1:((10:Int)*(s:Int)).tdiv e=((10*s / e:Nat):Int):=by
    rw[show (10:Int)*(s:Int)=((10*s:Nat):Int) by omega,←Int.ofNat_tdiv]
   have e2:((10:Int)*(s:Int)).tmod e=((10*s % e:Nat):Int):=by
    rw[show (10:Int)*(s:Int)=((10*s:Nat):Int) by omega,←Int.ofNat_tmod]
   have hq:10*s / e<10:=by rw[Nat.div_lt_iff_lt_mul (by omega)];omega
   have hml:10*s % e<e:=Nat.mod_lt _ (by omega)
   have hdl:(Lib.decDigits (10*s / e)).length=1:=by rw[yR hq];rfl
   simp only[e1,e2,En,pY,Int.toNat_natCast,hdl]
   refine⟨⟨by omega,by omega⟩,⟨by omega,⟨by omega,by omega⟩,f199 _ (Int.natCast_nonneg _) (by omega),by omega⟩,by omega,Again.mk (f,l++Lib.decDigits (10*s / e),((10*s % e:Nat):Int)) ?_ ⟨by simp only;omega,by simp only;omega,?_,?_,?_⟩ (by simp)⟩
   ·refine AS.leZ [4,5] [] (b:=((T0∧T0∧T0∧T0∧((vs (str l++str (Lib.decDigits ((10*(↑s:Int)).tdiv ↑e).toNat))):AV)=(vs (str (l++Lib.decDigits (10*s / e))))∧((vi ((10*(↑s:Int)).tmod ↑e)):AV)=(vi (↑(10*s % e)))∧True)∧T0∧True)) (by kernel_rfl) (by kernel_rfl) ?_
    exact⟨⟨rfl,rfl,rfl,rfl,rfl,rfl,trivial⟩,rfl,trivial⟩
   ·simp only[Int.toNat_natCast]
    rw[hI,oG,if_neg (by omega),List.append_assoc]
   ·simp only[List.length_append,hdl];omega
   ·simp only[Int.toNat_natCast]
    have hsplit:=Nat.div_add_mod (10*s) e
    have e3:s*10 ^ (f+1)=e*(10*s / e*10 ^ f)+(10*s % e)*10 ^ f:=by
     rw[←Nat.mul_assoc,←Nat.add_mul,hsplit,Nat.pow_succ,Nat.mul_comm (10 ^ f) 10,←Nat.mul_assoc,Nat.mul_comm s 10]
    rw[e3] at hdv
    exact(Nat.dvd_add_right (Nat.dvd_mul_right ..)).1 hdv
  ·have h:r=0:=by have:¬0<r:=by simpa using h
                  omega
   subst h
   refine walk (ay:=ay) (keep:=[]) (cuts:=[]) (n:=1000) follows ?_
   refine aA (fun _ _ _ _=>(((.au [(ds (str l)),(db true)]):DV)=(sb (jG n d)))) (by kernel_rfl) ?_
   rw[hT,hI]
   simp[sb,JU]
 refine aA (fun ZT ZW ZQ ZK=>(fun Za=>((ZK 65 [(.agg [(di n),(di d)])] (db (ok n d))∧(((!!ok n d)=true)→(d≠0)))∧(((!ok n d||Int.tmod 1000000 d != 0)=true)→(((.au [(ds (ByteArray.mk #[])),(db false)]):DV)=(sb (jG n d))))∧(((!ok n d||Int.tmod 1000000 d != 0)=false)→(ZK 198 [(di n)] (.au [(ds (str (sg n))),(di (↑n.natAbs))])∧((d≠0)∧(iO ↑n.natAbs)∧ZK 199 [(di (((↑n.natAbs:Int)).tdiv d))] (ds (str Za))∧((str (sg n)).size+(str Za).size≤9223372036854775807)∧(d≠0))∧(((decide (((↑n.natAbs:Int)).tmod d>0))=true)→(((str (sg n)++str Za).size+(ByteArray.mk #[46]).size≤9223372036854775807)∧ZW [cd Tryz.f172 [1,1,1,1,1,0,0],(.blk 0),cd Tryz.f172 [1,1,1,1,1,1]] (aI ZT [1,0]) ZQ))∧(((decide (((↑n.natAbs:Int)).tmod d>0))=false)→ZW [cd Tryz.f172 [1,1,1,1,1,0,0],(.blk 0),cd Tryz.f172 [1,1,1,1,1,1]] (aI ZT [1,1]) ZQ))))) (Lib.decDigits (((↑n.natAbs:Int)).tdiv d).toNat)) (by kernel_rfl) ?_
 refine⟨⟨f65 n d,fun h=>?_⟩,fun h=>?_,fun h=>?_⟩
 ·have h:ok n d=true:=by simpa using h
  have:=kR h
  omega
 ·have h:¬(ok n d=true∧(1000000:Int).tmod d=0):=by
   intro hh;simp[hh.1,hh.2] at h
  unfold jG
  rw[if_neg h];rfl
 ·have h:ok n d=true∧(1000000:Int).tmod d=0:=by simpa using h
  obtain ⟨d1,d2,n1,n2,-⟩:=kR h.1
  obtain ⟨e,rfl⟩:=Int.eq_ofNat_of_zero_le (show 0≤d by omega)
  have e1:(n.natAbs:Int).tdiv e=((n.natAbs / e:Nat):Int):=by rw[←Int.ofNat_tdiv]
  have e2:(n.natAbs:Int).tmod e=((n.natAbs % e:Nat):Int):=by rw[←Int.ofNat_tmod]
  have hml:n.natAbs % e<e:=Nat.mod_lt _ (by omega)
  have hdv:e∣10 ^ 6:=by
   have:=h.2
   rw[show (1000000:Int)=((10 ^ 6:Nat):Int) by rfl,←Int.ofNat_tmod] at this
   exact Nat.dvd_of_mod_eq_zero (by omega)
  have aas:e∣n.natAbs % e*10 ^ 7:=Nat.dvd_trans hdv (Nat.dvd_trans (Nat.pow_dvd_pow 10 (by omega)) (Nat.dvd_mul_left ..))
  have hB:jG n e=(sg n++(Lib.decDigits (n.natAbs / e)++(if n.natAbs % e=0 then [] else 46 :: oG e 7 (n.natAbs % e))),true):=by
   unfold jG;rw[if_pos h];rfl
  have l0:=Zw n
  have agO:n.natAbs / e≤n.natAbs:=Nat.div_le_self ..
  have l1:=Qr ((n.natAbs / e:Nat):Int) (by omega)
  simp only[Int.toNat_natCast] at l1
  simp only[e1,e2,En,pY,Int.toNat_natCast,List.length_append,List.length_cons,List.length_nil]
  refine⟨f198 n ⟨by omega,by omega⟩,⟨by omega,⟨by omega,by omega⟩,f199 _ (Int.natCast_nonneg _) (by omega),by omega,by omega⟩,fun hr=>⟨by omega,?_⟩,fun hr=>?_⟩
  ·have hr:n.natAbs % e≠0:=by have:0<((n.natAbs % e:Nat):Int):=by simpa using hr
                              omega
   refine aC.loop (c:=dR (aQ Tryz.f172) [1,1,1,1,1,0,0,0]) (by kernel_rfl) (XI n e) (Xp e _) (fun x=>x.1) (7,sg n++Lib.decDigits (n.natAbs / e)++[46],((n.natAbs % e:Nat):Int)) ?_ ⟨by simp only;omega,by simp only;omega,?_,?_,?_⟩ (round _ d1 d2 hB)
   ·refine AS.leZ [4,5] [] (b:=((T0∧T0∧T0∧T0∧((vs (str (sg n)++str (Lib.decDigits (((↑n.natAbs:Int)).tdiv ↑e).toNat)++ByteArray.mk #[46])):AV)=(vs (str (sg n++Lib.decDigits (n.natAbs / e)++[46])))∧((vi (((↑n.natAbs:Int)).tmod ↑e)):AV)=(vi (↑(n.natAbs % e)))∧True)∧T0∧True)) (by kernel_rfl) (by kernel_rfl) ?_
    exact⟨⟨rfl,rfl,rfl,rfl,rfl,rfl,trivial⟩,rfl,trivial⟩
   ·simp only[Int.toNat_natCast,if_neg hr];simp
   ·simp only[List.length_append,List.length_cons,List.length_nil];omega
   ·simp only[Int.toNat_natCast];exact aas
  ·have hr:n.natAbs % e=0:=by have:¬0<((n.natAbs % e:Nat):Int):=by simpa using hr
                              omega
   refine aC.loop (c:=dR (aQ Tryz.f172) [1,1,1,1,1,0,0,0]) (by kernel_rfl) (XI n e) (Xp e _) (fun x=>x.1) (7,sg n++Lib.decDigits (n.natAbs / e),((n.natAbs % e:Nat):Int)) ?_ ⟨by simp only;omega,by simp only;omega,?_,?_,?_⟩ (round _ d1 d2 hB)
   ·refine AS.leZ [4,5] [] (b:=((T0∧T0∧T0∧T0∧((vs (str (sg n)++str (Lib.decDigits (((↑n.natAbs:Int)).tdiv ↑e).toNat))):AV)=(vs (str (sg n++Lib.decDigits (n.natAbs / e))))∧((vi (((↑n.natAbs:Int)).tmod ↑e)):AV)=(vi (↑(n.natAbs % e)))∧True)∧T0∧True)) (by kernel_rfl) (by kernel_rfl) ?_
    exact⟨⟨rfl,rfl,rfl,rfl,rfl,rfl,trivial⟩,rfl,trivial⟩
   ·simp only[Int.toNat_natCast,hr,JU];simp
   ·simp only[List.length_append];omega
   ·simp only[Int.toNat_natCast];exact aas
end Go.Proofs
