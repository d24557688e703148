import Derived.Test.YtflgdeobcgmgnaaGreatDoorAcD
import Derived.Test.YtflgdeobcgmgnaaGreatDoorG1
import Derived.Test.YtflgdeobcgmgnaaGreatDoorG0
import Derived.Test.YtflgdeobcgmgnaaGreatDoorAcE
set_option autoImplicit false
set_option maxHeartbeats 4000000
set_option maxRecDepth 100000
namespace Go.Proofs
open Go Go.Ab Go.RowKit
variable {G:IH}
noncomputable def Vr (L:Nat→Ev) (τ:Nat→Nat) (q:Nat):FuncId→List AV→List (Nat×List AV)→Option (AV×List (Nat×List AV)):=fun f args _=>match f,args with
 | 126,[_,.d (.con (.int _ a)),.d (.con (.int _ b)),_]=>some (.d iO,[(1000000,[.arr mY 9 (dO L (jQ (fun i=>Ev.t (L i)) a.toNat b.toNat τ))])])
 | 127,[_,.d (.con (.int _ a)),.d (.con (.int _ b)),.d (.con (.int _ c)),_]=>some (.d iO,[(1000000,[.arr mY 9 (dO L (gG (fun i=>Ev.t (L i)) q a.toNat b.toNat c.toNat τ))])])
 | 84,[.vec _ _ _ n,_]=>some (.d iO,[(1000000,[.arr mY 9 (dO L (iQ (fun i=>Ev.t (L i)) n))])])
 | 105,[_,.d (.con (.int _ n)),_]=>some (.d iO,[(1000000,[.arr mY 9 (dO L (iQ (fun i=>Ev.t (L i)) n.toNat))])])
 | _,_=>none
noncomputable def vg (L:Nat→Ev) (τ:Nat→Nat) (q:Nat):dU:={ d:=(oN).d,m:=Vr L τ q }
noncomputable def abT (L:Nat→Ev) (n:Nat) (x:Nat×(Nat→Nat)):AS:=⟨regs Tryz.f105.ntmps [(0,.vec 1000000 9 0 n),(1,vi n),(2,rM),(6,vi 20),(7,vi x.1),(8,vi (x.1+20:Nat))],lq L x.2⟩
noncomputable def acT (L:Nat→Ev) (n:Nat) (x:Nat×(Nat→Nat)):AS:=⟨regs Tryz.f105.ntmps [(0,.vec 1000000 9 0 n),(1,vi n),(2,rM),(6,vi x.1)],lq L x.2⟩
noncomputable def ab3 (L:Nat→Ev) (n s:Nat) (x:Nat×(Nat→Nat)):AS:=⟨regs Tryz.f105.ntmps [(0,.vec 1000000 9 0 n),(1,vi n),(2,rM),(6,vi s),(7,vi x.1),(8,vi (x.1+2*s:Nat))],lq L x.2⟩
theorem f105 (L:Nat→Ev) (n:Nat) (hn:n≤10000000):dD Tryz.prog G 105 [.vec 1000000 9 0 n,vi n,rM] (lq L id) (.d iO) (lq L (iQ (fun i=>Ev.t (L i)) n)):=by
 refine dD.dA (mv:=[]) (by kernel_rfl) Tryz.func105 rfl Tryz.call105 ?_
 refine dh (aj:=bG) ?_
 refine aC (fun ZT ZW ZQ _=>ZW [cd Tryz.f105 [1,1,0,0],(.blk 0),cd Tryz.f105 [1,1,1]] (aB ZT []) ZQ) (by kernel_rfl) ?_
 refine aX.loop (c:=aU (au Tryz.f105) [1,1,0,0,0]) (by kernel_rfl) (abT L n) (fun x=>x.1≤n∧nY (fun i=>Ev.t (L i)) n n 20 (oP (fun i=>Ev.t (L i)) n (n-x.1) x.1 x.2)=iQ (fun i=>Ev.t (L i)) n) (fun x=>n-x.1) (0,id) ?_ ⟨Nat.zero_le _,rfl⟩ ?_
 ·exact AS.bD (by kernel_rfl)
 rintro ⟨a,τ⟩ ⟨q1,q2⟩
 simp only at q1 q2
 refine walk (aj:=vg L τ 0) (keep:=[]) (cuts:=[6]) (n:=1000) follows ?_
 refine aV (fun ZT ZW ZQ _ ZA _=>((((decide ((↑(a+20):Int)≤↑n))=true)→(dD Tryz.prog G 126 [(.vec 1000000 9 0 n),(vi (↑a)),(vi (↑(a+20))),(.d (.con (.func (.func 85) ⟨[]⟩ ⟨[]⟩)))] [(1000000,[(.arr bY 9 (dO L τ))])] (.d (.aN [])) [(1000000,[(.arr bY 9 (dO L (jQ (fun i=>(L i).t) ((↑a:Int):Int).toNat ((↑(a+20):Int)).toNat τ)))])]∧(I64 (↑(a+20)+20))∧(ZA (aB ZT [0]))))∧(((decide ((↑(a+20):Int)≤↑n))=false)→ZW [cd Tryz.f105 [1,1,1]] (aB ZT [1]) ZQ))) (by kernel_rfl) ?_
 simp only[gW]
 refine⟨fun h=>?_,fun h=>?_⟩
 ·have h:=dn h
  have hb:a+20≤n:=by omega
  refine⟨f126 L τ n a (a+20) q1 hb (by omega),⟨by omega,by omega⟩,Again.mk (a+20,jQ (fun i=>Ev.t (L i)) a (a+20) τ) ?_ ⟨hb,?_⟩ (by simp only;omega)⟩
  ·exact AS.bD (by kernel_rfl)
  ·rw[←q2]
   congr 1
   obtain ⟨k,hk⟩:∃k,n-a=k+1:=⟨n-a-1,by omega⟩
   rw[hk,oP,if_pos hb]
   exact LU (by simp only;omega) (by simp only;omega)
 have hb:¬a+20≤n:=by have:=of_decide_eq_false h;omega
 have e1:oP (fun i=>Ev.t (L i)) n (n-a) a τ=jQ (fun i=>Ev.t (L i)) a n τ:=by
  cases n-a with
  | zero=>rfl
  | succ k=>rw[oP,if_neg hb]
 rw[e1] at q2
 clear e1 hb h
 refine dh (aj:=vg L τ 0) ?_
 refine aC (fun ZT ZW ZQ _=>(dD Tryz.prog G 126 [(.vec 1000000 9 0 n),(vi (↑a)),(vi (↑n)),(.d (.con (.func (.func 85) ⟨[]⟩ ⟨[]⟩)))] [(1000000,[(.arr bY 9 (dO L τ))])] (.d (.aN [])) [(1000000,[(.arr bY 9 (dO L (jQ (fun i=>(L i).t) (↑a:Int).toNat (↑n:Int).toNat τ)))])]∧ZW [cd Tryz.f105 [1,1,1,1,0],(.blk 2)] (aB ZT []) ZQ)) (by kernel_rfl) ?_
 simp only[gW]
 refine⟨f126 L τ n a n q1 (Nat.le_refl _) (by omega),?_⟩
 refine aX.loop (c:=aU (au Tryz.f105) [1,1,1,1,0,0]) (by kernel_rfl) (acT L n) (fun x=>20≤x.1∧x.1≤2*n+20∧nY (fun i=>Ev.t (L i)) n (n-x.1) x.1 x.2=iQ (fun i=>Ev.t (L i)) n) (fun x=>n-x.1) (20,jQ (fun i=>Ev.t (L i)) a n τ) ?_ ⟨Nat.le_refl _,by simp only;omega,(DW (by simp only;omega) (by simp only;omega) (by simp only;omega)).trans q2⟩ ?_
 ·exact AS.bD (by kernel_rfl)
 clear q2 q1
 rintro ⟨s,ρ⟩ ⟨r1,r2,r3⟩
 simp only at r1 r2 r3
 refine dh (aj:=vg L ρ 0) ?_
 refine aV (fun ZT ZW ZQ _ _ ZR=>((((decide ((↑s:Int)<↑n))=true)→((I64 (2 * ↑s))∧ZW [cd Tryz.f105 [1,1,1,1,0,0,1,0,1,0,0],(.blk 4),cd Tryz.f105 [1,1,1,1,0,0,1,0,1,1],(.blk 3)] (aB ZT [0]) ZR))∧(((decide ((↑s:Int)<↑n))=false)→ZW [] (aB ZT [1]) ZQ))) (by kernel_rfl) ?_
 refine⟨fun h=>?_,fun h=>?_⟩
 ·have hsn:s<n:=by have:=dn h;omega
  refine⟨⟨by omega,by omega⟩,?_⟩
  refine aX.loop (c:=aU (au Tryz.f105) [1,1,1,1,0,0,1,0,1,0,0,0]) (by kernel_rfl) (ab3 L n s) (fun x=>x.1≤n∧uY (fun i=>Ev.t (L i)) n s (n+1-x.1) x.1 x.2=uY (fun i=>Ev.t (L i)) n s (n+1) 0 ρ) (fun x=>n-x.1) (0,ρ) ?_ ⟨Nat.zero_le _,rfl⟩ ?_
  ·refine AS.leZ [5] [] (b:=((T0∧T0∧T0∧T0∧T0∧((vi (2 * ↑s)):AV)=(vi (↑(0+2*s)))∧True)∧T0∧True)) (by kernel_rfl) (by kernel_rfl) ?_
   exact⟨⟨rfl,rfl,rfl,rfl,rfl,nD (by omega),trivial⟩,rfl,trivial⟩
  rintro ⟨b,π⟩ ⟨p1,p2⟩
  simp only at p1 p2
  refine walk (aj:=vg L π (2*s)) (keep:=[]) (cuts:=[13]) (n:=1000) follows ?_
  refine aV (fun ZT ZW ZQ _ ZA _=>((((decide ((↑(b+2*s):Int)≤↑n))=true)→(((I64 (↑b + ↑s))∧dD Tryz.prog G 127 [(.vec 1000000 9 0 n),(vi (↑b)),(vi (↑b + ↑s)),(vi (↑(b+2*s))),(.d (.con (.func (.func 85) ⟨[]⟩ ⟨[]⟩)))] [(1000000,[(.arr bY 9 (dO L π))])] (.d (.aN [])) [(1000000,[(.arr bY 9 (dO L (gG (fun i=>(L i).t) (2*s) ((↑b:Int):Int).toNat ((↑b:Int)+(↑s:Int)).toNat ((↑(b+2*s):Int)).toNat π)))])])∧((I64 (2 * ↑s))∧(I64 (↑(b+2*s)+2 * ↑s)))∧(ZA (aB ZT [0]))))∧(((decide ((↑(b+2*s):Int)≤↑n))=false)→ZW [cd Tryz.f105 [1,1,1,1,0,0,1,0,1,1],(.blk 3)] (aB ZT [1]) ZQ))) (by kernel_rfl) ?_
  have e2:((b:Int)+(s:Int)).toNat=b+s:=by omega
  simp only[gW,e2]
  refine⟨fun h=>?_,fun h=>?_⟩
  ·have hb:b+2*s≤n:=by have:=dn h;omega
   have hc:=f127 (G:=G) (2*s) L n (by omega) π b (b+s) (b+2*s) (by omega) (by omega) (by omega) hb
   rw[show ((b+s:Nat):Int)=(b:Int)+(s:Int) by omega] at hc
   refine⟨⟨⟨by omega,by omega⟩,hc⟩,⟨⟨by omega,by omega⟩,by omega,by omega⟩,Again.mk (b+2*s,gG (fun i=>Ev.t (L i)) (2*s) b (b+s) (b+2*s) π) ?_ ⟨hb,?_⟩ (by simp only;omega)⟩
   ·refine AS.leZ [5] [0] (b:=((T0∧T0∧T0∧T0∧T0∧((vi (↑(b+2*s)+2 * ↑s)):AV)=(vi (↑(b+2*s+2*s)))∧True)∧((some [(.arr bY 9 (dO L (gG (fun i=>(L i).t) (2*s) ((↑b:Int):Int).toNat ((↑b:Int)+(↑s:Int)).toNat ((↑(b+2*s):Int)).toNat π)))]):dS)=(some [(.arr bY 9 (dO L (gG (fun i=>(L i).t) (2*s) b (b+s) (b+2*s) π)))])∧True)) (by kernel_rfl) (by kernel_rfl) ?_
    exact⟨⟨rfl,rfl,rfl,rfl,rfl,nD (by omega),trivial⟩,by first|rfl|(rw[e2];rfl),trivial⟩
   ·rw[←p2]
    obtain ⟨k,hk⟩:∃k,n+1-b=k+1:=⟨n-b,by omega⟩
    rw[hk,uY,if_pos hb]
    exact MB (by omega) (by simp only;omega) (by simp only;omega) hb
  have hb:¬b+2*s≤n:=by have:=of_decide_eq_false h;omega
  have e3:uY (fun i=>Ev.t (L i)) n s (n+1-b) b π=if b+s<n then gG (fun i=>Ev.t (L i)) (n-b) b (b+s) n π else π:=by
   obtain ⟨k,hk⟩:∃k,n+1-b=k+1:=⟨n-b,by omega⟩
   rw[hk,uY,if_neg hb]
  have e4:nY (fun i=>Ev.t (L i)) n (n-2*s) (2*s) (if b+s<n then gG (fun i=>Ev.t (L i)) (n-b) b (b+s) n π else π)=iQ (fun i=>Ev.t (L i)) n:=by
   rw[←e3,p2,←r3]
   obtain ⟨k,hk⟩:∃k,n-s=k+1:=⟨n-s-1,by omega⟩
   rw[hk,nY,if_pos hsn]
   exact DW (by omega) (by omega) (by omega)
  refine dh (aj:=vg L π (n-b)) ?_
  refine aV (fun ZT _ _ _ ZA _=>((I64 (↑b + ↑s))∧(((decide ((↑b:Int) + ↑s<↑n))=true)→(dD Tryz.prog G 127 [(.vec 1000000 9 0 n),(vi (↑b)),(vi (↑b + ↑s)),(vi (↑n)),(.d (.con (.func (.func 85) ⟨[]⟩ ⟨[]⟩)))] [(1000000,[(.arr bY 9 (dO L π))])] (.d (.aN [])) [(1000000,[(.arr bY 9 (dO L (gG (fun i=>(L i).t) (n-b) ((↑b:Int):Int).toNat ((↑b:Int) + ↑s).toNat (↑n:Int).toNat π)))])]∧(I64 (↑s*2))∧(ZA (aB ZT [0]))))∧(((decide ((↑b:Int) + ↑s<↑n))=false)→((I64 (↑s*2))∧(ZA (aB ZT [1])))))) (by kernel_rfl) ?_
  simp only[gW,e2]
  refine⟨⟨by omega,by omega⟩,fun h=>?_,fun h=>?_⟩
  ·have hbs:b+s<n:=by have:=dn h;omega
   rw[if_pos hbs] at e4
   have hc:=f127 (G:=G) (n-b) L n (by omega) π b (b+s) n (by omega) (by omega) hbs (Nat.le_refl _)
   rw[show ((b+s:Nat):Int)=(b:Int)+(s:Int) by omega] at hc
   refine⟨hc,⟨by omega,by omega⟩,Again.mk (2*s,gG (fun i=>Ev.t (L i)) (n-b) b (b+s) n π) ?_ ⟨by simp only;omega,by simp only;omega,e4⟩ (by simp only;omega)⟩
   refine AS.leZ [3] [] (b:=((T0∧T0∧T0∧((vi (↑s*2)):AV)=(vi (↑(2*s)))∧True)∧T0∧True)) (by kernel_rfl) (by kernel_rfl) ?_
   exact⟨⟨rfl,rfl,rfl,nD (by omega),trivial⟩,by first|rfl|(rw[e2];rfl),trivial⟩
  ·have hbs:¬b+s<n:=by have:=of_decide_eq_false h;omega
   rw[if_neg hbs] at e4
   refine⟨⟨by omega,by omega⟩,Again.mk (2*s,π) ?_ ⟨by simp only;omega,by simp only;omega,e4⟩ (by simp only;omega)⟩
   refine AS.leZ [3] [] (b:=((T0∧T0∧T0∧((vi (↑s*2)):AV)=(vi (↑(2*s)))∧True)∧T0∧True)) (by kernel_rfl) (by kernel_rfl) ?_
   exact⟨⟨rfl,rfl,rfl,nD (by omega),trivial⟩,rfl,trivial⟩
 ·have hsn:n-s=0:=by have:=of_decide_eq_false h;omega
  rw[hsn,nY] at r3
  refine dh (aj:=bG) ?_
  refine aC (fun _ _ _ _=>((ZS ((.d (.aN [])):AV))∧((some [(.arr bY 9 (dO L ρ))]):dS)=(some [(.arr bY 9 (dO L (iQ (fun i=>(L i).t) n)))])∧True)) (by kernel_rfl) ?_
  exact⟨rfl,by rw[r3],trivial⟩
theorem f84 (L:Nat→Ev) (n:Nat) (hn:n≤10000000):dD Tryz.prog G 84 [.vec 1000000 9 0 n,rM] (lq L id) (.d iO) (lq L (iQ (fun i=>Ev.t (L i)) n)):=by
 refine dD.dA (mv:=[]) (by kernel_rfl) Tryz.func84 rfl Tryz.call84 ?_
 refine dh (aj:=vg L id 0) ?_
 refine aC (fun _ _ _ _=>(fun Za=>(dD Tryz.prog G 105 [(.vec 1000000 9 0 n),(vi (↑n)),(.d (.con (.func (.func 85) ⟨[]⟩ ⟨[]⟩)))] [(1000000,[(.arr bY 9 (dO L id))])] (.d (.aN [])) [(1000000,[Za])]∧(ZS ((.d (.aN [])):AV))∧((some [Za]):dS)=(some [(.arr bY 9 (dO L (iQ (fun i=>(L i).t) n)))])∧True)) ((.arr bY 9 (dO L (iQ (fun i=>(L i).t) (↑n:Int).toNat))):AV)) (by kernel_rfl) ?_
 try dsimp only
 simp only[gW]
 exact⟨f105 L n hn,trivial,trivial,trivial⟩
end Go.Proofs
namespace Go.Proofs
theorem iW {es:List En} {k:Ky} {i:Nat} (h:dB es k=some i):i<es.length∧(es.getD i en0).k=k:=by
 unfold dB at h
 obtain ⟨h1,h2,_⟩:=List.findIdx?_eq_some_iff_getElem.1 h
 have hl:i<es.length:=by simpa [keyS] using h1
 refine⟨hl,?_⟩
 rw[List.getD,List.getElem?_eq_getElem hl]
 simpa [keyS] using h2
theorem aaN (x:En) (e:Ev):(gX x e).k=x.k:=by
 unfold gX
 repeat' split
 all_goals rfl
theorem Xm (es:List En) (i:Nat) (x:En) (h:i<es.length→x.k=(es.getD i en0).k):keyS (es.set i x)=keyS es:=by
 unfold keyS
 rw[List.map_set]
 by_cases hi:i<es.length
 ·have h:=h hi
  rw[List.getD,List.getElem?_eq_getElem hi] at h
  have h:x.k=es[i].k:=h
  rw[h]
  refine List.ext_getElem (by simp) fun j h1 h2=>?_
  rw[List.getElem_set]
  split
  ·rename_i q;subst q;simp
  ·rfl
 ·rw[List.set_eq_of_length_le (by simpa using hi)]
theorem rY {es:List En} {e:Ev} (h:e.kind≠0):keyS (dY es e)=keyS es:=by
 unfold dY
 rw[if_neg h]
 split
 ·exact Xm _ _ _ fun _=>aaN _ _
 ·rfl
theorem DX {es:List En} {e:Ev} (h:e.kind=0):keyS (dY es e)=keyS es++[e.k]:=by
 unfold dY
 rw[if_pos h]
 simp[keyS]
theorem Rh {x:En} {e:Ev} (hf:lU e) (hk:e.k=x.k) (h0:e.kind≠0) (hc:ku x e=0):∃U V,fD x=U++V∧fD (gX x e)=U++e :: V∧∀q∈V,q.k=x.k∧e.kind=1∧(q.kind=2∨q.kind=3):=by
 obtain ⟨f1,f2,f3⟩:=hf
 obtain ⟨kd,k,t,v,h,s,a⟩:=e
 obtain ⟨xk,xt,xs,gs,ah⟩:=x
 simp only at hk f1 f2 f3 h0
 subst hk
 unfold ku at hc
 by_cases h1:kd=1
 ·subst h1
  have ha:=f3 (by decide)
  subst ha
  refine⟨yu ⟨k,xt,xs,gs,ah⟩ :: gs.map (yx k),(ah.map (uH k)).flatten,by simp[fD],?_,?_⟩
  ·simp[fD,gX,yu,yx]
  ·intro q hq
   obtain ⟨l,hl,hq⟩:=List.mem_flatten.1 hq
   obtain ⟨a,ha,rfl⟩:=List.mem_map.1 hl
   unfold uH at hq
   rcases List.mem_cons.1 hq with rfl|hq
   ·exact⟨rfl,rfl,.inl rfl⟩
   ·split at hq
    ·obtain rfl:=List.mem_singleton.1 hq
     exact⟨rfl,rfl,.inr rfl⟩
    ·cases hq
 ·obtain ⟨rfl,rfl⟩:=f2 h1
  by_cases h2:kd=2
  ·subst h2
   have ha:=f3 (by decide)
   subst ha
   refine⟨fD ⟨k,xt,xs,gs,ah⟩,[],by simp,?_,fun q hq=>(by cases hq)⟩
   simp[fD,gX,yu,uH]
  ·have h3:kd=3:=by omega
   subst h3
   have ho:bV ⟨k,xt,xs,gs,ah⟩=true:=by
    refine Classical.byContradiction fun q=>?_
    simp[q] at hc
   unfold bV at ho
   rcases List.eq_nil_or_concat ah with rfl|⟨l,b,rfl⟩
   ·simp at ho
   ·simp at ho
    refine⟨fD ⟨k,xt,xs,gs,l++[b]⟩,[],by simp,?_,fun q hq=>(by cases hq)⟩
    simp[fD,gX,yu,uH,ho]
theorem UK {x:En} {e:Ev} (hf:lU e) (hk:e.k=x.k) (h0:e.kind≠0) (hc:ku x e=0) (q:Ev):q∈fD (gX x e)↔q=e∨q∈fD x:=by
 obtain ⟨U,V,h1,h2,_⟩:=Rh hf hk h0 hc
 rw[h1,h2]
 simp only[List.mem_append,List.mem_cons]
 constructor
 ·rintro (h|h|h)
  ·exact .inr (.inl h)
  ·exact .inl h
  ·exact .inr (.inr h)
 ·rintro (h|h|h)
  ·exact .inr (.inl h)
  ·exact .inl h
  ·exact .inr (.inr h)
def indep (e y:Ev):Prop:=e.kind≠0∧(y.k≠e.k∨(y.k=e.k∧e.kind=1∧(y.kind=2∨y.kind=3)))
theorem Aa {b:Bk} {e:Ev} (h:dL b e=0):hasB b.es e=false∧b.t≤e.t:=by
 unfold dL at h
 split at h
 ·cases h
 ·rename_i h1
  split at h
  ·cases h
  ·exact⟨by simpa using h1,by omega⟩
theorem QC {b:Bk} {e:Ev} (h:dL b e=0) (h0:e.kind=0):e.k.n=(iC b.es e.k:Int)+1∧b.es.length<256:=by
 obtain ⟨h1,h2⟩:=Aa h
 unfold dL at h
 rw[if_neg (by rw[h1];decide),if_neg (by omega),if_pos h0] at h
 split at h
 ·cases h
 ·split at h
  ·cases h
  ·exact⟨by omega,by omega⟩
theorem xI {b:Bk} {e:Ev} (h:dL b e=0) (h0:e.kind≠0):∃i,dB b.es e.k=some i∧ku (b.es.getD i en0) e=0∧e∉fD (b.es.getD i en0):=by
 obtain ⟨h1,h2⟩:=Aa h
 unfold dL at h
 rw[if_neg (by rw[h1];decide),if_neg (by omega),if_neg h0] at h
 cases hf:dB b.es e.k with
 | none=>rw[hf] at h;cases h
 | some i=>
  rw[hf] at h
  unfold hasB at h1
  rw[hf] at h1
  exact⟨i,rfl,h,by simpa using h1⟩
theorem JA {b:Bk} {e:Ev} (h1:hasB b.es e=false) (h2:b.t≤e.t) (h3:e.kind=0→e.k.n=(iC b.es e.k:Int)+1∧b.es.length<256) (h4:e.kind≠0→∃i,dB b.es e.k=some i∧ku (b.es.getD i en0) e=0):dL b e=0:=by
 unfold dL
 rw[if_neg (by rw[h1];decide),if_neg (by omega)]
 by_cases h0:e.kind=0
 ·obtain ⟨k1,k2⟩:=h3 h0
  rw[if_pos h0,if_neg (by omega),if_neg (by omega)]
 ·obtain ⟨i,k1,k2⟩:=h4 h0
  rw[if_neg h0,k1]
  exact k2
theorem getD_set_ne {l:List En} {i j:Nat} {x:En} (h:i≠j):(l.set i x).getD j en0=l.getD j en0:=by
 rw[List.getD,List.getD,List.getElem?_set_ne h]
theorem zV {l:List En} {i:Nat} {x:En} (h:i<l.length):(l.set i x).getD i en0=x:=by
 rw[List.getD,List.getElem?_set_self h];rfl
theorem Om {l m:List En} {i:Nat} (h:i<l.length):(l++m).getD i en0=l.getD i en0:=by
 rw[List.getD,List.getD,List.getElem?_append_left h]
theorem Bd {es:List En} {y:Ev} {k:Ky} {i:Nat} (hk:y.k≠k) (hf:dB es k=some i):dB (dY es y) k=some i∧(dY es y).getD i en0=es.getD i en0:=by
 obtain ⟨h1,h2⟩:=iW hf
 by_cases h0:y.kind=0
 ·have e1:keyS (dY es y)=keyS es++[y.k]:=DX h0
  refine⟨?_,?_⟩
  ·unfold dB at hf⊢
   rw[e1,List.findIdx?_append,hf];rfl
  ·unfold dY
   rw[if_pos h0,Om h1]
 ·have e1:keyS (dY es y)=keyS es:=rY h0
  refine⟨?_,?_⟩
  ·unfold dB at hf⊢
   rw[e1,hf]
  ·unfold dY
   rw[if_neg h0]
   cases hj:dB es y.k with
   | none=>rfl
   | some j=>
    have h3:=(iW hj).2
    exact getD_set_ne fun q=>hk (by rw[←h3,q,h2])
theorem tZ {es:List En} {y:Ev} {k:Ky} (hk:y.k≠k):dB (dY es y) k=dB es k:=by
 cases hf:dB es k with
 | some i=>exact(Bd hk hf).1
 | none=>
  unfold dB at hf⊢
  by_cases h0:y.kind=0
  ·rw[DX h0,List.findIdx?_append,hf]
   simp[hk]
  ·rw[rY h0,hf]
theorem Lc {es:List En} {y e:Ev} (hk:y.k≠e.k):hasB (dY es y) e=hasB es e:=by
 unfold hasB
 rw[tZ hk]
 cases hf:dB es e.k with
 | none=>rfl
 | some i=>
  try dsimp only
  rw[(Bd hk hf).2]
theorem lX {es:List En} {e:Ev} {i:Nat} (h0:e.kind≠0) (hf:dB es e.k=some i):dY es e=es.set i (gX (es.getD i en0) e):=by
 unfold dY
 rw[if_neg h0,hf]
theorem swap {b:Bk} {y e:Ev} (fe:lU e) (fy:lU y) (ht:y.t=e.t) (hi:indep e y) (h1:dL b y=0) (h2:dL (gQ b y) e=0):dL b e=0∧dL (gQ b e) y=0∧gQ (gQ b e) y=gQ (gQ b y) e:=by
 obtain ⟨h0,hi⟩:=hi
 obtain ⟨n1,t1⟩:=Aa h1
 obtain ⟨n2,t2⟩:=Aa h2
 obtain ⟨i,g1,g2,g3⟩:=xI h2 h0
 have g1:dB (dY b.es y) e.k=some i:=g1
 have g2:ku ((dY b.es y).getD i en0) e=0:=g2
 rcases hi with hk|⟨hk,e1,yk⟩
 ·have n2:hasB (dY b.es y) e=false:=n2
  rw[Lc hk] at n2
  rw[tZ hk] at g1
  have ge:=(Bd hk g1).2
  rw[ge] at g2
  obtain ⟨il,ik⟩:=iW g1
  have ae:=lX h0 g1
  have a1:dL b e=0:=JA n2 (by omega) (fun c=>absurd c h0) fun _=>⟨i,g1,g2⟩
  have hk':e.k≠y.k:=fun c=>hk c.symm
  refine⟨a1,?_,?_⟩
  ·refine JA ?_ (by show e.t≤y.t;omega) (fun c=>?_) (fun c=>?_)
   ·show hasB (dY b.es e) y=false
    rw[Lc hk'];exact n1
   ·obtain ⟨q1,q2⟩:=QC h1 c
    refine⟨?_,?_⟩
    ·show y.k.n=(iC (dY b.es e) y.k:Int)+1
     unfold iC
     rw[rY h0];exact q1
    ·show (dY b.es e).length<256
     rw[ae,List.length_set];exact q2
   ·obtain ⟨j,q1,q2,_⟩:=xI h1 c
    refine⟨j,?_,?_⟩
    ·show dB (dY b.es e) y.k=some j
     rw[tZ hk'];exact q1
    ·show ku ((dY b.es e).getD j en0) y=0
     rw[(Bd hk' q1).2];exact q2
  ·show (⟨y.t,dY (dY b.es e) y⟩:Bk)=⟨e.t,dY (dY b.es y) e⟩
   rw[ht]
   refine congrArg (Bk.mk e.t) ?_
   rw[lX h0 (show dB (dY b.es y) e.k=some i by rw[tZ hk];exact g1),ge,ae]
   by_cases c:y.kind=0
   ·unfold dY
    rw[if_pos c,if_pos c,List.set_append_left _ _ il]
   ·obtain ⟨j,q1,q2,_⟩:=xI h1 c
    have hij:i≠j:=fun q=>hk (by rw[←(iW q1).2,←q,ik])
    have q3:dB (dY b.es e) y.k=some j:=by rw[tZ hk'];exact q1
    rw[ae] at q3
    rw[lX c q3,lX c q1,getD_set_ne hij,List.set_comm _ _ hij]
 ·have y0:y.kind≠0:=by omega
  obtain ⟨j,q1,q2,q3⟩:=xI h1 y0
  have ay:=lX y0 q1
  obtain ⟨jl,jk⟩:=iW q1
  have hij:i=j:=by
   have:dB (dY b.es y) e.k=dB b.es e.k:=by unfold dB;rw[rY y0]
   rw[this,←hk,q1] at g1
   exact(Option.some.inj g1).symm
  subst hij
  have gi:(dY b.es y).getD i en0=gX (b.es.getD i en0) y:=by rw[ay,zV jl]
  rw[gi] at g2
  have g3:e∉fD (gX (b.es.getD i en0) y):=by rw[←gi];exact g3
  rw[UK fy (by rw[jk]) y0 q2] at g3
  have ef:dB b.es e.k=some i:=by rw[←hk];exact q1
  have gs:(gX (b.es.getD i en0) y).gs=(b.es.getD i en0).gs:=by
   unfold gX
   rw[if_neg (by omega)]
   split<;>rfl
  have g4:ku (b.es.getD i en0) e=0:=by
   unfold ku wL at g2⊢
   rw[if_pos e1,gs] at g2
   rw[if_pos e1]
   exact g2
  have a1:dL b e=0:=JA (by unfold hasB;rw[ef];exact decide_eq_false fun c=>g3 (.inr c)) (by omega) (fun c=>absurd c h0) fun _=>⟨i,ef,g4⟩
  have ae:=lX h0 ef
  have yf:dB (dY b.es e) y.k=some i:=by
   have:dB (dY b.es e) y.k=dB b.es y.k:=by unfold dB;rw[rY h0]
   rw[this];exact q1
  have gj:(dY b.es e).getD i en0=gX (b.es.getD i en0) e:=by rw[ae,zV jl]
  have Zx:(gX (b.es.getD i en0) e).ah=(b.es.getD i en0).ah:=by
   unfold gX
   rw[if_pos e1]
  have gl:(gX (b.es.getD i en0) e).gs.length≠0:=by
   unfold gX
   rw[if_pos e1];simp
  refine⟨a1,?_,?_⟩
  ·refine JA ?_ (by show e.t≤y.t;omega) (fun c=>absurd c y0) (fun _=>⟨i,yf,?_⟩)
   ·show hasB (dY b.es e) y=false
    unfold hasB
    rw[yf]
    try dsimp only
    rw[gj]
    refine decide_eq_false ?_
    rw[UK fe (by rw[jk,hk]) h0 g4]
    rintro (c|c)
    ·rw[c] at yk;omega
    ·exact q3 c
   ·show ku ((dY b.es e).getD i en0) y=0
    rw[gj]
    have oe:bV (gX (b.es.getD i en0) e)=bV (b.es.getD i en0):=by unfold bV;rw[Zx]
    unfold ku at q2⊢
    rw[if_neg (by omega)] at q2⊢
    rw[oe,Zx]
    by_cases c2:y.kind=2
    ·rw[if_pos c2] at q2⊢
     have hno:¬((b.es.getD i en0).gs.length=0∨bV (b.es.getD i en0)=true):=fun c=>by
      rw[if_pos c] at q2;cases q2
     rw[if_neg hno] at q2
     rw[if_neg (not_or.2 ⟨gl,(not_or.1 hno).2⟩)]
     exact q2
    ·rw[if_neg c2] at q2⊢
     exact q2
  ·show (⟨y.t,dY (dY b.es e) y⟩:Bk)=⟨e.t,dY (dY b.es y) e⟩
   rw[ht]
   refine congrArg (Bk.mk e.t) ?_
   have ef2:dB (dY b.es y) e.k=some i:=by
    have:dB (dY b.es y) e.k=dB b.es e.k:=by unfold dB;rw[rY y0]
    rw[this];exact ef
   rw[lX y0 yf,lX h0 ef2,gi,gj,ae,ay,List.set_set,List.set_set]
   refine congrArg (List.set b.es i) ?_
   unfold gX
   have n1:¬y.kind=1:=by omega
   simp only[if_pos e1,if_neg n1]
   split<;>rfl
end Go.Proofs
namespace Go.Proofs
variable {ok:Ev→Bool}
theorem jV {e:Ev} {l:List Ev} {a b:Bk}:gB ok (e :: l) a=some b↔(ok e=true∧dL a e=0)∧gB ok l (gQ a e)=some b:=by
 have e0:gB ok (e :: l) a=if ok e=true∧dL a e=0 then gB ok l (gQ a e) else none:=rfl
 rw[e0]
 split
 ·rename_i h;simp[h]
 ·rename_i h
  constructor
  ·intro q;cases q
  ·rintro ⟨h1,_⟩;exact absurd h1 h
theorem x9 {l m:List Ev} {a b:Bk}:gB ok (l++m) a=some b↔∃c,gB ok l a=some c∧gB ok m c=some b:=by
 induction l generalizing a with
 | nil=>exact⟨fun h=>⟨a,rfl,h⟩,fun ⟨c,h1,h2⟩=>by cases h1;exact h2⟩
 | cons e l ih=>
  rw[List.cons_append,jV,ih]
  constructor
  ·rintro ⟨h,c,h1,h2⟩;exact⟨c,jV.2 ⟨h,h1⟩,h2⟩
  ·rintro ⟨c,h1,h2⟩
   obtain ⟨h,h1⟩:=jV.1 h1
   exact⟨h,c,h1,h2⟩
theorem OG {e:Ev} {a b:Bk}:gB ok [e] a=some b↔(ok e=true∧dL a e=0)∧gQ a e=b:=by
 rw[jV]
 constructor
 ·rintro ⟨h,q⟩;exact⟨h,by cases q;rfl⟩
 ·rintro ⟨h,rfl⟩;exact⟨h,rfl⟩
theorem move {e:Ev} (fe:lU e) (hok:∀y,ok y=true→lU y):∀{Q:List Ev} {a b:Bk},(∀y∈Q,y.t=e.t∧indep e y)→gB ok Q a=some b→dL b e=0→dL a e=0∧gB ok Q (gQ a e)=some (gQ b e)
 | [],a,b,_,h,hc=>by
  cases h
  exact⟨hc,rfl⟩
 | y :: Q,a,b,hq,h,hc=>by
  obtain ⟨⟨h1,h2⟩,h3⟩:=jV.1 h
  obtain ⟨q1,q2⟩:=move fe hok (fun z hz=>hq z (List.mem_cons_of_mem _ hz)) h3 hc
  obtain ⟨ht,hi⟩:=hq y (by simp)
  obtain ⟨s1,s2,s3⟩:=swap fe (hok y h1) ht hi h2 q1
  exact⟨s1,jV.2 ⟨⟨h1,s2⟩,by rw[s3];exact q2⟩⟩
structure Good (b:Bk):Prop where
 num:∀k∈keyS b.es,k.n≤(iC b.es k:Int)
 OT:(keyS b.es).Nodup
 few:b.es.length≤256
theorem Iw:Good fA:=⟨fun k h=>(by cases h),List.nodup_nil,by decide⟩
theorem good_step {b:Bk} {e:Ev} (g:Good b) (h:dL b e=0):Good (gQ b e):=by
 obtain ⟨g1,g2,g3⟩:=g
 by_cases h0:e.kind=0
 ·obtain ⟨h1,h2⟩:=QC h h0
  have ke:keyS (gQ b e).es=keyS b.es++[e.k]:=DX h0
  have hn:e.k∉keyS b.es:=fun c=>by have:=g1 _ c;omega
  refine⟨fun k hk=>?_,?_,?_⟩
  ·unfold iC
   rw[ke] at hk⊢
   rw[List.filter_append,List.length_append]
   rcases List.mem_append.1 hk with hk|hk
   ·have:=g1 _ hk
    unfold iC at this
    omega
   ·obtain rfl:=List.mem_singleton.1 hk
    have:([e.k].filter (wH e.k)).length=1:=by simp[wH]
    unfold iC at h1
    omega
  ·rw[ke]
   refine List.nodup_append.2 ⟨g2,by simp,?_⟩
   intro a ha c hc q
   obtain rfl:=List.mem_singleton.1 hc
   exact hn (q▸ha)
  ·have:(gQ b e).es.length=b.es.length+1:=by
    have:=congrArg List.length ke
    simpa [keyS] using this
   omega
 ·have ke:keyS (gQ b e).es=keyS b.es:=rY h0
  have hl:(gQ b e).es.length=b.es.length:=by simpa [keyS] using congrArg List.length ke
  refine⟨fun k hk=>?_,by rw[ke];exact g2,by omega⟩
  unfold iC
  rw[ke] at hk⊢
  exact g1 k hk
theorem yS:∀{l:List Ev} {a b:Bk},Good a→gB ok l a=some b→Good b
 | [],_,_,g,h=>by cases h;exact g
 | e :: l,a,b,g,h=>by
  obtain ⟨⟨_,h2⟩,h3⟩:=jV.1 h
  exact yS (good_step g h2) h3
theorem ticks:∀{l:List Ev} {a b:Bk},gB ok l a=some b→a.t≤b.t∧∀y∈l,y.t≤b.t
 | [],_,_,h=>by cases h;exact⟨Int.le_refl _,fun y hy=>(by cases hy)⟩
 | e :: l,a,b,h=>by
  obtain ⟨⟨_,h2⟩,h3⟩:=jV.1 h
  obtain ⟨h4,h5⟩:=ticks h3
  have h6:e.t≤b.t:=h4
  have:=(Aa h2).2
  refine⟨by omega,fun y hy=>?_⟩
  rcases List.mem_cons.1 hy with rfl|hy
  ·exact h6
  ·exact h5 y hy
theorem vk {b:Bk}:aJ ok b=true↔b.es.length≤256∧gB ok (ak b) fA=some b:=by
 unfold aJ
 simp
theorem Hr {b:Bk} (h:aJ ok b=true):Good b:=yS Iw (vk.1 h).2
theorem WH {b:Bk} (h:aJ ok b=true):0≤b.t∧∀y∈bn b.es,y.t≤b.t:=by
 obtain ⟨h1,h2⟩:=ticks (vk.1 h).2
 exact⟨h1,fun y hy=>h2 y ((ng _).2 hy)⟩
theorem mJ (l m:List En):bn (l++m)=bn l++bn m:=by
 unfold bn
 rw[List.map_append,List.flatten_append]
theorem yV (x:En) (m:List En):bn (x :: m)=fD x++bn m:=by
 unfold bn
 rw[List.map_cons,List.flatten_cons]
theorem Yh {x:En} {y:Ev} (h:y∈fD x):y.k=x.k:=by
 unfold fD at h
 rcases List.mem_cons.1 h with rfl|h
 ·rfl
 ·rcases List.mem_append.1 h with h|h
  ·obtain ⟨g,_,rfl⟩:=List.mem_map.1 h;rfl
  ·obtain ⟨l,hl,hq⟩:=List.mem_flatten.1 h
   obtain ⟨a,_,rfl⟩:=List.mem_map.1 hl
   unfold uH at hq
   rcases List.mem_cons.1 hq with rfl|hq
   ·rfl
   ·split at hq
    ·obtain rfl:=List.mem_singleton.1 hq;rfl
    ·cases hq
theorem Hu {es:List En} {i:Nat} (h:i<es.length) (x:En):es=es.take i++es.getD i en0 :: es.drop (i+1)∧es.set i x=es.take i++x :: es.drop (i+1):=by
 constructor
 ·rw[List.getD,List.getElem?_eq_getElem h]
  show es=es.take i++es[i] :: es.drop (i+1)
  rw[←List.drop_eq_getElem_cons h,List.take_append_drop]
 ·exact List.set_eq_take_append_cons_drop.trans (by rw[if_pos h])
theorem Ph {es:List En} (OT:(keyS es).Nodup) {i j:Nat} (hij:i<j) (hj:j<es.length):es[i].k≠es[j].k:=by
 have:=List.pairwise_iff_getElem.1 OT i j (by simp[keyS];omega) (by simp[keyS];omega) hij
 simpa [keyS] using this
theorem Yo {b:Bk} {e:Ev} (g:Good b) (fe:lU e) (h:dL b e=0) (h0:e.kind≠0):∃P Q,bn b.es=P++Q∧bn (dY b.es e)=P++e :: Q∧∀y∈Q,indep e y:=by
 obtain ⟨i,h1,h2,_⟩:=xI h h0
 obtain ⟨il,ik⟩:=iW h1
 obtain ⟨U,V,u1,u2,u3⟩:=Rh fe ik.symm h0 h2
 obtain ⟨s1,s2⟩:=Hu il (gX (b.es.getD i en0) e)
 refine⟨bn (b.es.take i)++U,V++bn (b.es.drop (i+1)),?_,?_,?_⟩
 ·conv=>lhs;rw[s1]
  rw[mJ,yV,u1];simp only[List.append_assoc]
 ·rw[lX h0 h1,s2,mJ,yV,u2];simp only[List.append_assoc,List.cons_append]
 ·intro y hy
  refine⟨h0,?_⟩
  rcases List.mem_append.1 hy with hy|hy
  ·obtain ⟨q1,q2,q3⟩:=u3 y hy
   exact .inr ⟨by rw[q1,ik],q2,q3⟩
  ·refine .inl fun c=>?_
   unfold bn at hy
   obtain ⟨l,hl,hq⟩:=List.mem_flatten.1 hy
   obtain ⟨x,hx,rfl⟩:=List.mem_map.1 hl
   have hk:=Yh hq
   obtain ⟨j,hj,rfl⟩:=List.mem_iff_getElem.1 hx
   rw[List.getElem_drop] at hk
   have hj':i+1+j<b.es.length:=by rw[List.length_drop] at hj;omega
   have OT:=g.OT
   rw[List.getD,List.getElem?_eq_getElem il] at ik
   have ik:b.es[i].k=e.k:=ik
   refine Ph OT (show i<i+1+j by omega) hj' ?_
   rw[ik,←c,hk]
theorem V7 {es:List En} {e:Ev} (fe:lU e) (h0:e.kind=0):bn (dY es e)=bn es++[e]:=by
 obtain ⟨_,f2,f3⟩:=fe
 obtain ⟨kd,k,t,v,h,s,a⟩:=e
 simp only at h0 f2 f3
 subst h0
 obtain ⟨rfl,rfl⟩:=f2 (by decide)
 have ha:=f3 (by decide)
 subst ha
 unfold dY
 rw[if_pos rfl,mJ]
 simp[bn,fD,yu]
theorem Xj (hok:∀y,ok y=true→lU y) {b:Bk} {e:Ev} (hb:aJ ok b=true) (he:ok e=true) (h:dL b e=0):aJ ok (gQ b e)=true:=by
 have g:=Hr hb
 obtain ⟨t0,t1⟩:=WH hb
 obtain ⟨v1,v2⟩:=vk.1 hb
 have ht:=(Aa h).2
 have fe:=hok e he
 refine vk.2 ⟨(good_step g h).few,?_⟩
 by_cases h0:e.kind=0
 ·unfold ak
  show gB ok (gY (bn (dY b.es e))) fA=_
  rw[V7 fe h0,su,Fh (fun a ha=>by have:=t1 a ((ng _).1 ha);omega)]
  exact x9.2 ⟨b,v2,OG.2 ⟨⟨he,h⟩,rfl⟩⟩
 ·obtain ⟨P,Q,p1,p2,p3⟩:=Yo g fe h h0
  obtain ⟨pre,q1,q2⟩:=YW P Q e (fun a ha=>by have:=t1 a (by rw[p1];exact ha);omega)
  unfold ak at v2⊢
  show gB ok (gY (bn (dY b.es e))) fA=_
  rw[p1,q1] at v2
  rw[p2,q2]
  obtain ⟨c,c1,c2⟩:=x9.1 v2
  obtain ⟨m1,m2⟩:=move fe hok (fun y hy=>by
   have:=List.mem_filter.1 hy
   exact⟨by simpa using this.2,p3 y this.1⟩) c2 h
  exact x9.2 ⟨c,c1,jV.2 ⟨⟨he,m1⟩,m2⟩⟩
theorem ZN:aJ ok fA=true:=vk.2 ⟨by decide,rfl⟩
theorem FT {b:Bk} (g:Good b) (e:Ev):hasB b.es e=true↔e∈bn b.es:=by
 constructor
 ·intro h
  unfold hasB at h
  cases hf:dB b.es e.k with
  | none=>rw[hf] at h;cases h
  | some i=>
   rw[hf] at h
   obtain ⟨il,_⟩:=iW hf
   rw[(Hu il en0).1,mJ,yV]
   simp only[List.mem_append]
   exact .inr (.inl (by simpa using h))
 ·intro h
  unfold bn at h
  obtain ⟨l,hl,hq⟩:=List.mem_flatten.1 h
  obtain ⟨x,hx,rfl⟩:=List.mem_map.1 hl
  have hk:=Yh hq
  obtain ⟨j,hj,rfl⟩:=List.mem_iff_getElem.1 hx
  unfold hasB
  cases hf:dB b.es e.k with
  | none=>
   unfold dB at hf
   rw[List.findIdx?_eq_none_iff] at hf
   have:=hf b.es[j].k (List.mem_map.2 ⟨_,hx,rfl⟩)
   simp[hk] at this
  | some i=>
   obtain ⟨il,ik⟩:=iW hf
   rw[List.getD,List.getElem?_eq_getElem il] at ik
   have ik:b.es[i].k=e.k:=ik
   have hij:i=j:=by
    refine Classical.byContradiction fun c=>?_
    rcases Nat.lt_or_gt_of_ne c with c|c
    ·exact Ph g.OT c hj (by rw[ik,hk])
    ·exact Ph g.OT c il (by rw[ik,hk])
   subst hij
   try dsimp only
   rw[List.getD,List.getElem?_eq_getElem il]
   exact decide_eq_true hq
end Go.Proofs
namespace Go.Proofs
open Go Go.Ab Go.RowKit
variable {G:IH}
theorem uZ {l:List Ev} {e:Ev} {j:Nat} (hj:j<l.length+1):(bif j.blt l.length then bW l j else aW true 9 (kE e) (0+(j-l.length)))=bW (l++[e]) j:=by
 unfold bW
 by_cases h:j<l.length
 ·rw[show j.blt l.length=true from by rw[Nat.blt_eq];exact h,cond_true,List.getD,List.getD,List.getElem?_append_left h]
 ·obtain rfl:j=l.length:=by omega
  rw[show l.length.blt l.length=false from by rw[Bool.eq_false_iff,ne_eq,Nat.blt_eq];omega,cond_false,Nat.sub_self,List.getD,List.getElem?_append_right (Nat.le_refl _),Nat.sub_self];rfl
abbrev uG (l:List Ev) (e:Ev):Nat→DV:=fun i=>bif i.blt l.length then bW l i else aW true 9 (kE e) (0+(i-l.length))
noncomputable def pO (L:Nat→Ev):dU:={ d:=bG,m:=Vr L id 0,rows:=fun n=>Nat.beq n 25||(Nat.beq n 46||(Nat.beq n 64||Nat.beq n 78)) }
noncomputable def Dc (es:List En) (k:Nat) (x:En) (R:List (Nat×AV)) (f:Nat→DV) (n:Nat):AS:=⟨regs Tryz.f53.ntmps ([(3,.vec 903 9 0 n),(5,.box 5 0),(11,.d (jI es)),(12,vi es.length),(13,vi k)]++R),[(903,[.arr mY 9 f]),(5,(wP x).map .d)]⟩
noncomputable def V9 (es:List En) (k:Nat) (f:Nat→DV) (n:Nat):AS:=⟨regs Tryz.f53.ntmps [(3,.vec 903 9 0 n),(11,.d (jI es)),(12,vi es.length),(13,vi k)],[(903,[.arr mY 9 f])]⟩
noncomputable def adH (es:List En):AS:=⟨regs Tryz.f53.ntmps [(3,.d (.con (.slice none 0 0))),(11,.d (jI es)),(12,vi es.length),(13,vi 0)],[]⟩
abbrev gR (x:En) (j:Nat):List (Nat×AV):=[(28,.d (jZ x.gs)),(29,vi x.gs.length),(30,vi j)]
abbrev aR (x:En) (j:Nat):List (Nat×AV):=[(50,.d (iD x.ah)),(51,vi x.ah.length),(52,vi j)]
noncomputable def aaU (es:List En) (k:Nat) (x:En) (j:Nat) (a:Al) (f:Nat→DV) (n:Nat):AS:=⟨regs Tryz.f53.ntmps ([(3,.vec 903 9 0 n),(5,.box 5 0),(9,.box 9 0),(11,.d (jI es)),(12,vi es.length),(13,vi k)]++aR x j),[(903,[.arr mY 9 f]),(5,(wP x).map .d),(9,(DU a).map .d)]⟩
def lY (k:Ky) (a:Al):Ev:=⟨2,k,a.t,0,0,a.s,false⟩
def y8 (k:Ky) (a:Al):Ev:=⟨3,k,a.at_,0,0,a.ans,a.acc⟩
def lE (es:List En) (k:Nat):List Ev:=bn (es.take k)
def lG (l:List Ev) (x:En) (j:Nat):List Ev:=l++yu x :: (x.gs.take j).map (yx x.k)
def lA (l:List Ev) (x:En) (j:Nat):List Ev:=l++yu x :: (x.gs.map (yx x.k)++((x.ah.take j).map (uH x.k)).flatten)
theorem Q7 {l:List Ev} {x:En} {j:Nat} (h:j<x.gs.length):lG l x (j+1)=lG l x j++[yx x.k (x.gs.getD j dR)]:=by
 unfold lG
 rw[List.take_succ_eq_append_getElem h,List.getD,gy h,List.map_append]
 simp
theorem VE {l:List Ev} {x:En}:lG l x x.gs.length=lA l x 0:=by simp[lG,lA]
theorem QE {l:List Ev} {x:En} {j:Nat} (h:j<x.ah.length):lA l x (j+1)=lA l x j++uH x.k (x.ah.getD j bZ):=by
 unfold lA
 rw[List.take_succ_eq_append_getElem h,List.getD,gy h,List.map_append]
 simp
theorem aaZ {es:List En} {k:Nat} (h:k<es.length):lA (lE es k) (es.getD k en0) (es.getD k en0).ah.length=lE es (k+1):=by
 unfold lA lE
 rw[List.take_succ_eq_append_getElem h,List.take_length,List.getD,gy h,mJ]
 refine congrArg (bn (es.take k) ++ ·) ?_
 show _=([es[k]].map fD).flatten
 rw[List.map_cons,List.map_nil,List.flatten_cons,List.flatten_nil,List.append_nil];rfl
theorem iE {α:Type} (l:List α) (a:α):(l++[a]).length=l.length+1:=by rw[List.length_append];rfl
theorem VQ {es:List En} {k n:Nat} (h:(bn es).length≤n):(lE es k).length≤n:=by
 have:bn es=lE es k++bn (es.drop k):=by
  unfold lE
  rw[←mJ,List.take_append_drop]
 rw[this,List.length_append] at h
 omega
abbrev sS (l:List Ev):DV:=.slc 9 l.length fun i=>dO (fun i=>l.getD i ev0) (iQ (fun i=>(l.getD i ev0).t) l.length) (0+i)
theorem adY (es:List En) (t:Int) (hs:gq es) (hl:(bn es).length≤1000000):aA Tryz.prog G 53 [cu ⟨t,es⟩] (sS (bn es)):=by
 refine aA.dA Tryz.func53 rfl Tryz.call53 ?_
 refine dZ (aj:=pO (fun i=>(bn es).getD i ev0)) ?_
 refine aC (fun ZT ZW ZQ _=>ZW [cd Tryz.f53 [1,1,0,1,0],(.blk 0),cd Tryz.f53 [1,1,1]] (aB ZT []) ZQ) (by kernel_rfl) ?_
 refine aX.weaken (st':=adH es) ?_ ?_
 ·exact AS.bD (by kernel_rfl)
 refine aX.pre (.nilRow _ 3 903 9 mY (bW []) rfl (by kernel_rfl)) ?_
 refine aX.loop (c:=aU (au Tryz.f53) [1,1,0,1,0,0]) (by kernel_rfl) (fun k:Nat=>V9 es k (bW (lE es k)) (lE es k).length) (fun k=>k≤es.length) (fun k=>es.length-k) 0 ?_ (Nat.zero_le _) ?_
 ·refine AS.leZ [] [0] (b:=((T0∧T0∧T0∧T0∧True)∧((some [(.arr bY 9 (bW []))]):dS)=(some [(.arr bY 9 (bW (lE es 0)))])∧True)) (by kernel_rfl) (by kernel_rfl) ?_
  exact⟨⟨rfl,rfl,rfl,rfl,trivial⟩,rfl,trivial⟩
 intro k hk
 show aX _ _ _ (V9 es k (bW (lE es k)) (lE es k).length) _
 by_cases hk2:k<es.length
 ·refine gK (aj:=pO (fun i=>(bn es).getD i ev0)) (cuts:=[6,19]) ?_
  refine aV (fun ZT ZW ZQ _ _ ZR=>((((decide ((↑k:Int)<↑es.length))=true)→(((0≤(↑k:Int))∧((↑k:Int)<↑es.length))∧((((lE es k).length+1)*96≤1099511627776)∧((lE es k).length+1≤1099511627776))∧ZW [cd Tryz.f53 [1,1,0,1,0,0,1,1,0,0,1,1,0],cd Tryz.f53 [1,1,0,1,0,0,1,1,0,0,1,1,1],(.blk 1),cd Tryz.f53 [1,1,0,1,0,0,1,1,1]] (aB ZT [0]) ZR))∧(((decide ((↑k:Int)<↑es.length))=false)→ZW [cd Tryz.f53 [1,1,1]] (aB ZT [1]) ZQ))) (by kernel_rfl) ?_
  have hx:=hs.2 k hk2
  have hall:=aaZ hk2
  have hll:(lE es k).length≤1000000:=VQ hl
  have hlk:(lE es (k+1)).length≤1000000:=VQ hl
  refine⟨fun _=>⟨⟨by omega,by omega⟩,⟨by omega,by omega⟩,?_⟩,fun hd=>absurd (of_decide_eq_false hd) (by omega)⟩
  refine aX.pre ((AS.cO.moves [(26,903)] _ rfl).trans ((AS.cO.of_le (st':=Dc es k (es.getD k en0) [] (uG (lE es k) (yu (es.getD k en0))) ((lE es k).length+1)) ?_).trans ((AS.cO.l9 _ 3 903 ((lE es k).length+1) (agg:=mY) (sz:=9) (f:=uG (lE es k) (yu (es.getD k en0))) (bW (lE es k++[yu (es.getD k en0)])) rfl rfl rfl (by kernel_rfl) fun j hj=>uZ hj).trans (.of_le (st':=Dc es k (es.getD k en0) [] (bW (lG (lE es k) (es.getD k en0) 0)) (lG (lE es k) (es.getD k en0) 0).length) ?_)))) ?_
  ·refine AS.leZ [] [0,1] (b:=((T0∧T0∧T0∧T0∧T0∧True)∧((some [(.arr bY 9 (fun i=>bif i.blt (lE es k).length then bW (lE es k) i else aW true 9 [di 0,DV.con (Value.string (es.getD (↑k:Int).toNat en0).k.st),DV.con (Value.string (es.getD (↑k:Int).toNat en0).k.ex),DV.con (Value.int IntKind.i64 (es.getD (↑k:Int).toNat en0).k.n),DV.con (Value.int IntKind.i64 (es.getD (↑k:Int).toNat en0).t),di 0,di 0,DV.con (Value.string (es.getD (↑k:Int).toNat en0).s),DV.con (Value.bool false)] (0+(i-(lE es k).length))))]):dS)=(some [(.arr bY 9 (uG (lE es k) (yu (es.getD k en0))))])∧((some [(vs (es.getD (↑k:Int).toNat en0).k.st),(vs (es.getD (↑k:Int).toNat en0).k.ex),(vi (es.getD (↑k:Int).toNat en0).k.n),(vi (es.getD (↑k:Int).toNat en0).t),(vs (es.getD (↑k:Int).toNat en0).s),(.d (.slc 4 (es.getD (↑k:Int).toNat en0).gs.length (dP (es.getD (↑k:Int).toNat en0).gs))),(.d (.slc 6 (es.getD (↑k:Int).toNat en0).ah.length (dI (es.getD (↑k:Int).toNat en0).ah)))]):dS)=(some [(vs (es.getD k en0).k.st),(vs (es.getD k en0).k.ex),(vi (es.getD k en0).k.n),(vi (es.getD k en0).t),(vs (es.getD k en0).s),(.d (.slc 4 (es.getD k en0).gs.length (dP (es.getD k en0).gs))),(.d (.slc 6 (es.getD k en0).ah.length (dI (es.getD k en0).ah)))])∧True)) (by kernel_rfl) (by kernel_rfl) ?_
   exact⟨⟨rfl,rfl,rfl,rfl,rfl,trivial⟩,rfl,rfl,trivial⟩
  ·refine AS.leZ [0] [0] (b:=((((.vec 903 9 0 ((lE es k).length+1)):AV)=(.vec 903 9 0 (lG (lE es k) (es.getD k en0) 0).length)∧T0∧T0∧T0∧T0∧True)∧((some [(.arr bY 9 (bW (lE es k++[yu (es.getD k en0)])))]):dS)=(some [(.arr bY 9 (bW (lG (lE es k) (es.getD k en0) 0)))])∧T0∧True)) (by kernel_rfl) (by kernel_rfl) ?_
   exact⟨⟨congrArg (AV.vec 903 9 0) (by simp[lG]),rfl,rfl,rfl,rfl,trivial⟩,by simp[lG],rfl,trivial⟩
  rw[←hall] at hlk
  have hag:lE es (k+1)=lA (lE es k) (es.getD k en0) (es.getD k en0).ah.length:=hall.symm
  clear hall
  generalize es.getD k en0=x at hx hag hlk
  generalize hl0:lE es k=l at hag hll hlk
  obtain ⟨hx1,hx2⟩:=hx
  have hgl:∀j,j≤x.gs.length→(lG l x j).length≤1000000:=fun j hj=>by
   refine Nat.le_trans ?_ hlk
   simp only[lG,lA,List.length_append,List.length_cons,List.length_map,List.length_take]
   omega
  have hal:∀j,j≤x.ah.length→(lA l x j).length≤1000000:=fun j hj=>by
   refine Nat.le_trans ?_ hlk
   have e:x.ah=x.ah.take j++x.ah.drop j:=(List.take_append_drop j x.ah).symm
   unfold lA
   rw[List.take_length]
   conv=>rhs;rw[e]
   simp only[List.map_append,List.flatten_append,List.length_append,List.length_cons]
   omega
  refine dZ (aj:=pO (fun i=>(bn es).getD i ev0)) ?_
  refine aV (fun ZT ZW _ _ _ ZR=>ZW [cd Tryz.f53 [1,1,0,1,0,0,1,1,0,0,1,1,0,1,0],(.blk 2),cd Tryz.f53 [1,1,0,1,0,0,1,1,0,0,1,1,1],(.blk 1),cd Tryz.f53 [1,1,0,1,0,0,1,1,1]] (aB ZT []) ZR) (by kernel_rfl) ?_
  refine aX.loop (c:=aU (au Tryz.f53) [1,1,0,1,0,0,1,1,0,0,1,1,0,1,0,0]) (by kernel_rfl) (fun j:Nat=>Dc es k x (gR x j) (bW (lG l x j)) (lG l x j).length) (fun j=>j≤x.gs.length) (fun j=>x.gs.length-j) 0 ?_ (Nat.zero_le _) ?_
  ·exact AS.bD (by kernel_rfl)
  intro j hj
  show aX _ _ _ (Dc es k x (gR x j) (bW (lG l x j)) (lG l x j).length) _
  by_cases hj2:j<x.gs.length
  ·have hg1:=hgl j hj
   refine gK (aj:=pO (fun i=>(bn es).getD i ev0)) (cuts:=[10,11]) ?_
   refine aV (fun ZT ZW ZQ _ _ ZR=>((((decide ((↑j:Int)<↑x.gs.length))=true)→(((0≤(↑j:Int))∧((↑j:Int)<↑x.gs.length))∧((((lG l x j).length+1)*96≤1099511627776)∧((lG l x j).length+1≤1099511627776))∧ZW [cd Tryz.f53 [1,1,0,1,0,0,1,1,0,0,1,1,0,1,0,0,1,1,1]] (aB ZT [0]) ZR))∧(((decide ((↑j:Int)<↑x.gs.length))=false)→ZW [cd Tryz.f53 [1,1,0,1,0,0,1,1,0,0,1,1,1],(.blk 1),cd Tryz.f53 [1,1,0,1,0,0,1,1,1]] (aB ZT [1]) ZQ))) (by kernel_rfl) ?_
   refine⟨fun _=>⟨⟨by omega,by omega⟩,⟨by omega,by omega⟩,?_⟩,fun hd=>absurd (of_decide_eq_false hd) (by omega)⟩
   have hg2:=hgl (j+1) hj2
   have e:=Q7 (l:=l) hj2
   refine aX.pre ((AS.cO.moves [(47,903)] _ rfl).trans ((AS.cO.of_le (st':=Dc es k x (gR x j) (uG (lG l x j) (yx x.k (x.gs.getD j dR))) ((lG l x j).length+1)) ?_).trans ((AS.cO.l9 _ 3 903 ((lG l x j).length+1) (agg:=mY) (sz:=9) (f:=uG (lG l x j) (yx x.k (x.gs.getD j dR))) (bW (lG l x j++[yx x.k (x.gs.getD j dR)])) rfl rfl rfl (by kernel_rfl) fun j hj=>uZ hj).trans (.of_le (st':=Dc es k x (gR x j) (bW (lG l x (j+1))) (lG l x (j+1)).length) ?_)))) ?_
   ·refine AS.leZ [] [0] (b:=((T0∧T0∧T0∧T0∧T0∧T0∧T0∧T0∧True)∧((some [(.arr bY 9 (fun i=>bif i.blt (lG l x j).length then bW (lG l x j) i else aW true 9 [di 1,ds x.k.st,ds x.k.ex,di x.k.n,DV.con (Value.int IntKind.i64 (x.gs.getD (↑j:Int).toNat dR).t),DV.con (Value.int IntKind.i64 (x.gs.getD (↑j:Int).toNat dR).v),DV.con (Value.int IntKind.i64 (x.gs.getD (↑j:Int).toNat dR).h),DV.con (Value.string (x.gs.getD (↑j:Int).toNat dR).s),DV.con (Value.bool false)] (0+(i-(lG l x j).length))))]):dS)=(some [(.arr bY 9 (uG (lG l x j) (yx x.k (x.gs.getD j dR))))])∧T0∧True)) (by kernel_rfl) (by kernel_rfl) ?_
    exact⟨⟨rfl,rfl,rfl,rfl,rfl,rfl,rfl,rfl,trivial⟩,rfl,rfl,trivial⟩
   ·rw[e]
    refine AS.leZ [0] [] (b:=((((.vec 903 9 0 ((lG l x j).length+1)):AV)=(.vec 903 9 0 (lG l x j++[yx x.k (x.gs.getD j dR)]).length)∧T0∧T0∧T0∧T0∧T0∧T0∧T0∧True)∧T0∧T0∧True)) (by kernel_rfl) (by kernel_rfl) ?_
    exact⟨⟨congrArg (AV.vec 903 9 0) (by rw[List.length_append];rfl),rfl,rfl,rfl,rfl,rfl,rfl,rfl,trivial⟩,rfl,rfl,trivial⟩
   refine dZ (aj:=pO (fun i=>(bn es).getD i ev0)) ?_
   refine aV (fun ZT _ _ _ ZA _=>((I64 (↑j+1))∧(ZA (aB ZT [])))) (by kernel_rfl) ?_
   refine⟨⟨by omega,by omega⟩,Again.mk (j+1) ?_ hj2 (by omega)⟩
   exact AS.bD (by kernel_rfl)
  obtain rfl:j=x.gs.length:=by have:j≤x.gs.length:=hj;omega
  rw[VE]
  refine gK (aj:=pO (fun i=>(bn es).getD i ev0)) (cuts:=[8,11]) ?_
  refine aV (fun ZT ZW ZQ _ _ ZR=>((((decide ((↑x.gs.length:Int)<↑x.gs.length))=true)→ZW [cd Tryz.f53 [1,1,0,1,0,0,1,1,0,0,1,1,0,1,0,0,1,1,0,0],(.blk 3),cd Tryz.f53 [1,1,0,1,0,0,1,1,0,0,1,1,0,1,0,0,1,1,1]] (aB ZT [0]) ZR)∧(((decide ((↑x.gs.length:Int)<↑x.gs.length))=false)→ZW [cd Tryz.f53 [1,1,0,1,0,0,1,1,0,0,1,1,1],(.blk 1),cd Tryz.f53 [1,1,0,1,0,0,1,1,1]] (aB ZT [1]) ZQ))) (by kernel_rfl) ?_
  refine⟨fun hd=>absurd (dn hd) (by omega),fun _=>?_⟩
  refine dZ (aj:=pO (fun i=>(bn es).getD i ev0)) ?_
  refine aV (fun ZT ZW _ _ _ ZR=>ZW [cd Tryz.f53 [1,1,0,1,0,0,1,1,0,0,1,1,1,1,0],(.blk 4),(.blk 1),cd Tryz.f53 [1,1,0,1,0,0,1,1,1]] (aB ZT []) ZR) (by kernel_rfl) ?_
  refine aX.loop (c:=aU (au Tryz.f53) [1,1,0,1,0,0,1,1,0,0,1,1,1,1,0,0]) (by kernel_rfl) (fun j:Nat=>Dc es k x (aR x j) (bW (lA l x j)) (lA l x j).length) (fun j=>j≤x.ah.length) (fun j=>x.ah.length-j) 0 ?_ (Nat.zero_le _) ?_
  ·exact AS.bD (by kernel_rfl)
  clear hj hgl
  intro j hj
  show aX _ _ _ (Dc es k x (aR x j) (bW (lA l x j)) (lA l x j).length) _
  by_cases hj2:j<x.ah.length
  ·have hg1:=hal j hj
   have hg2:=hal (j+1) hj2
   have e:=QE (l:=l) hj2
   refine gK (aj:=pO (fun i=>(bn es).getD i ev0)) (cuts:=[15,19]) ?_
   refine aV (fun ZT ZW ZQ _ _ ZR=>((((decide ((↑j:Int)<↑x.ah.length))=true)→(((0≤(↑j:Int))∧((↑j:Int)<↑x.ah.length))∧((((lA l x j).length+1)*96≤1099511627776)∧((lA l x j).length+1≤1099511627776))∧ZW [cd Tryz.f53 [1,1,0,1,0,0,1,1,0,0,1,1,1,1,0,0,1,1,0,0,1,1],(.blk 5),cd Tryz.f53 [1,1,0,1,0,0,1,1,0,0,1,1,1,1,0,0,1,1,1]] (aB ZT [0]) ZR))∧(((decide ((↑j:Int)<↑x.ah.length))=false)→ZW [(.blk 1),cd Tryz.f53 [1,1,0,1,0,0,1,1,1]] (aB ZT [1]) ZQ))) (by kernel_rfl) ?_
   refine⟨fun _=>⟨⟨by omega,by omega⟩,⟨by omega,by omega⟩,?_⟩,fun hd=>absurd (of_decide_eq_false hd) (by omega)⟩
   generalize ha:x.ah.getD j bZ=a at e
   have e:lA l x (j+1)=(lA l x j++[lY x.k a])++if a.dec=true then [y8 x.k a] else []:=by
    rw[e,List.append_assoc];rfl
   refine aX.pre ((AS.cO.moves [(65,903)] _ rfl).trans ((AS.cO.of_le (st':=aaU es k x j a (uG (lA l x j) (lY x.k a)) ((lA l x j).length+1)) ?_).trans ((AS.cO.l9 _ 3 903 ((lA l x j).length+1) (agg:=mY) (sz:=9) (f:=uG (lA l x j) (lY x.k a)) (bW (lA l x j++[lY x.k a])) rfl rfl rfl (by kernel_rfl) fun j hj=>uZ hj).trans (.of_le (st':=aaU es k x j a (bW (lA l x j++[lY x.k a])) (lA l x j++[lY x.k a]).length) ?_)))) ?_
   ·rw[←ha]
    refine AS.leZ [] [0,2] (b:=((T0∧T0∧T0∧T0∧T0∧T0∧T0∧T0∧T0∧True)∧((some [(.arr bY 9 (fun i=>bif i.blt (lA l x j).length then bW (lA l x j) i else aW true 9 [di 2,ds x.k.st,ds x.k.ex,di x.k.n,DV.con (Value.int IntKind.i64 (x.ah.getD (↑j:Int).toNat bZ).t),di 0,di 0,DV.con (Value.string (x.ah.getD (↑j:Int).toNat bZ).s),DV.con (Value.bool false)] (0+(i-(lA l x j).length))))]):dS)=(some [(.arr bY 9 (uG (lA l x j) (lY x.k (x.ah.getD j bZ))))])∧T0∧((some [(vi (x.ah.getD (↑j:Int).toNat bZ).t),(vs (x.ah.getD (↑j:Int).toNat bZ).s),(vb (x.ah.getD (↑j:Int).toNat bZ).dec),(vb (x.ah.getD (↑j:Int).toNat bZ).acc),(vi (x.ah.getD (↑j:Int).toNat bZ).at_),(vs (x.ah.getD (↑j:Int).toNat bZ).ans)]):dS)=(some [(vi (x.ah.getD j bZ).t),(vs (x.ah.getD j bZ).s),(vb (x.ah.getD j bZ).dec),(vb (x.ah.getD j bZ).acc),(vi (x.ah.getD j bZ).at_),(vs (x.ah.getD j bZ).ans)])∧True)) (by kernel_rfl) (by kernel_rfl) ?_
    exact⟨⟨rfl,rfl,rfl,rfl,rfl,rfl,rfl,rfl,rfl,trivial⟩,rfl,rfl,rfl,trivial⟩
   ·refine AS.leZ [0] [] (b:=((((.vec 903 9 0 ((lA l x j).length+1)):AV)=(.vec 903 9 0 (lA l x j++[lY x.k a]).length)∧T0∧T0∧T0∧T0∧T0∧T0∧T0∧T0∧True)∧T0∧T0∧T0∧True)) (by kernel_rfl) (by kernel_rfl) ?_
    exact⟨⟨congrArg (AV.vec 903 9 0) (by rw[List.length_append];rfl),rfl,rfl,rfl,rfl,rfl,rfl,rfl,rfl,trivial⟩,rfl,rfl,rfl,trivial⟩
   refine gK (aj:=pO (fun i=>(bn es).getD i ev0)) (cuts:=[17]) ?_
   refine aV (fun ZT ZW _ _ _ ZR=>(((a.dec=true)→(((((lA l x j++[lY x.k a]).length+1)*96≤1099511627776)∧((lA l x j++[lY x.k a]).length+1≤1099511627776))∧ZW [cd Tryz.f53 [1,1,0,1,0,0,1,1,0,0,1,1,1,1,0,0,1,1,1]] (aB ZT [0]) ZR))∧((a.dec=false)→ZW [cd Tryz.f53 [1,1,0,1,0,0,1,1,0,0,1,1,1,1,0,0,1,1,1]] (aB ZT [1]) ZR))) (by kernel_rfl) ?_
   have hnext:aX Tryz.prog G [cd Tryz.f53 [1,1,0,1,0,0,1,1,0,0,1,1,1,1,0,0,1,1,1]] (Dc es k x (aR x j) (bW (lA l x (j+1))) (lA l x (j+1)).length) (yg Tryz.prog G [.blk 4,.blk 1,cd Tryz.f53 [1,1,0,1,0,0,1,1,1]] (yg Tryz.prog G [.blk 0,cd Tryz.f53 [1,1,1]] (JK Tryz.prog Tryz.f53 (sS (bn es))) (fun k=>V9 es k (bW (lE es k)) (lE es k).length) (fun k=>k≤es.length) (fun k=>es.length-k) k) (fun j=>Dc es k x (aR x j) (bW (lA l x j)) (lA l x j).length) (fun j=>j≤x.ah.length) (fun j=>x.ah.length-j) j):=by
    refine dZ (aj:=pO (fun i=>(bn es).getD i ev0)) ?_
    refine aV (fun ZT _ _ _ ZA _=>((I64 (↑j+1))∧(ZA (aB ZT [])))) (by kernel_rfl) ?_
    refine⟨⟨by omega,by omega⟩,Again.mk (j+1) ?_ hj2 (by omega)⟩
    exact AS.bD (by kernel_rfl)
   have hq:(lA l x j++[lY x.k a]).length≤1000001:=by rw[List.length_append];show _+1≤_;omega
   refine⟨fun hd=>⟨⟨by omega,by omega⟩,?_⟩,fun hd=>?_⟩
   ·rw[if_pos hd] at e
    rw[e] at hnext
    refine aX.pre ((AS.cO.moves [(79,903)] _ rfl).trans ((AS.cO.of_le (st':=Dc es k x (aR x j) (uG (lA l x j++[lY x.k a]) (y8 x.k a)) ((lA l x j++[lY x.k a]).length+1)) ?_).trans ((AS.cO.l9 _ 3 903 ((lA l x j++[lY x.k a]).length+1) (agg:=mY) (sz:=9) (f:=uG (lA l x j++[lY x.k a]) (y8 x.k a)) (bW (lA l x j++[lY x.k a]++[y8 x.k a])) rfl rfl rfl (by kernel_rfl) fun j hj=>uZ hj).trans (.of_le (st':=Dc es k x (aR x j) (bW (lA l x j++[lY x.k a]++[y8 x.k a])) (lA l x j++[lY x.k a]++[y8 x.k a]).length) ?_)))) hnext
    ·refine AS.leZ [] [0] (b:=((T0∧T0∧T0∧T0∧T0∧T0∧T0∧T0∧True)∧((some [(.arr bY 9 (fun i=>bif i.blt (lA l x j++[lY x.k a]).length then bW (lA l x j++[lY x.k a]) i else aW true 9 [di 3,ds x.k.st,ds x.k.ex,di x.k.n,di a.at_,di 0,di 0,ds a.ans,DV.con (Value.bool a.acc)] (0+(i-(lA l x j++[lY x.k a]).length))))]):dS)=(some [(.arr bY 9 (uG (lA l x j++[lY x.k a]) (y8 x.k a)))])∧T0∧True)) (by kernel_rfl) (by kernel_rfl) ?_
     exact⟨⟨rfl,rfl,rfl,rfl,rfl,rfl,rfl,rfl,trivial⟩,rfl,rfl,trivial⟩
    ·refine AS.leZ [0] [] (b:=((((.vec 903 9 0 ((lA l x j++[lY x.k a]).length+1)):AV)=(.vec 903 9 0 (lA l x j++[lY x.k a]++[y8 x.k a]).length)∧T0∧T0∧T0∧T0∧T0∧T0∧T0∧True)∧T0∧T0∧True)) (by kernel_rfl) (by kernel_rfl) ?_
     exact⟨⟨congrArg (AV.vec 903 9 0) (iE _ _).symm,rfl,rfl,rfl,rfl,rfl,rfl,rfl,trivial⟩,rfl,rfl,trivial⟩
   ·rw[if_neg (by rw[hd];decide),List.append_nil] at e
    rw[e] at hnext
    refine aX.weaken ?_ hnext
    exact AS.bD (by kernel_rfl)
  obtain rfl:j=x.ah.length:=by have:j≤x.ah.length:=hj;omega
  rw[←hag]
  refine gK (aj:=pO (fun i=>(bn es).getD i ev0)) (cuts:=[13]) ?_
  refine aV (fun ZT ZW ZQ _ _ ZR=>((((decide ((↑x.ah.length:Int)<↑x.ah.length))=true)→ZW [cd Tryz.f53 [1,1,0,1,0,0,1,1,0,0,1,1,1,1,0,0,1,1,0,0],(.blk 5),cd Tryz.f53 [1,1,0,1,0,0,1,1,0,0,1,1,1,1,0,0,1,1,1]] (aB ZT [0]) ZR)∧(((decide ((↑x.ah.length:Int)<↑x.ah.length))=false)→ZW [(.blk 1),cd Tryz.f53 [1,1,0,1,0,0,1,1,1]] (aB ZT [1]) ZQ))) (by kernel_rfl) ?_
  refine⟨fun hd=>absurd (dn hd) (by omega),fun _=>?_⟩
  refine dZ (aj:=pO (fun i=>(bn es).getD i ev0)) ?_
  refine aV (fun ZT _ _ _ ZA _=>((I64 (↑k+1))∧(ZA (aB ZT [])))) (by kernel_rfl) ?_
  have hk3:=hs.1
  refine⟨⟨by omega,by omega⟩,Again.mk (k+1) ?_ hk2 (by omega)⟩
  exact AS.bD (by kernel_rfl)
 ·obtain rfl:k=es.length:=by have:k≤es.length:=hk;omega
  have hle:lE es es.length=bn es:=by unfold lE;rw[List.take_length]
  rw[hle]
  refine gK (aj:=pO (fun i=>(bn es).getD i ev0)) (cuts:=[4]) ?_
  refine aV (fun ZT ZW ZQ _ _ ZR=>((((decide ((↑es.length:Int)<↑es.length))=true)→ZW [cd Tryz.f53 [1,1,0,1,0,0,1,1,0,0],(.blk 1),cd Tryz.f53 [1,1,0,1,0,0,1,1,1]] (aB ZT [0]) ZR)∧(((decide ((↑es.length:Int)<↑es.length))=false)→ZW [cd Tryz.f53 [1,1,1]] (aB ZT [1]) ZQ))) (by kernel_rfl) ?_
  refine⟨fun hd=>absurd (dn hd) (by omega),fun _=>?_⟩
  refine dZ (aj:=pO (fun i=>(bn es).getD i ev0)) ?_
  refine aC (fun _ _ _ _=>(dD Tryz.prog G 84 [(.vec 1000000 9 0 (bn es).length),(.d (.con (.func (.func 85) ⟨[]⟩ ⟨[]⟩)))] [(1000000,[(.arr bY 9 (bW (bn es)))])] (.d (.aN [])) [(1000000,[(.arr bY 9 (dO (fun i=>(bn es).getD i ev0) (iQ (fun i=>((bn es).getD i ev0).t) (bn es).length)))])]∧(ZS ((sS (bn es)):DV)))) (by kernel_rfl) ?_
  exact⟨f84 (fun i=>(bn es).getD i ev0) _ (by omega),rfl⟩
theorem aA.imp {f:FuncId} {xs:List DV} {r r':DV} (h:aA Tryz.prog G f xs r) (hr:∀(k:IH) (v:Value),r.rel k v→r'.rel k v):aA Tryz.prog G f xs r':=
 ⟨h.1,fun w k us hG hw ha=>(h.2 w k us hG hw ha).mono fun e w' ⟨v,k',e1,h2,h3⟩=>⟨v,k',e1,hr k' v h2,h3⟩⟩
theorem qF (l:List Ev):(gY l).length=l.length:=by
 rw[←NR l (κ:=fun i=>(l.getD i ev0).t) (fun _=>rfl)];simp
theorem ZY {l:List Ev} {k:IH} {v:Value} (h:(sS l).rel k v):(eu (gY l)).rel k v:=by
 show DV.rel k (.slc 9 (gY l).length (bW (gY l))) v
 rw[qF]
 refine DV.fE (fun i hi=>?_) h
 unfold dO bW
 rw[Nat.zero_add]
 refine congrArg (fun e=>ig e) ?_
 conv=>rhs;rw[←NR l (κ:=fun i=>(l.getD i ev0).t) (fun _=>rfl)]
 simp[List.getD,hi]
theorem f53 (b:Bk) (hs:gq b.es) (hl:(bn b.es).length≤1000000):aA Tryz.prog G 53 [cu b] (eu (ak b)):=
 aA.imp (adY b.es b.t hs hl) fun _ _ h=>ZY h
def wI (l:List Ev) (e:Ev):Int:=match l.findIdx? fun x=>decide (x=e) with|some i=>(i:Int)|none=>-1
theorem YX {l:List Ev} {e:Ev} {j:Nat} (hj:j<l.length) (hn:∀i,i<j→l.getD i ev0≠e) (h:l.getD j ev0=e):wI l e=j:=by
 unfold wI
 rw[(List.findIdx?_eq_some_iff_getElem (i:=j)).2 ⟨hj,?_,fun i hi=>?_⟩]
 ·have:=h
  rw[List.getD,gy hj] at this
  simpa using this
 ·have:=hn i hi
  rw[List.getD,gy (by omega)] at this
  simpa using this
theorem U4 {l:List Ev} {e:Ev} (hn:∀i,i<l.length→l.getD i ev0≠e):wI l e = -1:=by
 unfold wI
 rw[List.findIdx?_eq_none_iff.2]
 intro x hx
 obtain ⟨i,hi,rfl⟩:=List.getElem_of_mem hx
 have:=hn i hi
 rw[List.getD,gy hi] at this
 simpa using this
theorem Y6 (l:List Ev) (e:Ev):decide (wI l e≥0)=decide (e∈l):=by
 rw[decide_eq_decide]
 unfold wI
 cases h:l.findIdx? fun x=>decide (x=e) with
 | none=>
  have:=List.findIdx?_eq_none_iff.1 h
  simp only[decide_eq_false_iff_not] at this
  exact⟨fun h=>absurd h (by decide),fun h=>absurd rfl (this e h)⟩
 | some i=>
  obtain ⟨h1,h2,_⟩:=List.findIdx?_eq_some_iff_getElem.1 h
  rw[eF] at h2
  exact⟨fun _=>h2▸List.getElem_mem h1,fun _=>Int.natCast_nonneg _⟩
def acM:iR:=fun f a=>match f,a with
 | 104,[l,e]=>some (di (wI (xL jD l) (jD e)))
 | 83,[l,e]=>some (db (decide (jD e∈xL jD l)))
 | 22,[b,k]=>some (di (dQ (jJ b).es (Ej k)))
 | 53,[b]=>some (eu (ak (jJ b)))
 | 49,[b,e]=>some (db (hasB (jJ b).es (jD e)))
 | _,_=>none
noncomputable def aek (l:List Ev) (e:Ev) (k:Nat):AS:=⟨regs Tryz.f104.ntmps [(0,.d (eu l)),(3,.box 3 0),(7,vi l.length),(8,vi k)],[(3,(kE e).map .d)]⟩
theorem f104 (l:List Ev) (e:Ev) (hl:l.length≤1000000):aA Tryz.prog G 104 [eu l,ig e] (di (wI l e)):=by
 refine aA.walk (aj:=bG) (keep:=[]) follows Tryz.func104 rfl Tryz.call104 ?_
 refine aC (fun ZT ZW ZQ _=>ZW [cd Tryz.f104 [1,0,1,0],(.blk 0),cd Tryz.f104 [1,1]] (aB ZT []) ZQ) (by kernel_rfl) ?_
 refine aX.loop (c:=aU (au Tryz.f104) [1,0,1,0,0]) (by kernel_rfl) (aek l e) (fun j=>j≤l.length∧∀i,i<j→l.getD i ev0≠e) (fun j=>l.length-j) 0 ?_ ⟨Nat.zero_le _,fun i hi=>absurd hi (Nat.not_lt_zero _)⟩ ?_
 ·exact AS.bD (by kernel_rfl)
 ·rintro k ⟨hk,hn⟩
  refine dh (aj:=bG) ?_
  refine aV (fun ZT ZW ZQ _ ZA _=>(fun Za=>((((decide ((↑k:Int)<↑l.length))=true)→(((0≤(↑k:Int))∧((↑k:Int)<↑l.length))∧((Za=true)→(((di (↑k)):DV)=(di (wI l e))))∧((Za=false)→((I64 (↑k+1))∧(ZA (aB ZT [0,1]))))))∧(((decide ((↑k:Int)<↑l.length))=false)→ZW [cd Tryz.f104 [1,1]] (aB ZT [1]) ZQ))) (Bool.rec false (e.k.st.toList==(l.getD (↑k:Int).toNat ev0).k.st.toList&&(e.k.ex.toList==(l.getD (↑k:Int).toNat ev0).k.ex.toList&&e.k.n==(l.getD (↑k:Int).toNat ev0).k.n)&&(e.t==(l.getD (↑k:Int).toNat ev0).t&&(e.v==(l.getD (↑k:Int).toNat ev0).v&&(e.h==(l.getD (↑k:Int).toNat ev0).h&&(e.s.toList==(l.getD (↑k:Int).toNat ev0).s.toList&&e.acc==(l.getD (↑k:Int).toNat ev0).acc))))) (e.kind==(l.getD (↑k:Int).toNat ev0).kind))) (by kernel_rfl) ?_
  try dsimp only
  simp only[gW,oq,PX]
  refine⟨fun h=>?_,fun h=>?_⟩
  ·have hk2:k<l.length:=by have:=dn h;omega
   refine⟨⟨by omega,by omega⟩,fun h2=>?_,fun h2=>⟨⟨by omega,by omega⟩,Again.mk (k+1) ?_ ⟨hk2,fun i hi=>?_⟩ (by omega)⟩⟩
   ·rw[YX hk2 hn (dn h2).symm]
   ·exact AS.bD (by kernel_rfl)
   ·rcases Nat.lt_or_ge i k with h4|h4
    ·exact hn i h4
    ·obtain rfl:i=k:=by omega
     exact fun c=>of_decide_eq_false h2 c.symm
  ·refine dh (aj:=bG) ?_
   refine aC (fun _ _ _ _=>(((di (-1)):DV)=(di (wI l e)))) (by kernel_rfl) ?_
   have hj2:k=l.length:=by have:=of_decide_eq_false h;omega
   subst hj2
   rw[U4 hn]
theorem f83 (l:List Ev) (e:Ev) (hl:l.length≤1000000):aA Tryz.prog G 83 [eu l,ig e] (db (decide (e∈l))):=by
 refine aA.walk (aj:=acM) (keep:=[]) follows Tryz.func83 rfl Tryz.call83 ?_
 refine aC (fun _ _ _ ZK=>(fun Za=>(ZK 104 [(.slc 9 l.length (bW l)),(.agg [(di e.kind),(ds e.k.st),(ds e.k.ex),(di e.k.n),(di e.t),(di e.v),(di e.h),(ds e.s),(db e.acc)])] (di (wI (xL jD (DV.slc 9 l.length (bW l))) Za))∧((db (decide (wI (xL jD (DV.slc 9 l.length (bW l))) Za≥0))):DV)=(db (decide (e∈l))))) (jD (DV.agg [di e.kind,ds e.k.st,ds e.k.ex,di e.k.n,di e.t,di e.v,di e.h,ds e.s,DV.con (Value.bool e.acc)]))) (by kernel_rfl) ?_
 try dsimp only
 simp only[Rw,aau]
 exact⟨f104 l e hl,congrArg db (Y6 l e)⟩
def Yf (i:Int) (l:List Ev) (c:Bool):iR:=fun f _=>match f with
 | 22=>some (di i)
 | 53=>some (eu l)
 | 83=>some (db c)
 | _=>none
theorem YQ (x:En):ak ⟨0,[x]⟩=gY (fD x):=by
 unfold ak bn
 rw[List.map_cons,List.map_nil,List.flatten_cons,List.flatten_nil,List.append_nil]
theorem ZE {es:List En} {i n:Nat} (hi:i<es.length) (h:(bn es).length≤n):(fD (es.getD i en0)).length≤n:=by
 obtain ⟨e1,_⟩:=Hu hi (es.getD i en0)
 rw[e1,mJ,yV,List.length_append,List.length_append] at h
 omega
theorem f49 (b:Bk) (e:Ev) (hs:gq b.es) (hl:(bn b.es).length≤1000000):aA Tryz.prog G 49 [cu b,ig e] (db (hasB b.es e)):=by
 have hF:=f22 (G:=G) b e.k hs.1
 unfold dQ at hF
 unfold hasB
 cases hf:dB b.es e.k with
 | none=>
  rw[hf] at hF
  refine aA.walk (aj:=Yf (-1) [] false) (keep:=[]) follows Tryz.func49 rfl Tryz.call49 ?_
  refine aC (fun _ _ _ ZK=>(fun Za=>(ZK 22 [(.agg [(di b.t),(.slc 7 b.es.length (bK b.es))]),(.agg [(ds e.k.st),(ds e.k.ex),(di e.k.n)])] (di (-1))∧((true=true)→Za)∧((true=false)→(((I64 (-1+1))∧((0≤-1)∧(-1≤-1+1)∧(-1+1≤(↑b.es.length:Int)))∧ZK 53 [(.agg [(di 0),(.slc 7 1 (fun i=>bK b.es ((-1).toNat+i)))])] (.slc 9 0 (bW []))∧ZK 83 [(.slc 9 0 (bW [])),(.agg [(di e.kind),(ds e.k.st),(ds e.k.ex),(di e.k.n),(di e.t),(di e.v),(di e.h),(ds e.s),(db e.acc)])] (db false))∧Za)))) (ZS ((db (match none with|some i=>decide (e∈fD (b.es.getD i en0))|none=>false)):DV))) (by kernel_rfl) ?_
  exact⟨hF,fun _=>rfl,fun c=>(by cases c)⟩
 | some i=>
  rw[hf] at hF
  obtain ⟨hi,_⟩:=iW hf
  have hel:=ZE hi hl
  have hsz:=hs.2 i hi
  have h0:=hs.1
  generalize hx:b.es.getD i en0=x at hel hsz
  have hE:=f53 (G:=G) ⟨0,[x]⟩ ⟨by show 1≤_;omega,fun j hj=>by
   have:j=0:=by have:j<1:=hj;omega
   subst this;exact hsz⟩ (by rw[show bn [x]=fD x by simp[bn]];exact hel)
  rw[YQ] at hE
  have hC:=f83 (G:=G) (gY (fD x)) e (by rw[qF];exact hel)
  rw[show decide (e∈gY (fD x))=decide (e∈fD x) by rw[decide_eq_decide];exact ng _] at hC
  refine aA.walk (aj:=Yf (i:Int) (gY (fD x)) (decide (e∈fD x))) (keep:=[]) follows Tryz.func49 rfl Tryz.call49 ?_
  refine aC (fun _ _ _ ZK=>(fun Za=>(ZK 22 [(.agg [(di b.t),(.slc 7 b.es.length (bK b.es))]),(.agg [(ds e.k.st),(ds e.k.ex),(di e.k.n)])] (di (↑i))∧(((decide ((↑i:Int)<0))=true)→(((db false):DV)=Za))∧(((decide ((↑i:Int)<0))=false)→(((I64 (↑i+1))∧((0≤(↑i:Int))∧((↑i:Int)≤↑i+1)∧((↑i:Int)+1≤↑b.es.length))∧ZK 53 [(.agg [(di 0),(.slc 7 ((↑i:Int)+1 - ↑i).toNat (fun oV=>bK b.es ((↑i:Int).toNat+oV)))])] (.slc 9 (gY (fD x)).length (bW (gY (fD x))))∧ZK 83 [(.slc 9 (gY (fD x)).length (bW (gY (fD x)))),(.agg [(di e.kind),(ds e.k.st),(ds e.k.ex),(di e.k.n),(di e.t),(di e.v),(di e.h),(ds e.s),(db e.acc)])] (db (decide (e∈fD x))))∧((db (decide (e∈fD x))):DV)=Za)))) (db (match some i with|some i=>decide (e∈fD (b.es.getD i en0))|none=>false))) (by kernel_rfl) ?_
  try dsimp only
  rw[show ((i:Int)+1-(i:Int)).toNat=1 by omega]
  refine⟨hF,fun c=>absurd (dn c) (by omega),fun _=>⟨⟨⟨by omega,by omega⟩,⟨by omega,by omega,by omega⟩,?_,hC⟩,?_⟩⟩
  ·refine aA.args hE fun k us h=>?_
   obtain ⟨v,us',rfl,⟨vs,rfl,a,vs1,rfl,ha,c,vs2,rfl,hc,h0'⟩,h1⟩:=h
   refine⟨_,us',rfl,⟨_,rfl,a,_,rfl,ha,c,_,rfl,?_,h0'⟩,h1⟩
   refine DV.fE (n:=1) (fun j hj=>?_) hc
   obtain rfl:j=0:=by omega
   show zi (b.es.getD i en0)=_
   rw[hx];rfl
  ·show db (decide (e∈fD x))=db (decide (e∈fD (b.es.getD i en0)))
   rw[hx]
end Go.Proofs
namespace Go.Proofs
variable {ok:Ev→Bool}
def zC (x:En) (e:Ev):Int:=
 if e.kind=1∧wL x e.v=true∨e.kind=2∧(x.gs.length=0∨bV x=true)∨e.kind=3∧¬bV x=true then 9
 else if e.kind=1∧x.gs.length=16∨e.kind=2∧x.ah.length=16 then 8 else 0
def jm (b:Bk) (e:Ev):Int:=
 if e.t<b.t then 2
 else if e.kind=0 then (if e.k.n≠(iC b.es e.k:Int)+1 then 9 else if b.es.length=256 then 8 else 0)
 else match dB b.es e.k with
  | none=>7
  | some i=>zC (b.es.getD i en0) e
def vI (x:En):Bool:=decide (x.gs.length≤16)&&decide (x.ah.length≤16)
def rH (es:List En):Prop:=∀i,i<es.length→vI (es.getD i en0)=true
theorem Ws {x:En} {e:Ev} (hk:e.kind=0∨e.kind=1∨e.kind=2∨e.kind=3) (h0:e.kind≠0) (hb:vI x=true):zC x e=ku x e:=by
 simp only[vI,Bool.and_eq_true,decide_eq_true_eq] at hb
 obtain ⟨b1,b2⟩:=hb
 unfold zC ku
 rcases hk with h|h|h|h
 ·exact absurd h h0
 ·simp only[h,true_and,show ¬((1:Int)=2) by decide,show ¬((1:Int)=3) by decide,false_and,or_false,if_true]
  split
  ·rfl
  ·by_cases c:x.gs.length=16
   ·rw[if_pos c,if_pos (by omega)]
   ·rw[if_neg c,if_neg (by omega)]
 ·simp only[h,true_and,show ¬((2:Int)=1) by decide,show ¬((2:Int)=3) by decide,false_and,or_false,false_or,if_true,if_false]
  split
  ·rfl
  ·by_cases c:x.ah.length=16
   ·rw[if_pos c,if_pos (by omega)]
   ·rw[if_neg c,if_neg (by omega)]
 ·simp only[h,true_and,show ¬((3:Int)=1) by decide,show ¬((3:Int)=2) by decide,false_and,or_false,false_or,if_false]
  by_cases c:bV x=true
  ·rw[if_neg (by simp[c]),if_pos c]
  ·rw[if_pos c,if_neg c]
theorem RJ {b:Bk} {e:Ev} (fe:lU e) (hl:b.es.length≤256) (hb:rH b.es) (hh:hasB b.es e=false):jm b e=dL b e:=by
 unfold jm dL
 rw[if_neg (c:=hasB b.es e=true) (by rw[hh];decide)]
 split
 ·rfl
 ·split
  ·split
   ·rfl
   ·by_cases c:b.es.length=256
    ·rw[if_pos c,if_pos (by omega)]
    ·rw[if_neg c,if_neg (by omega)]
  ·rename_i h0
   cases hf:dB b.es e.k with
   | none=>rfl
   | some i=>
    exact Ws fe.1 h0 (hb i (iW hf).1)
theorem Hg {b:Bk} {e:Ev} (hb:rH b.es) (h:dL b e=0):rH (dY b.es e):=by
 intro i hi
 by_cases h0:e.kind=0
 ·unfold dY at hi⊢
  rw[if_pos h0] at hi⊢
  by_cases c:i<b.es.length
  ·rw[Om c];exact hb i c
  ·have:i=b.es.length:=by simp at hi;omega
   subst this
   rw[List.getD,List.getElem?_append_right (Nat.le_refl _),Nat.sub_self]
   rfl
 ·obtain ⟨j,h1,h2,_⟩:=xI h h0
  obtain ⟨jl,_⟩:=iW h1
  rw[lX h0 h1] at hi⊢
  rw[List.length_set] at hi
  by_cases c:j=i
  ·subst c
   rw[zV jl]
   have hx:=hb j jl
   generalize b.es.getD j en0=x at h2 hx
   simp only[vI,Bool.and_eq_true,decide_eq_true_eq] at hx⊢
   unfold ku at h2
   unfold gX
   by_cases k1:e.kind=1
   ·rw[if_pos k1] at h2⊢
    refine⟨?_,hx.2⟩
    split at h2
    ·cases h2
    ·split at h2
     ·cases h2
     ·simp only[List.length_append,List.length_cons,List.length_nil];omega
   ·rw[if_neg k1] at h2⊢
    by_cases k2:e.kind=2
    ·rw[if_pos k2] at h2⊢
     refine⟨hx.1,?_⟩
     split at h2
     ·cases h2
     ·split at h2
      ·cases h2
      ·simp only[List.length_append,List.length_cons,List.length_nil];omega
    ·rw[if_neg k2]
     refine⟨hx.1,?_⟩
     rcases List.eq_nil_or_concat x.ah with q|⟨l,a,q⟩
     ·simp[q]
     ·rw[q] at hx⊢
      simp at hx⊢
      omega
  ·rw[getD_set_ne c];exact hb i hi
def Ud (ok:Ev→Bool):List Ev→Bk→Option Bk
 | [],b=>some b
 | e :: l,b=>if ok e=true∧e∉bn b.es∧jm b e=0 then Ud ok l (gQ b e) else none
theorem Rt (hok:∀y,ok y=true→lU y):∀(l:List Ev) (b:Bk),Good b→rH b.es→Ud ok l b=gB ok l b
 | [],_,_,_=>rfl
 | e :: l,b,g,hb=>by
  show (if ok e=true∧e∉bn b.es∧jm b e=0 then Ud ok l (gQ b e) else none)=if ok e=true∧dL b e=0 then gB ok l (gQ b e) else none
  by_cases h1:ok e=true
  ·have fe:=hok e h1
   by_cases h2:hasB b.es e=true
   ·have h3:e∈bn b.es:=(FT g e).1 h2
    have h4:dL b e=6:=by unfold dL;rw[if_pos h2]
    rw[if_neg (fun c=>c.2.1 h3),if_neg (fun c=>by rw[h4] at c;exact absurd c.2 (by decide))]
   ·have h2':hasB b.es e=false:=by simpa using h2
    have h3:e∉bn b.es:=fun c=>h2 ((FT g e).2 c)
    rw[RJ fe g.few hb h2']
    by_cases h4:dL b e=0
    ·rw[if_pos ⟨h1,h3,h4⟩,if_pos ⟨h1,h4⟩]
     exact Rt hok l _ (good_step g h4) (Hg hb h4)
    ·rw[if_neg (fun c=>h4 c.2.2),if_neg (fun c=>h4 c.2)]
  ·rw[if_neg (fun c=>h1 c.1),if_neg (fun c=>h1 c.1)]
theorem yB:∀{l:List Ev} {a b:Bk},rH a.es→gB ok l a=some b→rH b.es
 | [],_,_,g,h=>by cases h;exact g
 | e :: l,a,b,g,h=>by
  obtain ⟨⟨_,h2⟩,h3⟩:=jV.1 h
  exact yB (Hg g h2) h3
def Wn (ok:Ev→Bool) (b:Bk):Bool:=decide (b.es.length≤256)&&(b.es.all vI&&decide (Ud ok (ak b) fA=some b))
theorem YR (hok:∀y,ok y=true→lU y) (b:Bk):Wn ok b=aJ ok b:=by
 unfold Wn aJ
 rw[Rt hok _ _ Iw fun i h=>by cases h]
 by_cases h:gB ok (ak b) fA=some b
 ·have hb:=yB (fun i h=>by cases h) h
  have:b.es.all vI=true:=List.all_eq_true.2 fun x hx=>by
   obtain ⟨i,hi,rfl⟩:=List.mem_iff_getElem.1 hx
   have:=hb i hi
   rwa [List.getD,List.getElem?_eq_getElem hi] at this
  rw[this,Bool.true_and]
 ·rw[decide_eq_false h,Bool.and_false,Bool.and_false]
def tK (ok:Ev→Bool) (b:Bk) (e:Ev):Int:=if aJ ok b=true∧ok e=true then dL b e else 1
def wO (ok:Ev→Bool) (b:Bk) (e:Ev):Bk:=if tK ok b e=0 then gQ b e else fA
theorem Aw (hok:∀y,ok y=true→lU y) {b:Bk} {e:Ev} (h:tK ok b e=0):aJ ok b=true∧ok e=true∧dL b e=0∧aJ ok (gQ b e)=true:=by
 unfold tK at h
 by_cases c:aJ ok b=true∧ok e=true
 ·rw[if_pos c] at h
  exact⟨c.1,c.2,h,Xj hok c.1 c.2 h⟩
 ·rw[if_neg c] at h;cases h
end Go.Proofs
namespace Go.Proofs
open Go Go.Ab Go.RowKit
noncomputable def IH.add (h:IH) (S:Nat→Prop) (w:World):IH:=by classical exact⟨fun b o=>if S b then w.cell? ⟨b,o,none⟩ else h.cell b o,h.obj⟩
theorem IH.nC {h:IH} {S:Nat→Prop} {w:World} {b o:Nat} (hs:S b):(IH.add h S w).cell b o=w.cell? ⟨b,o,none⟩:=by unfold IH.add;exact if_pos hs
theorem IH.jT {h:IH} {S:Nat→Prop} {w:World} {b o:Nat} (hs:¬S b):(IH.add h S w).cell b o=h.cell b o:=by unfold IH.add;exact if_neg hs
theorem IH.xA {h:IH} {S:Nat→Prop} {w:World} {b:Nat}:(IH.add h S w).obj b=h.obj b:=rfl
theorem IH.rF {h:IH} {S:Nat→Prop} {w:World} (hu:∀b,S b→∀o,h.cell b o=none):h.le (IH.add h S w):=by
 refine⟨fun b o v e=>?_,fun b o e=>e⟩
 by_cases hs:S b
 ·rw[hu b hs] at e;cases e
 ·rw[IH.jT hs];exact e
theorem IH.add_holds {h:IH} {S:Nat→Prop} {w:World} (hw:h.holds w):(IH.add h S w).holds w:=by
 refine⟨fun b o v e=>?_,hw.2⟩
 by_cases hs:S b
 ·rw[IH.nC hs] at e;exact e
 ·rw[IH.jT hs] at e;exact hw.1 b o v e
structure cZ (h:IH) (K:RK) (sz n:Nat) (f:Nat→DV) (b c:Nat) (v:Value) (o:Option Obj):Prop where
 val:∃p,v=.slice p n c∧(p=some ⟨b,0,none⟩∨c=0)
 row:dw h K sz f c n o
theorem cZ.slc {h k:IH} (hk:h.le k) {K:RK} {sz n:Nat} {f:Nat→DV} {b c:Nat} {v:Value} {w:World} (hv:cZ h K sz n f b c v w.heap[b]?) (hc:0<c→∀o,k.cell b o=w.cell? ⟨b,o,none⟩):DV.rel k (.slc sz n f) v:=by
 obtain ⟨⟨p,rfl,hp⟩,⟨hm,_⟩,hr⟩:=hv
 refine⟨p,c,rfl,hm,?_⟩
 rcases hr with hr|⟨fr,vs,ho,_,hl,_,he⟩
 ·left;omega
 ·by_cases h0:c=0
  ·left;omega
  ·right
   refine⟨b,0,hp.resolve_right h0,fun i hi=>?_⟩
   obtain ⟨x,h1,_,h2,h3⟩:=he i hi
   refine⟨x,DV.rel.mono hk _ _ h1,h2,fun j hj=>?_⟩
   rw[hc (by omega),←h3 j hj,Nat.zero_add]
   simp[World.cell?,ho]
theorem cZ.mono {h k:IH} (hk:h.le k) {K:RK} {sz n:Nat} {f:Nat→DV} {b c:Nat} {v:Value} {o:Option Obj} (hv:cZ h K sz n f b c v o):cZ k K sz n f b c v o:=⟨hv.val,hv.row.mono hk⟩
theorem cZ.flat {h k:IH} {K:RK} {sz n:Nat} {f:Nat→DV} {b c:Nat} {v:Value} {o:Option Obj} (hv:cZ h K sz n f b c v o) (hf:∀i,i<n→(f i).flat=true):cZ k K sz n f b c v o:=⟨hv.val,hv.row.flat hf⟩
abbrev fO:RK:=⟨true,39,false,none⟩
abbrev jU:RK:=⟨true,42,false,none⟩
abbrev iZ:RK:=⟨true,44,false,none⟩
abbrev jv (x:En) (v u:Value):List DV:=[ds x.k.st,ds x.k.ex,di x.k.n,di x.t,ds x.s,.con v,.con u]
abbrev sv (V:Nat→Option Addr×Nat) (s n:Nat):Value:=.slice (V s).1 n (V s).2
def bJ (V:Nat→Option Addr×Nat) (es:List En) (i:Nat):DV:=.agg (jv (es.getD i en0) (sv V (2*i+2) (es.getD i en0).gs.length) (sv V (2*i+3) (es.getD i en0).ah.length))
theorem mg (V:Nat→Option Addr×Nat) (es:List En) (i:Nat):(bJ V es i).flat=true:=rfl
theorem lJ (l:List Gv) (i:Nat):(dP l i).flat=true:=rfl
theorem kR (l:List Al) (i:Nat):(dI l i).flat=true:=rfl
def jc (β:Nat→Nat) (s:Nat):Prop:=s=0∨0<room β s
structure bQ (G:IH) (β:Nat→Nat) (V:Nat→Option Addr×Nat) (b:Bk) (w:World):Prop where
 hold:G.holds w
 top:w.heap[blk β 0]?=some (.cells #[.int .i64 b.t,sv V 1 b.es.length] (room β 0) (0,0))
 ent:cZ G fO 7 b.es.length (bJ V b.es) (blk β 1) (room β 1) (sv V 1 b.es.length) w.heap[blk β 1]?
 gr:∀i,i<b.es.length→cZ G jU 4 (b.es.getD i en0).gs.length (dP (b.es.getD i en0).gs) (blk β (2*i+2)) (room β (2*i+2)) (sv V (2*i+2) (b.es.getD i en0).gs.length) w.heap[blk β (2*i+2)]?
 ap:∀i,i<b.es.length→cZ G iZ 6 (b.es.getD i en0).ah.length (dI (b.es.getD i en0).ah) (blk β (2*i+3)) (room β (2*i+3)) (sv V (2*i+3) (b.es.getD i en0).ah.length) w.heap[blk β (2*i+3)]?
 unk:∀s,s<2*b.es.length+2→jc β s→(∀o,G.cell (blk β s) o=none)∧G.obj (blk β s)=none
 inj:∀s t,s<2*b.es.length+2→t<2*b.es.length+2→jc β s→jc β t→blk β s=blk β t→s=t
def iF (β:Nat→Nat) (n:Nat) (k:Nat):Prop:=∃s,s<2*n+2∧jc β s∧blk β s=k
def jP (β:Nat→Nat) (n:Nat) (k:Nat):Prop:=∃s,2≤s∧s<2*n+2∧jc β s∧blk β s=k
section
variable {G:IH} {β:Nat→Nat} {V:Nat→Option Addr×Nat} {b:Bk} {w:World}
theorem bQ.mono {G':IH} (h:bQ G β V b w) (hw:G'.holds w) (hu:∀s,s<2*b.es.length+2→jc β s→(∀o,G'.cell (blk β s) o=none)∧G'.obj (blk β s)=none):bQ G' β V b w:=
 ⟨hw,h.top,h.ent.flat fun i _=>mg _ _ i,fun i hi=>(h.gr i hi).flat fun j _=>lJ _ j,fun i hi=>(h.ap i hi).flat fun j _=>kR _ j,hu,h.inj⟩
theorem bQ.Vz (h:bQ G β V b w) {k:IH} (hk:G.le k) (hc:∀c,jP β b.es.length c→∀o,k.cell c o=w.cell? ⟨c,o,none⟩) {i:Nat} (hi:i<b.es.length):DV.rel k (jZ (b.es.getD i en0).gs) (sv V (2*i+2) (b.es.getD i en0).gs.length):=
 (h.gr i hi).slc hk fun h0=>hc _ ⟨2*i+2,by omega,by omega,.inr h0,rfl⟩
theorem bQ.Kq (h:bQ G β V b w) {k:IH} (hk:G.le k) (hc:∀c,jP β b.es.length c→∀o,k.cell c o=w.cell? ⟨c,o,none⟩) {i:Nat} (hi:i<b.es.length):DV.rel k (iD (b.es.getD i en0).ah) (sv V (2*i+3) (b.es.getD i en0).ah.length):=
 (h.ap i hi).slc hk fun h0=>hc _ ⟨2*i+3,by omega,by omega,.inr h0,rfl⟩
theorem xP {k:IH} {x:En} {u v y:Value} (h1:DV.rel k (jZ x.gs) u) (h2:DV.rel k (iD x.ah) v) (h:DV.rel k (.agg (jv x u v)) y):DV.rel k (zi x) y:=by
 obtain ⟨vs,rfl,a1,v1,rfl,r1,a2,v2,rfl,r2,a3,v3,rfl,r3,a4,v4,rfl,r4,a5,v5,rfl,r5,a6,v6,rfl,r6,a7,v7,rfl,r7,h0⟩:=h
 have r6:a6=u:=r6
 have r7:a7=v:=r7
 subst r6 r7
 exact⟨_,rfl,a1,_,rfl,r1,a2,_,rfl,r2,a3,_,rfl,r3,a4,_,rfl,r4,a5,_,rfl,r5,a6,_,rfl,h1,a7,_,rfl,h2,h0⟩
theorem bQ.ex (h:bQ G β V b w) {k:IH} (hk:G.le k) (hc:∀c,jP β b.es.length c→∀o,k.cell c o=w.cell? ⟨c,o,none⟩) {i:Nat} (hi:i<b.es.length) {y:Value} (hy:DV.rel k (bJ V b.es i) y):DV.rel k (bK b.es i) y:=
 xP (h.Vz hk hc hi) (h.Kq hk hc hi) hy
theorem xB {k:IH} {sz n:Nat} {f g:Nat→DV} (hfg:∀i,i<n→∀y,DV.rel k (f i) y→DV.rel k (g i) y) {v:Value} (h:DV.rel k (.slc sz n f) v):DV.rel k (.slc sz n g) v:=by
 obtain ⟨p,c,rfl,hc,hr⟩:=h
 refine⟨p,c,rfl,hc,hr.imp id ?_⟩
 rintro ⟨b,off,hp,he⟩
 refine⟨b,off,hp,fun i hi=>?_⟩
 obtain ⟨x,h1,h2⟩:=he i hi
 exact⟨x,hfg i hi x h1,h2⟩
theorem bQ.data (h:bQ G β V b w):∃k,k=IH.add G (iF β b.es.length) w∧G.le k∧k.holds w∧DV.rel k (cu b) (.agg #[.int .i64 b.t,sv V 1 b.es.length])∧DV.rel k (.ptr (fQ b)) (.pointer (some ⟨blk β 0,0,none⟩)):=by
 have hle:G.le (IH.add G (iF β b.es.length) w):=IH.rF fun c ⟨s,h1,h2,h3⟩=>by rw[←h3];exact(h.unk s h1 h2).1
 have hc:∀c,jP β b.es.length c→∀o,(IH.add G (iF β b.es.length) w).cell c o=w.cell? ⟨c,o,none⟩:=fun c ⟨s,h0,h1,h2,h3⟩ o=>IH.nC ⟨s,h1,h2,h3⟩
 have hr:DV.rel (IH.add G (iF β b.es.length) w) (jI b.es) (sv V 1 b.es.length):=by
  refine xB (fun i hi y hy=>h.ex hle hc hi hy) (h.ent.slc hle fun h0 o=>IH.nC ⟨1,by omega,.inr h0,rfl⟩)
 refine⟨_,rfl,hle,IH.add_holds h.hold,⟨[.int .i64 b.t,sv V 1 b.es.length],rfl,_,_,rfl,rfl,_,_,rfl,hr,rfl⟩,blk β 0,0,rfl,[.int .i64 b.t,sv V 1 b.es.length],⟨_,_,rfl,rfl,_,_,rfl,hr,rfl⟩,fun i hi=>?_⟩
 rw[IH.nC ⟨0,by omega,.inl rfl,rfl⟩]
 simp[World.cell?,h.top]
end
end Go.Proofs
namespace Go.Proofs
open Go Go.Ab Go.RowKit
variable {G:IH} {β:Nat→Nat} {V:Nat→Option Addr×Nat} {b:Bk} {w:World}
def fB (β:Nat→Nat) (n:Nat):Nat→Nat:=upd (upd (fun _=>0) 1000000 (blk β 0) (room β 0) 0) 1000001 (blk β 1) (room β 1) n
theorem fB0 (n:Nat):blk (fB β n) 1000000=blk β 0∧room (fB β n) 1000000=room β 0:=by
 unfold fB
 rw[aZ (by decide),bI (by decide),aT,aH]
 exact⟨rfl,rfl⟩
theorem fB1 (n:Nat):blk (fB β n) 1000001=blk β 1∧room (fB β n) 1000001=room β 1∧many (fB β n) 1000001=n:=by
 unfold fB
 rw[aT,aH,bH]
 exact⟨rfl,rfl,rfl⟩
def X3 (β:Nat→Nat) (c:Nat):Prop:=c=blk β 0∨(0<room β 1∧c=blk β 1)
abbrev bB (b:Bk) (V:Nat→Option Addr×Nat):List (Nat×List AV):=[(1000000,[.d (di b.t),.vec 1000001 7 0 b.es.length]),(1000001,[.arr fO 7 (bJ V b.es)])]
theorem cZ.own {h:IH} {K:RK} {sz n:Nat} {f:Nat→DV} {c r:Nat} {v:Value} {o:Option Obj} (hv:cZ h K sz n f c r v o) {β:Nat→Nat} {s:Nat} (h1:blk β s=c) (h2:room β s=r) (h3:many β s=n):AV.rel β h (.vec s sz 0 n) v∧Own β h s [.arr K sz f] o:=by
 subst h1 h2
 obtain ⟨⟨p,rfl,hp⟩,hr⟩:=hv
 have hm:=hr.1.1
 refine⟨⟨by omega,by omega,p,by simp,hp.imp (fun e=>by rw[e];simp) fun e=>by omega⟩,?_⟩
 show dw h K sz f (room β s) (many β s) o
 rw[h3];exact hr
theorem bQ.gam (h:bQ G β V b w) {k:IH} (hk:k=IH.add G (jP β b.es.length) w) {rs:List AV} {us:Array Value} (hs:us.size=rs.length) (hr:∀(t:Nat) (x:AV),rs[t]?=some x→∃v,us[t]?=some v∧x.rel (fB β b.es.length) k v) :
  aO k ⟨X3 β,fB β b.es.length⟩ w k ⟨rs,bB b V⟩ (fB β b.es.length) k us w:=by
 have hn:∀c,jP β b.es.length c→∀o,G.cell c o=none:=fun c ⟨s,_,h1,h2,h3⟩=>by rw[←h3];exact(h.unk s h1 h2).1
 have hle:G.le k:=by rw[hk];exact IH.rF hn
 have hun:∀s,s<2→jc β s→(∀o,k.cell (blk β s) o=none)∧k.obj (blk β s)=none:=fun s hs2 hl=>by
  have h1:=h.unk s (by omega) hl
  refine⟨fun o=>?_,by rw[hk];exact h1.2⟩
  rw[hk,IH.jT]
  ·exact h1.1 o
  ·rintro ⟨t,q1,q2,q3,q4⟩
   have:=h.inj t s q2 (by omega) q3 hl q4
   omega
 obtain ⟨a1,a2⟩:=fB0 (β:=β) b.es.length
 obtain ⟨c1,c2,c3⟩:=fB1 (β:=β) b.es.length
 obtain ⟨v1,v2⟩:=(h.ent.mono hle).own c1 c2 c3
 have hlook:∀s l,Go.Ab.look (bB b V) s=some l→(s=1000000∧l=[.d (di b.t),.vec 1000001 7 0 b.es.length])∨(s=1000001∧l=[.arr fO 7 (bJ V b.es)]):=by
  intro s l hl
  simp only[bB,Go.Ab.look] at hl
  by_cases e1:(1000000:Nat)=s
  ·subst e1;simp at hl;exact .inl ⟨rfl,hl.symm⟩
  ·rw[aQ e1,cond_false] at hl
   by_cases e2:(1000001:Nat)=s
   ·subst e2;simp at hl;exact .inr ⟨rfl,hl.symm⟩
   ·rw[aQ e2,cond_false] at hl;cases hl
 refine⟨IH.le.refl _,by rw[hk];exact IH.add_holds h.hold,IH.le.refl _,fun _ _ _=>⟨fun _=>rfl,rfl⟩,Kept.refl _ _,fun _ _=>⟨rfl,rfl,rfl⟩,hs,hr,fun s l hl=>?_,fun s s' l l' hl hl' hv hv' he=>?_⟩
 ·rcases hlook s l hl with ⟨rfl,rfl⟩|⟨rfl,rfl⟩
  ·rw[a1]
   refine⟨fun _=>⟨.inl (.inl rfl),hun 0 (by omega) (.inl rfl)⟩,⟨room β 0,a2.symm⟩,[.int .i64 b.t,sv V 1 b.es.length],?_,?_⟩
   ·rw[h.top]
   ·exact⟨_,_,rfl,rfl,_,_,rfl,v1,rfl⟩
  ·rw[c1]
   refine⟨fun hv=>?_,v2⟩
   have hv:0<room β 1:=by rw[←c2];exact hv
   exact⟨.inl (.inr ⟨hv,rfl⟩),hun 1 (by omega) (.inr hv)⟩
 ·rcases hlook s l hl with ⟨rfl,rfl⟩|⟨rfl,rfl⟩<;>rcases hlook s' l' hl' with ⟨rfl,rfl⟩|⟨rfl,rfl⟩
  ·rfl
  ·rw[a1,c1] at he
   have hv':0<room β 1:=by rw[←c2];exact hv'
   have:=h.inj 0 1 (by omega) (by omega) (.inl rfl) (.inr hv') he
   omega
  ·rw[a1,c1] at he
   have hv:0<room β 1:=by rw[←c2];exact hv
   have:=h.inj 1 0 (by omega) (by omega) (.inr hv) (.inl rfl) he
   omega
  ·rfl
theorem Yl (v:Option Addr×Nat) (es:List En):bJ (fun s=>if s=1 then v else V s) es=bJ V es:=by
 funext i
 simp[bJ,sv]
theorem U0 (v:Option Addr×Nat) {s n:Nat} (h:s≠1):sv (fun s=>if s=1 then v else V s) s n=sv V s n:=by
 simp[sv,h]
theorem bQ.back (h:bQ G β V b w) {k hh:IH} {on:Nat→Prop} (hon:∀c,on c→X3 β c) {st:AS} {β':Nat→Nat} {tm:Array Value} {w':World} (g:aO k ⟨on,fB β b.es.length⟩ w k st β' hh tm w') (hG:G.holds w')
  (h0:st.box 1000000=some [.d (di b.t),.vec 1000001 7 0 b.es.length]) (h1:st.box 1000001=some [.arr fO 7 (bJ V b.es)]):∃v,bQ G β (fun s=>if s=1 then v else V s) b w':=by
 obtain ⟨a1,a2⟩:=fB0 (β:=β) b.es.length
 obtain ⟨c1,c2,c3⟩:=fB1 (β:=β) b.es.length
 obtain ⟨f1,f2,f3⟩:=g.fix 1000000 (by decide)
 obtain ⟨d1,d2,d3⟩:=g.fix 1000001 (by decide)
 obtain ⟨T,vs,ho,v0,vs1,rfl,r0,v1,vs2,rfl,r1,r2⟩:=(g.box _ _ h0).2
 have hO:=(g.box _ _ h1).2
 have r2:vs2=[]:=r2
 have r0:v0=.int .i64 b.t:=r0
 subst r2 r0
 have hT:T.1=room β 0:=T.2.trans (f2.trans a2)
 rw[f1,a1,hT] at ho
 have hroom:room β' 1000001=room β 1:=d2.trans c2
 have Yb:many β' 1000001=b.es.length:=d3.trans c3
 have hblk:blk β' 1000001=blk β 1:=d1.trans c1
 have hkeep:∀s,2≤s→s<2*b.es.length+2→0<room β s→(∃o,w.heap[blk β s]?=some o)→w'.heap[blk β s]?=w.heap[blk β s]?:=fun s q1 q2 q3 ⟨o,ho⟩=>by
  refine g.kept.block _ (lt_of_heap ho) fun hc=>?_
  rcases hon _ hc with hc|⟨q4,hc⟩
  ·have:=h.inj s 0 q2 (by omega) (.inr q3) (.inl rfl) hc;omega
  ·have:=h.inj s 1 q2 (by omega) (.inr q3) (.inr q4) hc;omega
 have aa2:∀{K:RK} {sz n:Nat} {f:Nat→DV} {s:Nat} {v:Value},2≤s→s<2*b.es.length+2→cZ G K sz n f (blk β s) (room β s) v w.heap[blk β s]?→cZ G K sz n f (blk β s) (room β s) v w'.heap[blk β s]?:=by
  intro K sz n f s v q1 q2 hv
  refine⟨hv.val,hv.row.1,?_⟩
  rcases hv.row.2 with q3|⟨fr,vs,ho,hr⟩
  ·exact .inl q3
  ·by_cases q4:room β s=0
   ·exact .inl q4
   ·exact .inr ⟨fr,vs,by rw[hkeep s q1 q2 (by omega) ⟨_,ho⟩];exact ho,hr⟩
 obtain ⟨_,_,p,hp,hq⟩:=r1
 rw[hroom,hblk] at hq
 rw[hroom,Nat.sub_zero] at hp
 subst hp
 refine⟨(p,room β 1),hG,?_,?_,fun i hi=>?_,fun i hi=>?_,h.unk,h.inj⟩
 ·exact ho
 ·refine⟨⟨p,rfl,hq.imp (fun e=>by simpa using e) fun e=>by omega⟩,?_⟩
  have hO:dw hh fO 7 (bJ V b.es) (room β' 1000001) (many β' 1000001) w'.heap[blk β' 1000001]?:=hO
  rw[hroom,Yb,hblk] at hO
  rw[Yl]
  exact hO.flat fun i _=>mg V b.es i
 ·rw[U0 _ (by omega)];exact aa2 (by omega) (by omega) (h.gr i hi)
 ·rw[U0 _ (by omega)];exact aa2 (by omega) (by omega) (h.ap i hi)
end Go.Proofs
namespace Go.Proofs
open Go Go.Ab Go.RowKit
variable {G:IH}
def oO (es:List En) (k:Ky) (j:Nat):Nat:=(((keyS es).take j).filter (wH k)).length
theorem UN {es:List En} {k:Ky} {j:Nat} (h:j<es.length):oO es k (j+1)=oO es k j+if wH k (es.getD j en0).k=true then 1 else 0:=by
 unfold oO
 have h':j<(keyS es).length:=by simpa [keyS] using h
 have e:(keyS es)[j]=(es.getD j en0).k:=by rw[List.getD,gy h];simp[keyS]
 rw[List.take_succ_eq_append_getElem h',e,List.filter_append,List.length_append]
 rw[List.filter_cons]
 by_cases c:wH k (es.getD j en0).k=true
 ·rw[if_pos c,if_pos c];rfl
 ·rw[if_neg c,if_neg c];rfl
theorem PS (es:List En) (k:Ky):oO es k es.length=iC es k:=by
 unfold oO iC
 rw[List.take_of_length_le (by simp[keyS])]
theorem J9 (es:List En) (k:Ky) (j:Nat):oO es k j≤j:=by
 unfold oO
 exact Nat.le_trans (List.length_filter_le _ _) (List.length_take_le _ _)
abbrev ED:Value:=.slice none 0 0
abbrev nO (e:Ev):En:=⟨e.k,e.t,e.s,[],[]⟩
abbrev MK (V:Nat→Option Addr×Nat) (es:List En) (e:Ev):Nat→DV:=fun i=>bif i.blt es.length then bJ V es i else aW true 7 (jv (nO e) ED ED) (0+(i-es.length))
noncomputable def UL (b:Bk) (V:Nat→Option Addr×Nat) (e:Ev) (j:Nat):AS:=⟨regs Tryz.f76.ntmps [(0,.box 1000000 0),(4,.box 4 0),(7,vi (oO b.es e.k j)),(14,.vec 1000001 7 0 b.es.length),(15,vi b.es.length),(16,vi j)],(4,(kE e).map .d) :: bB b V⟩
def wK (es:List En) (e:Ev):Int:=if e.k.n≠(iC es e.k:Int)+1 then 9 else if 256≤es.length then 8 else 0
noncomputable def Ja:dU:={ d:=bG,rows:=fun n=>Nat.beq n 67 }
theorem Y0 (k x:Ky):((ByteArray.toList x.st==ByteArray.toList k.st)&&(ByteArray.toList x.ex==ByteArray.toList k.ex))=wH k x:=by
 rw[dJ,dJ];rfl
theorem Qb (b:Bk) (V:Nat→Option Addr×Nat) (e:Ev) (hl:b.es.length≤1000000) {Q:Exit→AS→Prop} (h:aX Tryz.prog G [cd Tryz.f76 [1,1,1]] (UL b V e b.es.length) Q):aX Tryz.prog G [cd Tryz.f76 [1,1,0,1,0],.blk 0,cd Tryz.f76 [1,1,1]] (UL b V e 0) Q:=by
 refine aX.loop (c:=aU (au Tryz.f76) [1,1,0,1,0,0]) (by kernel_rfl) (UL b V e) (fun j=>j≤b.es.length) (fun j=>b.es.length-j) 0 ?_ (Nat.zero_le _) ?_
 ·exact AS.bD (by kernel_rfl)
 ·intro j hj
  refine dh (aj:=Ja) ?_
  refine aV (fun ZT ZW _ _ ZA _=>(fun Za=>((((decide ((↑j:Int)<↑b.es.length))=true)→(((0≤(↑j:Int))∧((↑j:Int)<↑b.es.length))∧((Za=true)→((I64 (↑(oO b.es e.k j)+1))∧(I64 (↑j+1))∧(ZA (aB ZT [0,0]))))∧((Za=false)→((I64 (↑j+1))∧(ZA (aB ZT [0,1]))))))∧(((decide ((↑j:Int)<↑b.es.length))=false)→ZW [cd Tryz.f76 [1,1,1]] (aB ZT [1]) Q))) ((b.es.getD (0+(↑j:Int).toNat) en0).k.st.toList==e.k.st.toList&&(b.es.getD (0+(↑j:Int).toNat) en0).k.ex.toList==e.k.ex.toList)) (by kernel_rfl) ?_
  try dsimp only
  simp only[gW,Nat.zero_add,Y0]
  have hc:=J9 b.es e.k j
  refine⟨fun hd=>?_,fun hd=>?_⟩
  ·have hj2:j<b.es.length:=by have:=dn hd;omega
   have e1:=UN (k:=e.k) hj2
   refine⟨⟨by omega,by omega⟩,fun h1=>⟨⟨by omega,by omega⟩,⟨by omega,by omega⟩,Again.mk (j+1) ?_ hj2 (by omega)⟩,fun h1=>⟨⟨by omega,by omega⟩,Again.mk (j+1) ?_ hj2 (by omega)⟩⟩
   ·rw[if_pos h1] at e1
    refine AS.leZ [2] [] (b:=((T0∧T0∧((vi (↑(oO b.es e.k j)+1)):AV)=(vi (↑(oO b.es e.k (j+1))))∧T0∧T0∧T0∧True)∧T0∧T0∧T0∧True)) (by kernel_rfl) (by kernel_rfl) ?_
    exact⟨⟨rfl,rfl,nD (by omega),rfl,rfl,rfl,trivial⟩,rfl,rfl,rfl,trivial⟩
   ·rw[if_neg (by rw[h1];decide),Nat.add_zero] at e1
    refine AS.leZ [2] [] (b:=((T0∧T0∧((vi (↑(oO b.es e.k j))):AV)=(vi (↑(oO b.es e.k (j+1))))∧T0∧T0∧T0∧True)∧T0∧T0∧T0∧True)) (by kernel_rfl) (by kernel_rfl) ?_
    exact⟨⟨rfl,rfl,nD (by omega),rfl,rfl,rfl,trivial⟩,rfl,rfl,rfl,trivial⟩
  ·have hj:j≤b.es.length:=hj
   obtain rfl:j=b.es.length:=by have:=of_decide_eq_false hd;omega
   refine aX.weaken ?_ h
   exact AS.bD (by kernel_rfl)
theorem aaL (b:Bk) (V:Nat→Option Addr×Nat) (e:Ev) (hl:b.es.length≤1000000) (h:wK b.es e≠0):dD Tryz.prog G 76 [.box 1000000 0,.d (ig e),.any] (bB b V) (.d (di (wK b.es e))) (bB b V):=by
 refine dD.dA (mv:=[]) (by kernel_rfl) Tryz.func76 rfl Tryz.call76 ?_
 refine dh (aj:=Ja) ?_
 refine aC (fun ZT ZW ZQ _=>ZW [cd Tryz.f76 [1,1,0,1,0],(.blk 0),cd Tryz.f76 [1,1,1]] (aB ZT []) ZQ) (by kernel_rfl) ?_
 refine aX.weaken (st':=UL b V e 0) ?_ (Qb b V e hl ?_)
 ·exact AS.bD (by kernel_rfl)
 have hc:=J9 b.es e.k b.es.length
 refine walk (aj:=Ja) (keep:=[]) (cuts:=[12]) (n:=1000) follows ?_
 refine aC (fun ZT ZW ZQ _=>(fun Za Zb=>((I64 (↑(oO b.es e.k b.es.length)+1))∧(((e.k.n != ↑(oO b.es e.k b.es.length)+1)=true)→(((vi 9):AV)=(vi (wK b.es e))∧(Zb:dS)=Zb∧(Za:dS)=Za∧True))∧(((e.k.n != ↑(oO b.es e.k b.es.length)+1)=false)→((((decide ((↑b.es.length:Int)≥256))=true)→(((vi 8):AV)=(vi (wK b.es e))∧(Zb:dS)=Zb∧(Za:dS)=Za∧True))∧(((decide ((↑b.es.length:Int)≥256))=false)→ZW [cd Tryz.f76 [1,1,1,1]] (aB ZT [1,1]) ZQ))))) (some [(.arr eP 7 (bJ V b.es))]) (some [(vi b.t),(.vec 1000001 7 0 b.es.length)])) (by kernel_rfl) ?_
 try dsimp only
 rw[PS] at hc⊢
 unfold wK at h⊢
 refine⟨⟨by omega,by omega⟩,fun h1=>?_,fun h1=>⟨fun h2=>?_,fun h2=>?_⟩⟩
 ·have h1:e.k.n≠(iC b.es e.k:Int)+1:=by simpa using h1
  rw[if_pos h1]
  exact⟨rfl,rfl,rfl,trivial⟩
 ·have h1:¬e.k.n≠(iC b.es e.k:Int)+1:=by simpa using h1
  have h2:256≤b.es.length:=by have:=dn h2;omega
  rw[if_neg h1,if_pos h2]
  exact⟨rfl,rfl,rfl,trivial⟩
 ·have h1:¬e.k.n≠(iC b.es e.k:Int)+1:=by simpa using h1
  have h2:¬256≤b.es.length:=by have:=of_decide_eq_false h2;omega
  rw[if_neg h1,if_neg h2] at h
  exact absurd rfl h
theorem aa4 (b:Bk) (V:Nat→Option Addr×Nat) (e:Ev) (hl:b.es.length≤1000000) (h:wK b.es e=0):dD Tryz.prog G 76 [.box 1000000 0,.d (ig e),.any] (bB b V) (.d (di 0)) [(1000000,[.d (di b.t),.vec 901 7 0 (b.es.length+1)]),(901,[.arr fO 7 (MK V b.es e)])]:=by
 refine dD.dA (mv:=[(68,901)]) (by kernel_rfl) Tryz.func76 rfl Tryz.call76 ?_
 refine dh (aj:=Ja) ?_
 refine aC (fun ZT ZW ZQ _=>ZW [cd Tryz.f76 [1,1,0,1,0],(.blk 0),cd Tryz.f76 [1,1,1]] (aB ZT []) ZQ) (by kernel_rfl) ?_
 refine aX.weaken (st':=UL b V e 0) ?_ (Qb b V e hl ?_)
 ·exact AS.bD (by kernel_rfl)
 have hc:=J9 b.es e.k b.es.length
 refine walk (aj:=Ja) (keep:=[]) (cuts:=[9,11]) (n:=1000) follows ?_
 refine aC (fun ZT ZW ZQ _=>((I64 (↑(oO b.es e.k b.es.length)+1))∧(((e.k.n != ↑(oO b.es e.k b.es.length)+1)=true)→ZW [cd Tryz.f76 [1,1,1,0,0,1,0],(.blk 2),cd Tryz.f76 [1,1,1,1]] (aB ZT [0]) ZQ)∧(((e.k.n != ↑(oO b.es e.k b.es.length)+1)=false)→((((decide ((↑b.es.length:Int)≥256))=true)→ZW [cd Tryz.f76 [1,1,1,0,0,1,1,1,0],(.blk 2),cd Tryz.f76 [1,1,1,1]] (aB ZT [1,0]) ZQ)∧(((decide ((↑b.es.length:Int)≥256))=false)→((((b.es.length+1)*112≤1099511627776)∧(b.es.length+1≤1099511627776))∧(ZS ((vi 0):AV))∧((some [(vi b.t),(.vec 901 7 0 (b.es.length+1))]):dS)=(some [(vi b.t),(.vec 901 7 0 (b.es.length+1))])∧((some [(.arr eP 7 (fun i=>bif i.blt b.es.length then bJ V b.es i else aW true 7 [ds e.k.st,ds e.k.ex,di e.k.n,di e.t,ds e.s,dG,dG] (0+(i-b.es.length))))]):dS)=(some [(.arr eP 7 (MK V b.es e))])∧True)))))) (by kernel_rfl) ?_
 rw[PS] at hc⊢
 unfold wK at h
 have h1:¬e.k.n≠(iC b.es e.k:Int)+1:=fun c=>by rw[if_pos c] at h;cases h
 have h2:¬256≤b.es.length:=fun c=>by rw[if_neg h1,if_pos c] at h;cases h
 refine⟨⟨by omega,by omega⟩,fun c=>absurd (by simpa using c) h1,fun _=>⟨fun c=>absurd (dn c) (by omega),fun _=>⟨⟨by omega,by omega⟩,rfl,rfl,rfl,trivial⟩⟩⟩
end Go.Proofs
namespace Go.Proofs
open Go Go.Ab Go.RowKit
variable {G:IH} {β:Nat→Nat} {V:Nat→Option Addr×Nat} {b:Bk} {w:World}
theorem cZ.lt {h:IH} {K:RK} {sz n:Nat} {f:Nat→DV} {c r:Nat} {v:Value} {w:World} (hv:cZ h K sz n f c r v w.heap[c]?) (hr:0<r):c<w.heap.size:=by
 rcases hv.row.2 with q|⟨_,_,ho,_⟩
 ·omega
 ·exact lt_of_heap ho
theorem Tv {n s:Nat} (h:s<2*n+2):s=0∨s=1∨(∃i,i<n∧s=2*i+2)∨∃i,i<n∧s=2*i+3:=by
 by_cases h0:s=0
 ·exact .inl h0
 by_cases h1:s=1
 ·exact .inr (.inl h1)
 by_cases h2:s % 2=0
 ·exact .inr (.inr (.inl ⟨(s-2) / 2,by omega,by omega⟩))
 ·exact .inr (.inr (.inr ⟨(s-3) / 2,by omega,by omega⟩))
theorem bQ.lt (h:bQ G β V b w) {s:Nat} (hs:s<2*b.es.length+2) (hl:jc β s):blk β s<w.heap.size:=by
 rcases Tv hs with rfl|rfl|⟨i,hi,rfl⟩|⟨i,hi,rfl⟩
 ·exact lt_of_heap h.top
 ·exact h.ent.lt (hl.resolve_left (by omega))
 ·exact(h.gr i hi).lt (hl.resolve_left (by omega))
 ·exact(h.ap i hi).lt (hl.resolve_left (by omega))
theorem cZ.keep {h:IH} {K:RK} {sz n:Nat} {f:Nat→DV} {c r:Nat} {v:Value} {w w':World} {on:Nat→Prop} (hv:cZ h K sz n f c r v w.heap[c]?) (hk:Kept on w w') (hn:0<r→¬on c):cZ h K sz n f c r v w'.heap[c]?:=by
 refine⟨hv.val,hv.row.1,?_⟩
 rcases hv.row.2 with q3|⟨fr,vs,ho,hr⟩
 ·exact .inl q3
 ·by_cases q4:r=0
  ·exact .inl q4
  ·exact .inr ⟨fr,vs,by rw[hk.block _ (lt_of_heap ho) (hn (by omega))];exact ho,hr⟩
structure zB (β β':Nat→Nat) (n n' s0:Nat) (w:World):Prop where
 old:∀s,s≠s0→s<2*n'+2→jc β' s→s<2*n+2∧jc β s∧blk β' s=blk β s
 new:s0<2*n'+2→jc β' s0→(s0<2*n+2∧jc β s0∧blk β' s0=blk β s0)∨w.heap.size≤blk β' s0
theorem zB.unk {β':Nat→Nat} {n' s0:Nat} (q:zB β β' b.es.length n' s0 w) (h:bQ G β V b w):∀s,s<2*n'+2→jc β' s→(∀o,G.cell (blk β' s) o=none)∧G.obj (blk β' s)=none:=by
 intro s hs hl
 have hold:(s<2*b.es.length+2∧jc β s∧blk β' s=blk β s)→(∀o,G.cell (blk β' s) o=none)∧G.obj (blk β' s)=none:=fun ⟨h1,h2,h3⟩=>by rw[h3];exact h.unk s h1 h2
 by_cases e:s=s0
 ·subst e
  rcases q.new hs hl with h1|h1
  ·exact hold h1
  ·exact holds_none h.hold h1
 ·exact hold (q.old s e hs hl)
theorem zB.inj {β':Nat→Nat} {n' s0:Nat} (q:zB β β' b.es.length n' s0 w) (h:bQ G β V b w):∀s t,s<2*n'+2→t<2*n'+2→jc β' s→jc β' t→blk β' s=blk β' t→s=t:=by
 have one:∀t,t≠s0→t<2*n'+2→jc β' t→s0<2*n'+2→jc β' s0→blk β' s0=blk β' t→False:=by
  intro t ht h1 h2 h3 h4 he
  obtain ⟨a1,a2,a3⟩:=q.old t ht h1 h2
  rcases q.new h3 h4 with ⟨c1,c2,c3⟩|c1
  ·rw[a3,c3] at he
   exact ht (h.inj s0 t c1 a1 c2 a2 he).symm
  ·have:=h.lt a1 a2
   rw[he,a3] at c1;omega
 intro s t hs ht hls hlt he
 by_cases e1:s=s0
 ·by_cases e2:t=s0
  ·rw[e1,e2]
  ·subst e1;exact(one t e2 ht hlt hs hls he).elim
 ·by_cases e2:t=s0
  ·subst e2;exact(one s e1 hs hls ht hlt he.symm).elim
  ·obtain ⟨a1,a2,a3⟩:=q.old s e1 hs hls
   obtain ⟨c1,c2,c3⟩:=q.old t e2 ht hlt
   rw[a3,c3] at he
   exact h.inj s t a1 c1 a2 c2 he
theorem zB.blks {β':Nat→Nat} {n n' s0:Nat} (q:zB β β' n n' s0 w):∀c,iF β' n' c→iF β n c∨w.heap.size≤c:=by
 rintro c ⟨s,hs,hl,rfl⟩
 by_cases e:s=s0
 ·subst e
  rcases q.new hs hl with ⟨h1,h2,h3⟩|h1
  ·exact .inl ⟨s,h1,h2,h3.symm⟩
  ·exact .inr h1
 ·obtain ⟨h1,h2,h3⟩:=q.old s e hs hl
  exact .inl ⟨s,h1,h2,h3.symm⟩
structure PostB (G:IH) (β:Nat→Nat) (b b':Bk) (w:World) (code:Int) (v:Value) (w':World):Prop where
 code:v=.int .i64 code
 kept:Kept (iF β b.es.length) w w'
 book:∃β' V',blk β' 0=blk β 0∧bQ G β' V' b' w'∧∀c,iF β' b'.es.length c→iF β b.es.length c∨w.heap.size≤c
theorem Ox {c n:Nat} (h:X3 β c):iF β n c:=by
 rcases h with rfl|⟨h0,rfl⟩
 ·exact⟨0,by omega,.inl rfl,rfl⟩
 ·exact⟨1,by omega,.inr h0,rfl⟩
theorem wR {S:Nat→Prop} {w w':World} {G:IH} (hw:G.holds w) (hk:Kept S w w') (hu:∀c,S c→(∀o,G.cell c o=none)∧G.obj c=none):G.holds w':=by
 refine⟨fun c o v e=>?_,fun c o e=>?_⟩
 ·have h1:=hw.1 c o v e
  have hn:¬S c:=fun hs=>by rw[(hu c hs).1] at e;cases e
  have hlt:c<w.heap.size:=by
   simp only[World.cell?] at h1
   split at h1
   ·rename_i hh;exact lt_of_heap hh
   ·simp at h1
  simp only[World.cell?] at h1⊢
  rw[hk.block c hlt hn];exact h1
 ·have hn:¬S c:=fun hs=>by rw[(hu c hs).2] at e;cases e
  have h1:=hw.2 c o e
  rw[hk.block c (lt_of_heap h1) hn];exact h1
theorem bQ.hold' (h:bQ G β V b w) {w':World} (hk:Kept (iF β b.es.length) w w'):G.holds w':=wR h.hold hk fun c ⟨s,h1,h2,h3⟩=>by rw[←h3];exact h.unk s h1 h2
def Dq (b:Bk) (e:Ev):Bk:=if wK b.es e=0 then ⟨b.t,b.es++[nO e]⟩ else b
theorem NH {rs:List AV} {β:Nat→Nat} {h:IH} {x y z:AV} {u v t:Value} (hx:x.rel β h u) (hy:y.rel β h v) (hz:z.rel β h t):∀(i:Nat) (a:AV),[x,y,z][i]?=some a→∃c,(#[u,v,t]:Array Value)[i]?=some c∧a.rel β h c:=by
 intro i a ha
 rcases i with _|_|_|i
 ·simp at ha;subst ha;exact⟨u,rfl,hx⟩
 ·simp at ha;subst ha;exact⟨v,rfl,hy⟩
 ·simp at ha;subst ha;exact⟨t,rfl,hz⟩
 ·simp at ha
theorem nH {α:Type} {l:List α} {a d:α} {i:Nat} (h:i<l.length):(l++[a]).getD i d=l.getD i d:=by
 rw[List.getD,List.getD,List.getElem?_append_left h]
theorem nK {α:Type} (l:List α) (a d:α):(l++[a]).getD l.length d=a:=by
 rw[List.getD,List.getElem?_append_right (Nat.le_refl _),Nat.sub_self];rfl
theorem dw.less {h:IH} {K:RK} {sz c m n:Nat} {f g:Nat→DV} {o:Option Obj} (r:dw h K sz f c m o) (hm:K.mn=none) (hn:n≤m) (hfg:∀i,i<n→f i=g i):dw h K sz g c n o:=by
 obtain ⟨⟨h1,_⟩,h2⟩:=r
 refine⟨⟨by omega,fun N hN=>by rw[hm] at hN;cases hN⟩,h2.imp id ?_⟩
 rintro ⟨fr,vs,ho,q1,q2,q3,q4⟩
 exact⟨fr,vs,ho,q1,q2,q3,fun i hi=>by rw[←hfg i hi];exact q4 i (by omega)⟩
theorem cZ.nil {h:IH} {K:RK} {sz:Nat} {f:Nat→DV} {c:Nat} {o:Option Obj} (hm:K.mn=none):cZ h K sz 0 f c 0 (.slice none 0 0) o:=
 ⟨⟨none,rfl,.inr rfl⟩,⟨Nat.le_refl _,fun N hN=>by rw[hm] at hN;cases hN⟩,.inl rfl⟩
theorem Xa {V V':Nat→Option Addr×Nat} {es:List En} {e:Ev} (hV:∀s,s<2*es.length+2→2≤s→V' s=V s) (h2:V' (2*es.length+2)=(none,0)) (h3:V' (2*es.length+3)=(none,0)):∀i,i<es.length+1→MK V es e i=bJ V' (es++[nO e]) i:=by
 intro i hi
 show (bif i.blt es.length then bJ V es i else aW true 7 (jv (nO e) ED ED) (0+(i-es.length)))=_
 unfold bJ
 by_cases c:i<es.length
 ·rw[show i.blt es.length=true from by rw[Nat.blt_eq];exact c,cond_true,nH c]
  simp only[sv,hV (2*i+2) (by omega) (by omega),hV (2*i+3) (by omega) (by omega)]
 ·obtain rfl:i=es.length:=by omega
  rw[show es.length.blt es.length=false from by rw[Bool.eq_false_iff,ne_eq,Nat.blt_eq];omega,cond_false,Nat.sub_self,nK]
  simp only[sv,h2,h3]
  rfl
theorem acj (h:bQ G β V b w) (hl:b.es.length≤1000000) (e:Ev) {ev y:Value} (he:DV.rel G (ig e) ev) :
  Calls Tryz.prog 76 #[.pointer (some ⟨blk β 0,0,none⟩),ev,y] w fun r w'=>∃v,r=.returned v∧PostB G β b (Dq b e) w (wK b.es e) v w':=by
 have hx:(AV.box 1000000 0).rel (fB β b.es.length) (IH.add G (jP β b.es.length) w) (.pointer (some ⟨blk β 0,0,none⟩)):=by
  show _=_
  rw[(fB0 b.es.length).1]
 have hev:(AV.d (ig e)).rel (fB β b.es.length) (IH.add G (jP β b.es.length) w) ev:=DV.kN _ _ rfl he
 have g:=h.gam rfl (rs:=[.box 1000000 0,.d (ig e),.any]) (us:=#[.pointer (some ⟨blk β 0,0,none⟩),ev,y]) rfl (NH (rs:=[]) hx hev trivial)
 by_cases hc:wK b.es e=0
 ·refine((aa4 b V e hl hc).2 _ _ _ _ _ g).mono ?_
  rintro r w' ⟨v,β1,h1,rfl,g1⟩
  obtain ⟨v',hv',hr⟩:=g1.regs 0 _ rfl
  have hv':v=v':=by simpa using hv'
  subst hv'
  have hr:v=.int .i64 0:=hr
  have hk:Kept (iF β b.es.length) w w':=g1.kept.mono fun c hc=>Ox hc
  obtain ⟨f1,f2,_⟩:=g1.fix 1000000 (by decide)
  obtain ⟨a1,a2⟩:=fB0 (β:=β) b.es.length
  obtain ⟨⟨T,hT⟩,vs,ho,v0,vs1,rfl,r0,v1,vs2,rfl,r1,r2⟩:=(g1.box 1000000 _ rfl).2
  have r2:vs2=[]:=r2
  have r0:v0=.int .i64 b.t:=r0
  subst r2 r0
  have hT:T=room β 0:=hT.trans (f2.trans a2)
  subst hT
  rw[f1,a1] at ho
  obtain ⟨hb1,hO⟩:=g1.box 901 _ rfl
  obtain ⟨m1,m2,p,hp,hq⟩:=r1
  rw[Nat.sub_zero] at hp
  subst hp
  have hO:dw h1 fO 7 (MK V b.es e) (room β1 901) (many β1 901) w'.heap[blk β1 901]?:=hO
  have hs0:0<room β1 901:=by omega
  have abh:=(hb1 hs0).1
  have hne:blk β1 901≠blk β 0:=by
   intro hc
   have:=g1.inj 901 1000000 _ _ rfl rfl hs0 trivial (hc.trans (f1.trans a1).symm)
   exact absurd this (by decide)
  generalize hn:b.es.length=n at *
  let β':=upd (upd (upd β 1 (blk β1 901) (room β1 901) 0) (2*n+2) 0 0 0) (2*n+3) 0 0 0
  let V':Nat→Option Addr×Nat:=fun s=>if s=1 then (p,room β1 901) else if 2*n+2≤s then (none,0) else V s
  have bo:∀s,s≠1→s<2*n+2→blk β' s=blk β s∧room β' s=room β s:=fun s q1 q2=>by
   simp only[β']
   rw[aZ (by omega),aZ (by omega),aZ q1,bI (by omega),bI (by omega),bI q1]
   exact⟨rfl,rfl⟩
  have b1:blk β' 1=blk β1 901∧room β' 1=room β1 901:=by
   simp only[β']
   rw[aZ (by omega),aZ (by omega),aT,bI (by omega),bI (by omega),aH]
   exact⟨rfl,rfl⟩
  have b2:room β' (2*n+2)=0:=by
   simp only[β']
   rw[bI (by omega),aH]
  have b3:room β' (2*n+3)=0:=by
   simp only[β']
   rw[aH]
  have v1:∀m,sv V' 1 m=.slice p m (room β1 901):=fun m=>by simp[sv,V']
  have vo:∀s m,s≠1→s<2*n+2→sv V' s m=sv V s m:=fun s m q1 q2=>by simp[sv,V',q1,Nat.not_le.2 q2]
  have vn:∀s,2*n+2≤s→V' s=(none,0):=fun s q=>by simp only[V'];rw[if_neg (by omega),if_pos q]
  have hnext:zB β β' b.es.length (n+1) 1 w:=by
   rw[hn]
   refine⟨fun s q1 q2 q3=>?_,fun _ _=>?_⟩
   ·by_cases q4:s<2*n+2
    ·obtain ⟨c1,c2⟩:=bo s q1 q4
     exact⟨q4,by unfold jc at q3⊢;rwa [c2] at q3,c1⟩
    ·exfalso
     have q5:s=2*n+2∨s=2*n+3:=by omega
     rcases q5 with rfl|rfl
     ·rcases q3 with q3|q3<;>omega
     ·rcases q3 with q3|q3<;>omega
   ·rw[b1.1]
    rcases abh with q|q
    ·rcases q with q|⟨q,q'⟩
     ·exact absurd q hne
     ·exact .inl ⟨by omega,.inr q,q'⟩
    ·exact .inr q
  have hsub:Dq b e=⟨b.t,b.es++[nO e]⟩:=by unfold Dq;rw[if_pos hc]
  have hlen:(b.es++[nO e]).length=n+1:=by rw[iE,hn]
  have hapart:∀s,2≤s→s<2*n+2→0<room β s→¬X3 β (blk β s):=by
   intro s q1 q2 q3 q4
   rcases q4 with q4|⟨q5,q4⟩
   ·have:=h.inj s 0 (by omega) (by omega) (.inr q3) (.inl rfl) q4;omega
   ·have:=h.inj s 1 (by omega) (by omega) (.inr q3) (.inr q5) q4;omega
  rw[hsub,hc]
  refine⟨_,rfl,hr,by rw[hn];exact hk,β',V',?_,⟨h.hold' (by rw[hn];exact hk),?_,?_,fun i hi=>?_,fun i hi=>?_,?_,?_⟩,?_⟩
  ·exact(bo 0 (by omega) (by omega)).1
  ·show w'.heap[blk β' 0]?=some (.cells #[.int .i64 b.t,sv V' 1 (b.es++[nO e]).length] (room β' 0) (0,0))
   rw[(bo 0 (by omega) (by omega)).1,hlen,v1];exact ho
  ·show cZ G fO 7 (b.es++[nO e]).length (bJ V' (b.es++[nO e])) (blk β' 1) (room β' 1) (sv V' 1 (b.es++[nO e]).length) w'.heap[blk β' 1]?
   rw[hlen,v1,b1.1,b1.2]
   refine⟨⟨p,rfl,hq.imp (fun e=>by simpa using e) fun e=>by omega⟩,?_⟩
   refine dw.flat (fun i _=>mg V' _ i) (dw.less hO rfl (by omega) fun i hi=>Xa (fun s q1 q2=>?_) (by rw[hn];exact vn _ (by omega)) (by rw[hn];exact vn _ (by omega)) i (by rw[hn];exact hi))
   rw[hn] at q1
   simp only[V']
   rw[if_neg (by omega),if_neg (by omega)]
  ·have hi:i<n+1:=by rw[←hlen];exact hi
   show cZ G jU 4 ((b.es++[nO e]).getD i en0).gs.length (dP ((b.es++[nO e]).getD i en0).gs) (blk β' (2*i+2)) (room β' (2*i+2)) (sv V' (2*i+2) ((b.es++[nO e]).getD i en0).gs.length) w'.heap[blk β' (2*i+2)]?
   by_cases c:i<n
   ·rw[nH (by rw[hn];exact c),(bo (2*i+2) (by omega) (by omega)).1,(bo (2*i+2) (by omega) (by omega)).2,vo _ _ (by omega) (by omega)]
    exact(h.gr i (by rw[hn];exact c)).keep g1.kept (hapart _ (by omega) (by omega))
   ·obtain rfl:i=n:=by omega
    have e1:(b.es++[nO e]).getD i en0=nO e:=by rw[←hn];exact nK _ _ _
    rw[e1,b2]
    have e2:sv V' (2*i+2) (nO e).gs.length=.slice none 0 0:=by simp only[sv,vn _ (Nat.le_refl _)];rfl
    rw[e2]
    exact cZ.nil rfl
  ·have hi:i<n+1:=by rw[←hlen];exact hi
   show cZ G iZ 6 ((b.es++[nO e]).getD i en0).ah.length (dI ((b.es++[nO e]).getD i en0).ah) (blk β' (2*i+3)) (room β' (2*i+3)) (sv V' (2*i+3) ((b.es++[nO e]).getD i en0).ah.length) w'.heap[blk β' (2*i+3)]?
   by_cases c:i<n
   ·rw[nH (by rw[hn];exact c),(bo (2*i+3) (by omega) (by omega)).1,(bo (2*i+3) (by omega) (by omega)).2,vo _ _ (by omega) (by omega)]
    exact(h.ap i (by rw[hn];exact c)).keep g1.kept (hapart _ (by omega) (by omega))
   ·obtain rfl:i=n:=by omega
    have e1:(b.es++[nO e]).getD i en0=nO e:=by rw[←hn];exact nK _ _ _
    rw[e1,b3]
    have e2:sv V' (2*i+3) (nO e).ah.length=.slice none 0 0:=by simp only[sv,vn (2*i+3) (by omega)];rfl
    rw[e2]
    exact cZ.nil rfl
  ·rw[hlen];exact hnext.unk h
  ·rw[hlen];exact hnext.inj h
  ·have hq:=hnext.blks
   rw[hn] at hq
   rw[hlen];exact hnext.blks
 ·refine((aaL b V e hl hc).2 _ _ _ _ _ g).mono ?_
  rintro r w' ⟨v,β1,h1,rfl,g1⟩
  obtain ⟨v',hv',hr⟩:=g1.regs 0 _ rfl
  have hv':v=v':=by simpa using hv'
  subst hv'
  have hk:Kept (iF β b.es.length) w w':=g1.kept.mono fun c hc=>Ox hc
  obtain ⟨v1,hb⟩:=h.back (fun _ hc=>hc) g1 (h.hold' hk) rfl rfl
  refine⟨v,rfl,hr,hk,β,_,rfl,by unfold Dq;rw[if_neg hc];exact hb,fun c hc'=>.inl ?_⟩
  unfold Dq at hc'
  rw[if_neg hc] at hc'
  exact hc'
def f1 (β:Nat→Nat) (n:Nat):Nat→Nat:=upd (fun _=>0) 1000001 (blk β 1) (room β 1) n
def oU (β:Nat→Nat) (c:Nat):Prop:=0<room β 1∧c=blk β 1
theorem FM (n:Nat):blk (f1 β n) 1000001=blk β 1∧room (f1 β n) 1000001=room β 1∧many (f1 β n) 1000001=n:=by
 unfold f1
 rw[aT,aH,bH]
 exact⟨rfl,rfl,rfl⟩
abbrev b1 (b:Bk) (V:Nat→Option Addr×Nat):Nat×List AV:=(1000001,[.arr fO 7 (bJ V b.es)])
theorem bQ.WE (h:bQ G β V b w) {k:IH} (hk:k=IH.add G (jP β b.es.length) w) {rs:List AV} {us:Array Value} (hs:us.size=rs.length) (hr:∀(t:Nat) (x:AV),rs[t]?=some x→∃v,us[t]?=some v∧x.rel (f1 β b.es.length) k v) :
  aO k ⟨oU β,f1 β b.es.length⟩ w k ⟨rs,[b1 b V]⟩ (f1 β b.es.length) k us w:=by
 have hn:∀c,jP β b.es.length c→∀o,G.cell c o=none:=fun c ⟨s,_,h1,h2,h3⟩=>by rw[←h3];exact(h.unk s h1 h2).1
 have hle:G.le k:=by rw[hk];exact IH.rF hn
 obtain ⟨c1,c2,c3⟩:=FM (β:=β) b.es.length
 obtain ⟨v1,v2⟩:=(h.ent.mono hle).own c1 c2 c3
 have hlook:∀s l,Go.Ab.look [b1 b V] s=some l→s=1000001∧l=[.arr fO 7 (bJ V b.es)]:=by
  intro s l hl
  simp only[b1,Go.Ab.look] at hl
  by_cases e2:(1000001:Nat)=s
  ·subst e2;simp at hl;exact⟨rfl,hl.symm⟩
  ·rw[aQ e2,cond_false] at hl;cases hl
 refine⟨IH.le.refl _,by rw[hk];exact IH.add_holds h.hold,IH.le.refl _,fun _ _ _=>⟨fun _=>rfl,rfl⟩,Kept.refl _ _,fun _ _=>⟨rfl,rfl,rfl⟩,hs,hr,fun s l hl=>?_,fun s s' l l' hl hl' hv hv' he=>?_⟩
 ·obtain ⟨rfl,rfl⟩:=hlook s l hl
  rw[c1]
  refine⟨fun hv=>?_,v2⟩
  have hv:0<room β 1:=by rw[←c2];exact hv
  have h1:=h.unk 1 (by omega) (.inr hv)
  refine⟨.inl ⟨hv,rfl⟩,fun o=>?_,by rw[hk];exact h1.2⟩
  rw[hk,IH.jT]
  ·exact h1.1 o
  ·rintro ⟨t,q1,q2,q3,q4⟩
   have:=h.inj t 1 q2 (by omega) q3 (.inr hv) q4
   omega
 ·rw[(hlook s l hl).1,(hlook s' l' hl').1]
theorem bQ.toB (h:bQ G β V b w) {k:IH} (hk:k=IH.add G (jP β b.es.length) w) {s:Nat} (hs2:2≤s) (hs:s<2*b.es.length+2) {K:RK} {sz m:Nat} {f:Nat→DV} {v:Value} (hv:cZ G K sz m f (blk β s) (room β s) v w.heap[blk β s]?)
  {rs:List AV} {bs:List (Nat×List AV)} {β1:Nat→Nat} {h1:IH} {tm:Array Value} {w1:World} (g:aO k ⟨oU β,f1 β b.es.length⟩ w k ⟨rs,b1 b V :: bs⟩ β1 h1 tm w1)
  (hfl:AV.kV rs=true) (hfb:∀t l,Go.Ab.look bs t=some l→pU l) (hfe:AV.frees 1000002 rs=true) (hbe:(bs.all fun p=>AV.frees 1000002 p.2&&!(Nat.beq p.1 1000002))=true) :
  ∃(β2:Nat→Nat) (fV:Nat→Prop),(blk β2 1000001=blk β 1∧room β2 1000001=room β 1∧many β2 1000001=b.es.length)∧((0<room β s→blk β2 1000002=blk β s)∧room β2 1000002=room β s∧many β2 1000002=m)∧
   aO G ⟨fV,β2⟩ w1 G ⟨rs,(1000002,[.arr K sz f]) :: b1 b V :: bs⟩ β2 G tm w1∧(∀c,fV c→oU β c∨(0<room β s∧c=blk β s)∨w.heap.size≤c)∧Kept (oU β) w w1∧G.holds w1:=by
 have hn:∀c,jP β b.es.length c→∀o,G.cell c o=none:=fun c ⟨s,_,h1,h2,h3⟩=>by rw[←h3];exact(h.unk s h1 h2).1
 have hle:G.le k:=by rw[hk];exact IH.rF hn
 have Gt:G.le h1:=hle.trans g.glob
 have ET:G.holds w1:=⟨fun c o v e=>g.holds.1 c o v (Gt.1 c o v e),fun c o e=>g.holds.2 c o (Gt.2 c o e)⟩
 have hlk:∀t l,Go.Ab.look (b1 b V :: bs) t=some l→pU l:=by
  intro t l hl
  simp only[b1,Go.Ab.look] at hl
  by_cases e2:(1000001:Nat)=t
  ·subst e2;simp at hl;subst hl;exact fun i=>mg V b.es i
  ·rw[aQ e2,cond_false] at hl;exact hfb t l hl
 have hu:∀t l,AS.box ⟨rs,b1 b V :: bs⟩ t=some l→Live β1 t l→(∀o,G.cell (blk β1 t) o=none)∧G.obj (blk β1 t)=none:=by
  intro t l hl hv
  obtain ⟨_,q1,q2⟩:=(g.box t l hl).1 hv
  refine⟨fun o=>?_,?_⟩
  ·cases e:G.cell (blk β1 t) o with
   | none=>rfl
   | some x=>have:=Gt.1 _ _ _ e;rw[q1] at this;cases this
  ·cases e:G.obj (blk β1 t) with
   | none=>rfl
   | some x=>have:=Gt.2 _ _ e;rw[q2] at this;cases this
 have g2:=g.anew (G':=G) (k:=G) (F':=⟨fun c=>∃t l,Go.Ab.look (b1 b V :: bs) t=some l∧Live β1 t l∧blk β1 t=c,β1⟩) (IH.le.refl _) ET hfl hlk hu (fun t l hl hv=>⟨t,l,hl,hv,rfl⟩) fun _ _=>⟨rfl,rfl,rfl⟩
 have hbl:0<room β s→blk β s<w.heap.size∧¬oU β (blk β s):=fun h0=>⟨h.lt hs (.inr h0),fun hc=>by
  have:=h.inj s 1 hs (by omega) (.inr h0) (.inr hc.1) hc.2;omega⟩
 have hv1:=hv.keep g.kept fun h0=>(hbl h0).2
 obtain ⟨f1',f2',f3'⟩:=g.fix 1000001 (by decide)
 obtain ⟨c1,c2,c3⟩:=FM (β:=β) b.es.length
 obtain ⟨bb,hbb,P7⟩:∃bb,(0<room β s→bb=blk β s)∧(¬0<room β s→bb=w1.heap.size):=by
  by_cases h0:0<room β s
  ·exact⟨blk β s,fun _=>rfl,fun hc=>absurd h0 hc⟩
  ·exact⟨w1.heap.size,fun hc=>absurd hc h0,fun _=>rfl⟩
 have hO:Own (upd β1 1000002 bb (room β s) m) G 1000002 [.arr K sz f] w1.heap[bb]?:=by
  show dw G K sz f (room _ 1000002) (many _ 1000002) _
  rw[aH,bH]
  by_cases h0:0<room β s
  ·rw[hbb h0];exact hv1.row
  ·exact⟨hv1.row.1,.inl (by omega)⟩
 have g3:=g2.more (s:=1000002) (b:=bb) (c:=room β s) (m:=m) (l:=[.arr K sz f]) hfe (by
   simp only[List.all_cons,aY];exact⟨⟨rfl,rfl⟩,hbe⟩) hO (fun hl=>by
   have hl:0<room (upd β1 1000002 bb (room β s) m) 1000002:=hl
   rw[aH] at hl
   rw[hbb hl]
   exact h.unk s hs (.inr hl)) (fun t l hl hv he=>?_)
 ·refine⟨_,_,⟨?_,?_,?_⟩,⟨fun h0=>by rw[aT];exact hbb h0,aH,bH⟩,g3,fun c hc=>?_,g.kept,ET⟩
  ·rw[aZ (by decide)];exact f1'.trans c1
  ·rw[bI (by decide)];exact f2'.trans c2
  ·rw[iy (by decide)];exact f3'.trans c3
  ·rcases hc with ⟨t,l,hl,hv,rfl⟩|rfl
   ·obtain ⟨q,_⟩:=(g.box t l hl).1 hv
    rcases q with q|q
    ·exact .inl q
    ·exact .inr (.inr q)
   ·by_cases h0:0<room β s
    ·exact .inr (.inl ⟨h0,hbb h0⟩)
    ·rw[P7 h0];exact .inr (.inr g.kept.size)
 ·obtain ⟨qq,qo⟩:=g.box t l hl
  obtain ⟨q,q1,q2⟩:=qq hv
  by_cases h0:0<room β s
  ·obtain ⟨p1,p2⟩:=hbl h0
   rw[he,hbb h0] at q
   rcases q with q|q
   ·exact p2 q
   ·omega
  ·have:=Own.lt hv qo
   rw[he,P7 h0] at this;omega
abbrev eU (V:Nat→Option Addr×Nat) (s:Nat) (pc:Option Addr×Nat):Nat→Option Addr×Nat:=fun t=>if t=s then pc else V t
theorem dW {s t:Nat} {pc:Option Addr×Nat} (m:Nat) (h:t≠s):sv (eU V s pc) t m=sv V t m:=by simp[sv,eU,h]
theorem jh {s:Nat} {pc:Option Addr×Nat} (m:Nat):sv (eU V s pc) s m=.slice pc.1 m pc.2:=by simp[sv,eU]
def wM (β:Nat→Nat) (s c:Nat):Prop:=oU β c∨(0<room β s∧c=blk β s)
theorem bQ.apart (h:bQ G β V b w) {s t:Nat} (hs:s<2*b.es.length+2) (ht:t<2*b.es.length+2) (h1:t≠1) (hts:t≠s) (hl:jc β t):¬wM β s (blk β t):=by
 rintro (⟨q1,q2⟩|⟨q1,q2⟩)
 ·exact h1 (h.inj t 1 ht (by omega) hl (.inr q1) q2)
 ·exact hts (h.inj t s ht hs hl (.inr q1) q2)
theorem bQ.put (h:bQ G β V b w) {i:Nat} (hi:i<b.es.length) {x':En} {p:Option Addr} {c bk:Nat} {s:Nat} (hs:s=2*i+2∨s=2*i+3) {w':World} (hk:Kept (wM β s) w w')
  (hnew:0<c→(0<room β s∧bk=blk β s)∨w.heap.size≤bk)
  (hrow:dw G fO 7 (bJ (eU V s (p,c)) (b.es.set i x')) (room β 1) b.es.length w'.heap[blk β 1]?)
  (hg:cZ G jU 4 x'.gs.length (dP x'.gs) (blk (upd β s bk c 0) (2*i+2)) (room (upd β s bk c 0) (2*i+2)) (sv (eU V s (p,c)) (2*i+2) x'.gs.length) w'.heap[blk (upd β s bk c 0) (2*i+2)]?)
  (ha:cZ G iZ 6 x'.ah.length (dI x'.ah) (blk (upd β s bk c 0) (2*i+3)) (room (upd β s bk c 0) (2*i+3)) (sv (eU V s (p,c)) (2*i+3) x'.ah.length) w'.heap[blk (upd β s bk c 0) (2*i+3)]?)
  (code:Int):PostB G β b ⟨b.t,b.es.set i x'⟩ w code (.int .i64 code) w':=by
 have hsn:s<2*b.es.length+2:=by omega
 have hlen:(b.es.set i x').length=b.es.length:=List.length_set
 have hsub:∀c,wM β s c→iF β b.es.length c:=fun c hc=>by
  rcases hc with ⟨q1,q2⟩|⟨q1,q2⟩
  ·exact⟨1,by omega,.inr q1,q2.symm⟩
  ·exact⟨s,hsn,.inr q1,q2.symm⟩
 have hkB:Kept (iF β b.es.length) w w':=hk.mono hsub
 have bo:∀t,t≠s→blk (upd β s bk c 0) t=blk β t∧room (upd β s bk c 0) t=room β t:=fun t ht=>⟨aZ ht,bI ht⟩
 have hnext:zB β (upd β s bk c 0) b.es.length b.es.length s w:=by
  refine⟨fun t q1 q2 q3=>?_,fun _ q3=>?_⟩
  ·obtain ⟨e1,e2⟩:=bo t q1
   exact⟨q2,by unfold jc at q3⊢;rwa [e2] at q3,e1⟩
  ·rw[aT]
   have q3:0<c:=by
    have:=q3.resolve_left (by omega)
    rwa [aH] at this
   rcases hnew q3 with ⟨q,q'⟩|q
   ·exact .inl ⟨hsn,.inr q,q'⟩
   ·exact .inr q
 have hv1:sv (eU V s (p,c)) 1 b.es.length=sv V 1 b.es.length:=dW _ (by omega)
 have hx:∀j,j≠i→(b.es.set i x').getD j en0=b.es.getD j en0:=fun j hj=>by
  rw[List.getD,List.getD,List.getElem?_set_ne (Ne.symm hj)]
 have hxi:(b.es.set i x').getD i en0=x':=by
  rw[List.getD,List.getElem?_set_self hi];rfl
 refine⟨rfl,hkB,upd β s bk c 0,eU V s (p,c),(bo 0 (by omega)).1,⟨h.hold' hkB,?_,?_,fun j hj=>?_,fun j hj=>?_,?_,?_⟩,?_⟩
 ·show w'.heap[blk (upd β s bk c 0) 0]?=some (.cells #[.int .i64 b.t,sv (eU V s (p,c)) 1 (b.es.set i x').length] (room (upd β s bk c 0) 0) (0,0))
  rw[(bo 0 (by omega)).1,(bo 0 (by omega)).2,hlen,hv1,hk.block _ (lt_of_heap h.top) (h.apart hsn (by omega) (by omega) (by omega) (.inl rfl))]
  exact h.top
 ·show cZ G fO 7 (b.es.set i x').length (bJ (eU V s (p,c)) (b.es.set i x')) (blk (upd β s bk c 0) 1) (room (upd β s bk c 0) 1) (sv (eU V s (p,c)) 1 (b.es.set i x').length) w'.heap[blk (upd β s bk c 0) 1]?
  rw[(bo 1 (by omega)).1,(bo 1 (by omega)).2,hlen,hv1]
  exact⟨h.ent.val,hrow⟩
 ·have hj:j<b.es.length:=by rw[←hlen];exact hj
  show cZ G jU 4 ((b.es.set i x').getD j en0).gs.length (dP ((b.es.set i x').getD j en0).gs) (blk (upd β s bk c 0) (2*j+2)) (room (upd β s bk c 0) (2*j+2)) (sv (eU V s (p,c)) (2*j+2) ((b.es.set i x').getD j en0).gs.length) w'.heap[blk (upd β s bk c 0) (2*j+2)]?
  by_cases e:j=i
  ·subst e;rw[hxi];exact hg
  ·rw[hx j e,(bo _ (by omega)).1,(bo _ (by omega)).2,dW _ (by omega)]
   exact(h.gr j hj).keep hk fun h0=>h.apart hsn (by omega) (by omega) (by omega) (.inr h0)
 ·have hj:j<b.es.length:=by rw[←hlen];exact hj
  show cZ G iZ 6 ((b.es.set i x').getD j en0).ah.length (dI ((b.es.set i x').getD j en0).ah) (blk (upd β s bk c 0) (2*j+3)) (room (upd β s bk c 0) (2*j+3)) (sv (eU V s (p,c)) (2*j+3) ((b.es.set i x').getD j en0).ah.length) w'.heap[blk (upd β s bk c 0) (2*j+3)]?
  by_cases e:j=i
  ·subst e;rw[hxi];exact ha
  ·rw[hx j e,(bo _ (by omega)).1,(bo _ (by omega)).2,dW _ (by omega)]
   exact(h.ap j hj).keep hk fun h0=>h.apart hsn (by omega) (by omega) (by omega) (.inr h0)
 ·show ∀t,t<2*(b.es.set i x').length+2→_
  rw[hlen];exact hnext.unk h
 ·show ∀t u,t<2*(b.es.set i x').length+2→u<2*(b.es.set i x').length+2→_
  rw[hlen];exact hnext.inj h
 ·show ∀k,iF _ (b.es.set i x').length k→_
  rw[hlen];exact hnext.blks
theorem bQ.TD (h:bQ G β V b w) {k hh:IH} {on:Nat→Prop} {β0:Nat→Nat} (hon:∀c,on c→oU β c) {st:AS} {β':Nat→Nat} {tm:Array Value} {w':World} (g:aO k ⟨on,β0⟩ w k st β' hh tm w') (hG:G.le k) (h0:blk β0 1000001=blk β 1∧room β0 1000001=room β 1∧many β0 1000001=b.es.length)
  (h1:st.box 1000001=some [.arr fO 7 (bJ V b.es)]):Kept (oU β) w w'∧G.holds w'∧bQ G β V b w':=by
 have hk:Kept (oU β) w w':=g.kept.mono hon
 have hap:∀{s},s<2*b.es.length+2→s≠1→jc β s→¬oU β (blk β s):=fun q1 q2 q3 q4=>q2 (h.inj _ 1 q1 (by omega) q3 (.inr q4.1) q4.2)
 have ET:G.holds w':=h.hold' (hk.mono fun c hc=>⟨1,by omega,.inr hc.1,hc.2.symm⟩)
 obtain ⟨c1,c2,c3⟩:=h0
 obtain ⟨d1,d2,d3⟩:=g.fix 1000001 (by decide)
 have hO:=(g.box _ _ h1).2
 have hO:dw hh fO 7 (bJ V b.es) (room β' 1000001) (many β' 1000001) w'.heap[blk β' 1000001]?:=hO
 rw[d2.trans c2,d3.trans c3,d1.trans c1] at hO
 refine⟨hk,ET,ET,?_,⟨h.ent.val,hO.flat fun i _=>mg V b.es i⟩,fun i hi=>?_,fun i hi=>?_,h.unk,h.inj⟩
 ·rw[hk.block _ (lt_of_heap h.top) (hap (by omega) (by omega) (.inl rfl))];exact h.top
 ·exact(h.gr i hi).keep hk fun h0=>hap (by omega) (by omega) (.inr h0)
 ·exact(h.ap i hi).keep hk fun h0=>hap (by omega) (by omega) (.inr h0)
theorem bQ.same (h:bQ G β V b w) {w':World} (hk:Kept (oU β) w w') (hb:bQ G β V b w') (code:Int):PostB G β b b w code (.int .i64 code) w':=
 ⟨rfl,hk.mono fun c hc=>⟨1,by omega,.inr hc.1,hc.2.symm⟩,β,V,rfl,hb,fun _ hc=>.inl hc⟩
theorem bQ.UA (h:bQ G β V b w) {i:Nat} (hi:i<b.es.length) {x':En} {pc:Option Addr×Nat} {c bk:Nat} {w':World} (hk:Kept (wM β (2*i+3)) w w') (hx:x'.gs=(b.es.getD i en0).gs) :
  cZ G jU 4 x'.gs.length (dP x'.gs) (blk (upd β (2*i+3) bk c 0) (2*i+2)) (room (upd β (2*i+3) bk c 0) (2*i+2)) (sv (eU V (2*i+3) pc) (2*i+2) x'.gs.length) w'.heap[blk (upd β (2*i+3) bk c 0) (2*i+2)]?:=by
 rw[aZ (by omega),bI (by omega),dW _ (by omega),hx]
 exact(h.gr i hi).keep hk fun h0=>h.apart (by omega) (by omega) (by omega) (by omega) (.inr h0)
theorem bQ.aa6 (h:bQ G β V b w) {i:Nat} (hi:i<b.es.length) {x':En} {pc:Option Addr×Nat} {c bk:Nat} {w':World} (hk:Kept (wM β (2*i+2)) w w') (hx:x'.ah=(b.es.getD i en0).ah) :
  cZ G iZ 6 x'.ah.length (dI x'.ah) (blk (upd β (2*i+2) bk c 0) (2*i+3)) (room (upd β (2*i+2) bk c 0) (2*i+3)) (sv (eU V (2*i+2) pc) (2*i+3) x'.ah.length) w'.heap[blk (upd β (2*i+2) bk c 0) (2*i+3)]?:=by
 rw[aZ (by omega),bI (by omega),dW _ (by omega),hx]
 exact(h.ap i hi).keep hk fun h0=>h.apart (by omega) (by omega) (by omega) (by omega) (.inr h0)
theorem iL {F:Nat→Prop} {w w':World} (h:Kept (fun c=>F c∨w.heap.size≤c) w w'):Kept F w w':=
 ⟨h.os,h.tape,h.output,h.size,fun k hk hn=>h.block k hk (fun q=>q.elim hn (by omega))⟩
theorem l7 {k hh:IH} {F:Fr} {w0:World} {h0:IH} {st:AS} {β':Nat→Nat} {tm:Array Value} {w':World} (g:aO k F w0 h0 st β' hh tm w') {e:Nat} (he:K0≤e) {bk c m:Nat} (n1:blk F.β0 e=bk) (n2:room F.β0 e=c) (n3:m≤many F.β0 e) {K:RK} {sz:Nat} {f f':Nat→DV}
  (hb:st.box e=some [.arr K sz f]) (hmn:K.mn=none) (hfl:∀j,(f' j).flat=true) (Ov:∀j,j<m→f j=f' j) {p:Option Addr} (hp:p=some ⟨bk,0,none⟩∨c=0):cZ G K sz m f' bk c (.slice p m c) w'.heap[bk]?:=by
 obtain ⟨d1,d2,d3⟩:=g.fix e he
 have hO:=(g.box _ _ hb).2
 have hO:dw hh K sz f (room β' e) (many β' e) w'.heap[blk β' e]?:=hO
 rw[d2.trans n2,d1.trans n1] at hO
 exact⟨⟨p,rfl,hp⟩,(dw.less hO hmn (by rw[d3];exact n3) Ov).flat fun i _=>hfl i⟩
theorem bQ.Xy (h:bQ G β V b w) {i:Nat} (hi:i<b.es.length) {x':En} {s:Nat} (hs:s=2*i+2∨s=2*i+3) {F:Fr} {w3:World} {h3 hh:IH} {st:AS} {β':Nat→Nat} {tm:Array Value} {w':World} (g:aO G F w3 h3 st β' hh tm w')
  (hkw:Kept (fun c=>wM β s c∨w.heap.size≤c) w w3) (hon:∀c,F.on c→wM β s c∨w.heap.size≤c) {p:Option Addr} {c bk:Nat} (hnew:0<c→(0<room β s∧bk=blk β s)∨w.heap.size≤bk)
  (n1:blk F.β0 1000001=blk β 1∧room F.β0 1000001=room β 1∧many F.β0 1000001=b.es.length) {f:Nat→DV} (b1:st.box 1000001=some [.arr fO 7 f]) (hf:∀j,j<b.es.length→f j=bJ (eU V s (p,c)) (b.es.set i x') j)
  (hg:Kept (wM β s) w w'→cZ G jU 4 x'.gs.length (dP x'.gs) (blk (upd β s bk c 0) (2*i+2)) (room (upd β s bk c 0) (2*i+2)) (sv (eU V s (p,c)) (2*i+2) x'.gs.length) w'.heap[blk (upd β s bk c 0) (2*i+2)]?)
  (ha:Kept (wM β s) w w'→cZ G iZ 6 x'.ah.length (dI x'.ah) (blk (upd β s bk c 0) (2*i+3)) (room (upd β s bk c 0) (2*i+3)) (sv (eU V s (p,c)) (2*i+3) x'.ah.length) w'.heap[blk (upd β s bk c 0) (2*i+3)]?)
  (code:Int):PostB G β b ⟨b.t,b.es.set i x'⟩ w code (.int .i64 code) w':=by
 have hk:Kept (wM β s) w w':=iL (hkw.trans (g.kept.mono hon))
 obtain ⟨c1,c2,c3⟩:=n1
 have hE:=l7 (G:=G) g (e:=1000001) (by decide) c1 c2 (Nat.le_of_eq c3.symm) b1 rfl (fun j=>mg (eU V s (p,c)) (b.es.set i x') j) hf (p:=some ⟨blk β 1,0,none⟩) (.inl rfl)
 exact h.put hi hs hk hnew hE.row (hg hk) (ha hk) code
end Go.Proofs
