import Derived.Orders
import Derived.Below
import Derived.Tactics
import Derived.KernelRfl
import Derived.Laws.StructEq
import Derived.Laws.Cells
import Derived.MapKept
import Derived.Laws.Strings
import Derived.Laws.BytesString
set_option autoImplicit false
namespace Go.Ab
open Go Go.RowKit
theorem aI {α:Type} (a b:α):(some a=some b)=(a=b):=Option.some.injEq a b
theorem bg {α β:Type} (a:α) (b:β) (c:α) (d:β):((a,b)=(c,d))=(a=c∧b=d):=Prod.mk.injEq a b c d
theorem aY (a b:Bool):((a&&b)=true)=(a=true∧b=true):=Bool.and_eq_true a b
theorem gy {α:Type} {l:List α} {i:Nat} (h:i<l.length):l[i]?=some l[i]:=List.getElem?_eq_getElem h
theorem eF {p:Prop} [Decidable p]:(decide p=true)=p:=decide_eq_true_eq
theorem dn {p:Prop} [Decidable p] (h:decide p=true):p:=of_decide_eq_true h
theorem gW (n:Nat):(n:Int).toNat=n:=Int.toNat_natCast n
theorem QW {a b:ByteArray}:(a++b).size=a.size+b.size:=ByteArray.size_append
structure IH where
 cell:Nat→Nat→Option Value
 obj:Nat→Option Obj
def IH.le (h k:IH):Prop:=(∀b o v,h.cell b o=some v→k.cell b o=some v)∧∀b o,h.obj b=some o→k.obj b=some o
def IH.holds (h:IH) (w:World):Prop:=
 (∀b o v,h.cell b o=some v→w.cell? ⟨b,o,none⟩=some v)∧∀b o,h.obj b=some o→w.heap[b]?=some o
theorem IH.le.refl (h:IH):h.le h:=⟨fun _ _ _ e=>e,fun _ _ e=>e⟩
theorem IH.le.trans {a b c:IH} (h:a.le b) (k:b.le c):a.le c:=⟨fun x o v e=>k.1 x o v (h.1 x o v e),fun x o e=>k.2 x o (h.2 x o e)⟩
inductive DV where
 | con (v:Value)
 | agg (l:List DV)
 | aN (l:List DV)
 | ptr (l:List DV)
 | slc (sz n:Nat) (f:Nat→DV)
 | clo (fn:Go.Fn) (first caps:List DV)
 | NY (R:IH→Value→Prop)
 | mp (kd:Option IntKind) (f:Value→DV) (has:Value→Bool)
def tJ (kd:Option IntKind):TypeDesc:=match kd with|none=>.string|some i=>.int i
def y7 (a b:Value):Bool:=match a,b with
 | .string s,.string t=>decide (s=t)
 | .int j n,.int k m=>decide (j=k)&&decide (n=m)
 | _,_=>false
mutual
def DV.rel (h:IH):DV→Value→Prop
 | .con v,x=>x=v
 | .agg l,x=>∃vs:List Value,x=.agg vs.toArray∧DV.aF h l vs
 | .aN l,x=>∃vs:List Value,x=.tuple vs.toArray∧DV.aF h l vs
 | .ptr l,x=>∃b off,x=.pointer (some ⟨b,off,none⟩)∧∃vs:List Value,DV.aF h l vs∧∀i,i<vs.length→h.cell b (off+i)=vs[i]?
 | .slc sz n f,x=>∃p cap,x=.slice p n cap∧n≤cap∧
   (n=0∨∃b off,p=some ⟨b,off,none⟩∧∀i,i<n→∃v,DV.rel h (f i) v∧v.cells.size=sz∧∀j,j<sz→h.cell b (off+i*sz+j)=v.cells[j]?)
 | .clo fn a c,x=>∃va vc:List Value,x=.func fn va.toArray vc.toArray∧DV.aF h a va∧DV.aF h c vc
 | .NY R,x=>x.oneCell'=true∧∃k:IH,k.le h∧R k x
 | .mp kd f has,x=>∃b es clock,x=.map (some b)∧h.obj b=some (.map es clock)∧(∀e∈es.toList,MapKept.IsKey (tJ kd) e.key∧has e.key=true∧DV.rel h (f e.key) e.val)∧
   ∀k,MapKept.IsKey (tJ kd) k→has k=true→∃e∈es.toList,e.key=k
def DV.aF (h:IH):List DV→List Value→Prop
 | [],vs=>vs=[]
 | d :: l,vs=>∃v vs',vs=v :: vs'∧DV.rel h d v∧DV.aF h l vs'
end
mutual
theorem DV.rel.mono {h k:IH} (hk:h.le k):∀(d:DV) (x:Value),d.rel h x→d.rel k x
 | .con _,_,e=>e
 | .agg l,_,⟨vs,e,r⟩=>⟨vs,e,DV.aF.mono hk l vs r⟩
 | .aN l,_,⟨vs,e,r⟩=>⟨vs,e,DV.aF.mono hk l vs r⟩
 | .ptr l,_,⟨b,off,e,vs,r,c⟩=>⟨b,off,e,vs,DV.aF.mono hk l vs r,fun i hi=>by
   have:=c i hi
   rw[gy hi] at this⊢
   exact hk.1 _ _ _ this⟩
 | .slc _ _ f,_,⟨p,cap,e,hc,r⟩=>⟨p,cap,e,hc,r.imp id fun ⟨b,off,hp,r⟩=>⟨b,off,hp,fun i hi=>
   let ⟨v,hv,hs,hj⟩:=r i hi
   ⟨v,DV.rel.mono hk (f i) v hv,hs,fun j hjs=>by
    have:=hj j hjs
    have hlt:j<v.cells.size:=by omega
    rw[Array.getElem?_eq_getElem hlt] at this⊢
    exact hk.1 _ _ _ this⟩⟩⟩
 | .clo _ a c,_,⟨va,vc,e,ra,rc⟩=>⟨va,vc,e,DV.aF.mono hk a va ra,DV.aF.mono hk c vc rc⟩
 | .NY _,_,⟨o,j,hj,r⟩=>⟨o,j,hj.trans hk,r⟩
 | .mp _ f _,_,⟨b,es,c,e,ho,h1,h2⟩=>⟨b,es,c,e,hk.2 _ _ ho,fun e he=>⟨(h1 e he).1,(h1 e he).2.1,DV.rel.mono hk (f e.key) e.val (h1 e he).2.2⟩,h2⟩
theorem DV.aF.mono {h k:IH} (hk:h.le k):∀(l:List DV) (vs:List Value),DV.aF h l vs→DV.aF k l vs
 | [],_,e=>e
 | d :: l,_,⟨v,vs',e,r,rs⟩=>⟨v,vs',e,DV.rel.mono hk d v r,DV.aF.mono hk l vs' rs⟩
end
structure RK where
 agg:Bool
 ty:TypeId
 fz:Bool
 mn:Option Nat
inductive AV where
 | any
 | d (x:DV)
 | box (s off:Nat)
 | agg (l:List AV)
 | aN (l:List AV)
 | clo (fn:Go.Fn) (first caps:List AV)
 | gate (slot:Nat) (want b:Bool) (x:AV)
 | vec (s sz lo n:Nat)
 | elem (s sz i off:Nat)
 | arr (agg:RK) (sz:Nat) (f:Nat→DV)
 | tb (s off:Nat) (T:TypeId)
 | dead
 | jY (s:Nat)
 | mp (kd:Option IntKind) (f:Value→DV) (has:Value→Bool)
def blk (β:Nat→Nat) (s:Nat):Nat:=β (3*s)
def room (β:Nat→Nat) (s:Nat):Nat:=β (3*s+1)
def many (β:Nat→Nat) (s:Nat):Nat:=β (3*s+2)
mutual
def AV.rel (β:Nat→Nat) (h:IH):AV→Value→Prop
 | .any,_=>True
 | .d x,v=>x.rel h v
 | .box s off,v=>v=.pointer (some ⟨blk β s,off,none⟩)
 | .agg l,v=>∃vs:List Value,v=.agg vs.toArray∧AV.aF β h l vs
 | .aN l,v=>∃vs:List Value,v=.tuple vs.toArray∧AV.aF β h l vs
 | .clo fn a c,v=>∃va vc:List Value,v=.func fn va.toArray vc.toArray∧AV.aF β h a va∧AV.aF β h c vc
 | .gate _ _ b x,v=>(b=true→AV.rel β h x v)∧(b=false→v=undef)
 | .vec s sz lo n,v=>lo+n≤many β s∧many β s≤room β s∧∃p,v=.slice p n (room β s-lo)∧(p=some ⟨blk β s,lo*sz,none⟩∨room β s≤lo)
 | .elem s sz i off,v=>i<many β s∧many β s≤room β s∧v=.pointer (some ⟨blk β s,i*sz+off,none⟩)
 | .tb s off T,v=>v=.pointer (some ⟨blk β s,off,none⟩)∧room β s=T
 | .jY s,v=>v=.map (some (blk β s))
 | .arr _ _ _,_ | .dead,_ | .mp _ _ _,_=>False
def AV.aF (β:Nat→Nat) (h:IH):List AV→List Value→Prop
 | [],vs=>vs=[]
 | y :: l,vs=>∃v vs',vs=v :: vs'∧AV.rel β h y v∧AV.aF β h l vs'
end
mutual
def AV.free (s:Nat):AV→Bool
 | .any | .d _ | .arr _ _ _ | .dead | .mp _ _ _=>true
 | .box t _ | .vec t _ _ _ | .elem t _ _ _ | .tb t _ _ | .jY t=>!(Nat.beq t s)
 | .agg l | .aN l=>AV.frees s l
 | .clo _ a c=>AV.frees s a&&AV.frees s c
 | .gate _ _ _ x=>AV.free s x
def AV.frees (s:Nat):List AV→Bool
 | []=>true
 | x :: l=>AV.free s x&&AV.frees s l
end
def upd (β:Nat→Nat) (s b c m:Nat):Nat→Nat:=fun t=>if t=3*s then b else if t=3*s+1 then c else if t=3*s+2 then m else β t
section
variable {β:Nat→Nat} {s t b c m:Nat}
theorem aT:blk (upd β s b c m) s=b:=by simp[blk,upd]
theorem aH:room (upd β s b c m) s=c:=by
 unfold room upd;rw[if_neg (by omega),if_pos rfl]
theorem bH:many (upd β s b c m) s=m:=by
 unfold many upd;rw[if_neg (by omega),if_neg (by omega),if_pos rfl]
theorem aZ (h:t≠s):blk (upd β s b c m) t=blk β t:=by
 unfold blk upd;rw[if_neg (by omega),if_neg (by omega),if_neg (by omega)]
theorem bI (h:t≠s):room (upd β s b c m) t=room β t:=by
 unfold room upd;rw[if_neg (by omega),if_neg (by omega),if_neg (by omega)]
theorem iy (h:t≠s):many (upd β s b c m) t=many β t:=by
 unfold many upd;rw[if_neg (by omega),if_neg (by omega),if_neg (by omega)]
end
mutual
theorem AV.rel.mono {β:Nat→Nat} {h k:IH} (hk:h.le k):∀(x:AV) (v:Value),x.rel β h v→x.rel β k v
 | .any,_,e=>e
 | AV.d x,v,e=>DV.rel.mono hk x v e
 | .box _ _,_,e=>e
 | .agg l,_,⟨vs,e,r⟩=>⟨vs,e,AV.aF.mono hk l vs r⟩
 | .aN l,_,⟨vs,e,r⟩=>⟨vs,e,AV.aF.mono hk l vs r⟩
 | .clo _ a c,_,⟨va,vc,e,ra,rc⟩=>⟨va,vc,e,AV.aF.mono hk a va ra,AV.aF.mono hk c vc rc⟩
 | .gate _ _ _ x,v,⟨e,e'⟩=>⟨fun hb=>AV.rel.mono hk x v (e hb),e'⟩
 | .vec _ _ _ _,_,e=>e
 | .elem _ _ _ _,_,e=>e
 | .tb _ _ _,_,e=>e
 | .jY _,_,e=>e
 | .arr _ _ _,_,e=>e.elim
 | .dead,_,e=>e.elim
 | .mp _ _ _,_,e=>e.elim
theorem AV.aF.mono {β:Nat→Nat} {h k:IH} (hk:h.le k):∀(l:List AV) (vs:List Value),AV.aF β h l vs→AV.aF β k l vs
 | [],_,e=>e
 | y :: l,_,⟨v,vs',e,r,rs⟩=>⟨v,vs',e,AV.rel.mono hk y v r,AV.aF.mono hk l vs' rs⟩
end
mutual
theorem AV.rel.upd {β:Nat→Nat} {h:IH} {s b c m:Nat}:∀(x:AV) (v:Value),x.free s=true→x.rel β h v→x.rel (upd β s b c m) h v
 | .any,_,_,e=>e
 | AV.d _,_,_,e=>e
 | .box t _,_,f,e=>by
  have:t≠s:=by intro hts;subst hts;simp[AV.free] at f
  simp only[AV.rel] at e⊢
  rw[aZ this];exact e
 | .vec t _ _ _,_,f,e=>by
  have:t≠s:=by intro hts;subst hts;simp[AV.free] at f
  simp only[AV.rel] at e⊢
  rw[aZ this,bI this,iy this];exact e
 | .elem t _ _ _,_,f,e=>by
  have:t≠s:=by intro hts;subst hts;simp[AV.free] at f
  simp only[AV.rel] at e⊢
  rw[aZ this,bI this,iy this];exact e
 | .tb t _ _,_,f,e=>by
  have:t≠s:=by intro hts;subst hts;simp[AV.free] at f
  simp only[AV.rel] at e⊢
  rw[aZ this,bI this];exact e
 | .jY t,_,f,e=>by
  have:t≠s:=by intro hts;subst hts;simp[AV.free] at f
  simp only[AV.rel] at e⊢
  rw[aZ this];exact e
 | .arr _ _ _,_,_,e=>e.elim
 | .dead,_,_,e=>e.elim
 | .mp _ _ _,_,_,e=>e.elim
 | .agg l,_,f,⟨vs,e,r⟩=>⟨vs,e,AV.aF.upd l vs f r⟩
 | .aN l,_,f,⟨vs,e,r⟩=>⟨vs,e,AV.aF.upd l vs f r⟩
 | .clo _ a c,_,f,⟨va,vc,e,ra,rc⟩=>by
  simp only[AV.free,aY] at f
  exact⟨va,vc,e,AV.aF.upd a va f.1 ra,AV.aF.upd c vc f.2 rc⟩
 | .gate _ _ _ x,v,f,⟨e,e'⟩=>⟨fun hb=>AV.rel.upd x v f (e hb),e'⟩
theorem AV.aF.upd {β:Nat→Nat} {h:IH} {s b c m:Nat}:∀(l:List AV) (vs:List Value),AV.frees s l=true→AV.aF β h l vs→AV.aF (upd β s b c m) h l vs
 | [],_,_,e=>e
 | y :: l,_,f,⟨v,vs',e,r,rs⟩=>by
  simp only[AV.frees,aY] at f
  exact⟨v,vs',e,AV.rel.upd y v f.1 r,AV.aF.upd l vs' f.2 rs⟩
end
theorem AV.aF.length {β:Nat→Nat} {h:IH}:∀{l:List AV} {vs:List Value},AV.aF β h l vs→vs.length=l.length
 | [],_,e=>by simp only[AV.aF] at e;simp[e]
 | _ :: l,_,⟨_,_,e,_,rs⟩=>by rw[e];simp[AV.aF.length rs]
theorem AV.aF.get {β:Nat→Nat} {h:IH}:∀{l:List AV} {vs:List Value},AV.aF β h l vs→∀{i:Nat} {x:AV},l[i]?=some x→∃v,vs[i]?=some v∧x.rel β h v
 | [],_,_,i,x,hx=>by simp at hx
 | _ :: l,_,⟨v,vs',e,r,rs⟩,i,x,hx=>by
  subst e
  cases i with
  | zero=>simp at hx;subst hx;exact⟨v,rfl,r⟩
  | succ i=>simpa using AV.aF.get rs (i:=i) (by simpa using hx)
theorem AV.aF.UC {β:Nat→Nat} {h:IH}:∀{l:List AV} {vs:List Value},vs.length=l.length→(∀(i:Nat) (x:AV),l[i]?=some x→∃v,vs[i]?=some v∧x.rel β h v)→AV.aF β h l vs
 | [],vs,hl,_=>by simp only[AV.aF];exact List.eq_nil_of_length_eq_zero (by simpa using hl)
 | x :: l,vs,hl,hg=>by
  match vs,hl with
  | v :: vs',hl=>
   obtain ⟨v',hv,hr⟩:=hg 0 x rfl
   simp at hv;subst hv
   exact⟨v,vs',rfl,hr,AV.aF.UC (by simpa using hl) fun i y hy=>by simpa using hg (i+1) y (by simpa using hy)⟩
theorem DV.aF.length {h:IH}:∀{l:List DV} {vs:List Value},DV.aF h l vs→vs.length=l.length
 | [],_,e=>by simp only[DV.aF] at e;simp[e]
 | _ :: l,_,⟨_,_,e,_,rs⟩=>by rw[e];simp[DV.aF.length rs]
theorem AV.gZ {β:Nat→Nat} {h:IH}:∀{l:List DV} {vs:List Value},AV.aF β h (l.map .d) vs↔DV.aF h l vs
 | [],_=>by simp[AV.aF,DV.aF]
 | _ :: l,vs=>by simp only[List.map_cons,AV.aF,DV.aF,AV.rel];exact⟨fun ⟨v,vs',e,r,rs⟩=>⟨v,vs',e,r,AV.gZ.1 rs⟩,fun ⟨v,vs',e,r,rs⟩=>⟨v,vs',e,r,AV.gZ.2 rs⟩⟩
def mD (agg:Bool) (v:Value):Prop:=match agg with|true=>∃cs,v=.agg cs|false=>v.oneCell'=true
def dw (h:IH) (agg:RK) (sz:Nat) (f:Nat→DV) (c m:Nat) (o:Option Obj):Prop:=
 (m≤c∧∀N,agg.mn=some N→c=N∧m=N)∧(c=0∨∃fr,∃vs:List Value,o=some (.cells vs.toArray agg.ty fr)∧(agg.fz=false→∀j,j<vs.length+agg.agg.toNat→¬(fr.1≤j∧j<fr.2))∧vs.length=c*sz∧(∀u∈vs,u.oneCell'=true)∧
  ∀i,i<m→∃v,(f i).rel h v∧mD agg.agg v∧v.cells.size=sz∧∀j,j<sz→vs[i*sz+j]?=v.cells[j]?)
def qN (h:IH) (kd:Option IntKind) (f:Value→DV) (has:Value→Bool) (o:Option Obj):Prop:=
 ∃es clock,o=some (.map es clock)∧MapKept.Stamped es clock∧(∀e∈es.toList,MapKept.IsKey (tJ kd) e.key∧has e.key=true∧(f e.key).rel h e.val)∧
  ∀k,MapKept.IsKey (tJ kd) k→has k=true→∃e∈es.toList,e.key=k
theorem qN.mono {h k:IH} (hk:h.le k) {kd:Option IntKind} {f:Value→DV} {has:Value→Bool} {o:Option Obj} (r:qN h kd f has o):qN k kd f has o:=by
 obtain ⟨es,c,e,h1,h2,h3⟩:=r
 exact⟨es,c,e,h1,fun e he=>⟨(h2 e he).1,(h2 e he).2.1,DV.rel.mono hk _ _ (h2 e he).2.2⟩,h3⟩
def Own (β:Nat→Nat) (h:IH) (s:Nat) (l:List AV) (o:Option Obj):Prop:=match l with
 | [.arr agg sz f]=>dw h agg sz f (room β s) (many β s) o
 | [.dead]=>True
 | [.mp kd f has]=>qN h kd f has o
 | l=>∃T:{T:TypeId // T=room β s},∃vs:List Value,o=some (.cells vs.toArray T.1 (0,0))∧AV.aF β h l vs
def Live (β:Nat→Nat) (s:Nat) (l:List AV):Prop:=match l with
 | [.arr _ _ _]=>0<room β s
 | [.dead]=>False
 | _=>True
def bU (l:List AV):Bool:=match l with
 | [.arr _ _ _] | [.dead] | [.mp _ _ _]=>false
 | _=>true
theorem dN {l:List AV} (hp:bU l=false):(∃agg sz f,l=[.arr agg sz f])∨l=[.dead]∨∃kd f has,l=[.mp kd f has]:=by
 unfold bU at hp
 split at hp
 ·exact .inl ⟨_,_,_,rfl⟩
 ·exact .inr (.inl rfl)
 ·exact .inr (.inr ⟨_,_,_,rfl⟩)
 ·cases hp
theorem Own.plain {β:Nat→Nat} {h:IH} {s:Nat} {l:List AV} {o:Option Obj} (hp:bU l=true):Own β h s l o=∃T:{T:TypeId // T=room β s},∃vs:List Value,o=some (.cells vs.toArray T.1 (0,0))∧AV.aF β h l vs:=by
 unfold bU at hp
 unfold Own
 split at hp
 ·cases hp
 ·cases hp
 ·cases hp
 ·rfl
theorem Live.plain {β:Nat→Nat} {s:Nat} {l:List AV} (hp:bU l=true):Live β s l:=by
 unfold bU at hp
 unfold Live
 split at hp
 ·cases hp
 ·cases hp
 ·cases hp
 ·rename_i h1 h2 h3
  split
  ·exact(h1 _ _ _ rfl).elim
  ·exact(h2 rfl).elim
  ·trivial
theorem dw.mono {h k:IH} (hk:h.le k) {agg:RK} {sz:Nat} {f:Nat→DV} {c m:Nat} {o:Option Obj} (r:dw h agg sz f c m o):dw k agg sz f c m o:=by
 obtain ⟨h1,r⟩:=r
 refine⟨h1,r.imp id ?_⟩
 rintro ⟨fr,vs,e,hf,hl,ho,r⟩
 exact⟨fr,vs,e,hf,hl,ho,fun i hi=>let ⟨v,hv,hs⟩:=r i hi;⟨v,DV.rel.mono hk _ _ hv,hs⟩⟩
theorem Own.mono {h k:IH} (hk:h.le k) {β:Nat→Nat} {s:Nat} {l:List AV} {o:Option Obj} (r:Own β h s l o):Own β k s l o:=by
 cases hp:bU l with
 | true=>
  rw[Own.plain hp] at r⊢
  obtain ⟨T,vs,e,r⟩:=r
  exact⟨T,vs,e,AV.aF.mono hk _ _ r⟩
 | false=>
  rcases dN hp with ⟨agg,sz,f,rfl⟩|rfl|⟨kd,f,has,rfl⟩
  ·exact dw.mono hk r
  ·trivial
  ·exact qN.mono hk r
theorem Own.upd {β:Nat→Nat} {h:IH} {s t b c m:Nat} {l:List AV} {o:Option Obj} (ht:s≠t) (hf:AV.frees t l=true) (r:Own β h s l o):Own (upd β t b c m) h s l o:=by
 cases hp:bU l with
 | true=>
  rw[Own.plain hp] at r⊢
  obtain ⟨T,vs,e,r⟩:=r
  exact⟨⟨T.1,by rw[bI ht];exact T.2⟩,vs,e,AV.aF.upd _ _ hf r⟩
 | false=>
  rcases dN hp with ⟨agg,sz,f,rfl⟩|rfl|⟨kd,f,has,rfl⟩
  ·simp only[Own] at r⊢
   rw[bI ht,iy ht];exact r
  ·trivial
  ·exact r
theorem Live.upd {β:Nat→Nat} {s t b c m:Nat} {l:List AV} (ht:s≠t):Live (upd β t b c m) s l↔Live β s l:=by
 cases hp:bU l with
 | true=>exact⟨fun _=>Live.plain hp,fun _=>Live.plain hp⟩
 | false=>
  rcases dN hp with ⟨agg,sz,f,rfl⟩|rfl|⟨kd,f,has,rfl⟩
  ·simp only[Live];rw[bI ht]
  ·rfl
  ·rfl
structure AS where
 regs:List AV
 boxes:List (Nat×List AV)
def look:List (Nat×List AV)→Nat→Option (List AV)
 | [],_=>none
 | (k,c) :: r,s=>bif Nat.beq k s then some c else look r s
def AS.box (st:AS) (s:Nat):Option (List AV):=look st.boxes s
def AS.reg (st:AS) (t:Nat):AV:=(st.regs[t]?).getD .any
def setCells (s i:Nat) (x:AV):List (Nat×List AV)→List (Nat×List AV)
 | []=>[]
 | (k,c) :: r=>bif Nat.beq k s then (k,c.set i x) :: r else (k,c) :: setCells s i x r
structure Ev where
 dst:Option Nat
 val:AV
 iV:List (Nat×Nat):=[]
 jE:List (Nat×Nat×AV):=[]
 nw:List (Nat×List AV):=[]
def fF:List (Nat×Nat×AV)→List (Nat×List AV)→List (Nat×List AV)
 | [],b=>b
 | (s,i,x) :: r,b=>fF r (setCells s i x b)
def kF (l:List AV) (t:Option Nat) (x:AV):List AV:=match t with|some t=>l.set t x|none=>l
def Ev.app (e:Ev) (st:AS):AS:=⟨kF st.regs e.dst e.val,e.nw++fF e.jE st.boxes⟩
structure Kept (F:Nat→Prop) (w w':World):Prop where
 os:w'.os=w.os
 tape:w'.tape=w.tape
 output:w'.output=w.output
 size:w.heap.size≤w'.heap.size
 block:∀k,k<w.heap.size→¬F k→w'.heap[k]?=w.heap[k]?
theorem Kept.refl (F:Nat→Prop) (w:World):Kept F w w:=⟨rfl,rfl,rfl,Nat.le_refl _,fun _ _ _=>rfl⟩
def K0:Nat:=1000000
structure Fr where
 on:Nat→Prop
 β0:Nat→Nat
structure aO (G:IH) (F:Fr) (w0:World) (h0:IH) (st:AS) (β:Nat→Nat) (h:IH) (tm:Array Value) (w:World):Prop where
 glob:G.le h
 holds:h.holds w
 ext:h0.le h
 old:∀b,b<w0.heap.size→¬F.on b→(∀o,h.cell b o=h0.cell b o)∧h.obj b=h0.obj b
 kept:Kept F.on w0 w
 fix:∀s,K0≤s→blk β s=blk F.β0 s∧room β s=room F.β0 s∧many β s=many F.β0 s
 size:tm.size=st.regs.length
 regs:∀(t:Nat) (x:AV),st.regs[t]?=some x→∃v,tm[t]?=some v∧x.rel β h v
 box:∀s l,st.box s=some l→(Live β s l→(F.on (blk β s)∨w0.heap.size≤blk β s)∧(∀o,h.cell (blk β s) o=none)∧h.obj (blk β s)=none)∧Own β h s l w.heap[blk β s]?
 inj:∀s s' l l',st.box s=some l→st.box s'=some l'→Live β s l→Live β s' l'→blk β s=blk β s'→s=s'
def AS.free (st:AS) (s:Nat):Bool:=Nat.blt s K0&&(AV.frees s st.regs&&st.boxes.all fun b=>AV.frees s b.2)
def Ev.free (e:Ev) (s:Nat):Bool:=AV.free s e.val&&(e.jE.all fun x=>AV.free s x.2.2)&&e.nw.all fun b=>AV.frees s b.2
inductive Loc where
 | reg (t:Nat)
 | cell (s i:Nat)
 | size (s:Nat)
 deriving DecidableEq
def AS.at_ (st:AS):Loc→Option AV×Option Nat
 | .reg t=>(st.regs[t]?,none)
 | .cell s i=>((st.box s).bind (·[i]?),none)
 | .size s=>(none,(st.box s).map List.length)
def Loc.hits:Loc→Loc→Bool
 | .reg t,.reg u=>Nat.beq t u
 | .cell s i,.cell r j=>Nat.beq s r&&Nat.beq i j
 | .size s,.size r=>Nat.beq s r
 | .size s,.cell r _=>Nat.beq s r
 | _,_=>false
def Ev.writes (e:Ev):List Loc:=(match e.dst with|some t=>[.reg t] | none=>[])++(e.jE.map (fun x=>Loc.cell x.1 x.2.1)++e.nw.map (fun b=>Loc.size b.1))
def Ev.wr (e:Ev) (p:Loc):Bool:=e.writes.any (·.hits p)
theorem Loc.FZ {a b p:Loc} (h:a.hits p=true) (k:b.hits p=true):(a.hits b||b.hits a)=true:=by
 cases a<;>cases b<;>cases p<;>simp_all [Loc.hits,Nat.beq_eq]
theorem fP (n:Nat):Nat.beq n n=true:=by simp
theorem aQ {m n:Nat} (h:m≠n):Nat.beq m n=false:=by
 cases hh:Nat.beq m n with
 | true=>exact absurd (Nat.eq_of_beq_eq_true hh) h
 | false=>rfl
theorem o8 (a b:List (Nat×List AV)) (s:Nat):look (a++b) s=(look a s).or (look b s):=by
 induction a with
 | nil=>rfl
 | cons x a ih=>
  obtain ⟨k,c⟩:=x
  simp only[List.cons_append,look]
  cases Nat.beq k s<;>simp[ih]
def cellAt (b:List (Nat×List AV)) (s i:Nat):Option AV:=(look b s).bind (·[i]?)
def AB (b:List (Nat×List AV)) (s:Nat):Option Nat:=(look b s).map List.length
theorem lI (s i:Nat) (x:AV) (b:List (Nat×List AV)) (t:Nat) :
  look (setCells s i x b) t=if t=s then (look b t).map (·.set i x) else look b t:=by
 induction b with
 | nil=>simp[setCells,look]
 | cons y b ih=>
  obtain ⟨k,c⟩:=y
  simp only[setCells]
  by_cases hk:k=s
  ·subst hk
   simp only[fP,cond_true,look]
   by_cases ht:t=k
   ·subst ht;simp
   ·rw[aQ (Ne.symm ht)];simp[ht]
  ·rw[aQ hk]
   simp only[cond_false,look,ih]
   by_cases ht:t=s
   ·subst ht;simp[aQ hk]
   ·simp[ht]
theorem rV (w:List (Nat×Nat×AV)):∀(b:List (Nat×List AV)) (s:Nat),AB (fF w b) s=AB b s:=by
 induction w with
 | nil=>intro b s;rfl
 | cons x w ih=>
  intro b s
  obtain ⟨k,i,x⟩:=x
  simp only[fF]
  rw[ih]
  simp only[AB,lI]
  by_cases hs:s=k
  ·subst hs;cases look b s<;>simp
  ·simp[hs]
theorem uj (s i:Nat) (x:AV) (b:List (Nat×List AV)) (t j:Nat) :
  cellAt (setCells s i x b) t j=if t=s∧j=i then (cellAt b t j).map (fun _=>x) else cellAt b t j:=by
 simp only[cellAt,lI]
 by_cases ht:t=s
 ·subst ht
  cases hl:look b t with
  | none=>simp
  | some c=>
   simp only[↓reduceIte,Option.map_some,Option.bind_some,true_and]
   by_cases hj:j=i
   ·subst hj
    by_cases hlt:j<c.length
    ·simp[hlt]
    ·simp[hlt]
   ·simp[hj,Ne.symm hj]
 ·simp[ht]
theorem Dn (w:List (Nat×Nat×AV)):∀(b b':List (Nat×List AV)) (s i:Nat),cellAt b s i=cellAt b' s i→cellAt (fF w b) s i=cellAt (fF w b') s i:=by
 induction w with
 | nil=>intro b b' s i h;exact h
 | cons x w ih=>
  intro b b' s i h
  obtain ⟨k,m,x⟩:=x
  exact ih _ _ _ _ (by simp only[uj,h])
theorem Dp (w:List (Nat×Nat×AV)):∀(b:List (Nat×List AV)) (s i:Nat),((w.map fun x=>Loc.cell x.1 x.2.1).any (·.hits (.cell s i)))=false→cellAt (fF w b) s i=cellAt b s i:=by
 induction w with
 | nil=>intro b s i h;rfl
 | cons x w ih=>
  intro b s i h
  obtain ⟨k,m,x⟩:=x
  simp only[List.map_cons,List.any_cons,Bool.or_eq_false_iff] at h
  simp only[fF]
  rw[ih _ _ _ h.2,uj]
  have:¬(s=k∧i=m):=by rintro ⟨rfl,rfl⟩;simp[Loc.hits] at h
  rw[if_neg this]
theorem FU (st:AS) (s i:Nat):st.at_ (.cell s i)=(cellAt st.boxes s i,none):=rfl
theorem FP (st:AS) (s:Nat):st.at_ (.size s)=(none,AB st.boxes s):=rfl
theorem fC (l:List AV) (t:Option Nat) (x:AV) (u:Nat):(kF l t x)[u]?=if t=some u then (l[u]?).map (fun _=>x) else l[u]?:=by
 cases t with
 | none=>simp[kF]
 | some t=>
  simp only[kF,aI]
  by_cases h:t=u
  ·subst h
   by_cases hl:t<l.length<;>simp[hl]
  ·simp[h]
theorem EK (e:Ev) {st st':AS} {p:Loc} (h:st.at_ p=st'.at_ p):(e.app st).at_ p=(e.app st').at_ p:=by
 cases p with
 | reg t=>
  simp only[AS.at_,Ev.app,fC] at h⊢
  injection h with h _
  rw[h]
 | cell s i=>
  simp only[FU,Ev.app] at h⊢
  injection h with h _
  have:=Dn e.jE _ _ _ _ h
  simp only[cellAt,o8] at this⊢
  cases look e.nw s<;>simp[this]
 | size s=>
  simp only[FP,Ev.app] at h⊢
  injection h with _ h
  have h1:=rV e.jE st.boxes s
  have h2:=rV e.jE st'.boxes s
  simp only[AB,o8] at h h1 h2⊢
  cases look e.nw s<;>simp_all
theorem RN {nw:List (Nat×List AV)} {s:Nat} (h:((nw.map fun b=>Loc.size b.1).any (·.hits (.size s)))=false):look nw s=none:=by
 induction nw with
 | nil=>rfl
 | cons x nw ih=>
  obtain ⟨k,c⟩:=x
  simp only[List.map_cons,List.any_cons,Bool.or_eq_false_iff,Loc.hits] at h
  simp only[look,h.1,cond_false]
  exact ih h.2
theorem yK {l m:List Loc} {p:Loc} (h:(l++m).any (·.hits p)=false):l.any (·.hits p)=false∧m.any (·.hits p)=false:=by
 simpa [List.any_append] using h
theorem EH (e:Ev) (st:AS) {p:Loc} (h:e.wr p=false):(e.app st).at_ p=st.at_ p:=by
 have h1:=yK h
 have h2:=yK h1.2
 cases p with
 | reg t=>
  simp only[AS.at_,Ev.app,fC]
  have:e.dst≠some t:=by
   intro hd
   have:=h1.1
   simp[hd,Loc.hits] at this
  rw[if_neg this]
 | cell s i=>
  simp only[FU,Ev.app]
  have hn:look e.nw s=none:=RN (by
   have:=h2.2
   simp only[List.any_map,List.any_eq_false,Function.comp,Loc.hits] at this⊢
   exact this)
  have:=Dp e.jE st.boxes s i h2.1
  simp only[cellAt,o8,hn,Option.none_or] at this⊢
  rw[this]
 | size s=>
  simp only[FP,Ev.app]
  have hn:look e.nw s=none:=RN h2.2
  have:=rV e.jE st.boxes s
  simp only[AB,o8,hn,Option.none_or] at this⊢
  rw[this]
theorem Bq (e:Ev) (st:AS):(e.app st).regs.length=st.regs.length:=by
 simp only[Ev.app];cases e.dst<;>simp[kF]
theorem EW {st st':AS} (h:∀p,st.at_ p=st'.at_ p) (s:Nat):st.box s=st'.box s:=by
 have hs:=h (.size s)
 simp only[AS.at_,bg,true_and] at hs
 have hc:∀i,(st.box s).bind (·[i]?)=(st'.box s).bind (·[i]?):=fun i=>by
  have:=h (.cell s i)
  simpa [AS.at_] using this
 cases h1:st.box s with
 | none=>cases h2:st'.box s with
  | none=>rfl
  | some c'=>simp[h1,h2] at hs
 | some c=>cases h2:st'.box s with
  | none=>simp[h1,h2] at hs
  | some c'=>
   simp only[h1,h2,Option.bind_some] at hc
   rw[List.ext_getElem? hc]
theorem aO.congr {G:IH} {F:Fr} {w0:World} {h0:IH} {st st':AS} {β:Nat→Nat} {h:IH} {tm:Array Value} {w:World}
  (g:aO G F w0 h0 st β h tm w) (hl:st.regs.length=st'.regs.length) (ha:∀p,st.at_ p=st'.at_ p):aO G F w0 h0 st' β h tm w where
 glob:=g.glob
 holds:=g.holds
 ext:=g.ext
 old:=g.old
 kept:=g.kept
 fix:=g.fix
 size:=g.size.trans hl
 regs t x hx:=g.regs t x (by
  have:=ha (.reg t)
  simp only[AS.at_,bg,and_true] at this
  rw[this];exact hx)
 box s l hb:=g.box s l (by rw[EW ha];exact hb)
 inj s s' l l' hb hb':=g.inj s s' l l' (by rw[EW ha];exact hb) (by rw[EW ha];exact hb')
end Go.Ab
namespace Go.Ab
open Go Go.RowKit
def slots (xs:Array Operand):List Loc:=xs.toList.filterMap fun | .tmp t=>some (.reg t)|_=>none
def looks (ops:List Oper) (o:Oper) (e:Ev):List Loc:=
 slots o.op.operands++((match o.guard with|some (j,_)=>(match (ops[j]?).bind (·.dst) with|some g=>[.reg g] | none=>[])|none=>[]) ++
  (e.iV.map (fun x=>Loc.cell x.1 x.2)++e.writes))
def touches (ops:List Oper) (o:Oper) (e:Ev) (p:Loc):Bool:=(looks ops o e).any (·.hits p)
theorem Tz {ops:List Oper} {o:Oper} {e:Ev} {p:Loc} (h:e.wr p=true):touches ops o e p=true:=by
 simp only[touches,looks,List.any_append,Bool.or_eq_true]
 exact .inr (.inr (.inr h))
def xg (P:Program) (G:IH) (F:Fr) (w0:World) (h0:IH) (ops:List Oper) (o:Oper) (st:AS) (e:Ev):Prop:=
 ∀(st':AS) (β:Nat→Nat) (h:IH) (a:Act) (w:World) (K:Act→World→Prop) (Q:Exit→Act→World→Prop),
  st'.regs.length=st.regs.length→(∀p,touches ops o e p=true→st'.at_ p=st.at_ p)→(∀b∈e.nw,st'.free b.1=true)→
  aO G F w0 h0 st' β h a.tmps w→a.defers=[]→
  (∀(a':Act) (w':World) (β':Nat→Nat) (h':IH),a'.defers=[]→aO G F w0 h0 (e.app st') β' h' a'.tmps w'→K a' w')→
  if Region.wanted o (yielded ops.toArray a.tmps) then o.wp P a w K Q else K (a.put o.dst undef) w
def EX (P:Program) (G:IH) (ops:List Oper) (o:Oper) (st:AS) (e:Ev):Prop:=∀(F:Fr) (w0:World) (h0:IH),xg P G F w0 h0 ops o st e
def fold (D:Nat→Bool):Nat→List Ev→AS→AS
 | _,[],st=>st
 | i,e :: es,st=>fold D (i+1) es (bif D i then e.app st else st)
theorem vV (D:Nat→Bool):∀(i:Nat) (es:List Ev) (st:AS),(fold D i es st).regs.length=st.regs.length
 | _,[],_=>rfl
 | i,e :: es,st=>by
  simp only[fold]
  rw[vV]
  cases D i
  ·rfl
  ·exact Bq e st
theorem fold_at {D D':Nat→Bool} {p:Loc}:∀(i:Nat) (es:List Ev) (st st':AS),st.at_ p=st'.at_ p→
  (∀(j:Nat) (e:Ev),es[j]?=some e→e.wr p=true→D (i+j)=D' (i+j))→(fold D i es st).at_ p=(fold D' i es st').at_ p
 | _,[],_,_,h,_=>h
 | i,e :: es,st,st',h,hd=>by
  simp only[fold]
  refine fold_at (i+1) es _ _ ?_ fun j e' he hw=>by
   have:=hd (j+1) e' (by simpa using he) hw
   rwa [show i+(j+1)=i+1+j from by omega] at this
  have hi:=hd 0 e rfl
  rw[Nat.add_zero] at hi
  cases hw:e.wr p with
  | true=>
   rw[hi hw]
   cases D' i
   ·exact h
   ·exact EK e h
  | false=>
   cases D i<;>cases D' i<;>simp only[cond_true,cond_false,EH e _ hw,h]
theorem sV {D:Nat→Bool} {s:Nat}:∀(i:Nat) (es:List Ev) (st:AS),st.free s=true→
  (∀(j:Nat) (e:Ev),es[j]?=some e→D (i+j)=true→e.free s=true)→(fold D i es st).free s=true
 | _,[],_,h,_=>h
 | i,e :: es,st,h,hd=>by
  simp only[fold]
  refine sV (i+1) es _ ?_ fun j e' he hw=>hd (j+1) e' (by simpa using he) (by rwa [show i+1+j=i+(j+1) from by omega] at hw)
  cases hD:D i with
  | false=>exact h
  | true=>
   have he:=hd 0 e rfl hD
   simp only[AS.free,aY,Ev.free] at h he⊢
   refine⟨h.1,?_⟩
   replace h:=h.2
   have hset:∀(w:List (Nat×Nat×AV)) (b:List (Nat×List AV)),(w.all fun x=>AV.free s x.2.2)=true→(b.all fun b=>AV.frees s b.2)=true→
     ((fF w b).all fun b=>AV.frees s b.2)=true:=by
    intro w
    induction w with
    | nil=>intro b _ hb;exact hb
    | cons x w ih=>
     intro b hw hb
     simp only[List.all_cons,aY] at hw
     refine ih _ hw.2 ?_
     have hs:∀(l:List AV) (i:Nat) (x:AV),AV.free s x=true→AV.frees s l=true→AV.frees s (l.set i x)=true:=by
      intro l
      induction l with
      | nil=>intro i x _ hl;simpa using hl
      | cons y l ihl=>
       intro i x hx hl
       simp only[AV.frees,aY] at hl
       cases i with
       | zero=>simp[AV.frees,hx,hl.2]
       | succ i=>simp[AV.frees,hl.1,ihl i x hx hl.2]
     have:∀b:List (Nat×List AV),(b.all fun b=>AV.frees s b.2)=true→((setCells x.1 x.2.1 x.2.2 b).all fun b=>AV.frees s b.2)=true:=by
      intro b
      induction b with
      | nil=>intro _;rfl
      | cons y b ihb=>
       intro hb
       simp only[List.all_cons,aY] at hb
       simp only[setCells]
       cases Nat.beq y.1 x.1 with
       | true=>simp[hs _ _ _ hw.1 hb.1];simpa using hb.2
       | false=>simp only[cond_false,List.all_cons,aY];exact⟨hb.1,ihb hb.2⟩
     exact this b hb
   have uh:∀(l:List AV) (t:Option Nat) (x:AV),AV.free s x=true→AV.frees s l=true→AV.frees s (kF l t x)=true:=by
    intro l t x hx hl
    cases t with
    | none=>exact hl
    | some t=>
     simp only[kF]
     induction l generalizing t with
     | nil=>simpa using hl
     | cons y l ihl=>
      simp only[AV.frees,aY] at hl
      cases t with
      | zero=>simp[AV.frees,hx,hl.2]
      | succ t=>simp[AV.frees,hl.1,ihl hl.2 t]
   simp only[cond_true,Ev.app,List.all_append,aY]
   exact⟨uh _ _ _ he.1.1 h.1,he.2,hset _ _ he.1.2 h.2⟩
def Eh (acc:List Nat):List Edge→Nat→Nat
 | [],s=>s
 | e :: es,s=>Eh acc es (bif Region.binds .any e then s ||| (2 ^ e.on ||| acc.getD e.on 0) else s)
def MI:List Oper→List Nat→List Nat
 | [],acc=>acc
 | o :: os,acc=>MI os (acc++[Eh acc o.after.toList 0])
def Ag (e:Ev) (l:List Loc):Bool:=e.writes.any fun x=>l.any fun y=>x.hits y||y.hits x
def clash (ops:List Oper) (a b:Oper×Ev):Bool:=Ag a.2 (looks ops b.1 b.2)||Ag b.2 (looks ops a.1 a.2)
def qj (ops:List Oper) (m:List Nat) (i:Nat) (x:Oper×Ev) (j:Nat) (y:Oper×Ev):Bool:=
 (!clash ops x y||(m.getD j 0).testBit i)&&(x.2.nw.all fun b=>y.2.free b.1||(m.getD j 0).testBit i)&&y.2.nw.all fun b=>x.2.free b.1
def FH (ops:List Oper) (m:List Nat) (i:Nat) (x:Oper×Ev):Nat→List (Oper×Ev)→Bool
 | _,[]=>true
 | j,y :: l=>qj ops m i x j y&&FH ops m i x (j+1) l
def BN (ops:List Oper) (m:List Nat):Nat→List (Oper×Ev)→Bool
 | _,[]=>true
 | i,x :: l=>FH ops m i x (i+1) l&&BN ops m (i+1) l
def wF:Nat→List Oper→Bool
 | _,[]=>true
 | i,o :: l=>(o.after.toList.all fun e=>!Region.binds .any e||Nat.blt e.on i)&&wF (i+1) l
def jG (st:AS) (evs:List Ev):Bool:=evs.all fun e=>e.nw.all fun b=>st.free b.1
def pG (ops:List Oper) (evs:List Ev):Bool:=wF 0 ops&&BN ops (MI ops []) 0 (ops.zip evs)
theorem F9 {ops:List Oper} {m:List Nat} {i:Nat} {x:Oper×Ev}:∀{j:Nat} {l:List (Oper×Ev)},FH ops m i x j l=true→
  ∀{k:Nat} {y:Oper×Ev},l[k]?=some y→qj ops m i x (j+k) y=true
 | _,[],_,_,_,h=>by simp at h
 | j,z :: l,hp,k,y,h=>by
  simp only[FH,aY] at hp
  cases k with
  | zero=>simp at h;subst h;exact hp.1
  | succ k=>rw[show j+(k+1)=j+1+k from by omega];exact F9 hp.2 (by simpa using h)
theorem xU {ops:List Oper} {m:List Nat}:∀{i:Nat} {l:List (Oper×Ev)},BN ops m i l=true→
  ∀{p q:Nat} {x y:Oper×Ev},p<q→l[p]?=some x→l[q]?=some y→qj ops m (i+p) x (i+q) y=true
 | _,[],_,_,_,_,_,_,h,_=>by simp at h
 | i,z :: l,hp,p,q,x,y,hpq,hx,hy=>by
  simp only[BN,aY] at hp
  cases q with
  | zero=>omega
  | succ q=>
   cases p with
   | zero=>
    simp at hx;subst hx
    rw[show i+(q+1)=i+1+q from by omega]
    exact F9 hp.1 (by simpa using hy)
   | succ p=>
    rw[show i+(p+1)=i+1+p from by omega,show i+(q+1)=i+1+q from by omega]
    exact xU hp.2 (by omega) (by simpa using hx) (by simpa using hy)
theorem Bc:∀{i:Nat} {l:List Oper},wF i l=true→∀{k:Nat} {o:Oper},l[k]?=some o→∀e∈o.after,Region.binds .any e=true→e.on<i+k
 | _,[],_,_,_,h=>by simp at h
 | i,z :: l,hp,k,o,h=>by
  simp only[wF,aY] at hp
  cases k with
  | zero=>
   simp at h;subst h
   intro e he hb
   have:=List.all_eq_true.1 hp.1 e (by simpa using he)
   rw[hb] at this
   simp only[Bool.not_true,Bool.false_or] at this
   rwa [Nat.blt_eq] at this
  | succ k=>
   rw[show i+(k+1)=i+1+k from by omega]
   exact Bc hp.2 (by simpa using h)
theorem IJ {acc:List Nat} {i:Nat}:∀{es:List Edge} {s:Nat},(Eh acc es s).testBit i=true→
  s.testBit i=true∨∃e∈es,Region.binds .any e=true∧(i=e.on∨(acc.getD e.on 0).testBit i=true)
 | [],_,h=>.inl h
 | e :: es,s,h=>by
  rcases IJ (es:=es) h with h|⟨e',he,hb⟩
  ·cases hb:Region.binds .any e with
   | false=>rw[hb] at h;exact .inl h
   | true=>
    rw[hb] at h
    simp only[cond_true,Nat.testBit_or,Nat.testBit_two_pow,Bool.or_eq_true,eF] at h
    rcases h with h|h|h
    ·exact .inl h
    ·exact .inr ⟨e,by simp,hb,.inl h.symm⟩
    ·exact .inr ⟨e,by simp,hb,.inr h⟩
  ·exact .inr ⟨e',by simp[he],hb⟩
def Closed (ops:List Oper) (D:Nat→Bool):Prop:=∀(j:Nat) (o:Oper),ops[j]?=some o→D j=true→∀e∈o.after,Region.binds .any e=true→D e.on=true
theorem JI {ops:List Oper} {D:Nat→Bool} (hc:Closed ops D):∀(post pre:List Oper) (acc:List Nat),ops=pre++post→acc.length=pre.length→
  (∀j i,(acc.getD j 0).testBit i=true→D j=true→D i=true)→∀j i,((MI post acc).getD j 0).testBit i=true→D j=true→D i=true
 | [],_,_,_,_,h=>h
 | o :: post,pre,acc,he,hl,h=>by
  refine JI hc post (pre++[o]) (acc++[Eh acc o.after.toList 0]) (by simp[he]) (by simp[hl]) ?_
  intro j i hb hd
  by_cases hj:j<acc.length
  ·refine h j i ?_ hd
   simpa [List.getD_eq_getElem?_getD,List.getElem?_append_left hj] using hb
  ·by_cases hj':j=acc.length
   ·subst hj'
    simp only[List.getD_eq_getElem?_getD,List.getElem?_concat_length,Option.getD_some] at hb
    rcases IJ hb with hz|⟨e,hm,hbd,hi⟩
    ·simp at hz
    ·have hon:=hc _ o (by rw[he,hl];simp) hd e (by simpa using hm) hbd
     rcases hi with rfl|hi
     ·exact hon
     ·exact h _ _ hi hon
   ·have:(acc++[Eh acc o.after.toList 0]).getD j 0=0:=by
     rw[List.getD_eq_getElem?_getD,List.getElem?_eq_none (by simp;omega)];rfl
    rw[this] at hb;simp at hb
theorem nT {ops:List Oper} {D:Nat→Bool} (hc:Closed ops D) {j i:Nat} (h:((MI ops []).getD j 0).testBit i=true) (hd:D j=true):D i=true:=
 JI hc ops [] [] rfl rfl (by simp) j i h hd
theorem aO.drew {G:IH} {F:Fr} {w0:World} {h0:IH} {st:AS} {β:Nat→Nat} {h:IH} {tm:Array Value} {w:World}
  (g:aO G F w0 h0 st β h tm w) (n:Nat):aO G F w0 h0 st β h tm { w with drawn:=n } where
 glob:=g.glob
 holds:=g.holds
 ext:=g.ext
 old:=g.old
 kept:=⟨g.kept.os,g.kept.tape,g.kept.output,g.kept.size,g.kept.block⟩
 fix:=g.fix
 size:=g.size
 regs:=g.regs
 box:=g.box
 inj:=g.inj
theorem filter_lt {p q:Nat→Bool}:∀{l:List Nat} {i:Nat},(∀x,q x=true→p x=true)→i∈l→p i=true→q i=false→(l.filter q).length<(l.filter p).length
 | [],_,_,h,_,_=>by simp at h
 | y :: l,i,hpq,hi,hp,hq=>by
  have hle:∀l:List Nat,(l.filter q).length≤(l.filter p).length:=by
   intro l
   induction l with
   | nil=>simp
   | cons z l ih=>
    simp only[List.filter_cons]
    cases hqz:q z with
    | true=>simp[hpq z hqz,ih]
    | false=>cases p z<;>simp<;>omega
  simp only[List.mem_cons] at hi
  simp only[List.filter_cons]
  rcases hi with rfl|hi
  ·simp only[hp,hq,↓reduceIte,List.length_cons,Bool.false_eq_true]
   have:=hle l;omega
  ·have:=filter_lt (l:=l) hpq hi hp hq
   cases hqz:q y with
   | true=>simp only[hpq y hqz,↓reduceIte,List.length_cons];omega
   | false=>cases p y<;>simp<;>omega
section region
variable {P:Program} {G:IH} {ops:List Oper} {evs:List Ev} {st0:AS}
def ahead (evs:List Ev) (st0:AS) (i:Nat):AS:=fold (fun j=>Nat.blt j i) 0 evs st0
variable (hlen:evs.length=ops.length)
include hlen
theorem PI {D:Nat→Bool} (hc:Closed ops D) (hord:pG ops evs=true)
  {i:Nat} {o:Oper} {e:Ev} (ho:ops[i]?=some o) (he:evs[i]?=some e) (hD:D i=false)
  (hpre:∀e∈o.after,Region.binds .any e=true→D e.on=true) :
  ∀p,touches ops o e p=true→(fold D 0 evs st0).at_ p=(ahead evs st0 i).at_ p:=by
 simp only[pG,aY] at hord
 have Cc:∀{p q:Nat} {x y:Oper×Ev},p<q→(ops.zip evs)[p]?=some x→(ops.zip evs)[q]?=some y→qj ops (MI ops []) p x q y=true:=fun hpq hx hy=>by
  have:=xU hord.2 hpq hx hy
  simpa using this
 have hz:∀{j:Nat} {e':Ev},evs[j]?=some e'→∃o',ops[j]?=some o'∧(ops.zip evs)[j]?=some (o',e'):=by
  intro j e' he'
  have hj:j<ops.length:=by rw[←hlen];exact(List.getElem?_eq_some_iff.1 he').1
  exact⟨ops[j],by simp[hj],by simp[List.getElem?_zip_eq_some,hj,he']⟩
 have hzi:(ops.zip evs)[i]?=some (o,e):=by simp[List.getElem?_zip_eq_some,ho,he]
 have hc':Closed ops (fun j=>D j||Nat.beq j i):=by
  intro j o' ho' hj e' he' hb
  simp only[Bool.or_eq_true] at hj⊢
  rcases hj with hj|hj
  ·exact .inl (hc j o' ho' hj e' he' hb)
  ·have:j=i:=Nat.eq_of_beq_eq_true hj
   subst this
   rw[ho] at ho';injection ho' with ho';subst ho'
   exact .inl (hpre e' he' hb)
 -- what writes where the operation looks: exactly what stands ahead of it in the text has been done
 have key:∀(p:Loc) (j:Nat) (e':Ev),j≠i→evs[j]?=some e'→(touches ops o e p=true∧e'.wr p=true)→D j=Nat.blt j i:=by
  intro p j e' hne he' ⟨ht,hw⟩
  obtain ⟨o',ho',hz'⟩:=hz he'
  have EL:Ag e' (looks ops o e)=true:=by
   simp only[touches,List.any_eq_true,Ev.wr] at ht hw
   obtain ⟨y,hy,hyp⟩:=ht
   obtain ⟨x,hx,hxp⟩:=hw
   simp only[Ag,List.any_eq_true]
   exact⟨x,hx,y,hy,Loc.FZ hxp hyp⟩
  rcases Nat.lt_or_gt_of_ne hne with hlt|hgt
  ·have hp:=Cc hlt hz' hzi
   simp only[qj,clash,EL,Bool.true_or,Bool.not_true,Bool.false_or,aY] at hp
   have zy:(fun j=>D j||Nat.beq j i) j=true:=nT hc' hp.1.1 (by simp)
   simp only[aQ hne,Bool.or_false] at zy
   rw[zy];symm;rw[Nat.blt_eq];exact hlt
  ·have hp:=Cc hgt hzi hz'
   simp only[qj,clash,EL,Bool.or_true,Bool.not_true,Bool.false_or,aY] at hp
   cases zy:D j with
   | false=>symm;cases hb:Nat.blt j i with
    | false=>rfl
    | true=>rw[Nat.blt_eq] at hb;omega
   | true=>
    have:=nT hc hp.1.1 zy
    rw[hD] at this;cases this
 intro p hp
 refine fold_at 0 evs _ _ rfl fun j e' he' hw=>?_
 simp only[Nat.zero_add]
 by_cases hj:j=i
 ·subst hj
  rw[hD];symm;cases hb:Nat.blt j j with
   | false=>rfl
   | true=>rw[Nat.blt_eq] at hb;omega
 ·exact key p j e' hj he' ⟨hp,hw⟩
theorem GN {D:Nat→Bool} (hc:Closed ops D) (hord:pG ops evs=true) (hfr:jG st0 evs=true)
  {i:Nat} {o:Oper} {e:Ev} {F:Fr} {w0:World} {h0:IH} (hop:xg P G F w0 h0 ops o (ahead evs st0 i) e) (ho:ops[i]?=some o) (he:evs[i]?=some e) (hD:D i=false)
  (hpre:∀e∈o.after,Region.binds .any e=true→D e.on=true)
  {β:Nat→Nat} {h:IH} {a:Act} {w:World} {K:Act→World→Prop} {Q:Exit→Act→World→Prop}
  (g:aO G F w0 h0 (fold D 0 evs st0) β h a.tmps w) (hd:a.defers=[])
  (hK:∀(a':Act) (w':World) (β':Nat→Nat) (h':IH),a'.defers=[]→aO G F w0 h0 (fold (fun j=>D j||Nat.beq j i) 0 evs st0) β' h' a'.tmps w'→K a' w') :
  if Region.wanted o (yielded ops.toArray a.tmps) then o.wp P a w K Q else K (a.put o.dst undef) w:=by
 have ab1:=hord
 simp only[pG,aY] at hord
 have Cc:∀{p q:Nat} {x y:Oper×Ev},p<q→(ops.zip evs)[p]?=some x→(ops.zip evs)[q]?=some y→qj ops (MI ops []) p x q y=true:=fun hpq hx hy=>by
  have:=xU hord.2 hpq hx hy
  simpa using this
 have hz:∀{j:Nat} {e':Ev},evs[j]?=some e'→∃o',ops[j]?=some o'∧(ops.zip evs)[j]?=some (o',e'):=by
  intro j e' he'
  have hj:j<ops.length:=by rw[←hlen];exact(List.getElem?_eq_some_iff.1 he').1
  exact⟨ops[j],by simp[hj],by simp[List.getElem?_zip_eq_some,hj,he']⟩
 have hzi:(ops.zip evs)[i]?=some (o,e):=by simp[List.getElem?_zip_eq_some,ho,he]
 have hc':Closed ops (fun j=>D j||Nat.beq j i):=by
  intro j o' ho' hj e' he' hb
  simp only[Bool.or_eq_true] at hj⊢
  rcases hj with hj|hj
  ·exact .inl (hc j o' ho' hj e' he' hb)
  ·have:j=i:=Nat.eq_of_beq_eq_true hj
   subst this
   rw[ho] at ho';injection ho' with ho';subst ho'
   exact .inl (hpre e' he' hb)
 -- what writes where the operation looks: exactly what stands ahead of it in the text has been done
 have key:∀(p:Loc) (j:Nat) (e':Ev),j≠i→evs[j]?=some e'→(touches ops o e p=true∧e'.wr p=true)→D j=Nat.blt j i:=by
  intro p j e' hne he' ⟨ht,hw⟩
  obtain ⟨o',ho',hz'⟩:=hz he'
  have EL:Ag e' (looks ops o e)=true:=by
   simp only[touches,List.any_eq_true,Ev.wr] at ht hw
   obtain ⟨y,hy,hyp⟩:=ht
   obtain ⟨x,hx,hxp⟩:=hw
   simp only[Ag,List.any_eq_true]
   exact⟨x,hx,y,hy,Loc.FZ hxp hyp⟩
  rcases Nat.lt_or_gt_of_ne hne with hlt|hgt
  ·have hp:=Cc hlt hz' hzi
   simp only[qj,clash,EL,Bool.true_or,Bool.not_true,Bool.false_or,aY] at hp
   have zy:(fun j=>D j||Nat.beq j i) j=true:=nT hc' hp.1.1 (by simp)
   simp only[aQ hne,Bool.or_false] at zy
   rw[zy];symm;rw[Nat.blt_eq];exact hlt
  ·have hp:=Cc hgt hzi hz'
   simp only[qj,clash,EL,Bool.or_true,Bool.not_true,Bool.false_or,aY] at hp
   cases zy:D j with
   | false=>symm;cases hb:Nat.blt j i with
    | false=>rfl
    | true=>rw[Nat.blt_eq] at hb;omega
   | true=>
    have:=nT hc hp.1.1 zy
    rw[hD] at this;cases this
 have agree:=PI (st0:=st0) hlen hc ab1 ho he hD hpre
 refine hop (fold D 0 evs st0) β h a w K Q ?_ agree ?_ g hd ?_
 ·simp[ahead,vV]
 ·intro b hb
  refine sV 0 evs st0 ?_ fun j e' he' zy=>?_
  ·simp only[jG,List.all_eq_true] at hfr
   exact hfr e (List.mem_of_getElem? he) b hb
  ·simp only[Nat.zero_add] at zy
   obtain ⟨o',ho',hz'⟩:=hz he'
   have hne:j≠i:=by rintro rfl;rw[hD] at zy;cases zy
   rcases Nat.lt_or_gt_of_ne hne with hlt|hgt
   ·have hp:=Cc hlt hz' hzi
    simp only[qj,aY,List.all_eq_true] at hp
    exact hp.2 b hb
   ·have hp:=Cc hgt hzi hz'
    simp only[qj,aY,List.all_eq_true] at hp
    have:=hp.1.2 b hb
    simp only[Bool.or_eq_true] at this
    rcases this with h1|h1
    ·exact h1
    ·have:=nT hc h1 zy
     rw[hD] at this;cases this
 ·intro a' w' β' h' hd' g'
  refine hK a' w' β' h' hd' (g'.congr ?_ ?_)
  ·rw[Bq,vV,vV]
  ·intro p
   cases hw:e.wr p with
   | false=>
    rw[EH e _ hw]
    refine fold_at 0 evs _ _ rfl fun j e' he' hw'=>?_
    simp only[Nat.zero_add]
    have hne:j≠i:=by rintro rfl;rw[he] at he';injection he' with he';subst he';rw[hw] at hw';cases hw'
    rw[aQ hne,Bool.or_false]
   | true=>
    have ht:=Tz (ops:=ops) (o:=o) hw
    rw[EK e (agree p ht)]
    -- both sides: the text's order up to and with operation i
    have hsplit:∀(es:List Ev) (k:Nat) (st:AS),(∀e',es[i-k]?=some e'→k≤i→e'=e)→k≤i→i-k<es.length→
      (e.app (fold (fun j=>Nat.blt j i) k es st)).at_ p=(fold (fun j=>Nat.blt j (i+1)) k es st).at_ p:=by
     intro es
     induction es with
     | nil=>intro k st _ _ hlt;simp at hlt
     | cons x es ih=>
      intro k st hx hk hlt
      simp only[fold]
      by_cases hki:k=i
      ·subst hki
       have hxe:x=e:=hx x (by simp) (Nat.le_refl _)
       subst hxe
       have h1:Nat.blt k k=false:=by cases hb:Nat.blt k k with
        | false=>rfl
        | true=>rw[Nat.blt_eq] at hb;omega
       have h2:Nat.blt k (k+1)=true:=by rw[Nat.blt_eq];omega
       simp only[h1,h2,cond_true,cond_false]
       have hno:∀(m:Nat) (es:List Ev) (st:AS),k<m→fold (fun j=>Nat.blt j k) m es st=st∧fold (fun j=>Nat.blt j (k+1)) m es st=st:=by
        intro m es
        induction es generalizing m with
        | nil=>intro st _;exact⟨rfl,rfl⟩
        | cons z es ihz=>
         intro st hm
         have h3:Nat.blt m k=false:=by cases hb:Nat.blt m k with
          | false=>rfl
          | true=>rw[Nat.blt_eq] at hb;omega
         have h4:Nat.blt m (k+1)=false:=by cases hb:Nat.blt m (k+1) with
          | false=>rfl
          | true=>rw[Nat.blt_eq] at hb;omega
         simp only[fold,h3,h4,cond_false]
         exact ihz (m+1) st (by omega)
       rw[(hno (k+1) es st (by omega)).1,(hno (k+1) es _ (by omega)).2]
      ·have h1:Nat.blt k i=true:=by rw[Nat.blt_eq];omega
       have h2:Nat.blt k (i+1)=true:=by rw[Nat.blt_eq];omega
       simp only[h1,h2,cond_true]
       refine ih (k+1) _ (fun e' he' hk'=>hx e' ?_ hk) (by omega) (by simp at hlt;omega)
       rw[show i-k=(i-(k+1))+1 from by omega]
       simpa using he'
    rw[ahead,hsplit evs 0 st0 (fun e' he' _=>by simp only[Nat.sub_zero] at he';rw[he] at he';injection he' with he';exact he'.symm) (Nat.zero_le _)
     (by have:=(List.getElem?_eq_some_iff.1 he).1;simpa using this)]
    refine fold_at 0 evs _ _ rfl fun j e' he' hw'=>?_
    simp only[Nat.zero_add]
    by_cases hj:j=i
    ·subst hj;simp only[fP,Bool.or_true];rw[Nat.blt_eq];omega
    ·rw[aQ hj,Bool.or_false,key p j e' hj he' ⟨ht,hw'⟩]
     cases hb:Nat.blt j i with
     | true=>rw[Nat.blt_eq] at hb⊢;omega
     | false=>cases hb':Nat.blt j (i+1) with
      | false=>rfl
      | true=>
       rw[Nat.blt_eq] at hb'
       have:¬j<i:=by intro hlt;rw[←Nat.blt_eq,hb] at hlt;cases hlt
       omega
end region
end Go.Ab
namespace Go.Ab
open Go Go.RowKit
def iK:List Ev→AS→AS
 | [],st=>st
 | e :: es,st=>iK es (e.app st)
theorem O4:∀(i:Nat) (es:List Ev) (st:AS) {D:Nat→Bool},(∀j,i≤j→j<i+es.length→D j=true)→fold D i es st=iK es st
 | _,[],_,_,_=>rfl
 | i,e :: es,st,D,h=>by
  simp only[fold,iK,h i (Nat.le_refl _) (by simp),cond_true]
  exact O4 (i+1) es _ fun j hj hj'=>h j (by omega) (by simp;omega)
theorem vX:∀(i:Nat) (es:List Ev) (st:AS) {D:Nat→Bool},(∀j,i≤j→D j=false)→fold D i es st=st
 | _,[],_,_,_=>rfl
 | i,e :: es,st,D,h=>by
  simp only[fold,h i (Nat.le_refl _),cond_false]
  exact vX (i+1) es _ fun j hj=>h j (by omega)
theorem ER (n:Nat):∀(i:Nat) (es:List Ev) (st:AS),i≤n→fold (fun j=>Nat.blt j n) i es st=iK (es.take (n-i)) st
 | _,[],_,_=>by simp[fold,iK]
 | i,e :: es,st,h=>by
  by_cases hi:i=n
  ·subst hi
   rw[Nat.sub_self,List.take_zero]
   exact vX i (e :: es) st fun j hj=>by
    cases hb:Nat.blt j i with
    | false=>rfl
    | true=>rw[Nat.blt_eq] at hb;omega
  ·have h1:Nat.blt i n=true:=by rw[Nat.blt_eq];omega
   simp only[fold,h1,cond_true]
   rw[ER n (i+1) es _ (by omega),show n-i=(n-(i+1))+1 from by omega,List.take_succ_cons]
   rfl
theorem vK (evs:List Ev) (st0:AS) (i:Nat):ahead evs st0 i=iK (evs.take i) st0:=by
 unfold ahead;simpa using ER i 0 evs st0 (Nat.zero_le _)
def kH (P:Program) (G:IH) (all:List Oper):List Oper→List Ev→AS→Prop
 | [],es,_=>es=[]
 | o :: os,es,st=>∃e es',es=e :: es'∧EX P G all o st e∧kH P G all os es' (e.app st)
theorem kH.length {P:Program} {G:IH} {all:List Oper}:∀{l:List Oper} {es:List Ev} {st:AS},kH P G all l es st→es.length=l.length
 | [],_,_,h=>by simp only[kH] at h;simp[h]
 | _ :: _,_,_,⟨_,_,e,_,hs⟩=>by rw[e];simp[kH.length hs]
theorem kH.get {P:Program} {G:IH} {all:List Oper}:∀{l:List Oper} {es:List Ev} {st:AS},kH P G all l es st→
  ∀{i:Nat} {o:Oper} {e:Ev},l[i]?=some o→es[i]?=some e→EX P G all o (iK (es.take i) st) e
 | [],_,_,_,_,_,_,ho,_=>by simp at ho
 | _ :: _,_,_,⟨e',es',he',hop,hs⟩,i,o,e,ho,he=>by
  subst he'
  cases i with
  | zero=>simp at ho he;subst ho he;simpa [iK] using hop
  | succ i=>
   simp only[List.take_succ_cons,iK]
   exact kH.get hs (by simpa using ho) (by simpa using he)
section
variable {P:Program} {G:IH} {ops:List Oper} {evs:List Ev} {st0:AS}
theorem Fa {o:Oper} {a:Act} {w:World} {K:Act→World→Prop} {Q:Exit→Act→World→Prop} {c:Prop} [Decidable c]
  (h:if c then o.wp P a w K Q else K (a.put o.dst undef) w):if c then o.wp P a w K Q∨(o.asks P a w∧LetsOut Q) else K (a.put o.dst undef) w:=by
 split at h
 ·rename_i hc;rw[if_pos hc];exact .inl h
 ·rename_i hc;rw[if_neg hc];exact h
theorem LJ (all:List Oper):∀(l:List Oper) (es:List Ev) (st:AS) (k:Nat),(∀j,l[j]?=all[k+j]?)→kH P G all l es st→
  ∀{F:Fr} {w0:World} {h0:IH} {β:Nat→Nat} {h:IH} {a:Act} {w:World} {Q:Exit→Act→World→Prop},
  (∀(i:Nat) (e:Ev),es[i]?=some e→∀b∈e.nw,(iK (es.take i) st).free b.1=true)→
  aO G F w0 h0 st β h a.tmps w→a.defers=[]→
  (∀(a':Act) (w':World) (β':Nat→Nat) (h':IH),a'.defers=[]→aO G F w0 h0 (iK es st) β' h' a'.tmps w'→Q .normal a' w')→
  wpOps P all.toArray Q (List.range' k l.length) a w
 | [],es,st,k,_,hs,F,w0,h0,β,h,a,w,Q,_,g,hd,hQ=>by
  simp only[kH] at hs;subst hs
  simpa [wpOps] using hQ a w β h hd g
 | o :: l,es,st,k,hk,⟨e,es',hes,hop,hs⟩,F,w0,h0,β,h,a,w,Q,hf,g,hd,hQ=>by
  subst hes
  simp only[List.length_cons,List.range'_succ]
  rw[wpOps_cons]
  have ho:all.toArray[k]?=some o:=by simpa using (hk 0).symm
  simp only[wpOp,ho]
  refine Fa (hop F w0 h0 st β h a w _ Q rfl (fun _ _=>rfl) (fun b hb=>by simpa [iK] using hf 0 e rfl b hb) g hd ?_)
  intro a' w' β' h' hd' g'
  exact LJ all l es' (e.app st) (k+1) (fun j=>by have:=hk (j+1);simpa [Nat.add_assoc,Nat.add_comm 1 j] using this) hs
   (fun i e' he' b hb=>by have:=hf (i+1) e' (by simpa using he') b hb;simpa [iK] using this) g' hd' hQ
theorem zu {listed:Array Bool} {i:Nat} (h:i∈Region.ready .any ops.toArray listed) :
  i<ops.length∧listed.getD i true=false∧∃o,ops[i]?=some o∧∀e∈o.after,Region.binds .any e=true→listed.getD e.on false=true:=by
 simp only[Region.ready,List.mem_filter,List.mem_range,aY] at h
 obtain ⟨h1,h2,h3⟩:=h
 have h1:i<ops.length:=by simpa using h1
 refine⟨h1,by simpa using h2,ops[i],by simp[h1],?_⟩
 simp only[List.getElem?_toArray,gy h1,Option.map_some,Option.getD_some,Array.all_eq_true_iff_forall_mem] at h3
 intro e he hb
 have:=h3 e he
 rw[hb] at this
 simpa using this
theorem ready_nil {listed:Array Bool} (hb:wF 0 ops=true) (h:Region.ready .any ops.toArray listed=[]) :
  ∀i,i<ops.length→listed.getD i true=true:=by
 intro i
 induction i using Nat.strongRecOn with
 | _ i ih=>
  intro hi
  cases hl:listed.getD i true with
  | true=>rfl
  | false=>
   exfalso
   have hm:i∈Region.ready .any ops.toArray listed:=by
    simp only[Region.ready,List.mem_filter,List.mem_range,aY]
    refine⟨by simpa using hi,by simpa using hl,?_⟩
    simp only[List.getElem?_toArray,gy hi,Option.map_some,Option.getD_some,Array.all_eq_true_iff_forall_mem]
    intro e he
    cases hbd:Region.binds .any e with
    | false=>rfl
    | true=>
     have hon:=Bc hb (k:=i) (o:=ops[i]) (by simp[hi]) e he hbd
     have:=ih e.on (by omega) (by omega)
     by_cases hs:e.on<listed.size
     ·simp only[Array.getD_eq_getD_getElem?,Array.getElem?_eq_getElem hs,Option.getD_some] at this⊢
      simp[this]
     ·exfalso
      have hs':¬i<listed.size:=by omega
      simp only[Array.getD_eq_getD_getElem?,Array.getElem?_eq_none (Nat.le_of_not_lt hs'),Option.getD_none] at hl
      cases hl
   rw[h] at hm;simp at hm
end
theorem Uw {P:Program} {G:IH} {ops:List Oper} {evs:List Ev} {st0:AS} (hs:kH P G ops ops evs st0) (hord:pG ops evs=true) (hfr:jG st0 evs=true)
  {F:Fr} {w0:World} {h0:IH} {Q:Exit→Act→World→Prop}
  (hQ:∀(a':Act) (w':World) (β':Nat→Nat) (h':IH),a'.defers=[]→aO G F w0 h0 (iK evs st0) β' h' a'.tmps w'→Q .normal a' w') :
  ∀(fuel:Nat) (listed:Array Bool) (β:Nat→Nat) (h:IH) (a:Act) (w:World),listed.size=ops.length→Closed ops (fun j=>listed.getD j false)→
   ((List.range ops.length).filter fun i=>!listed.getD i true).length≤fuel→
   aO G F w0 h0 (fold (fun j=>listed.getD j false) 0 evs st0) β h a.tmps w→a.defers=[]→wpAny P .any ops.toArray Q fuel listed a w:=by
 have hlen:=hs.length
 have hback:wF 0 ops=true:=by simp only[pG,aY] at hord;exact hord.1
 have hend:∀(listed:Array Bool) (β:Nat→Nat) (h:IH) (a:Act) (w:World),listed.size=ops.length→(∀i,i<ops.length→listed.getD i true=true)→
   aO G F w0 h0 (fold (fun j=>listed.getD j false) 0 evs st0) β h a.tmps w→a.defers=[]→Q .normal a w:=by
  intro listed β h a w hsz hall g hd
  refine hQ a w β h hd ?_
  rwa [O4 0 evs st0 (fun j _ hj=>?_)] at g
  have hj':j<listed.size:=by omega
  have:=hall j (by omega)
  simpa [Array.getD_eq_getD_getElem?,Array.getElem?_eq_getElem hj'] using this
 intro fuel
 induction fuel with
 | zero=>
  intro listed β h a w hsz hc hcount g hd
  have hnil:((List.range ops.length).filter fun i=>!listed.getD i true)=[]:=List.eq_nil_of_length_eq_zero (by omega)
  have hall:∀i,i<ops.length→listed.getD i true=true:=by
   intro i hi
   have:=List.filter_eq_nil_iff.1 hnil i (by simpa using hi)
   simpa using this
  refine⟨?_,hend listed β h a w hsz hall g hd⟩
  simp only[Region.ready,List.filter_eq_nil_iff]
  intro i hi
  have:=hall i (by simpa using hi)
  simp[this]
 | succ fuel ih=>
  intro listed β h a w hsz hc hcount g hd
  refine⟨fun hr=>hend listed β h a w hsz (ready_nil hback hr) g hd,fun i hi=>?_⟩
  obtain ⟨hlt,AP,o,ho,hpre⟩:=zu hi
  have he:∃e,evs[i]?=some e:=⟨evs[i]'(by omega),by simp⟩
  obtain ⟨e,he⟩:=he
  have hi':i<listed.size:=by omega
  have hD:(fun j=>listed.getD j false) i=false:=by
   simpa [Array.getD_eq_getD_getElem?,Array.getElem?_eq_getElem hi'] using AP
  have hset:(fun j=>(listed.setIfInBounds i true).getD j false)=fun j=>listed.getD j false||Nat.beq j i:=by
   funext j
   by_cases hj:j=i
   ·subst hj;simp[Array.getD_eq_getD_getElem?,hi']
   ·rw[aQ hj];simp[Array.getD_eq_getD_getElem?,Array.getElem?_setIfInBounds_ne (Ne.symm hj)]
  have hop:ops.toArray[i]?=some o:=by simpa using ho
  simp only[wpOp,hop]
  refine Fa (GN hlen hc hord hfr (by rw[vK];exact hs.get ho he F w0 h0) ho he hD hpre g hd ?_)
  intro a' w' β' h' hd' g'
  refine ih (listed.setIfInBounds i true) β' h' a' w' (by simpa using hsz) ?_ ?_ (by rw[hset];exact g') hd'
  ·rw[hset]
   intro j o' ho' hj e' he' hb
   simp only[Bool.or_eq_true] at hj⊢
   rcases hj with hj|hj
   ·exact .inl (hc j o' ho' hj e' he' hb)
   ·have:j=i:=Nat.eq_of_beq_eq_true hj
    subst this
    rw[ho] at ho';injection ho' with ho';subst ho'
    exact .inl (hpre e' he' hb)
  ·have:((List.range ops.length).filter fun k=>!(listed.setIfInBounds i true).getD k true).length<((List.range ops.length).filter fun k=>!listed.getD k true).length:=by
    refine filter_lt (i:=i) ?_ (by simpa using hlt) (by simp[AP]) (by simp[Array.getD_eq_getD_getElem?,hi'])
    intro k hk
    by_cases hki:k=i
    ·subst hki;simp[AP]
    ·simpa [Array.getD_eq_getD_getElem?,Array.getElem?_setIfInBounds_ne (Ne.symm hki)] using hk
   omega
def nM:List Ev→Bool
 | []=>true
 | e :: es=>(es.all fun y=>y.nw.all fun b=>e.free b.1)&&nM es
theorem oH:∀{es:List Ev},nM es=true→∀{p q:Nat} {x y:Ev},p<q→es[p]?=some x→es[q]?=some y→∀b∈y.nw,x.free b.1=true
 | [],_,_,_,_,_,_,h,_=>by simp at h
 | e :: es,hp,p,q,x,y,hpq,hx,hy=>by
  simp only[nM,aY,List.all_eq_true] at hp
  cases q with
  | zero=>omega
  | succ q=>
   cases p with
   | zero=>
    simp at hx;subst hx
    exact hp.1 y (List.mem_of_getElem? (by simpa using hy))
   | succ p=>exact oH hp.2 (p:=p) (q:=q) (by omega) (by simpa using hx) (by simpa using hy)
def Ik (draw:Bool) (ops:List Oper) (evs:List Ev) (st:AS):Bool:=
 jG st evs&&match draw with|true=>pG ops evs|false=>nM evs
theorem O9 {P:Program} {G:IH} {ops:List Oper} {evs:List Ev} {st:AS} {id:Nat} {draw:Bool} (hm:P.follows .mixedOrders=true)
  (hs:kH P G ops ops evs st) (hok:Ik draw ops evs st=true)
  {F:Fr} {w0:World} {h0:IH} {β:Nat→Nat} {h:IH} {a:Act} {w:World} {Q:Exit→Act→World→Prop}
  (g:aO G F w0 h0 st β h a.tmps w) (hd:a.defers=[])
  (hQ:∀(a':Act) (w':World) (β':Nat→Nat) (h':IH),a'.defers=[]→aO G F w0 h0 (iK evs st) β' h' a'.tmps w'→Q .normal a' w') :
  (Code.region id ops.toArray draw).wp P Q a w:=by
 simp only[Ik,aY] at hok
 obtain ⟨hfr,hord⟩:=hok
 cases draw with
 | true=>
  refine wp_region_any hm (Uw hs hord hfr hQ _ _ β h a _ (by simp) ?_ ?_ ?_ hd)
  ·intro j o _ hj
   simp[Array.getD_eq_getD_getElem?,Array.getElem?_replicate] at hj
   split at hj<;>simp at hj
  ·refine Nat.le_trans (List.length_filter_le _ _) (by simp)
  ·rw[vX]
   ·exact g.drew _
   ·intro j _
    simp[Array.getD_eq_getD_getElem?,Array.getElem?_replicate]
    split<;>rfl
 | false=>
  refine wp_region ?_
  have:=LJ (Q:=Q) ops ops evs st 0 (by simp) hs (F:=F) (w0:=w0) (h0:=h0) (β:=β) (h:=h) (a:=a) (w:=w) ?_ g hd hQ
  ·simpa [List.range_eq_range'] using this
  ·intro i e he b hb
   rw[←vK]
   refine sV 0 evs st ?_ fun j e' he' hj=>?_
   ·simp only[jG,List.all_eq_true] at hfr
    exact hfr e (List.mem_of_getElem? he) b hb
   ·simp only[Nat.zero_add,Nat.blt_eq] at hj
    exact oH hord hj he' he b hb
end Go.Ab
namespace Go.Ab
open Go Go.RowKit
def aA (P:Program) (G:IH) (f:FuncId) (args:List DV) (r:DV):Prop:=
 (∀(vs:Array Value) (w:World),(callFunc f vs).run P w=.ok (.enter f vs) w)∧
 ∀(w:World) (h:IH) (vs:List Value),G.le h→h.holds w→DV.aF h args vs→
  Calls P f vs.toArray w fun e w'=>∃v h',e=.returned v∧DV.rel h' r v∧h.le h'∧h'.holds w'∧Kept (fun _=>False) w w'∧
   ∀b,b<w.heap.size→(∀o,h'.cell b o=h.cell b o)∧h'.obj b=h.obj b
theorem Kept.trans {F:Nat→Prop} {a b c:World} (h:Kept F a b) (k:Kept F b c):Kept F a c:=
 ⟨k.os.trans h.os,k.tape.trans h.tape,k.output.trans h.output,Nat.le_trans h.size k.size,fun i hi hn=>(k.block i (Nat.lt_of_lt_of_le hi h.size) hn).trans (h.block i hi hn)⟩
theorem Kept.mono {F F':Nat→Prop} {a b:World} (h:Kept F a b) (hF:∀k,F k→F' k):Kept F' a b:=
 ⟨h.os,h.tape,h.output,h.size,fun i hi hn=>h.block i hi fun hf=>hn (hF i hf)⟩
theorem lt_of_heap {w:World} {b:Nat} {o:Obj} (h:w.heap[b]?=some o):b<w.heap.size:=(Array.getElem?_eq_some_iff.1 h).1
theorem Own.lt {β:Nat→Nat} {h:IH} {s:Nat} {l:List AV} {w:World} (hl:Live β s l) (ho:Own β h s l w.heap[blk β s]?):blk β s<w.heap.size:=by
 cases hp:bU l with
 | true=>
  rw[Own.plain hp] at ho
  obtain ⟨T,vs,e,_⟩:=ho
  exact lt_of_heap e
 | false=>
  rcases dN hp with ⟨agg,sz,f,rfl⟩|rfl|⟨kd,f,has,rfl⟩
  ·obtain ⟨_,h0|⟨fr,vs,e,_⟩⟩:=ho
   ·simp only[Live] at hl;omega
   ·exact lt_of_heap e
  ·exact hl.elim
  ·obtain ⟨es,c,e,_⟩:=ho
   exact lt_of_heap e
theorem Own.move {β:Nat→Nat} {h k:IH} {s:Nat} {l:List AV} {o o':Option Obj} (he:Live β s l→o'=o) (hk:h.le k) (ho:Own β h s l o):Own β k s l o':=by
 cases hp:bU l with
 | true=>rw[he (Live.plain hp)];exact Own.mono hk ho
 | false=>
  rcases dN hp with ⟨agg,sz,f,rfl⟩|rfl|⟨kd,f,has,rfl⟩
  ·by_cases hz:room β s=0
   ·obtain ⟨h1,_⟩:=ho
    exact⟨h1,.inl hz⟩
   ·rw[he (show 0<room β s by omega)];exact Own.mono hk ho
  ·trivial
  ·rw[he trivial];exact Own.mono hk ho
theorem Uj {β:Nat→Nat} {h:IH} {l:List AV} {vs:List Value} (r:AV.aF β h l vs):bU l=true:=by
 cases hp:bU l with
 | true=>rfl
 | false=>
  rcases dN hp with ⟨agg,sz,f,rfl⟩|rfl|⟨kd,f,has,rfl⟩
  ·obtain ⟨_,_,_,r,_⟩:=r;exact r.elim
  ·obtain ⟨_,_,_,r,_⟩:=r;exact r.elim
  ·obtain ⟨_,_,_,r,_⟩:=r;exact r.elim
theorem Own.of {β:Nat→Nat} {h:IH} {s:Nat} {l:List AV} {o:Option Obj} {T:TypeId} {vs:List Value} (hT:T=room β s) (e:o=some (.cells vs.toArray T (0,0))) (r:AV.aF β h l vs):Own β h s l o:=by
 rw[Own.plain (Uj r)];exact⟨⟨T,hT⟩,vs,e,r⟩
section
variable {G:IH} {F:Fr} {w0:World} {h0:IH} {st:AS} {β:Nat→Nat} {h:IH} {tm:Array Value} {w:World}
theorem aO.zJ (g:aO G F w0 h0 st β h tm w) {s:Nat} {l:List AV} (hb:st.box s=some l) (hp:bU l=true) :
  (F.on (blk β s)∨w0.heap.size≤blk β s)∧(∀o,h.cell (blk β s) o=none)∧h.obj (blk β s)=none∧∃T:{T:TypeId // T=room β s},∃vs:List Value,w.heap[blk β s]?=some (.cells vs.toArray T.1 (0,0))∧AV.aF β h l vs:=by
 obtain ⟨h1,h2⟩:=g.box s l hb
 obtain ⟨a,b,c⟩:=h1 (Live.plain hp)
 rw[Own.plain hp] at h2
 exact⟨a,b,c,h2⟩
theorem QM {s:Nat} (hf:st.free s=true):s<K0:=by
 simp only[AS.free,aY,Nat.blt_eq] at hf;exact hf.1
theorem aO.W9 (g:aO G F w0 h0 st β h tm w) {d b c m:Nat} (hf:st.free d=true):∀s,K0≤s→blk (upd β d b c m) s=blk F.β0 s∧room (upd β d b c m) s=room F.β0 s∧many (upd β d b c m) s=many F.β0 s:=by
 intro s hs
 have:s≠d:=by have:=QM hf;omega
 rw[aZ this,bI this,iy this]
 exact g.fix s hs
def Ce (tm:Array Value) (t:Option Nat) (v:Value):Array Value:=match t with|some d=>tm.setIfInBounds d v|none=>tm
theorem aO.put (g:aO G F w0 h0 st β h tm w) {t:Option Nat} {x:AV} {v:Value} (hx:x.rel β h v) :
  aO G F w0 h0 ⟨kF st.regs t x,st.boxes⟩ β h (Ce tm t v) w where
 glob:=g.glob
 holds:=g.holds
 ext:=g.ext
 old:=g.old
 kept:=g.kept
 fix:=g.fix
 size:=by cases t<;>simp[kF,Ce,g.size]
 regs u y hy:=by
  cases t with
  | none=>exact g.regs u y hy
  | some t=>
   rw[fC] at hy
   simp only[aI] at hy
   by_cases hu:t=u
   ·subst hu
    rw[if_pos rfl] at hy
    cases hr:st.regs[t]? with
    | none=>rw[hr] at hy;simp at hy
    | some z=>
     rw[hr] at hy
     simp at hy;subst hy
     obtain ⟨v',hv',_⟩:=g.regs t z hr
     have:=(Array.getElem?_eq_some_iff.1 hv').1
     exact⟨v,by simp[Ce,this],hx⟩
   ·rw[if_neg hu] at hy
    obtain ⟨v',hv',hr'⟩:=g.regs u y hy
    exact⟨v',by simp only[Ce];rw[Array.getElem?_setIfInBounds_ne hu];exact hv',hr'⟩
 box:=g.box
 inj:=g.inj
theorem aO.grow (g:aO G F w0 h0 st β h tm w) {h':IH} {w':World} (hh:h.le h') (hw:h'.holds w') (hk:Kept (fun _=>False) w w')
  (ho:∀b,b<w.heap.size→(∀o,h'.cell b o=h.cell b o)∧h'.obj b=h.obj b):aO G F w0 h0 st β h' tm w' where
 glob:=g.glob.trans hh
 holds:=hw
 ext:=g.ext.trans hh
 old b hb hn:=by
  have h1:=g.old b hb hn
  have h2:=ho b (Nat.lt_of_lt_of_le hb g.kept.size)
  exact⟨fun o=>(h2.1 o).trans (h1.1 o),h2.2.trans h1.2⟩
 kept:=g.kept.trans (hk.mono fun _ h=>h.elim)
 fix:=g.fix
 size:=g.size
 regs t x hx:=let ⟨v,hv,hr⟩:=g.regs t x hx;⟨v,hv,AV.rel.mono hh x v hr⟩
 box s l hb:=by
  obtain ⟨h1,h2⟩:=g.box s l hb
  refine⟨fun hl=>?_,Own.move (fun hl=>hk.block _ (Own.lt hl h2) id) hh h2⟩
  obtain ⟨a1,a2,a3⟩:=h1 hl
  have h6:=ho (blk β s) (Own.lt hl h2)
  exact⟨a1,fun o=>(h6.1 o).trans (a2 o),h6.2.trans a3⟩
 inj:=g.inj
theorem Gw (hw:h.holds w) (o:Obj):h.holds (w.alloc o):=by
 refine⟨fun b i v e=>?_,fun b x e=>?_⟩
 ·have:=hw.1 b i v e
  have hb:b<w.heap.size:=by
   simp only[World.cell?] at this
   split at this
   ·rename_i hh;exact lt_of_heap hh
   ·simp at this
  rw[World.cell?_alloc_lt _ _ _ hb];exact this
 ·have:=hw.2 b x e
  show (w.heap.push o)[b]?=_
  rw[Array.getElem?_push,if_neg (by have:=lt_of_heap this;omega)];exact this
theorem holds_none (hw:h.holds w) {b:Nat} (hb:w.heap.size≤b):(∀o,h.cell b o=none)∧h.obj b=none:=by
 refine⟨fun o=>?_,?_⟩
 ·cases hc:h.cell b o with
  | none=>rfl
  | some v=>
   have:=hw.1 b o v hc
   simp only[World.cell?] at this
   split at this
   ·rename_i hh;have:=lt_of_heap hh;omega
   ·simp at this
 ·cases hc:h.obj b with
  | none=>rfl
  | some v=>have:=lt_of_heap (hw.2 b v hc);omega
theorem sO {b:List (Nat×List AV)} {s:Nat} {l:List AV} (h:look b s=some l):(s,l)∈b:=by
 induction b with
 | nil=>simp[look] at h
 | cons y b ih=>
  obtain ⟨k,c⟩:=y
  simp only[look] at h
  by_cases hk:k=s
  ·subst hk;simp at h;subst h;simp
  ·rw[aQ hk,cond_false] at h;exact List.mem_cons_of_mem _ (ih h)
theorem AX {s s':Nat} {l:List AV} (hf:st.free s=true) (hb:st.box s'=some l):AV.frees s l=true:=by
 simp only[AS.free,aY,List.all_eq_true] at hf
 exact hf.2.2 _ (sO hb)
theorem BG {s t:Nat} {x:AV} (hf:st.free s=true) (hx:st.regs[t]?=some x):x.free s=true:=by
 simp only[AS.free,aY] at hf
 have:∀(l:List AV) (t:Nat),AV.frees s l=true→l[t]?=some x→x.free s=true:=by
  intro l
  induction l with
  | nil=>intro t _ h;simp at h
  | cons y l ih=>
   intro t hl h
   simp only[AV.frees,aY] at hl
   cases t with
   | zero=>simp at h;subst h;exact hl.1
   | succ t=>exact ih t hl.2 (by simpa using h)
 exact this _ _ hf.2.1 hx
theorem aO.tV (g:aO G F w0 h0 st β h tm w) {s c m:Nat} {l:List AV} {ob:Obj} (hf:st.free s=true) (hO:Own (upd β s w.heap.size c m) h s l (some ob)) :
  aO G F w0 h0 ⟨st.regs,(s,l) :: st.boxes⟩ (upd β s w.heap.size c m) h tm (w.alloc ob) where
 glob:=g.glob
 holds:=Gw g.holds _
 ext:=g.ext
 old:=g.old
 kept:=g.kept.trans ⟨rfl,rfl,rfl,by simp,fun k hk _=>Below.heap_alloc _ _ _ hk⟩
 fix:=g.W9 hf
 size:=g.size
 regs t x hx:=by
  obtain ⟨v,hv,hr⟩:=g.regs t x hx
  exact⟨v,hv,AV.rel.upd x v (BG hf hx) hr⟩
 box s' l' hb:=by
  have hnone:=holds_none g.holds (Nat.le_refl w.heap.size)
  simp only[AS.box,look] at hb
  by_cases hs:s=s'
  ·subst hs
   simp only[fP,cond_true,aI] at hb
   subst hb
   refine⟨fun _=>?_,?_⟩
   ·rw[aT];exact⟨.inr g.kept.size,hnone.1,hnone.2⟩
   ·rw[aT]
    have:(w.alloc ob).heap[w.heap.size]?=some ob:=by show (w.heap.push _)[w.heap.size]?=_;simp
    rw[this];exact hO
  ·rw[aQ hs,cond_false] at hb
   obtain ⟨h1,h2⟩:=g.box s' l' hb
   rw[aZ (Ne.symm hs),Live.upd (Ne.symm hs)]
   refine⟨h1,Own.upd (Ne.symm hs) (AX hf hb) (Own.move (fun hl=>?_) (IH.le.refl _) h2)⟩
   exact Below.heap_alloc _ _ _ (Own.lt hl h2)
 inj a b l1 l2 ha hb la lb hab:=by
  simp only[AS.box,look] at ha hb
  by_cases h1:s=a<;>by_cases h2:s=b
  ·exact h1.symm.trans h2
  ·subst h1
   rw[aQ h2,cond_false] at hb
   rw[Live.upd (Ne.symm h2)] at lb
   have:=Own.lt lb (g.box b l2 hb).2
   rw[aT,aZ (Ne.symm h2)] at hab
   omega
  ·subst h2
   rw[aQ h1,cond_false] at ha
   rw[Live.upd (Ne.symm h1)] at la
   have:=Own.lt la (g.box a l1 ha).2
   rw[aT,aZ (Ne.symm h1)] at hab
   omega
  ·rw[aQ h1,cond_false] at ha
   rw[aQ h2,cond_false] at hb
   rw[Live.upd (Ne.symm h1)] at la
   rw[Live.upd (Ne.symm h2)] at lb
   rw[aZ (Ne.symm h1),aZ (Ne.symm h2)] at hab
   exact g.inj a b l1 l2 ha hb la lb hab
theorem aO.alloc (g:aO G F w0 h0 st β h tm w) {s:Nat} {l:List AV} {vs:List Value} {T:TypeId} (hf:st.free s=true) (hl:AV.frees s l=true) (hr:AV.aF β h l vs) :
  aO G F w0 h0 ⟨st.regs,(s,l) :: st.boxes⟩ (upd β s w.heap.size T 0) h tm (w.alloc (.cells vs.toArray T)):=
 g.tV hf (Own.of (T:=T) (vs:=vs) aH.symm rfl (AV.aF.upd l vs hl hr))
theorem Ba {l:List AV} {vs:List Value} (hr:AV.aF β h l vs) {i:Nat} {x:AV} {v:Value} (hx:x.rel β h v):AV.aF β h (l.set i x) (vs.set i v):=by
 refine AV.aF.UC (by simp[hr.length]) fun j y hy=>?_
 by_cases hj:i=j
 ·subst hj
  have hi:i<l.length:=by
   by_cases hi:i<l.length
   ·exact hi
   ·simp[hi] at hy
  simp[hi] at hy;subst hy
  exact⟨v,by simp[hr.length,hi],hx⟩
 ·rw[List.getElem?_set_ne hj] at hy⊢
  exact hr.get hy
structure uM (b:Nat) (w w':World):Prop where
 os:w'.os=w.os
 tape:w'.tape=w.tape
 output:w'.output=w.output
 size:w'.heap.size=w.heap.size
 block:∀k,k≠b→w'.heap[k]?=w.heap[k]?
theorem uM.cell {b:Nat} {w w':World} (o:uM b w w') {c i:Nat} (h:c≠b):w'.cell? ⟨c,i,none⟩=w.cell? ⟨c,i,none⟩:=by
 simp only[World.cell?,o.block c h]
theorem aO.write (g:aO G F w0 h0 st β h tm w) {s:Nat} {l l':List AV} {w':World} (hb:st.box s=some l) (hl:Live β s l) (hw:uM (blk β s) w w') {bx:List (Nat×List AV)}
  (hO:Own β h s l' w'.heap[blk β s]?) (hbx:∀t m,look bx t=some m→(t=s∧m=l')∨(t≠s∧look st.boxes t=some m)):aO G F w0 h0 ⟨st.regs,bx⟩ β h tm w' where
 glob:=g.glob
 holds:=by
  obtain ⟨_,h2,h3⟩:=(g.box s l hb).1 hl
  refine⟨fun b o u e=>?_,fun b o e=>?_⟩
  ·rw[hw.cell]
   ·exact g.holds.1 b o u e
   ·rintro rfl;rw[h2] at e;cases e
  ·rw[hw.block]
   ·exact g.holds.2 b o e
   ·rintro rfl;rw[h3] at e;cases e
 ext:=g.ext
 old:=g.old
 kept:=by
  obtain ⟨h1,_⟩:=(g.box s l hb).1 hl
  refine⟨hw.os.trans g.kept.os,hw.tape.trans g.kept.tape,hw.output.trans g.kept.output,by rw[hw.size];exact g.kept.size,fun k hk hn=>?_⟩
  rw[hw.block k (by
   rintro rfl
   rcases h1 with h1|h1
   ·exact hn h1
   ·omega)]
  exact g.kept.block k hk hn
 fix:=g.fix
 size:=g.size
 regs:=g.regs
 box t m ht:=by
  rcases hbx t m ht with ⟨rfl,rfl⟩|⟨hne,ht'⟩
  ·exact⟨fun _=>(g.box t l hb).1 hl,hO⟩
  ·obtain ⟨h1,h2⟩:=g.box t m ht'
   exact⟨h1,Own.move (fun hm=>hw.block _ fun e=>hne (g.inj _ _ _ _ ht' hb hm hl e)) (IH.le.refl _) h2⟩
 inj a b l1 l2 ha hb' la lb hab:=by
  have key:∀t m,look bx t=some m→Live β t m→∃m',st.box t=some m'∧Live β t m':=by
   intro t m ht hm
   rcases hbx t m ht with ⟨rfl,rfl⟩|⟨hne,ht'⟩
   ·exact⟨l,hb,hl⟩
   ·exact⟨m,ht',hm⟩
  obtain ⟨m1,h1,k1⟩:=key a l1 ha la
  obtain ⟨m2,h2,k2⟩:=key b l2 hb' lb
  exact g.inj a b m1 m2 h1 h2 k1 k2 hab
theorem eG {s i:Nat} {x:AV} {b:List (Nat×List AV)} {l:List AV} (hb:look b s=some l):∀t m,look (setCells s i x b) t=some m→(t=s∧m=l.set i x)∨(t≠s∧look b t=some m):=by
 intro t m h
 rw[lI] at h
 by_cases ht:t=s
 ·subst ht;rw[if_pos rfl,hb] at h
  simp at h;exact .inl ⟨rfl,h.symm⟩
 ·rw[if_neg ht] at h;exact .inr ⟨ht,h⟩
theorem yX {b i:Nat} {v:Value}:uM b w (w.setCell ⟨b,i,none⟩ v):=
 ⟨rfl,rfl,rfl,by simp,fun k hk=>Below.heap_setCell _ _ _ _ hk⟩
theorem aO.store (g:aO G F w0 h0 st β h tm w) {s i:Nat} {x:AV} {v:Value} (hb:∃l,st.box s=some l∧bU l=true) (hx:x.rel β h v) :
  aO G F w0 h0 ⟨st.regs,setCells s i x st.boxes⟩ β h tm (w.setCell ⟨blk β s,i,none⟩ v):=by
 obtain ⟨l,hb,hp⟩:=hb
 obtain ⟨_,_,_,T,vs,h4,h5⟩:=g.zJ hb hp
 refine g.write (l':=l.set i x) hb (Live.plain hp) yX (Own.of (T:=T.1) (vs:=vs.set i v) T.2 ?_ (Ba h5 hx)) (eG hb)
 simp only[World.setCell,Array.getElem?_modify,if_true,h4];simp
theorem aO.kill (g:aO G F w0 h0 st β h tm w) {s:Nat} {y:AV} (hb:st.box s=some [y]):aO G F w0 h0 ⟨st.regs,setCells s 0 .dead st.boxes⟩ β h tm w where
 glob:=g.glob
 holds:=g.holds
 ext:=g.ext
 old:=g.old
 kept:=g.kept
 fix:=g.fix
 size:=g.size
 regs:=g.regs
 box t m ht:=by
  rcases eG hb t m ht with ⟨rfl,rfl⟩|⟨hne,ht'⟩
  ·exact⟨fun hl=>hl.elim,trivial⟩
  ·exact g.box t m ht'
 inj a b l1 l2 ha hb' la lb hab:=by
  rcases eG hb a l1 ha with ⟨rfl,rfl⟩|⟨_,ha⟩
  ·exact la.elim
  ·rcases eG hb b l2 hb' with ⟨rfl,rfl⟩|⟨_,hb'⟩
   ·exact lb.elim
   ·exact g.inj a b l1 l2 ha hb' la lb hab
end
end Go.Ab
namespace Go.Ab
open Go Go.RowKit
def Core (P:Program) (G:IH) (o:Oper) (ρ:Operand→AV) (st:AS) (e:Ev):Prop:=
 ∀(F:Fr) (w0:World) (h0:IH) (st':AS) (β:Nat→Nat) (h:IH) (a:Act) (w:World) (K:Act→World→Prop) (Q:Exit→Act→World→Prop),
  st'.regs.length=st.regs.length→(∀p,((e.iV.map (fun x=>Loc.cell x.1 x.2)++e.writes).any (·.hits p))=true→st'.at_ p=st.at_ p)→(∀b∈e.nw,st'.free b.1=true)→
  aO G F w0 h0 st' β h a.tmps w→a.defers=[]→(∀x∈o.op.operands,(ρ x).rel β h (a.eval x))→
  (∀(a':Act) (w':World) (β':Nat→Nat) (h':IH),a'.defers=[]→aO G F w0 h0 (e.app st') β' h' a'.tmps w'→K a' w')→o.wp P a w K Q
theorem dK (a:Act) (d:Option Nat) (v:Value):(a.put d v).tmps=Ce a.tmps d v:=by cases d<;>rfl
theorem put_defers (a:Act) (d:Option Nat) (v:Value):(a.put d v).defers=a.defers:=by cases d<;>rfl
theorem bP {P:Program} {G:IH} {o:Oper} {ρ:Operand→AV} {st:AS} {x:AV}
  (hrun:∀(β:Nat→Nat) (h:IH) (a:Act) (w:World),G.le h→h.holds w→(∀x∈o.op.operands,(ρ x).rel β h (a.eval x))→∃v,(execOp a.eval o).run P w=.ok (.value v) w∧x.rel β h v) :
  Core P G o ρ st { dst:=o.dst,val:=x }:=by
 intro F w0 h0 st' β h a w K Q hlen hag hfr g hd hop hK
 obtain ⟨v,hr,hx⟩:=hrun β h a w g.glob g.holds hop
 unfold Oper.wp
 rw[hr,Oper.upon_value]
 refine hK _ _ β h (by rw[put_defers];exact hd) ?_
 rw[dK]
 exact g.put hx
theorem UO {P:Program} {G:IH} {o:Oper} {ρ:Operand→AV} {st:AS} {f:FuncId} {args:List DV} {r:DV} (hf:aA P G f args r)
  (hrun:∀(β:Nat→Nat) (h:IH) (a:Act) (w:World),(∀x∈o.op.operands,(ρ x).rel β h (a.eval x))→∃vs:List Value,DV.aF h args vs∧(execOp a.eval o).run P w=(callFunc f vs.toArray).run P w) :
  Core P G o ρ st { dst:=o.dst,val:=.d r }:=by
 intro F w0 h0 st' β h a w K Q hlen hag hfr g hd hop hK
 obtain ⟨vs,hvs,hr⟩:=hrun β h a w hop
 unfold Oper.wp
 rw[hr,hf.1,Oper.upon_enter]
 refine(hf.2 w h vs g.glob g.holds hvs).mono ?_
 rintro e w' ⟨v,h',rfl,hrel,hh,hw,hk,hold⟩
 refine hK _ _ β h' (by rw[put_defers];exact hd) ?_
 rw[dK]
 exact(g.grow hh hw hk hold).put (x:=.d r) hrel
theorem AV.aF.append {β:Nat→Nat} {h:IH}:∀{l m:List AV} {vs us:List Value},AV.aF β h l vs→AV.aF β h m us→AV.aF β h (l++m) (vs++us)
 | [],_,_,_,e,k=>by simp only[AV.aF] at e;subst e;exact k
 | _ :: _,_,_,_,⟨v,vs',e,r,rs⟩,k=>by subst e;exact⟨v,vs'++_,rfl,r,AV.aF.append rs k⟩
theorem AV.aF.drop {β:Nat→Nat} {h:IH}:∀{l:List AV} {vs:List Value} (n:Nat),AV.aF β h l vs→AV.aF β h (l.drop n) (vs.drop n)
 | _,_,0,r=>r
 | [],_,n+1,e=>by simp only[AV.aF] at e;subst e;simp[AV.aF]
 | _ :: _,_,n+1,⟨v,vs',e,_,rs⟩=>by subst e;exact AV.aF.drop n rs
theorem AV.aF.take {β:Nat→Nat} {h:IH}:∀{l:List AV} {vs:List Value} (n:Nat),AV.aF β h l vs→AV.aF β h (l.take n) (vs.take n)
 | _,_,0,_=>by simp[AV.aF]
 | [],_,n+1,e=>by simp only[AV.aF] at e;subst e;simp[AV.aF]
 | _ :: _,_,n+1,⟨v,vs',e,r,rs⟩=>by subst e;exact⟨v,_,rfl,r,AV.aF.take n rs⟩
theorem DV.aF.drop {h:IH} {l:List DV} {vs:List Value} (n:Nat) (r:DV.aF h l vs):DV.aF h (l.drop n) (vs.drop n):=by
 have:=AV.aF.drop n ((AV.gZ (β:=fun _=>0)).2 r)
 rwa [←List.map_drop,AV.gZ] at this
theorem DV.aF.take {h:IH} {l:List DV} {vs:List Value} (n:Nat) (r:DV.aF h l vs):DV.aF h (l.take n) (vs.take n):=by
 have:=AV.aF.take n ((AV.gZ (β:=fun _=>0)).2 r)
 rwa [←List.map_take,AV.gZ] at this
theorem DV.aF.get {h:IH} {l:List DV} {vs:List Value} (r:DV.aF h l vs) {i:Nat} {x:DV} (hx:l[i]?=some x):∃v,vs[i]?=some v∧x.rel h v:=by
 have:=AV.aF.get ((AV.gZ (β:=fun _=>0)).2 r) (i:=i) (x:=.d x) (by simp[hx])
 exact this
def pK:List AV→Option (List DV)
 | []=>some []
 | .d x :: l=>match pK l with|some m=>some (x :: m)|none=>none
 | _ :: _=>none
def wV (l:List AV):AV:=match pK l with|some m=>.d (.agg m)|none=>.agg l
def SA (l:List AV):AV:=match pK l with|some m=>.d (.aN m)|none=>.aN l
theorem ou:∀{l:List AV} {m:List DV},pK l=some m→l=m.map .d
 | [],m,h=>by simp only[pK,aI] at h;subst h;rfl
 | x :: l,m,h=>by
  cases x with
  | d x=>
   simp only[pK] at h
   cases hl:pK l with
   | none=>simp[hl] at h
   | some m'=>simp only[hl,aI] at h;subst h;rw[ou hl];rfl
  | _=>simp[pK] at h
theorem sU {β:Nat→Nat} {h:IH} {l:List AV} {v:Value}:(wV l).rel β h v↔∃vs:List Value,v=.agg vs.toArray∧AV.aF β h l vs:=by
 unfold wV
 split
 ·rename_i m hm
  rw[ou hm]
  simp only[AV.rel,DV.rel,AV.gZ]
 ·rfl
theorem Vs {β:Nat→Nat} {h:IH} {l:List AV} {v:Value}:(SA l).rel β h v↔∃vs:List Value,v=.tuple vs.toArray∧AV.aF β h l vs:=by
 unfold SA
 split
 ·rename_i m hm
  rw[ou hm]
  simp only[AV.rel,DV.rel,AV.gZ]
 ·rfl
def mW:DV→Bool
 | .con v=>v.oneCell'
 | .agg _ | .aN _=>false
 | _=>true
def qH:AV→Bool
 | .d x=>mW x
 | .box _ _ | .clo .. | .vec .. | .elem .. | .tb .. | .jY _=>true
 | _=>false
theorem nI {β:Nat→Nat} {h:IH} {x:AV} {v:Value} (ho:qH x=true) (hr:x.rel β h v):v.oneCell'=true:=by
 cases x with
 | d x=>
  cases x with
  | con u=>simp only[AV.rel,DV.rel] at hr;subst hr;exact ho
  | agg _=>simp[qH,mW] at ho
  | aN _=>simp[qH,mW] at ho
  | ptr _=>obtain ⟨_,_,e,_⟩:=hr;subst e;rfl
  | slc _ _ _=>obtain ⟨_,_,e,_⟩:=hr;subst e;rfl
  | clo _ _ _=>obtain ⟨_,_,e,_⟩:=hr;subst e;rfl
  | NY _=>exact hr.1
  | mp _ _ _=>obtain ⟨_,_,_,e,_⟩:=hr;subst e;rfl
 | jY _=>simp only[AV.rel] at hr;subst hr;rfl
 | box _ _=>simp only[AV.rel] at hr;subst hr;rfl
 | elem _ _ _ _=>obtain ⟨_,_,e⟩:=hr;subst e;rfl
 | tb _ _ _=>obtain ⟨e,_⟩:=hr;subst e;rfl
 | vec _ _ _ _=>
  obtain ⟨_,_,_,e,_⟩:=hr
  subst e;rfl
 | clo _ _ _=>obtain ⟨_,_,e,_⟩:=hr;subst e;rfl
 | _=>simp[qH] at ho
def cellsOf:AV→Option (List AV)
 | .d (.agg l)=>match (l.map AV.d).all qH with|true=>some (l.map .d)|false=>none
 | .agg l=>match l.all qH with|true=>some l|false=>none
 | x=>match qH x with|true=>some [x] | false=>none
theorem oneCell_cells {v:Value} (h:v.oneCell'=true):v.cells=#[v]:=by cases v<;>first|rfl|(simp[Value.oneCell'] at h)
theorem rG {β:Nat→Nat} {h:IH} {x:AV} {l:List AV} {v:Value} (hc:cellsOf x=some l) (hr:x.rel β h v) :
  ∃vs:List Value,v.cells=vs.toArray∧AV.aF β h l vs∧l.all qH=true:=by
 have single:∀(x:AV) (v:Value),(match qH x with|true=>some [x] | false=>none)=some l→x.rel β h v→∃vs:List Value,v.cells=vs.toArray∧AV.aF β h l vs∧l.all qH=true:=by
  intro x v hc hr
  cases ho:qH x with
  | false=>rw[ho] at hc;simp at hc
  | true=>
   rw[ho] at hc;simp at hc;subst hc
   exact⟨[v],oneCell_cells (nI ho hr),⟨v,[],rfl,hr,rfl⟩,by simp[ho]⟩
 cases x with
 | d x=>
  cases x with
  | agg m=>
   obtain ⟨vs,rfl,hvs⟩:=hr
   simp only[cellsOf] at hc
   split at hc
   ·rename_i hall
    simp at hc;subst hc
    exact⟨vs,rfl,AV.gZ.2 hvs,hall⟩
   ·cases hc
  | _=>refine single (.d _) v ?_ hr;exact hc
 | agg m=>
  obtain ⟨vs,rfl,hvs⟩:=hr
  simp only[cellsOf] at hc
  split at hc
  ·rename_i hall
   simp at hc;subst hc
   exact⟨vs,rfl,hvs,hall⟩
  ·cases hc
 | any=>exact single .any v hc hr
 | box s off=>exact single (.box s off) v hc hr
 | aN m=>exact single (.aN m) v hc hr
 | clo f a c=>exact single (.clo f a c) v hc hr
 | gate a c b x=>exact single (.gate a c b x) v hc hr
 | vec a c b x=>exact single (.vec a c b x) v hc hr
 | elem a c b x=>exact single (.elem a c b x) v hc hr
 | tb a c b=>exact single (.tb a c b) v hc hr
 | jY a=>exact single (.jY a) v hc hr
 | arr a b c=>exact hr.elim
 | dead=>exact hr.elim
 | mp a b c=>exact hr.elim
def BP:Value→AV
 | .agg cs=>.d (.agg (cs.toList.map .con))
 | .tuple vs=>.d (.aN (vs.toList.map .con))
 | v=>.d (.con v)
theorem yO {h:IH}:∀(l:List Value),DV.aF h (l.map .con) l
 | []=>rfl
 | v :: l=>⟨v,l,rfl,rfl,yO l⟩
theorem LQ (β:Nat→Nat) (h:IH) (v:Value):(BP v).rel β h v:=by
 cases v<;>first
  | rfl
  | exact⟨_,rfl,yO _⟩
def jf {α:Type} (P:Program):Sem α→Option α
 | .pure a=>some a
 | .program k=>jf P (k P)
 | _=>none
theorem Gs {α:Type} {P:Program}:∀{x:Sem α} {a:α} (w:World),jf P x=some a→x.run P w=.ok a w
 | .pure _,_,_,h=>by simp only[jf,aI] at h;subst h;rfl
 | .program k,_,w,h=>by simp only[jf] at h;simp only[Sem.run];exact Gs w h
 | .load ..,_,_,h=>by simp[jf] at h
 | .store ..,_,_,h=>by simp[jf] at h
 | .new ..,_,_,h=>by simp[jf] at h
 | .shape ..,_,_,h=>by simp[jf] at h
 | .freeze ..,_,_,h=>by simp[jf] at h
 | .frozen ..,_,_,h=>by simp[jf] at h
 | .getObj ..,_,_,h=>by simp[jf] at h
 | .setObj ..,_,_,h=>by simp[jf] at h
 | .choose ..,_,_,h=>by simp[jf] at h
 | .sys ..,_,_,h=>by simp[jf] at h
 | .mark ..,_,_,h=>by simp[jf] at h
 | .halt ..,_,_,h=>by simp[jf] at h
section ops
variable {P:Program} {G:IH} {o:Oper} {ρ:Operand→AV} {st:AS}
theorem MF {x:Operand} (ho:o.op=.move x∨o.op=.assign x):Core P G o ρ st { dst:=o.dst,val:=ρ x }:=
 bP fun β h a w _ _ hop=>by
  refine⟨a.eval x,?_,hop x ?_⟩
  ·rcases ho with ho|ho<;>simp[execOp,ho]
  ·rcases ho with ho|ho<;>simp[Op.operands,ho]
def TU:AV→Value
 | .d (.con v)=>v
 | _=>undef
def Nq:AV→Bool
 | .d (.con _)=>true
 | _=>false
def Ib:Op→Bool
 | .select ..=>true
 | _=>false
theorem VP {v:Value} (hs:Ib o.op=false) (hc:o.op.operands.all (fun x=>Nq (ρ x))=true)
  (hp:jf P (execOp (fun x=>TU (ρ x)) o)=some (.value v)):Core P G o ρ st { dst:=o.dst,val:=BP v }:=
 bP fun β h a w _ _ hop=>by
  refine⟨v,?_,LQ β h v⟩
  rw[execOp_congr (ρ':=fun x=>TU (ρ x)) o (by intro cs b he;simp[Ib,he] at hs) fun x hx=>?_]
  ·exact Gs w hp
  ·have h1:=(Array.all_eq_true_iff_forall_mem.1 hc) x hx
   have h2:=hop x hx
   cases hρ:ρ x with
   | d y=>
    cases y with
    | con u=>rw[hρ] at h2;exact h2
    | _=>simp[hρ,Nq] at h1
   | _=>simp[hρ,Nq] at h1
def dH (P:Program) (T:TypeId):Bool:=match P.underlying T with|some (.struct _)|some (.array _ _)=>true|_=>false
def sizeT (P:Program) (T:TypeId):Option Nat:=match P.info? T with|some i=>some i.size|none=>none
def oQ (P:Program) (T:TypeId):Bool:=match P.underlying T with|some _=>true|none=>false
theorem DL {T:TypeId} (hu:oQ P T=true) (w:World):(isAgg T).run P w=.ok (dH P T) w:=by
 unfold oQ at hu
 cases hd:P.underlying T with
 | none=>simp[hd] at hu
 | some d=>cases d<;>simp[isAgg,run_underlying hd,dH,hd]
theorem fK {T:TypeId} {n:Nat} (h:sizeT P T=some n) (w:World):(sizeOf T).run P w=.ok n w:=by
 unfold sizeT at h
 cases hi:P.info? T with
 | none=>simp[hi] at h
 | some i=>simp[hi] at h;simp[sizeOf,typeInfo,hi,h]
end ops
end Go.Ab
namespace Go.Ab
open Go Go.RowKit
section ops
variable {P:Program} {G:IH} {o:Oper} {ρ:Operand→AV} {st:AS}
def zeroOf (P:Program) (T:TypeId):Option (List Value):=
 match P.info? T with|some i=>(match i.zero with|some v=>some v.cells.toList|none=>none)|none=>none
theorem yI {T:TypeId} {l:List Value} (h:zeroOf P T=some l) (w:World):∃v,(zeroValue T).run P w=.ok v w∧v.cells.toList=l:=by
 unfold zeroOf at h
 cases hi:P.info? T with
 | none=>simp[hi] at h
 | some i=>
  cases hz:i.zero with
  | none=>simp[hi,hz] at h
  | some v=>simp only[hi,hz,aI] at h;exact⟨v,by simp[zeroValue,typeInfo,hi,hz],h⟩
theorem E5 (s:Nat):∀l:List Value,AV.frees s (l.map fun v=>AV.d (.con v))=true
 | []=>rfl
 | _ :: l=>by simp[AV.frees,AV.free,E5 s l]
theorem oJ (β:Nat→Nat) (h:IH) (l:List Value):AV.aF β h (l.map fun v=>AV.d (.con v)) l:=by
 have:=(AV.gZ (β:=β)).2 (yO (h:=h) l)
 rwa [List.map_map] at this
theorem TG {T:TypeId} (ho:o.op=.alloc T) {s:Nat} (hs:o.dst=some s) {l:List Value} (hz:zeroOf P T=some l) :
  Core P G o ρ st { dst:=some s,val:=.box s 0,nw:=[(s,l.map fun v=>.d (.con v))] }:=by
 intro F w0 h0 st' β h a w K Q hlen hag hfr g hd hop hK
 obtain ⟨v,hv,hl⟩:=yI hz w
 unfold Oper.wp
 have hrun:(execOp a.eval o).run P w=.ok (.value (.pointer (some ⟨w.heap.size,0,none⟩))) (w.alloc (.cells l.toArray T)):=by
  simp only[execOp,ho,Instr.alloc,Sem.run_bind,hv,Result.andThen_ok]
  simp only[newVar,newRow,Sem.run_bind,run_newObj,Result.andThen_ok,Sem.run_pure,←hl,Array.toArray_toList]
  rfl
 rw[hrun,Oper.upon_value]
 refine hK _ _ (upd β s w.heap.size T 0) h (by rw[put_defers];exact hd) ?_
 rw[dK,hs]
 have Ip:=hfr (s,l.map fun v=>.d (.con v)) (by simp)
 exact(g.alloc Ip (E5 s l) (oJ β h l)).put (t:=some s) (x:=.box s 0) (v:=.pointer (some ⟨w.heap.size,0,none⟩)) (by simp[AV.rel,aT])
def pt:AV→AV
 | .tb s off _=>.box s off
 | x=>x
theorem aaQ {β:Nat→Nat} {h:IH} {x:AV} {v:Value} (hr:x.rel β h v):(pt x).rel β h v:=by
 cases x<;>first|exact hr|exact hr.1
theorem Core.pt {e:Ev} (hC:Core P G o (fun x=>pt (ρ x)) st e):Core P G o ρ st e:=by
 intro F w0 h0 st' β h a w K Q hlen hag hfr g hd hop hK
 exact hC F w0 h0 st' β _ a w K Q hlen hag hfr g hd (fun x hx=>aaQ (hop x hx)) hK
theorem Qz {T:TypeId} (ho:o.op=.alloc T) {s:Nat} (hs:o.dst=some s) {l:List Value} (hz:zeroOf P T=some l) :
  Core P G o ρ st { dst:=some s,val:=.tb s 0 T,nw:=[(s,l.map fun v=>.d (.con v))] }:=by
 intro F w0 h0 st' β h a w K Q hlen hag hfr g hd hop hK
 obtain ⟨v,hv,hl⟩:=yI hz w
 unfold Oper.wp
 have hrun:(execOp a.eval o).run P w=.ok (.value (.pointer (some ⟨w.heap.size,0,none⟩))) (w.alloc (.cells l.toArray T)):=by
  simp only[execOp,ho,Instr.alloc,Sem.run_bind,hv,Result.andThen_ok]
  simp only[newVar,newRow,Sem.run_bind,run_newObj,Result.andThen_ok,Sem.run_pure,←hl,Array.toArray_toList]
  rfl
 rw[hrun,Oper.upon_value]
 refine hK _ _ (upd β s w.heap.size T 0) h (by rw[put_defers];exact hd) ?_
 rw[dK,hs]
 have Ip:=hfr (s,l.map fun v=>.d (.con v)) (by simp)
 exact(g.alloc Ip (E5 s l) (oJ β h l)).put (t:=some s) (x:=.tb s 0 T) (v:=.pointer (some ⟨w.heap.size,0,none⟩)) (by simp[AV.rel,aT,aH])
theorem Xn {T:TypeId} {x:Operand} (ho:o.op=.box T x) {s:Nat} (hs:o.dst=some s) {l:List AV} (hc:cellsOf (ρ x)=some l) (hf:AV.frees s l=true) :
  Core P G o ρ st { dst:=some s,val:=.box s 0,nw:=[(s,l)] }:=by
 intro F w0 h0 st' β h a w K Q hlen hag hfr g hd hop hK
 obtain ⟨vs,hcv,hr,_⟩:=rG hc (hop x (by simp[ho,Op.operands]))
 unfold Oper.wp
 have hrun:(execOp a.eval o).run P w=.ok (.value (.pointer (some ⟨w.heap.size,0,none⟩))) (w.alloc (.cells vs.toArray T)):=by
  simp only[execOp,ho,Instr.box,newVar,newRow,Sem.run_bind,run_newObj,Result.andThen_ok,Sem.run_pure,hcv]
  rfl
 rw[hrun,Oper.upon_value]
 refine hK _ _ (upd β s w.heap.size T 0) h (by rw[put_defers];exact hd) ?_
 rw[dK,hs]
 exact(g.alloc (hfr (s,l) (by simp)) hf hr).put (t:=some s) (x:=.box s 0) (v:=.pointer (some ⟨w.heap.size,0,none⟩)) (by simp[AV.rel,aT])
theorem kT (b off n:Nat):Addr.add ⟨b,off,none⟩ n=⟨b,off+n,none⟩:=by
 unfold Addr.add;split<;>simp_all
theorem aO.cells {F:Fr} {w0:World} {h0:IH} {β:Nat→Nat} {h:IH} {tm:Array Value} {w:World} (g:aO G F w0 h0 st β h tm w) {s:Nat} {l:List AV} (hb:st.box s=some l) (hp:bU l=true) (off n:Nat) :
  ∃vs:List Value,AV.aF β h ((l.drop off).take n) vs∧(∀j v,vs[j]?=some v→w.cell? ⟨blk β s,off+j,none⟩=some v):=by
 obtain ⟨_,_,_,T,vs,hh,hr⟩:=g.zJ hb hp
 refine⟨(vs.drop off).take n,(hr.drop off).take n,fun j v hj=>?_⟩
 have hj':vs[off+j]?=some v:=by
  rw[List.getElem?_take] at hj
  split at hj
  ·simpa using hj
  ·cases hj
 simp[World.cell?,hh,hj']
def yw:AV→Bool
 | .arr _ _ _ | .dead | .mp _ _ _=>false
 | _=>true
theorem DR {l:List AV} {i:Nat} {y:AV} (h:l[i]?=some y) (hy:yw y=true):bU l=true:=by
 cases hp:bU l with
 | true=>rfl
 | false=>
  rcases dN hp with ⟨agg,sz,f,rfl⟩|rfl|⟨kd,f,has,rfl⟩<;>cases i<;>first|(simp at h;done)|(simp at h;subst h;simp[yw] at hy)
def oh (agg:Bool) (l:List AV):Option AV:=match agg with|true=>some (wV l)|false=>match l with | [x]=>some x|_=>none
theorem lS {T:TypeId} {n:Nat} (hu:oQ P T=true) (hz:sizeT P T=some n) {b off:Nat} {w:World} {l:List AV} {vs:List Value} {β:Nat→Nat} {h:IH} (hlen:l.length=n) (hr:AV.aF β h l vs)
  (hc:∀j v,vs[j]?=some v→w.cell? ⟨b,off+j,none⟩=some v) {x:AV} (hx:oh (dH P T) l=some x) :
  ∃v,(loadVar T ⟨b,off,none⟩).run P w=.ok v w∧x.rel β h v:=by
 simp only[loadVar,Sem.run_bind,DL hu,Result.andThen_ok,Sem.run_ite]
 cases ha:dH P T with
 | true=>
  rw[ha] at hx
  simp only[oh,aI] at hx;subst hx
  refine⟨.agg vs.toArray,?_,sU.2 ⟨vs,rfl,hr⟩⟩
  have hn:n=vs.length:=by rw[hr.length,hlen]
  simp only[if_true,fK hz,Result.andThen_ok,hn]
  rw[run_loadCells_list w _ vs (fun j v hj=>by rw[kT];exact hc j v hj)]
  simp
 | false=>
  rw[ha] at hx
  simp only[oh] at hx
  match l,hx,hr with
  | [y],hx,⟨v,vs',e,r,rs⟩=>
   simp only[aI] at hx;subst hx
   subst e
   refine⟨v,?_,r⟩
   have:=hc 0 v rfl
   simp only[Nat.add_zero] at this
   simp[run_load,this]
def Pj (s off n:Nat):List (Nat×Nat):=(List.range n).map fun j=>(s,off+j)
theorem MR {T:TypeId} {p:Operand} (ho:o.op=.load T p) {s off:Nat} (hp:ρ p=.box s off) {n:Nat} (hu:oQ P T=true) (hz:sizeT P T=some n) {l:List AV} (hb:st.box s=some l)
  (hn:((l.drop off).take n).length=n) (hnr:((l.drop off).take n).all yw=true) {x:AV} (hx:oh (dH P T) ((l.drop off).take n)=some x):Core P G o ρ st { dst:=o.dst,val:=x,iV:=Pj s off n }:=by
 intro F w0 h0 st' β h a w K Q hlen hag hfr g hd hop hK
 have hpv:=hop p (by simp[ho,Op.operands])
 rw[hp] at hpv
 simp only[AV.rel] at hpv
 -- the cells as the state at hand has them
 have hcell:∀j,j<n→∃l',st'.box s=some l'∧l'[off+j]?=l[off+j]?:=by
  intro j hj
  have h1:=hag (.cell s (off+j)) (by
   simp only[List.any_append,List.any_map,Bool.or_eq_true,List.any_eq_true,Pj,List.mem_range,Function.comp]
   exact .inl ⟨j,hj,by simp[Loc.hits]⟩)
  simp only[AS.at_,hb,Option.bind_some,bg,and_true] at h1
  have h2:l[off+j]?=some (l[off+j]'(by simp at hn;omega)):=by simp
  rw[h2] at h1
  cases hb':st'.box s with
  | none=>simp[hb'] at h1
  | some l'=>exact⟨l',rfl,by simpa [hb',h2] using h1⟩
 have hrun:∃v,(loadVar T ⟨blk β s,off,none⟩).run P w=.ok v w∧x.rel β h v:=by
  cases n with
  | zero=>
   have hnil:(l.drop off).take 0=[]:=rfl
   rw[hnil] at hx
   exact lS hu hz (l:=[]) (vs:=[]) rfl rfl (by simp) hx
  | succ n=>
   obtain ⟨l',hb',h0'⟩:=hcell 0 (by omega)
   have hlt:off<l.length:=by simp at hn;omega
   have hpl:bU l'=true:=by
    refine DR (i:=off+0) (y:=l[off]) (by rw[h0'];simp[hlt]) ?_
    refine List.all_eq_true.1 hnr _ ?_
    refine List.mem_iff_getElem?.2 ⟨0,?_⟩
    simp[hlt]
   obtain ⟨vs,hr,hc⟩:=g.cells hb' hpl off (n+1)
   have heq:(l'.drop off).take (n+1)=(l.drop off).take (n+1):=by
    apply List.ext_getElem?
    intro j
    simp only[List.getElem?_take]
    split
    ·rename_i hj
     obtain ⟨l'',Ti,hl⟩:=hcell j hj
     rw[hb'] at Ti;injection Ti with Ti;subst Ti
     simpa using hl
    ·rfl
   rw[heq] at hr
   exact lS hu hz hn hr hc hx
 obtain ⟨v,hr,hv⟩:=hrun
 unfold Oper.wp
 have:(execOp a.eval o).run P w=.ok (.value v) w:=by
  simp only[execOp,ho,Instr.loadAt,hpv,Instr.sureAddr,Sem.run_bind,Sem.run_pure,Result.andThen_ok,hr]
 rw[this,Oper.upon_value]
 refine hK _ _ β h (by rw[put_defers];exact hd) ?_
 rw[dK]
 exact g.put hv
theorem MO {T:TypeId} {p:Operand} (ho:o.op=.load T p) {l:List DV} (hp:ρ p=.d (.ptr l)) {n:Nat} (hu:oQ P T=true) (hz:sizeT P T=some n)
  (hn:(l.take n).length=n) {x:AV} (hx:oh (dH P T) ((l.take n).map .d)=some x):Core P G o ρ st { dst:=o.dst,val:=x }:=
 bP fun β h a w _ hw hop=>by
  have hpv:=hop p (by simp[ho,Op.operands])
  rw[hp] at hpv
  obtain ⟨b,off,hpv,vs,hr,hc⟩:=hpv
  obtain ⟨v,hrun,hv⟩:=lS (P:=P) (w:=w) (β:=β) (h:=h) hu hz (l:=(l.take n).map .d) (vs:=vs.take n) (b:=b) (off:=off) (by simpa using hn) (AV.gZ.2 (hr.take n)) (fun j v hj=>by
   have hj':vs[j]?=some v:=by
    rw[List.getElem?_take] at hj
    split at hj
    ·exact hj
    ·cases hj
   have hlt:=(List.getElem?_eq_some_iff.1 hj').1
   exact hw.1 _ _ _ ((hc j hlt).trans hj')) hx
  refine⟨v,?_,hv⟩
  simp only[execOp,ho,Instr.loadAt,hpv,Instr.sureAddr,Sem.run_bind,Sem.run_pure,Result.andThen_ok,hrun]
def lM (s:Nat):Nat→List AV→List (Nat×Nat×AV)
 | _,[]=>[]
 | i,x :: l=>(s,i,x) :: lM s (i+1) l
def abn (x:Option AV):Prop:=∃y,x=some y∧yw y=true
theorem yc {F:Fr} {w0:World} {h0:IH} {β:Nat→Nat} {h:IH} {tm:Array Value} {s:Nat} {b off:Nat} (hb:blk β s=b):∀(l:List AV) (vs:List Value) (i:Nat) (st':AS) (w:World),
  aO G F w0 h0 st' β h tm w→AV.aF β h l vs→l.all qH=true→(∀j,j<l.length→abn ((st'.box s).bind (·[off+i+j]?)))→
  ∃w',(storeCells ⟨b,off,none⟩ vs i).run P w=.ok () w'∧aO G F w0 h0 ⟨st'.regs,fF (lM s (off+i) l) st'.boxes⟩ β h tm w'
 | [],vs,i,st',w,g,hr,_,_=>by simp only[AV.aF] at hr;subst hr;exact⟨w,rfl,g⟩
 | x :: l,_,i,st',w,g,⟨v,vs',e,hx,hr⟩,hall,hin=>by
  subst e
  simp only[List.all_cons,aY] at hall
  obtain ⟨y,h0',hy⟩:=hin 0 (by simp)
  cases hbx:st'.box s with
  | none=>simp[hbx] at h0'
  | some lb=>
   simp only[hbx,Option.bind_some,Nat.add_zero] at h0'
   have hpl:=DR h0' hy
   obtain ⟨_,_,_,T,us,hh,hrs⟩:=g.zJ hbx hpl
   have hlt:off+i<lb.length:=(List.getElem?_eq_some_iff.1 h0').1
   have hlt':off+i<us.length:=by rw[hrs.length];exact hlt
   have hcell:w.cell? ⟨b,off+i,none⟩=some (us[off+i]):=by simp[World.cell?,←hb,hh,hlt']
   have hfz:w.frozen? ⟨b,off+i,none⟩=false:=by simp[World.frozen?,←hb,hh]
   have g':=g.store (s:=s) (i:=off+i) ⟨lb,hbx,hpl⟩ hx
   rw[hb] at g'
   obtain ⟨w',hrun,g''⟩:=yc (off:=off) hb l vs' (i+1) _ _ g' hr hall.2 (fun j hj=>by
    obtain ⟨z,h1,hz⟩:=hin (j+1) (by simp;omega)
    rw[show off+i+(j+1)=off+(i+1)+j from by omega] at h1
    simp only[AS.box,lI,if_true] at h1⊢
    cases hl:look st'.boxes s with
    | none=>simp[hl] at h1
    | some c=>
     simp only[hl,Option.bind_some,Option.map_some] at h1⊢
     refine⟨z,?_,hz⟩
     rw[List.getElem?_set_ne (by omega)];exact h1)
   refine⟨w',?_,?_⟩
   ·simp only[storeCells,Sem.run_bind,kT]
    rw[run_store P w _ v _ (nI hall.1 hx),hcell]
    simp only[hfz,Bool.false_eq_true,if_false,Result.andThen_ok]
    exact hrun
   ·simpa [lM,fF,Nat.add_assoc] using g''
theorem Sr {T:TypeId} {p x:Operand} (ho:o.op=.store T p x) (hdst:o.dst=none) {s off:Nat} (hp:ρ p=.box s off) {n:Nat} (hz:sizeT P T=some n) {l:List AV} (hc:cellsOf (ρ x)=some l) (hl:l.length=n)
  {lb:List AV} (hb:st.box s=some lb) (hin:off+n≤lb.length) (hnr:((lb.drop off).take n).all yw=true):Core P G o ρ st { dst:=none,val:=.any,jE:=lM s off l }:=by
 intro F w0 h0 st' β h a w K Q hlen hag hfr g hd hop hK
 have hpv:=hop p (by simp[ho,Op.operands])
 rw[hp] at hpv
 simp only[AV.rel] at hpv
 obtain ⟨vs,hcv,hr,hall⟩:=rG hc (hop x (by simp[ho,Op.operands]))
 have hmem:∀(l:List AV) (i j:Nat),j<l.length→∃y,(s,i+j,y)∈lM s i l:=by
  intro l
  induction l with
  | nil=>intro i j hj;simp at hj
  | cons z l ih=>
   intro i j hj
   cases j with
   | zero=>exact⟨z,by simp[lM]⟩
   | succ j=>
    obtain ⟨y,hy⟩:=ih (i+1) j (by simpa using hj)
    exact⟨y,by simp only[lM];rw[show i+(j+1)=i+1+j from by omega];exact List.mem_cons_of_mem _ hy⟩
 obtain ⟨w',hrun,g'⟩:=yc (P:=P) (off:=off) (s:=s) rfl l vs 0 st' w g hr hall (fun j hj=>by
  obtain ⟨y,hy⟩:=hmem l off j hj
  have h1:=hag (.cell s (off+j)) (by
   simp only[Ev.writes,List.any_append,List.any_map,Bool.or_eq_true]
   exact .inr (.inr (.inl (List.any_eq_true.2 ⟨_,hy,by simp[Loc.hits]⟩))))
  simp only[AS.at_,hb,Option.bind_some,bg,and_true] at h1
  rw[Nat.add_zero,h1]
  have hlt:off+j<lb.length:=by omega
  refine⟨lb[off+j],by simp[hlt],List.all_eq_true.1 hnr _ (List.mem_iff_getElem?.2 ⟨j,?_⟩)⟩
  have:j<n:=by omega
  simp[this,hlt])
 unfold Oper.wp
 have:(execOp a.eval o).run P w=.ok .skip w':=by
  simp only[execOp,ho,Instr.storeAt,hpv,Instr.sureAddr,Sem.run_bind,Sem.run_pure,Result.andThen_ok,storeVar,fK hz,hcv,Sem.run_ite]
  rw[if_neg (by simp[hr.length,hl])]
  simp[hrun]
 rw[this,Oper.upon_skip]
 refine hK _ _ β h (by rw[put_defers];exact hd) ?_
 rw[dK,hdst]
 simpa [Ev.app,kF,Ce] using g'
end ops
end Go.Ab
namespace Go.Ab
open Go Go.RowKit
section ops
variable {P:Program} {G:IH} {o:Oper} {ρ:Operand→AV} {st:AS}
def xC (P:Program) (T:TypeId) (i:Nat):Option Field:=match P.underlying T with|some (.struct fs)=>fs[i]? | _=>none
theorem Ee {T:TypeId} {i:Nat} {f:Field} (h:xC P T i=some f):∃fs,P.underlying T=some (.struct fs)∧fs[i]?=some f:=by
 unfold xC at h
 split at h
 ·rename_i fs hu;exact⟨fs,hu,h⟩
 ·cases h
def pY (x:AV) (n:Nat):Option AV:=
 match x with
 | .box s off=>some (.box s (off+n))
 | .elem s sz i off=>some (.elem s sz i (off+n))
 | .d (.ptr l)=>some (.d (.ptr (l.drop n)))
 | _=>none
theorem OA {x y:AV} {n:Nat} (h:pY x n=some y) {β:Nat→Nat} {k:IH} {v:Value} (hr:x.rel β k v) :
  ∃b off,v=.pointer (some ⟨b,off,none⟩)∧y.rel β k (.pointer (some ⟨b,off+n,none⟩)):=by
 cases x with
 | box s off=>simp only[pY,aI] at h;subst h;exact⟨_,_,hr,rfl⟩
 | elem s sz i off=>
  simp only[pY,aI] at h;subst h
  obtain ⟨h1,h2,e⟩:=hr
  exact⟨_,_,e,h1,h2,by rw[Nat.add_assoc]⟩
 | d z=>
  cases z with
  | ptr l=>
   simp only[pY,aI] at h;subst h
   obtain ⟨b,off,e,vs,hvs,hc⟩:=hr
   refine⟨b,off,e,b,off+n,rfl,vs.drop n,hvs.drop n,fun i hi=>?_⟩
   have:=hc (n+i) (by simp at hi;omega)
   rw[Nat.add_assoc,this];simp
  | _=>simp[pY] at h
 | _=>simp[pY] at h
theorem J4 {T:TypeId} {x:Operand} {i:Nat} (ho:o.op=.fieldAddr T x i) {f:Field} (hf:xC P T i=some f) {n:Nat} (hz:sizeT P f.type=some n) (hn:n≠0) {y:AV} (hy:pY (ρ x) f.offset=some y) :
  Core P G o ρ st { dst:=o.dst,val:=y }:=
 bP fun β h a w _ _ hop=>by
  obtain ⟨b,off,hv,hr⟩:=OA hy (hop x (by simp[ho,Op.operands]))
  obtain ⟨fs,hu,hfs⟩:=Ee hf
  refine⟨_,?_,hr⟩
  simp only[execOp,ho,Instr.fieldAt,Sem.run_bind,run_underlying hu,Result.andThen_ok,hfs,hv,Instr.sureAddr,Sem.run_pure,fieldPlace,fK hz,Sem.run_ite,if_neg hn,kT]
def vC (agg:Bool) (l:List AV) (off n:Nat):Option AV:=match agg with|true=>some (wV ((l.drop off).take n))|false=>l[off]?
theorem CG {T:TypeId} {n:Nat} (hu:oQ P T=true) (hz:sizeT P T=some n) {l:List AV} {vs:List Value} {β:Nat→Nat} {h:IH} (hr:AV.aF β h l vs) {off:Nat} {x:AV} (hx:vC (dH P T) l off n=some x) (w:World) :
  ∃v,(part T vs.toArray off).run P w=.ok v w∧x.rel β h v:=by
 simp only[part,Sem.run_bind,DL hu,Result.andThen_ok,Sem.run_ite]
 cases ha:dH P T with
 | true=>
  rw[ha] at hx
  simp only[vC,aI] at hx;subst hx
  refine⟨.agg ((vs.drop off).take n).toArray,?_,sU.2 ⟨_,rfl,(hr.drop off).take n⟩⟩
  simp[fK hz]
 | false=>
  rw[ha] at hx
  simp only[vC] at hx
  obtain ⟨v,hv,hxr⟩:=hr.get hx
  refine⟨v,?_,hxr⟩
  simp[hv]
def kU:AV→Option (List AV)
 | .d (.agg l)=>some (l.map .d)
 | .agg l=>some l
 | _=>none
theorem uo {x:AV} {l:List AV} (h:kU x=some l) {β:Nat→Nat} {k:IH} {v:Value} (hr:x.rel β k v):∃vs:List Value,v=.agg vs.toArray∧AV.aF β k l vs:=by
 cases x with
 | d y=>
  cases y with
  | agg m=>simp only[kU,aI] at h;subst h;obtain ⟨vs,e,r⟩:=hr;exact⟨vs,e,AV.gZ.2 r⟩
  | _=>simp[kU] at h
 | agg m=>simp only[kU,aI] at h;subst h;exact hr
 | _=>simp[kU] at h
theorem SG {T:TypeId} {x:Operand} {i:Nat} (ho:o.op=.field T x i) {f:Field} (hf:xC P T i=some f) (hu:oQ P f.type=true) {n:Nat} (hz:sizeT P f.type=some n) {l:List AV} (hl:kU (ρ x)=some l)
  {y:AV} (hy:vC (dH P f.type) l f.offset n=some y):Core P G o ρ st { dst:=o.dst,val:=y }:=
 bP fun β h a w _ _ hop=>by
  obtain ⟨vs,hv,hr⟩:=uo hl (hop x (by simp[ho,Op.operands]))
  obtain ⟨fs,hfu,hfs⟩:=Ee hf
  obtain ⟨v,hrun,hxr⟩:=CG hu hz hr hy w
  refine⟨v,?_,hxr⟩
  simp only[execOp,ho,Instr.field,Sem.run_bind,run_underlying hfu,Result.andThen_ok,hfs,hv,asAgg,Sem.run_pure,hrun]
def sF:AV→Option (List AV)
 | .d (.aN l)=>some (l.map .d)
 | .aN l=>some l
 | _=>none
theorem Ot {x:AV} {l:List AV} (h:sF x=some l) {β:Nat→Nat} {k:IH} {v:Value} (hr:x.rel β k v):∃vs:List Value,v=.tuple vs.toArray∧AV.aF β k l vs:=by
 cases x with
 | d y=>
  cases y with
  | aN m=>simp only[sF,aI] at h;subst h;obtain ⟨vs,e,r⟩:=hr;exact⟨vs,e,AV.gZ.2 r⟩
  | _=>simp[sF] at h
 | aN m=>simp only[sF,aI] at h;subst h;exact hr
 | _=>simp[sF] at h
theorem NZ {t:Operand} {i:Nat} (ho:o.op=.extract t i) {l:List AV} (hl:sF (ρ t)=some l) {y:AV} (hy:l[i]?=some y):Core P G o ρ st { dst:=o.dst,val:=y }:=
 bP fun β h a w _ _ hop=>by
  obtain ⟨vs,hv,hr⟩:=Ot hl (hop t (by simp[ho,Op.operands]))
  obtain ⟨v,hv',hxr⟩:=hr.get hy
  refine⟨v,?_,hxr⟩
  simp[execOp,ho,Instr.extract,hv,hv']
def notNil:AV→Bool
 | .box _ _ | .elem .. | .clo .. | .tb .. | .jY _ | .d (.ptr _) | .d (.mp ..) | .d (.clo (.func _) _ _)=>true
 | .d (.con v)=>match v with | .func (.func _) _ _ | .iface _ _ | .map (some _)=>true|_=>false
 | _=>false
theorem MP {x:Operand} (ho:o.op=.nilCheck x) (hx:(match ρ x with | .clo (.func _) _ _=>true | .clo _ _ _=>false|y=>notNil y)=true):Core P G o ρ st { dst:=o.dst,val:=ρ x }:=
 bP fun β h a w _ _ hop=>by
  have hr:=hop x (by simp[ho,Op.operands])
  refine⟨a.eval x,?_,hr⟩
  have:(∃b,a.eval x=.pointer (some b))∨(∃f va vc,a.eval x=.func (.func f) va vc)∨(∃t v,a.eval x=.iface t v)∨∃r,a.eval x=.map (some r):=by
   cases hρ:ρ x with
   | box s off=>rw[hρ] at hr;exact .inl ⟨_,hr⟩
   | elem s sz i off=>rw[hρ] at hr;exact .inl ⟨_,hr.2.2⟩
   | tb s off T=>rw[hρ] at hr;exact .inl ⟨_,hr.1⟩
   | jY s=>rw[hρ] at hr;exact .inr (.inr (.inr ⟨_,hr⟩))
   | clo f va vc=>
    cases f with
    | func f=>rw[hρ] at hr;obtain ⟨_,_,e,_⟩:=hr;exact .inr (.inl ⟨_,_,_,e⟩)
    | _=>simp[hρ] at hx
   | d y=>
    cases y with
    | ptr l=>rw[hρ] at hr;obtain ⟨_,_,e,_⟩:=hr;exact .inl ⟨_,e⟩
    | mp a b c=>rw[hρ] at hr;obtain ⟨_,_,_,e,_⟩:=hr;exact .inr (.inr (.inr ⟨_,e⟩))
    | clo f va vc=>
     cases f with
     | func f=>rw[hρ] at hr;obtain ⟨_,_,e,_⟩:=hr;exact .inr (.inl ⟨_,_,_,e⟩)
     | _=>simp[hρ,notNil] at hx
    | con v=>
     rw[hρ] at hr
     simp only[AV.rel,DV.rel] at hr
     rw[hρ] at hx
     simp only[notNil] at hx
     split at hx
     ·exact .inr (.inl ⟨_,_,_,hr⟩)
     ·exact .inr (.inr (.inl ⟨_,_,hr⟩))
     ·exact .inr (.inr (.inr ⟨_,hr⟩))
     ·cases hx
    | _=>simp[hρ,notNil] at hx
   | _=>simp[hρ,notNil] at hx
  rcases this with ⟨b,e⟩|⟨f,va,vc,e⟩|⟨t,v,e⟩|⟨r,e⟩<;>simp[execOp,ho,e]
theorem qA {β:Nat→Nat} {h:IH} {a:Act}:∀{l:List Operand},(∀x∈l,(ρ x).rel β h (a.eval x))→AV.aF β h (l.map ρ) (l.map a.eval)
 | [],_=>rfl
 | x :: l,hx=>⟨_,_,rfl,hx x (by simp),qA fun y hy=>hx y (by simp[hy])⟩
def NK (f:Go.Fn) (a c:List AV):AV:=match pK a,pK c with|some x,some y=>.d (.clo f x y)|_,_=>.clo f a c
theorem Vd {f:Go.Fn} {l m:List AV} {β:Nat→Nat} {h:IH} {va vc:List Value} (ha:AV.aF β h l va) (hc:AV.aF β h m vc):(NK f l m).rel β h (.func f va.toArray vc.toArray):=by
 unfold NK
 split
 ·rename_i x y hx hy
  rw[ou hx,AV.gZ] at ha
  rw[ou hy,AV.gZ] at hc
  exact⟨va,vc,rfl,ha,hc⟩
 ·exact⟨va,vc,rfl,ha,hc⟩
theorem MW {f:Go.Fn} {x c:Array Operand} (ho:o.op=.makeFunc f x c):Core P G o ρ st { dst:=o.dst,val:=NK f (x.toList.map ρ) (c.toList.map ρ) }:=
 bP fun β h a w _ _ hop=>by
  refine⟨.func f (x.toList.map a.eval).toArray (c.toList.map a.eval).toArray,?_,?_⟩
  ·simp only[execOp,ho,Instr.makeFunc,Sem.run_bind,Sem.run_pure,Result.andThen_ok]
   congr 4<;>apply Array.ext'<;>simp
  ·exact Vd (qA fun y hy=>hop y (by simp[ho,Op.operands,Array.mem_toList_iff.1 hy])) (qA fun y hy=>hop y (by simp[ho,Op.operands,Array.mem_toList_iff.1 hy]))
def wS (place:Nat→Option (Nat×Nat)) (cells:List AV):List (Nat×List AV)→Option (List AV)
 | []=>some cells
 | (i,l) :: r=>match place i with
  | none=>none
  | some (off,size)=>match Nat.beq l.length size&&Nat.ble (off+l.length) cells.length with
   | true=>wS place (cells.take off++l++cells.drop (off+l.length)) r
   | false=>none
theorem foldl_set (v:List Value):∀(off k:Nat) (cs:Array Value),off+k+v.length≤cs.size→
  ((v.zipIdx k).foldl (fun cs (c:Value×Nat)=>cs.setIfInBounds (off+c.2) c.1) cs).toList=cs.toList.take (off+k)++v++cs.toList.drop (off+k+v.length):=by
 induction v with
 | nil=>intro off k cs _;simp
 | cons x v ih=>
  intro off k cs h
  simp only[List.zipIdx_cons,List.foldl_cons]
  rw[show off+k=off+k from rfl,ih off (k+1) _ (by simp at h⊢;omega)]
  simp only[Array.toList_setIfInBounds]
  have hlt:off+k<cs.toList.length:=by simp only[Array.length_toList];simp only[List.length_cons] at h;omega
  have e1:(cs.toList.set (off+k) x).take (off+(k+1))=cs.toList.take (off+k)++[x]:=by
   rw[show off+(k+1)=off+k+1 from rfl,List.take_succ_eq_append_getElem (by simpa using hlt),List.take_set_of_le (Nat.le_refl _),List.getElem_set_self]
  have e2:(cs.toList.set (off+k) x).drop (off+(k+1)+v.length)=cs.toList.drop (off+k+(x :: v).length):=by
   rw[List.drop_set_of_lt (by omega)]
   simp only[List.length_cons]
   congr 1;omega
  rw[e1,e2];simp
theorem sK {β:Nat→Nat} {h:IH} {place:Nat→Option (Nat×Nat)}:∀(parts:List (Nat×List AV)) (vals:List (Nat×Value)) (cells:List AV) (cs:Array Value) (out:List AV),
  parts.length=vals.length→(∀(j:Nat) (i:Nat) (l:List AV),parts[j]?=some (i,l)→∃v vs,vals[j]?=some (i,v)∧v.cells=vs.toArray∧AV.aF β h l vs)→
  AV.aF β h cells cs.toList→wS place cells parts=some out→∃os,Instr.fill place cs vals=some os∧AV.aF β h out os.toList
 | [],vals,cells,cs,out,hl,_,hr,ho=>by
  have:vals=[]:=List.eq_nil_of_length_eq_zero hl.symm
  subst this
  simp only[wS,aI] at ho;subst ho
  exact⟨cs,rfl,hr⟩
 | (i,l) :: parts,vals,cells,cs,out,hl,hp,hr,ho=>by
  match vals,hl with
  | (i',v) :: vals,hl=>
   obtain ⟨v',vs,he,zA,lC⟩:=hp 0 i l rfl
   simp at he;obtain ⟨rfl,rfl⟩:=he
   simp only[wS] at ho
   cases hpl:place i' with
   | none=>simp[hpl] at ho
   | some pq=>
    obtain ⟨off,size⟩:=pq
    simp only[hpl] at ho
    split at ho
    ·rename_i hcond
     simp only[aY,Nat.beq_eq,Nat.ble_eq] at hcond
     obtain ⟨hsz,hle⟩:=hcond
     have hlv:vs.length=l.length:=lC.length
     have hlc:cs.size=cells.length:=by simpa using hr.length
     simp only[Instr.fill,hpl]
     rw[if_neg (by simp[zA,hlv];omega)]
     refine sK parts vals _ _ out (by simpa using hl) (fun j i l h=>by simpa using hp (j+1) i l (by simpa using h)) ?_ ho
     have:(v.cells.zipIdx.foldl (fun cs (c:Value×Nat)=>cs.setIfInBounds (off+c.2) c.1) cs).toList=cs.toList.take off++vs++cs.toList.drop (off+vs.length):=by
      have hz:v.cells.zipIdx.foldl (fun cs (c:Value×Nat)=>cs.setIfInBounds (off+c.2) c.1) cs=(vs.zipIdx 0).foldl (fun cs (c:Value×Nat)=>cs.setIfInBounds (off+c.2) c.1) cs:=by
       rw[zA,←Array.foldl_toList];simp
      rw[hz,foldl_set vs off 0 cs (by omega)];simp
     rw[this,hlv]
     exact((hr.take off).append lC).append (hr.drop _)
    ·cases ho
end ops
end Go.Ab
namespace Go.Ab
open Go Go.RowKit
section ops
variable {P:Program} {G:IH} {o:Oper} {ρ:Operand→AV} {st:AS}
def xE (P:Program):List Field→Option (List (Nat×Nat))
 | []=>some []
 | f :: fs=>match sizeT P f.type,xE P fs with|some n,some l=>some ((f.offset,n) :: l)|_,_=>none
theorem Ls:∀{fs:List Field} {l:List (Nat×Nat)} (_:xE P fs=some l) (w:World),(fs.mapM fun f=>do pure (f.offset,←sizeOf f.type):Sem (List (Nat×Nat))).run P w=.ok l w
 | [],l,h,w=>by simp only[xE,aI] at h;subst h;simp
 | f :: fs,l,h,w=>by
  simp only[xE] at h
  cases hn:sizeT P f.type with
  | none=>simp[hn] at h
  | some n=>
   cases hl:xE P fs with
   | none=>simp[hn,hl] at h
   | some l'=>
    simp only[hn,hl,aI] at h;subst h
    simp only[List.mapM_cons,Sem.run_bind,fK hn,Result.andThen_ok,Sem.run_pure,Ls hl w]
def placeOf (P:Program) (T:TypeId):Option (Nat→Option (Nat×Nat)):=
 match P.underlying T with
 | some (.struct fs)=>match xE P fs.toList with|some l=>some (fun i=>l[i]?)|none=>none
 | some (.array _ e)=>match sizeT P e with|some n=>some (fun i=>some (i*n,n))|none=>none
 | _=>none
def partsOf (ρ:Operand→AV):List (Nat×Operand)→Option (List (Nat×List AV))
 | []=>some []
 | (i,x) :: r=>match cellsOf (ρ x),partsOf ρ r with|some l,some m=>some ((i,l) :: m)|_,_=>none
theorem qp:∀{parts:List (Nat×Operand)} {m:List (Nat×List AV)} (_:partsOf ρ parts=some m) {β:Nat→Nat} {h:IH} {a:Act} (_:∀p∈parts,(ρ p.2).rel β h (a.eval p.2)),
  m.length=(parts.map fun p=>(p.1,a.eval p.2)).length∧∀(j i:Nat) (l:List AV),m[j]?=some (i,l)→∃v vs,(parts.map fun p=>(p.1,a.eval p.2))[j]?=some (i,v)∧v.cells=vs.toArray∧AV.aF β h l vs
 | [],m,h,_,_,_,_=>by simp only[partsOf,aI] at h;subst h;simp
 | (i,x) :: r,m,h,β,k,a,hr=>by
  simp only[partsOf] at h
  cases hc:cellsOf (ρ x) with
  | none=>simp[hc] at h
  | some l=>
   cases hp:partsOf ρ r with
   | none=>simp[hc,hp] at h
   | some m'=>
    simp only[hc,hp,aI] at h;subst h
    obtain ⟨h1,h2⟩:=qp hp fun p hp=>hr p (List.mem_cons_of_mem _ hp)
    refine⟨by simpa using h1,fun j i' l' hj=>?_⟩
    cases j with
    | zero=>
     simp at hj;obtain ⟨rfl,rfl⟩:=hj
     obtain ⟨vs,hv,lC,_⟩:=rG hc (hr (i,x) (by simp))
     exact⟨_,vs,rfl,hv,lC⟩
    | succ j=>simpa using h2 j i' l' (by simpa using hj)
theorem Uc {T:TypeId} {parts:Array (Nat×Operand)} (ho:o.op=.build T parts) {z:List Value} (hz:zeroOf P T=some z) {pl:Nat→Option (Nat×Nat)} (hpl:placeOf P T=some pl)
  {m:List (Nat×List AV)} (hm:partsOf ρ parts.toList=some m) {l:List AV} (hl:wS pl (z.map fun v=>.d (.con v)) m=some l):Core P G o ρ st { dst:=o.dst,val:=wV l }:=
 bP fun β h a w _ _ hop=>by
  obtain ⟨zv,hzv,hzc⟩:=yI hz w
  obtain ⟨h1,h2⟩:=qp (a:=a) (β:=β) (h:=h) hm fun p hp=>hop p.2 (by simp only[ho,Op.operands];simpa using ⟨p.1,by simpa using hp⟩)
  obtain ⟨os,rU,hor⟩:=sK m _ (z.map fun v=>.d (.con v)) zv.cells l h1 h2 (by rw[hzc];exact oJ β h z) hl
  refine⟨.agg os,?_,sU.2 ⟨os.toList,by simp,hor⟩⟩
  have hparts:(parts.map fun (i,x)=>(i,a.eval x)).toList=parts.toList.map fun p=>(p.1,a.eval p.2):=by simp
  simp only[execOp,ho,Instr.build,Sem.run_bind,hzv,Result.andThen_ok]
  unfold placeOf at hpl
  split at hpl
  ·rename_i fs hu
   split at hpl
   ·rename_i l' hs
    simp only[aI] at hpl;subst hpl
    have hrun:=Ls hs w
    simp only[run_underlying hu,Result.andThen_ok,Sem.run_bind]
    rw[Array.mapM_eq_mapM_toList]
    simp only[Sem.run_map,hrun,Result.andThen_ok,List.getElem?_toArray,hparts,rU,Sem.run_pure]
   ·cases hpl
  ·rename_i n e hu
   split at hpl
   ·rename_i n' hs
    simp only[aI] at hpl;subst hpl
    simp only[run_underlying hu,Result.andThen_ok,Sem.run_bind,fK hs,hparts,rU,Sem.run_pure]
   ·cases hpl
  ·cases hpl
def aW (agg:Bool) (sz:Nat) (ds:List DV) (i:Nat):DV:=match agg with|true=>.agg ((ds.drop (i*sz)).take sz)|false=>ds.getD i (.con undef)
theorem PK {h:IH} {b off n sz cap:Nat} {agg:Bool} {ds:List DV} {vs:List Value} (hr:DV.aF h ds vs) (hlen:ds.length=n*sz) (hc:∀j,j<n*sz→h.cell b (off+j)=vs[j]?) (hcap:n≤cap)
  (hag:agg=true∨(sz=1∧ds.all mW=true)):(DV.slc sz n (aW agg sz ds)).rel h (.slice (some ⟨b,off,none⟩) n cap):=by
 refine⟨_,cap,rfl,hcap,.inr ⟨b,off,rfl,fun i hi=>?_⟩⟩
 have hmul:i*sz+sz≤n*sz:=by
  have:(i+1)*sz≤n*sz:=Nat.mul_le_mul_right sz hi
  rwa [Nat.add_mul,Nat.one_mul] at this
 have hvl:=hr.length
 cases agg with
 | true=>
  refine⟨.agg ((vs.drop (i*sz)).take sz).toArray,⟨_,rfl,(hr.drop _).take _⟩,?_,fun j hj=>?_⟩
  ·simp[Value.cells,hvl,hlen];omega
  ·rw[show off+i*sz+j=off+(i*sz+j) from by omega,hc _ (by omega)]
   simp[Value.cells,hj]
 | false=>
  rcases hag with hag|⟨rfl,hall⟩
  ·cases hag
  ·have hi':i<ds.length:=by omega
   obtain ⟨v,hv,lC⟩:=hr.get (i:=i) (x:=ds[i]) (by simp[hi'])
   have hone:v.oneCell'=true:=by
    have:=List.all_eq_true.1 hall ds[i] (by simp)
    exact nI (β:=fun _=>0) (x:=.d ds[i]) this lC
   refine⟨v,?_,by rw[oneCell_cells hone];rfl,fun j hj=>?_⟩
   ·simp only[aW,List.getD_eq_getElem?_getD,gy hi',Option.getD_some];exact lC
   ·obtain rfl:j=0:=by omega
    rw[show off+i*1+0=off+i from by omega,hc _ (by omega),hv,oneCell_cells hone];rfl
def IH.add (h:IH) (b:Nat) (vs:List Value):IH:=⟨fun c o=>if c=b then vs[o]? else h.cell c o,h.obj⟩
section
variable {F:Fr} {w0:World} {h0:IH} {β:Nat→Nat} {h:IH} {tm:Array Value} {w:World}
theorem aO.newRow (g:aO G F w0 h0 st β h tm w) (vs:List Value) (T:TypeId):aO G F w0 h0 st β (h.add w.heap.size vs) tm (w.alloc (.cells vs.toArray T))∧h.le (h.add w.heap.size vs):=by
 have hn:=holds_none g.holds (Nat.le_refl w.heap.size)
 have hle:h.le (h.add w.heap.size vs):=by
  refine⟨fun b o v e=>?_,fun b o e=>e⟩
  simp only[IH.add]
  split
  ·rename_i hb;subst hb;rw[hn.1] at e;cases e
  ·exact e
 refine⟨g.grow hle ?_ ⟨rfl,rfl,rfl,by simp,fun k hk _=>Below.heap_alloc _ _ _ hk⟩ fun b hb=>⟨fun o=>?_,rfl⟩,hle⟩
 ·have ha:=Gw g.holds (.cells vs.toArray T)
  refine⟨fun b o v e=>?_,ha.2⟩
  simp only[IH.add] at e
  split at e
  ·rename_i hb;subst hb
   rw[World.cell?_alloc_new];simpa using e
  ·exact ha.1 b o v e
 ·simp only[IH.add];rw[if_neg (by omega)]
end
def oI (n:Nat) (z:List Value):List Value:=(List.range n).map fun i=>z.getD (i % z.length) default
theorem I8 (n:Nat) (zv:Value) (z:List Value) (hz:zv.cells.toList=z):((Array.range n).map (zv.cells[· % zv.cells.size]!)).toList=oI n z:=by
 subst hz
 simp only[oI,Array.toList_map,Array.toList_range]
 apply List.map_congr_left
 intro i _
 by_cases hz:zv.cells.size=0
 ·have:zv.cells=#[]:=by simpa using hz
  simp[this]
 ·have:i % zv.cells.size<zv.cells.size:=Nat.mod_lt _ (by omega)
  simp[this,List.getD_eq_getElem?_getD]
def bF (P:Program) (T:TypeId):Option TypeId:=match P.underlying T with|some (.slice e)=>some e|_=>none
theorem bC {T E:TypeId} (h:bF P T=some E):P.underlying T=some (.slice E):=by
 unfold bF at h
 split at h
 ·rename_i hu;simp at h;subst h;exact hu
 ·cases h
theorem yQ {T E:TypeId} {n:Nat} {parts:Array (Nat×Operand)} (ho:o.op=.buildSlice T n parts) (hT:bF P T=some E) {sz:Nat} (hsz:sizeT P E=some sz) (hsmall:Nat.ble (n*sz) 16777216=true) {z:List Value} (hz:zeroOf P E=some z)
  {m:List (Nat×List AV)} (hm:partsOf ρ parts.toList=some m) {l:List AV} (hl:wS (fun i=>some (i*sz,sz)) ((oI (n*sz) z).map fun v=>.d (.con v)) m=some l) {ds:List DV} (hd:pK l=some ds) (hlen:ds.length=n*sz)
  (hag:dH P E=true∨(sz=1∧ds.all mW=true)):Core P G o ρ st { dst:=o.dst,val:=.d (.slc sz n (aW (dH P E) sz ds)) }:=by
 intro F w0 h0 st' β h a w K Q hlen' hag' hfr g hdf hop hK
 obtain ⟨zv,hzv,hzc⟩:=yI hz w
 obtain ⟨h1,h2⟩:=qp (a:=a) (β:=β) (h:=h) hm fun p hp=>hop p.2 (by simp only[ho,Op.operands];simpa using ⟨p.1,by simpa using hp⟩)
 have hparts:(parts.map fun (i,x)=>(i,a.eval x)).toList=parts.toList.map fun p=>(p.1,a.eval p.2):=by simp
 obtain ⟨os,hor,hrun⟩:∃os:Array Value,AV.aF β h l os.toList∧(execOp a.eval o).run P w=.ok (.value (.slice (some ⟨w.heap.size,0,none⟩) n n)) (w.alloc (.cells os E)):=by
  have hbig:¬n*sz>2 ^ 24:=by rw[Nat.ble_eq] at hsmall;show ¬n*sz>16777216;omega
  by_cases h0:n*sz=0
  ·obtain ⟨os,rU,hor⟩:=sK m _ ((oI (n*sz) z).map fun v=>.d (.con v)) ((Array.range (n*sz)).map ((#[]:Array Value)[· % (#[]:Array Value).size]!)) l h1 h2 (by simp[h0,oI,AV.aF]) hl
   refine⟨os,hor,?_⟩
   simp only[execOp,ho,Instr.buildSlice,Sem.run_bind,run_underlying (bC hT),Result.andThen_ok,fK hsz,Sem.run_ite,if_neg hbig,if_pos h0,Sem.run_pure,hparts,rU,Go.newRow,run_newObj]
   rfl
  ·obtain ⟨os,rU,hor⟩:=sK m _ ((oI (n*sz) z).map fun v=>.d (.con v)) ((Array.range (n*sz)).map (zv.cells[· % zv.cells.size]!)) l h1 h2 (by rw[I8 _ zv z hzc];exact oJ β h _) hl
   refine⟨os,hor,?_⟩
   simp only[execOp,ho,Instr.buildSlice,Sem.run_bind,run_underlying (bC hT),Result.andThen_ok,fK hsz,Sem.run_ite,if_neg hbig,if_neg h0,Sem.run_pure,hzv,hparts,rU,Go.newRow,run_newObj]
   rfl
 rw[ou hd,AV.gZ] at hor
 unfold Oper.wp
 rw[hrun,Oper.upon_value]
 obtain ⟨g',hle⟩:=g.newRow os.toList E
 simp only[Array.toArray_toList] at g'
 refine hK _ _ β (h.add w.heap.size os.toList) (by rw[put_defers];exact hdf) ?_
 rw[dK]
 refine g'.put (x:=.d (.slc sz n (aW (dH P E) sz ds))) ?_
 refine PK (vs:=os.toList) (hor.mono hle) hlen (fun j hj=>?_) (Nat.le_refl _) hag
 simp[IH.add]
end ops
end Go.Ab
namespace Go.Ab
open Go Go.RowKit
section ops
variable {P:Program} {G:IH} {o:Oper} {ρ:Operand→AV} {st:AS}
def zG:DV→Option (List DV)
 | .agg l=>match l.all mW with|true=>some l|false=>none
 | x=>match mW x with|true=>some [x] | false=>none
theorem DZ {x:DV} {l:List DV} (hf:zG x=some l) {h:IH} {v:Value} (hr:x.rel h v):∃vs:List Value,v.cells=vs.toArray∧DV.aF h l vs:=by
 have single:∀(x:DV),(match mW x with|true=>some [x] | false=>none)=some l→x.rel h v→∃vs:List Value,v.cells=vs.toArray∧DV.aF h l vs:=by
  intro x hc hr
  cases ho:mW x with
  | false=>rw[ho] at hc;simp at hc
  | true=>
   rw[ho] at hc;simp at hc;subst hc
   exact⟨[v],oneCell_cells (nI (β:=fun _=>0) (x:=.d x) ho hr),⟨v,[],rfl,hr,rfl⟩⟩
 cases x with
 | agg m=>
  simp only[zG] at hf
  split at hf
  ·simp at hf;subst hf
   obtain ⟨vs,rfl,hvs⟩:=hr
   exact⟨vs,rfl,hvs⟩
  ·cases hf
 | con v=>exact single (.con v) hf hr
 | aN l=>exact single (.aN l) hf hr
 | ptr l=>exact single (.ptr l) hf hr
 | slc a b c=>exact single (.slc a b c) hf hr
 | clo a b c=>exact single (.clo a b c) hf hr
 | NY R=>exact single (.NY R) hf hr
 | mp a b c=>exact single (.mp a b c) hf hr
theorem KY {T E:TypeId} {x i:Operand} (ho:o.op=.indexAddr T x i) (hT:bF P T=some E) {sz n:Nat} {f:Nat→DV} (hx:ρ x=.d (.slc sz n f)) (hsz:sizeT P E=some sz) {k:IntKind} {m:Int} (hi:ρ i=.d (.con (.int k m)))
  (h0:0≤m∧m<n) {l:List DV} (hl:zG (f m.toNat)=some l):Core P G o ρ st { dst:=o.dst,val:=.d (.ptr l) }:=
 bP fun β h a w _ _ hop=>by
  have hxv:=hop x (by simp[ho,Op.operands])
  have hiv:=hop i (by simp[ho,Op.operands])
  rw[hx] at hxv;rw[hi] at hiv
  simp only[AV.rel,DV.rel] at hiv
  obtain ⟨p,cap,hv,_,hrest⟩:=hxv
  rcases hrest with rfl|⟨b,off,hp,hel⟩
  ·exfalso;omega
  subst hp
  obtain ⟨v,lC,hvs,hcell⟩:=hel m.toNat (by omega)
  obtain ⟨vs,zA,hrs⟩:=DZ hl lC
  refine⟨.pointer (some ⟨b,off+m.toNat*sz,none⟩),?_,b,off+m.toNat*sz,rfl,vs,hrs,fun j hj=>?_⟩
  ·simp only[execOp,ho,hv,hiv]
   have:=run_indexAt_slice (P:=P) w T ⟨b,off,none⟩ n cap k m (by simp[Program.elem,bC hT])
   simp only[Program.elem,bC hT,fK hsz,Result.andThen_ok,kT] at this
   simp only[Sem.run_bind,this,if_pos h0,Result.andThen_ok,Sem.run_pure]
  ·rw[hcell j (by rw[←hvs,zA];simpa using hj),zA];simp
def byteAt (s:ByteArray) (j:Nat):Int:=(((s.data[j]?).getD 0).toNat:Int)
def isStr (P:Program) (T:TypeId):Bool:=match P.underlying T with|some .string=>true|_=>false
theorem qM {T:TypeId} (h:isStr P T=true):P.underlying T=some .string:=by
 unfold isStr at h;split at h
 ·assumption
 ·cases h
theorem KR {T:TypeId} {x i:Operand} (ho:o.op=.index T x i) (hT:isStr P T=true) {s:ByteArray} (hx:ρ x=.d (.con (.string s))) {k:IntKind} {m:Int} (hi:ρ i=.d (.con (.int k m)))
  (h0:0≤m∧m<s.size):Core P G o ρ st { dst:=o.dst,val:=.d (.con (.int .u8 (byteAt s m.toNat))) }:=
 bP fun β h a w _ _ hop=>by
  have hxv:=hop x (by simp[ho,Op.operands])
  have hiv:=hop i (by simp[ho,Op.operands])
  rw[hx] at hxv;rw[hi] at hiv
  simp only[AV.rel,DV.rel] at hiv hxv
  refine⟨_,?_,rfl⟩
  have hlt:m.toNat<s.size:=by omega
  have:s[m.toNat]?=some (s[m.toNat]):=by simp[hlt]
  simp only[execOp,ho,hxv,hiv,Instr.index,Sem.run_bind,asIntOf,Sem.run_pure,Result.andThen_ok,run_underlying (qM hT),if_pos h0.1,this]
  have hb:(((s[m.toNat]).toNat:Int))=byteAt s m.toNat:=by
   have hlt':m.toNat<s.data.size:=hlt
   simp only[byteAt,Array.getElem?_eq_getElem hlt',Option.getD_some]
   rfl
  rw[hb]
theorem BX {T U:TypeId} {x y:Operand} (ho:o.op=.binOp .quo T x y U) {k:IntKind} {p q:Int} (hx:ρ x=.d (.con (.int k p))) (hy:ρ y=.d (.con (.int k q))) (h0:q≠0) :
  Core P G o ρ st { dst:=o.dst,val:=.d (.con (.int k (k.wrap (p.tdiv q)))) }:=
 bP fun β h a w _ _ hop=>by
  have hxv:=hop x (by simp[ho,Op.operands])
  have hyv:=hop y (by simp[ho,Op.operands])
  rw[hx] at hxv;rw[hy] at hyv
  simp only[AV.rel,DV.rel] at hxv hyv
  exact⟨_,by simp[execOp,ho,hxv,hyv,eqGuard,binOp,Op.intDiv,h0],rfl⟩
theorem OO {T U:TypeId} {x y:Operand} (ho:o.op=.binOp .rem T x y U) {k:IntKind} {p q:Int} (hx:ρ x=.d (.con (.int k p))) (hy:ρ y=.d (.con (.int k q))) (h0:q≠0) :
  Core P G o ρ st { dst:=o.dst,val:=.d (.con (.int k (p.tmod q))) }:=
 bP fun β h a w _ _ hop=>by
  have hxv:=hop x (by simp[ho,Op.operands])
  have hyv:=hop y (by simp[ho,Op.operands])
  rw[hx] at hxv;rw[hy] at hyv
  simp only[AV.rel,DV.rel] at hxv hyv
  exact⟨_,by simp[execOp,ho,hxv,hyv,eqGuard,binOp,Op.intDiv,h0],rfl⟩
theorem QA {T U:TypeId} {x y:Operand} (ho:o.op=.binOp .add T x y U) {p q:ByteArray} (hx:ρ x=.d (.con (.string p))) (hy:ρ y=.d (.con (.string q))) (h0:p.size+q.size≤9223372036854775807) :
  Core P G o ρ st { dst:=o.dst,val:=.d (.con (.string (p++q))) }:=
 bP fun β h a w _ _ hop=>by
  have hxv:=hop x (by simp[ho,Op.operands])
  have hyv:=hop y (by simp[ho,Op.operands])
  rw[hx] at hxv;rw[hy] at hyv
  simp only[AV.rel,DV.rel] at hxv hyv
  refine⟨_,?_,rfl⟩
  have hn:¬((p.size+q.size:Nat):Int)>IntKind.i64.max:=by
   have:IntKind.i64.max=9223372036854775807:=rfl
   rw[this];omega
  simp only[execOp,ho,hxv,hyv,eqGuard,binOp,Op.stringOp,Sem.run_bind,Bool.not_false,if_true,Sem.run_pure,Result.andThen_ok,if_neg hn]
def gV (ρ:Operand→AV) (x:Option Operand) (dflt:Int):Option Int:=
 match x with
 | none=>some dflt
 | some x=>match ρ x with | .d (.con (.int _ m))=>some m|_=>none
theorem pX {x:Option Operand} {dflt m:Int} (hm:gV ρ x dflt=some m) {y:Nat} (h0:0≤m∧m≤y) {β:Nat→Nat} {h:IH} {a:Act} (hop:∀z,x=some z→(ρ z).rel β h (a.eval z)) (c:BoundsCode) (w:World) :
  match x.map a.eval with|some v=>(Instr.sliceBound v y c).run P w=.ok m.toNat w|none=>m=dflt:=by
 cases x with
 | none=>simp only[gV,aI] at hm;exact hm.symm
 | some x=>
  have hr:=hop x rfl
  simp only[gV] at hm
  split at hm
  ·rename_i k m' hx
   simp only[aI] at hm;subst hm
   rw[hx] at hr
   simp only[AV.rel,DV.rel] at hr
   simp only[Option.map_some,hr,Instr.sliceBound,asIntOf,Sem.run_bind,Sem.run_pure,Result.andThen_ok,Sem.run_ite,if_pos h0]
  ·cases hm
theorem tN {lo hi:Option Operand} {len cap:Nat} {l m:Int} (hl:gV ρ lo 0=some l) (hm:gV ρ hi len=some m) (h0:0≤l∧l≤m∧m≤len) (hcap:len≤cap) {β:Nat→Nat} {h:IH} {a:Act} (isS:Bool)
  (hop:∀z,lo=some z∨hi=some z→(ρ z).rel β h (a.eval z)) (w:World):(Instr.sliceBounds isS len cap (lo.map a.eval) (hi.map a.eval) none).run P w=.ok (l.toNat,m.toNat,cap) w:=by
 have hh:=pX (P:=P) (y:=cap) hm (by omega) (fun z hz=>hop z (.inr hz)) (if isS then .sliceAcap else .sliceAlen) w
 have hl':=pX (P:=P) (y:=m.toNat) hl (by omega) (fun z hz=>hop z (.inl hz)) .sliceB w
 cases hi with
 | none=>
  obtain rfl:m=len:=hh
  cases lo with
  | none=>obtain rfl:l=0:=hl';simp[Instr.sliceBounds]
  | some z=>
   have hl'':(Instr.sliceBound (a.eval z) len .sliceB).run P w=.ok l.toNat w:=by simpa using hl'
   simp[Instr.sliceBounds,hl'']
 | some y=>
  have hh':(Instr.sliceBound (a.eval y) cap (if isS then .sliceAcap else .sliceAlen)).run P w=.ok m.toNat w:=hh
  cases lo with
  | none=>obtain rfl:l=0:=hl';simp[Instr.sliceBounds,hh']
  | some z=>
   have hl'':(Instr.sliceBound (a.eval z) m.toNat .sliceB).run P w=.ok l.toNat w:=hl'
   simp[Instr.sliceBounds,hh',hl'']
theorem J5 {T:TypeId} {x:Operand} {lo hi:Option Operand} (ho:o.op=.slice T x lo hi none) (hT:isStr P T=true) {s:ByteArray} (hx:ρ x=.d (.con (.string s))) {l m:Int} (hl:gV ρ lo 0=some l) (hm:gV ρ hi s.size=some m)
  (h0:0≤l∧l≤m∧m≤s.size):Core P G o ρ st { dst:=o.dst,val:=.d (.con (.string (s.extract l.toNat m.toNat))) }:=
 bP fun β h a w _ _ hop=>by
  have hxv:=hop x (by simp[ho,Op.operands])
  rw[hx] at hxv
  simp only[AV.rel,DV.rel] at hxv
  refine⟨_,?_,rfl⟩
  have hb:=tN (P:=P) (isS:=false) hl hm h0 (Nat.le_refl _) (a:=a) (β:=β) (h:=h) (fun z hz=>hop z (by
   rcases hz with hz|hz<;>simp[ho,Op.operands,hz])) w
  simp only[execOp,ho,hxv,Instr.sliceAt,Instr.slice,Sem.run_bind,run_underlying (qM hT),Result.andThen_ok,Option.map_none,Option.isSome_none,Bool.false_eq_true,if_false,Sem.run_pure,hb]
theorem JZ {T E:TypeId} {x:Operand} {lo hi:Option Operand} (ho:o.op=.slice T x lo hi none) (hT:bF P T=some E) {sz n:Nat} {f:Nat→DV} (hx:ρ x=.d (.slc sz n f)) (hsz:sizeT P E=some sz) {l m:Int} (hl:gV ρ lo 0=some l) (hm:gV ρ hi n=some m)
  (h0:0≤l∧l≤m∧m≤n):Core P G o ρ st { dst:=o.dst,val:=.d (.slc sz (m-l).toNat (fun i=>f (l.toNat+i))) }:=
 bP fun β h a w _ _ hop=>by
  have hxv:=hop x (by simp[ho,Op.operands])
  rw[hx] at hxv
  obtain ⟨p,cap,hv,hcap,hrest⟩:=hxv
  have hb:=tN (P:=P) (isS:=true) hl hm h0 hcap (a:=a) (β:=β) (h:=h) (fun z hz=>hop z (by
   rcases hz with hz|hz<;>simp[ho,Op.operands,hz])) w
  refine⟨.slice (if cap=l.toNat then p else p.map (·.add (l.toNat*sz))) (m.toNat-l.toNat) (cap-l.toNat),?_,?_⟩
  ·simp only[execOp,ho,hv,Instr.sliceAt,Instr.slice,Sem.run_bind,run_underlying (bC hT),Result.andThen_ok,Option.map_none,hb,fK hsz,Sem.run_pure]
  ·refine⟨_,cap-l.toNat,by rw[show (m-l).toNat=m.toNat-l.toNat from by omega],by omega,?_⟩
   by_cases hz:(m-l).toNat=0
   ·exact .inl hz
   ·rcases hrest with hn|⟨b,off,hp,hel⟩
    ·exfalso;omega
    ·refine .inr ⟨b,off+l.toNat*sz,?_,fun i hi=>?_⟩
     ·rw[if_neg (by omega),hp];simp[kT]
     ·obtain ⟨v,lC,hvs,hcell⟩:=hel (l.toNat+i) (by omega)
      refine⟨v,lC,hvs,fun j hj=>?_⟩
      rw[←hcell j hj,Nat.add_mul];congr 1;omega
theorem WZ {c:Call} (ho:o.op=.call c) {T E:TypeId} {x:Operand} (hc:c.callee=.builtin .len) (ha:c.args=#[x]) (ht:c.argTypes=#[T]) (hT:bF P T=some E) {sz n:Nat} {f:Nat→DV} (hx:ρ x=.d (.slc sz n f)) :
  Core P G o ρ st { dst:=o.dst,val:=.d (.con (.int .i64 n)) }:=
 bP fun β h a w _ _ hop=>by
  have hxv:=hop x (by simp[ho,Op.operands,Call.operands,ha])
  rw[hx] at hxv
  obtain ⟨p,cap,hv,_⟩:=hxv
  refine⟨_,?_,rfl⟩
  simp only[execOp,ho,resolve,hc,ha,ht,Sem.run_bind,Sem.run_pure,Result.andThen_ok,invoke,builtin,List.map_toArray,List.map_cons,List.map_nil,hv]
  rw[run_len_slice w T _ p n cap (by simp[Program.elem,bC hT])]
  simp[goInt]
def PG (P:Program) (T:TypeId):Bool:=match P.underlying T with|some (.int _)|some .bool|some .string=>true|_=>false
def Og (P:Program) (T:TypeId) (u v:Value):Option Bool:=
 match P.underlying T,u,v with
 | some (.int _),.int j a,.int k b=>match decide (j=k) with|true=>some (a==b)|false=>none
 | some .bool,.bool a,.bool b=>some (a==b)
 | some .string,.string a,.string b=>some (a.toList==b.toList)
 | _,_,_=>none
def Ju (P:Program) (xs ys:List AV) (f:Field):Option Bool:=
 match PG P f.type with
 | true=>match xs[f.offset]?,ys[f.offset]? with
  | some (.d (.con u)),some (.d (.con v))=>Og P f.type u v
  | _,_=>none
 | false=>none
def listEq (g:Field→Option Bool):List Field→Option Bool
 | []=>some true
 | f :: fs => match f.name != "_" with
  | true=>match g f,listEq g fs with
   | some c,some r=>some (match fs with | []=>c|_=>c&&r)
   | _,_=>none
  | false=>none
def Ou (P:Program) (T:TypeId):Option (List Field):=
 match P.underlying T with
 | some (.struct fs)=>match P.stoodInHeld T with|false=>some fs.toList|true=>none
 | _=>none
def Ey (P:Program):Nat→List AV→List AV→List Field→Option Bool
 | 0,xs,ys,fs=>listEq (Ju P xs ys) fs
 | n+1,xs,ys,fs=>listEq (fun f=>match Ju P xs ys f with
   | some c=>some c
   | none=>match Ou P f.type,sizeT P f.type with
    | some fs',some k=>Ey P n ((xs.drop f.offset).take k) ((ys.drop f.offset).take k) fs'
    | _,_=>none) fs
def P5 (P:Program) (xs ys:List AV) (fs:List Field):Option Bool:=Ey P 3 xs ys fs
theorem Un {T:TypeId} (h:PG P T=true):oQ P T=true∧dH P T=false:=by
 unfold PG at h;unfold oQ dH
 cases hu:P.underlying T with
 | none=>simp[hu] at h
 | some d=>cases d<;>simp_all
theorem TT {T:TypeId} {u v:Value} {c:Bool} (h:Og P T u v=some c) (d:Nat) (w:World):(Op.equalIn (d+1) T u v).run P w=.ok c w:=by
 unfold Og at h
 split at h
 ·rename_i hu
  split at h
  ·rename_i hk
   simp only[eF] at hk;subst hk
   simp only[aI] at h;subst h
   exact run_equalIn_int w d T _ _ _ _ hu
  ·cases h
 ·rename_i hu;simp only[aI] at h;subst h;exact run_equalIn_bool' w d T _ _ hu
 ·rename_i hu;simp only[aI] at h;subst h;exact run_equalIn_string w d T _ _ hu
 ·cases h
theorem IL {β:Nat→Nat} {h:IH} {xs ys:List AV} {vs us:List Value} (hx:AV.aF β h xs vs) (hy:AV.aF β h ys us) (d:Nat) {f:Field} {c:Bool} (hh:Ju P xs ys f=some c) (w:World) :
  ∃a b,(part f.type vs.toArray f.offset).run P w=.ok a w∧(part f.type us.toArray f.offset).run P w=.ok b w∧(Op.equalIn (d+1) f.type a b).run P w=.ok c w:=by
 unfold Ju at hh
 split at hh
 ·rename_i hb
  split at hh
  ·rename_i u v hxu hyv
   obtain ⟨u',hu',hur⟩:=hx.get hxu
   obtain ⟨v',hv',lC⟩:=hy.get hyv
   simp only[AV.rel,DV.rel] at hur lC
   subst hur lC
   obtain ⟨hbu,hba⟩:=Un hb
   have hp:∀(l:List Value) (z:Value),l[f.offset]?=some z→(part f.type l.toArray f.offset).run P w=.ok z w:=by
    intro l z hz
    simp[part,DL hbu,hba,hz]
   exact⟨_,_,hp _ _ hu',hp _ _ hv',TT hh d w⟩
  ·cases hh
 ·cases hh
theorem BU {d:Nat} {vs us:Array Value} {g:Field→Option Bool} (hg:∀f c,g f=some c→∀w,∃a b,(part f.type vs f.offset).run P w=.ok a w∧(part f.type us f.offset).run P w=.ok b w∧(Op.equalIn d f.type a b).run P w=.ok c w) :
  ∀{fs:List Field} {c:Bool},listEq g fs=some c→∀w,(Op.eqFields d vs us fs).run P w=.ok c w
 | [],c,h,w=>by simp only[listEq,aI] at h;subst h;rfl
 | f :: fs,c,hh,w=>by
  simp only[listEq] at hh
  split at hh
  ·rename_i hcond
   simp only[bne_iff_ne,ne_eq] at hcond
   split at hh
   ·rename_i c' r hc hr
    obtain ⟨a,b,h1,h2,h3⟩:=hg f c' hc w
    have hrest:=BU hg hr w
    simp only[Op.eqFields,ne_eq,hcond,not_false_eq_true,if_true,Sem.run_bind,h1,h2,h3,Result.andThen_ok,Sem.run_ite,hrest]
    simp only[aI] at hh
    cases fs with
    | nil=>
     simp only[listEq,aI] at hr;subst hr;subst hh
     cases c'<;>simp
    | cons z fs=>subst hh;cases c'<;>simp
   ·cases hh
  ·cases hh
theorem Qw {T:TypeId} {fs:List Field} (h:Ou P T=some fs):P.underlying T=some (.struct (P.fieldsOf T))∧(P.fieldsOf T).toList=fs∧P.stoodInHeld T=false∧oQ P T=true∧dH P T=true:=by
 unfold Ou at h
 split at h
 ·rename_i fa hst
  split at h
  ·rename_i hs
   simp only[aI] at h;subst h
   have e:P.fieldsOf T=fa:=by simp only[Program.fieldsOf,hst]
   refine⟨by rw[e];exact hst,by rw[e],hs,?_,?_⟩
   ·unfold oQ;rw[hst]
   ·unfold dH;rw[hst]
  ·cases h
 ·cases h
theorem Dl {β:Nat→Nat} {h:IH}:∀(n:Nat) {xs ys:List AV} {vs us:List Value} (_:AV.aF β h xs vs) (_:AV.aF β h ys us) (d:Nat) {fs:List Field} {c:Bool},Ey P n xs ys fs=some c→∀w,(Op.eqFields (d+n+1) vs.toArray us.toArray fs).run P w=.ok c w
 | 0,xs,ys,vs,us,hx,hy,d,fs,c,hh,w=>BU (fun f c hf w=>IL hx hy d hf w) hh w
 | n+1,xs,ys,vs,us,hx,hy,d,fs,c,hh,w=>by
  refine BU (fun f c hf w=>?_) hh w
  split at hf
  ·rename_i c' hl
   simp only[aI] at hf;subst hf
   exact IL hx hy (d+(n+1)) hl w
  ·split at hf
   ·rename_i fs' k hi hk
    obtain ⟨i1,i2,i3,i4,i5⟩:=Qw hi
    obtain ⟨a,ha,har⟩:=CG i4 hk hx (off:=f.offset) (x:=wV ((xs.drop f.offset).take k)) (by rw[i5];rfl) w
    obtain ⟨b,hb,hbr⟩:=CG i4 hk hy (off:=f.offset) (x:=wV ((ys.drop f.offset).take k)) (by rw[i5];rfl) w
    refine⟨a,b,ha,hb,?_⟩
    obtain ⟨as,rfl,ras⟩:=sU.1 har
    obtain ⟨bs,rfl,rbs⟩:=sU.1 hbr
    rw[run_equalIn_struct (P:=P) w (d+(n+1)) f.type _ _ i1 i3,i2]
    exact Dl n ras rbs d hf w
   ·cases hf
def ND:Bool→Bool→Bool
 | true,c=>!c
 | false,c=>c
def ZX (P:Program) (T:TypeId):Option (List Field):=
 match P.underlying T with
 | some (.struct fs)=>match P.stoodInHeld T||P.eqGuardType P.depth T with|false=>some fs.toList|true=>none
 | _=>none
theorem YZ {T U:TypeId} {x y:Operand} {neq:Bool} (ho:o.op=.binOp (if neq then .neq else .eql) T x y U) {fs:List Field} (hT:ZX P T=some fs) {xs ys:List AV} (hx:kU (ρ x)=some xs) (hy:kU (ρ y)=some ys) {c:Bool} (hc:P5 P xs ys fs=some c) :
  Core P G o ρ st { dst:=o.dst,val:=.d (.con (.bool (ND neq c))) }:=
 bP fun β h a w _ _ hop=>by
  obtain ⟨vs,hv,lC⟩:=uo hx (hop x (by simp[ho,Op.operands]))
  obtain ⟨us,hu,hur⟩:=uo hy (hop y (by simp[ho,Op.operands]))
  refine⟨_,?_,rfl⟩
  unfold ZX at hT
  split at hT
  ·rename_i fa hst
   split at hT
   ·rename_i hcond
    simp only[Bool.or_eq_false_iff] at hcond
    simp only[aI] at hT;subst hT
    have heq:∀w,(Op.equal T (.agg vs.toArray) (.agg us.toArray)).run P w=.ok c w:=fun w=>by
     simp only[Op.equal,Op.maxDepth]
     rw[run_equalIn_struct (P:=P) w 9999 T _ _ (by simp[Program.fieldsOf,hst]) hcond.1]
     simp only[Program.fieldsOf,hst]
     exact Dl 3 lC hur 9995 hc w
    have hguard:∀op:BinOp,(op=.eql∨op=.neq)→(eqGuard op T x y (.agg vs.toArray) (.agg us.toArray)).run P w=.ok () w:=by
     intro op hop
     rcases hop with rfl|rfl<;>simp[eqGuard,hcond.2]
    cases neq with
    | true=>
     simp only[if_true] at ho
     simp only[execOp,ho,hv,hu,Sem.run_bind,hguard .neq (.inr rfl),Result.andThen_ok,binOp,heq,Sem.run_pure,ND]
    | false=>
     simp only[Bool.false_eq_true,if_false] at ho
     simp only[execOp,ho,hv,hu,Sem.run_bind,hguard .eql (.inl rfl),Result.andThen_ok,binOp,heq,Sem.run_pure,ND]
   ·cases hT
  ·cases hT
def kG:AV→Option (FuncId×List AV×List AV)
 | .d (.con (.func (.func g) a c))=>some (g,a.toList.map fun v=>.d (.con v),c.toList.map fun v=>.d (.con v))
 | .d (.clo (.func g) a c)=>some (g,a.map .d,c.map .d)
 | .clo (.func g) a c=>some (g,a,c)
 | _=>none
theorem oD {x:AV} {g:FuncId} {a c:List AV} (hc:kG x=some (g,a,c)) {β:Nat→Nat} {h:IH} {v:Value} (hr:x.rel β h v) :
  ∃va vc:List Value,v=.func (.func g) va.toArray vc.toArray∧AV.aF β h a va∧AV.aF β h c vc:=by
 unfold kG at hc
 split at hc
 ·rename_i a' c'
  simp only[aI,bg] at hc
  obtain ⟨rfl,rfl,rfl⟩:=hc
  simp only[AV.rel,DV.rel] at hr
  exact⟨a'.toList,c'.toList,by simp[hr],oJ β h _,oJ β h _⟩
 ·simp only[aI,bg] at hc
  obtain ⟨rfl,rfl,rfl⟩:=hc
  obtain ⟨va,vc,e,ra,rc⟩:=hr
  exact⟨va,vc,e,AV.gZ.2 ra,AV.gZ.2 rc⟩
 ·simp only[aI,bg] at hc
  obtain ⟨rfl,rfl,rfl⟩:=hc
  exact hr
 ·cases hc
theorem Qm {c:Call} (ho:o.op=.call c) {x:Operand} (hc:c.callee=.value x) {g:FuncId} {a1 a2:List AV} (hx:kG (ρ x)=some (g,a1,a2)) {ds:List DV} (hd:pK (a1++(c.args.toList.map ρ++a2))=some ds) {r:DV} (hf:aA P G g ds r) :
  Core P G o ρ st { dst:=o.dst,val:=.d r }:=
 UO hf fun β h a w hop=>by
  have hxv:=hop x (by simp[ho,Op.operands,Call.operands,hc])
  obtain ⟨va,vc,hv,ha,hcv⟩:=oD hx hxv
  have hargs:AV.aF β h (c.args.toList.map ρ) (c.args.toList.map a.eval):=qA fun y hy=>hop y (by simp[ho,Op.operands,Call.operands,Array.mem_toList_iff.1 hy])
  have hall:=ha.append (hargs.append hcv)
  rw[ou hd,AV.gZ] at hall
  refine⟨_,hall,?_⟩
  have hm:c.args.map a.eval=(c.args.toList.map a.eval).toArray:=by apply Array.ext';simp
  simp only[execOp,ho,resolve,hc,hv,hm,Deferred.ofValue,Sem.run_bind,Sem.run_pure,Result.andThen_ok,invoke,List.append_toArray,List.append_assoc]
def byteOfD:DV→Int
 | .con (.int _ z)=>z
 | _=>0
def BytesAt (n:Nat) (f:Nat→DV):Prop:=∀i,i<n→f i=.con (.int .u8 (byteOfD (f i)))
def bytesOf (n:Nat) (f:Nat→DV):List UInt8:=(List.range n).map fun i=>UInt8.ofNat (byteOfD (f i)).toNat
def isBytes (P:Program) (T:TypeId):Bool:=match bF P T with|some E=>(match P.underlying E with|some (.int .u8)=>true|_=>false)|none=>false
theorem yC {T:TypeId} (h:isBytes P T=true):∃E,P.underlying T=some (.slice E)∧P.underlying E=some (.int .u8):=by
 unfold isBytes at h
 split at h
 ·rename_i E hE
  split at h
  ·rename_i hu;exact⟨E,bC hE,hu⟩
  ·cases h
 ·cases h
theorem foldl_push (g:Nat→UInt8):∀(l:List Nat) (s:ByteArray),(l.foldl (fun (r:ByteArray) n=>r.push (g n)) s)=⟨s.data++(l.map g).toArray⟩
 | [],s=>by simp
 | n :: l,s=>by
  rw[List.foldl_cons,foldl_push g l]
  simp[ByteArray.push]
theorem Nc {src dst:TypeId} {x:Operand} (ho:o.op=.convert src dst x) (hs:isBytes P src=true) (hd:isStr P dst=true) {n:Nat} {f:Nat→DV} (hx:ρ x=.d (.slc 1 n f))
  (hf:BytesAt n f):Core P G o ρ st { dst:=o.dst,val:=.d (.con (.string ⟨(bytesOf n f).toArray⟩)) }:=
 bP fun β h a w _ hw hop=>by
  have hxv:=hop x (by simp[ho,Op.operands])
  rw[hx] at hxv
  obtain ⟨p,cap,hv,_,hrest⟩:=hxv
  obtain ⟨E,h1,h2⟩:=yC hs
  refine⟨_,?_,rfl⟩
  have hconv:(Conv.bytesToString (.slice p n cap)).run P w=.ok (.string ⟨(bytesOf n f).toArray⟩) w:=by
   cases p with
   | none=>
    rcases hrest with rfl|⟨_,_,hp,_⟩
    ·rfl
    ·cases hp
   | some ad=>
    have hload:(loadCells ad n).run P w=.ok (((List.range n).map fun i=>byteOfD (f i)).map (Value.int .u8)).toArray w:=by
     rw[run_loadCells w ad n (fun j=>.int .u8 (byteOfD (f j))) (fun j hj=>?_)]
     ·simp[List.map_map,Function.comp_def]
     ·rcases hrest with rfl|⟨b,off,hp,hel⟩
      ·omega
      ·injection hp with hp;subst hp
       obtain ⟨v,lC,_,hc⟩:=hel j hj
       rw[hf j hj] at lC
       simp only[DV.rel] at lC
       subst lC
       rw[kT]
       exact hw.1 _ _ _ (by have:=hc 0 (by omega);simpa [Value.cells] using this)
    rw[run_bytesToString w ad n cap _ hload]
    have:=foldl_push (fun i=>UInt8.ofNat (byteOfD (f i)).toNat) (List.range n) ByteArray.empty
    rw[List.foldl_map,this]
    simp[bytesOf]
  simp only[execOp,ho,hv,Sem.run_bind,run_convert_bytes_string w src dst E p n cap h1 h2 (qM hd),hconv,Result.andThen_ok,Sem.run_pure]
end ops
end Go.Ab
