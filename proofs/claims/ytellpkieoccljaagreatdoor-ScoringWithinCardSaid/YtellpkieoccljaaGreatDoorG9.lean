import Derived.Test.YtellpkieoccljaaGreatDoorAcD
import GoSem.ClaimJoined
import Derived.Carry
import Derived.ChangeShapes
import Derived.ChangeArms
import Derived.Deep.Slices
import Derived.LaidMore
import Derived.Test.YtellpkieoccljaaGreatDoorG0
import Derived.Test.YtellpkieoccljaaGreatDoorG8
import Derived.Test.YtellpkieoccljaaGreatDoorG6
set_option autoImplicit false
namespace Go.xH
open Go Go.Ab Go.RowKit Go.ChangeShapes
inductive Sh where
 | int (k:IntKind)
 | bool
 | str
 | slc (agg:Bool) (l:List Sh)
 | own (p:DV→Prop)
mutual
def Sh.dv:Sh→DV→Prop
 | .int k,d=>∃n,(Lit.int k n).wf=true∧d=.con (.int k n)
 | .bool,d=>∃b,d=.con (.bool b)
 | .str,d=>∃s:ByteArray,s.size≤maxLen∧d=.con (.string s)
 | .slc agg l,d=>∃n f,n≤maxLen∧d=.slc l.length n f∧∀i,i<n→(match agg with|true=>∃es,f i=.agg es∧iU.dv l es|false=>iU.dv l [f i])
 | .own p,d=>p d∧∃sz n f,d=.slc sz n f
def iU.dv:List Sh→List DV→Prop
 | [],es=>es=[]
 | s :: l,es=>∃d es',es=d :: es'∧Sh.dv s d∧iU.dv l es'
end
def Vu (agg:Bool) (l:List Sh) (d:DV):Prop:=match agg with|true=>∃es,d=.agg es∧iU.dv l es|false=>iU.dv l [d]
def jh (P:Program) (r:TypeId→Option (List Sh)):List Field→Nat→Option (List Sh×Nat)
 | [],off=>some ([],off)
 | f :: fs,off=>match Nat.beq f.offset off,r f.type with
  | true,some l=>match Nat.beq l.length (P.cellsOf f.type),jh P r fs (off+P.cellsOf f.type) with
   | true,some (m,e)=>some (l++m,e)
   | _,_=>none
  | _,_=>none
def fP (P:Program) (ow:TypeId→Option (DV→Prop)):Nat→TypeId→Option (List Sh)
 | 0,_=>none
 | n+1,t=>match ow t with
  | some p=>some [.own p]
  | none=>match P.underlying t with
  | some .bool=>some [.bool]
  | some (.int k)=>some [.int k]
  | some .string=>some [.str]
  | some (.slice e)=>match fP P ow n e with
   | some l=>match Nat.beq l.length (P.cellsOf e)&&(Nat.blt 0 l.length&&(bK P e||Nat.beq l.length 1)) with
    | true=>some [.slc (bK P e) l]
    | false=>none
   | none=>none
  | some (.struct fs)=>match jh P (fP P ow n) fs.toList 0 with
   | some (l,e)=>match Nat.beq e (P.cellsOf t) with|true=>some l|false=>none
   | none=>none
  | _=>none
theorem iU.append:∀{a b:List Sh} {u v:List DV},iU.dv a u→iU.dv b v→iU.dv (a++b) (u++v)
 | [],_,u,_,ha,hb=>by simp only[iU.dv] at ha;subst ha;exact hb
 | _ :: a,_,_,_,⟨x,u',e,r,rs⟩,hb=>by subst e;exact⟨x,_,rfl,r,iU.append rs hb⟩
theorem iU.length:∀{a:List Sh} {u:List DV},iU.dv a u→u.length=a.length
 | [],u,h=>by simp only[iU.dv] at h;subst h;rfl
 | _ :: a,_,⟨x,u',e,r,rs⟩=>by subst e;simp[iU.length rs]
theorem Sh.cells {s:Sh} {d:DV} {h:IH} {v:Value} (hs:s.dv d) (hv:d.rel h v):v.cells=#[v]:=by
 cases s with
 | int k=>obtain ⟨n,_,rfl⟩:=hs;simp only[DV.rel] at hv;subst hv;rfl
 | bool=>obtain ⟨n,rfl⟩:=hs;simp only[DV.rel] at hv;subst hv;rfl
 | str=>obtain ⟨n,_,rfl⟩:=hs;simp only[DV.rel] at hv;subst hv;rfl
 | slc agg l=>obtain ⟨n,f,_,rfl,_⟩:=hs;obtain ⟨p,cap,e,_⟩:=hv;subst e;rfl
 | own p=>obtain ⟨_,sz,n,f,rfl⟩:=hs;obtain ⟨p,cap,e,_⟩:=hv;subst e;rfl
section
variable {H:Type} {enc:TypeId×Value→H} {P:Program} {W:World} {base:Nat} {sp:Nat→Bool} {held:Bool}
variable {ow:TypeId→Option (DV→Prop)}
def Fine (P:Program) (t:TypeId) (d:DataW H):Prop:=∀w∈DataW.weights P t d,w≤reachBytes
theorem Gs {e:TypeId}:∀{l:List (DataW H)},(∀w∈DataW.weightsAll P e l,w≤reachBytes)→∀d∈l,Fine P e d
 | x :: l,h,d,hd=>by
  simp only[DataW.weightsAll,List.mem_append] at h
  rcases List.mem_cons.1 hd with rfl|hd
  ·exact fun w hw=>h w (.inl hw)
  ·exact Gs (fun w hw=>h w (.inr hw)) d hd
theorem BZ:∀{ts:List TypeId} {l:List (DataW H)},(∀w∈DataW.weightsEach P ts l,w≤reachBytes)→∀(i:Nat) (t:TypeId) (d:DataW H),ts[i]?=some t→l[i]?=some d→Fine P t d
 | [],_,_,i,t,d,h1,_=>by simp at h1
 | _ :: _,[],_,i,t,d,_,h2=>by simp at h2
 | t0 :: ts,d0 :: l,h,i,t,d,h1,h2=>by
  simp only[DataW.weightsEach,List.mem_append] at h
  cases i with
  | zero=>
   simp only[List.getElem?_cons_zero,aH] at h1 h2
   subst h1;subst h2
   exact fun w hw=>h w (.inl hw)
  | succ i=>exact BZ (fun w hw=>h w (.inr hw)) i t d (by simpa using h1) (by simpa using h2)
def How (ow:TypeId→Option (DV→Prop)) (enc:TypeId×Value→H) (P:Program) (W:World) (base:Nat) (sp:Nat→Bool) (held:Bool):Prop:=
 ∀(t:TypeId) (p:DV→Prop) (m:Nat) (cs:List Value) (x:DataW H×List MemPlace),ow t=some p→DataW.trod enc P W base sp held m t cs=some x→Fine P t x.1→∃d,Sh.dv (.own p) d∧DV.aF (allOf W) [d] cs
theorem qP {r:TypeId→Option (List Sh)}:∀{fs:List Field} {off e:Nat} {l:List Sh},jh P r fs off=some (l,e)→off≤e
 | [],off,e,l,h=>by simp only[jh,aH,aX] at h;omega
 | f :: fs,off,e,l,h=>by
  simp only[jh] at h
  split at h
  ·split at h
   ·rename_i m e' _ h2
    simp only[aH,aX] at h
    have:=qP h2
    omega
   ·cases h
  ·cases h
theorem qV {r:TypeId→Option (List Sh)} {cs:List Value}
  (hr:∀(t:TypeId) (l:List Sh) (m:Nat) (cs':List Value) (x:DataW H×List MemPlace),r t=some l→DataW.trod enc P W base sp held m t cs'=some x→Fine P t x.1→∃es,iU.dv l es∧DV.aF (allOf W) es cs') :
  ∀{fs:List Field} {off e:Nat} {l:List Sh},jh P r fs off=some (l,e)→(∀f∈fs,∃m y,DataW.trod enc P W base sp held m f.type ((cs.drop f.offset).take (P.cellsOf f.type))=some y∧Fine P f.type y.1)→
   ∃es,iU.dv l es∧DV.aF (allOf W) es ((cs.drop off).take (e-off))
 | [],off,e,l,h,_=>by
  simp only[jh,aH,aX] at h
  obtain ⟨rfl,rfl⟩:=h
  exact⟨[],rfl,by simp[DV.aF]⟩
 | f :: fs,off,e,l,h,hf=>by
  simp only[jh] at h
  split at h
  ·rename_i l0 ho hr0
   split at h
   ·rename_i m e' hc h2
    simp only[aH,aX] at h
    obtain ⟨rfl,rfl⟩:=h
    have ho:=Nat.eq_of_beq_eq_true ho
    obtain ⟨k,y,hy,hyf⟩:=hf f (List.mem_cons_self ..)
    obtain ⟨d1,a1,b1⟩:=hr _ _ _ _ _ hr0 hy hyf
    obtain ⟨d2,a2,b2⟩:=qV hr h2 fun g hg=>hf g (List.mem_cons_of_mem _ hg)
    have hle:=qP h2
    refine⟨d1++d2,iU.append a1 a2,?_⟩
    have:=DV.aF.append b1 b2
    rw[ho] at this
    rw[show (cs.drop off).take (e' - off)=(cs.drop off).take (P.cellsOf f.type)++(cs.drop (off+P.cellsOf f.type)).take (e' - (off+P.cellsOf f.type)) from by
     rw[show e' - off=P.cellsOf f.type+(e' - (off+P.cellsOf f.type)) by omega,List.take_add,List.drop_drop]]
    exact this
   ·cases h
  ·cases h
theorem oL (how:How ow enc P W base sp held):∀{n:Nat} {t:TypeId} {l:List Sh} {m:Nat} {cs:List Value} {x:DataW H×List MemPlace},fP P ow n t=some l→DataW.trod enc P W base sp held m t cs=some x→Fine P t x.1→
  ∃es,iU.dv l es∧DV.aF (allOf W) es cs
 | 0,_,_,_,_,_,h,_,_=>by simp[fP] at h
 | n+1,t,l,m,cs,x,h,hx,hfi=>by
  simp only[fP] at h
  split at h
  ·rename_i p hp
   simp only[aH] at h;subst h
   obtain ⟨d,h1,h2⟩:=how t p m cs x hp hx hfi
   exact⟨[d],⟨_,_,rfl,h1,rfl⟩,h2⟩
  split at h
  ·rename_i ht
   obtain ⟨b,rfl,rfl⟩:=DataW.trod_bool ht hx
   simp only[aH] at h;subst h
   exact⟨[.con (.bool b)],⟨_,_,rfl,⟨b,rfl⟩,rfl⟩,⟨_,_,rfl,rfl,rfl⟩⟩
  ·rename_i k ht
   obtain ⟨b,rfl,rfl,hw⟩:=DataW.trod_int ht hx
   simp only[aH] at h;subst h
   exact⟨[.con (.int k b)],⟨_,_,rfl,⟨b,hw,rfl⟩,rfl⟩,⟨_,_,rfl,rfl,rfl⟩⟩
  ·rename_i ht
   obtain ⟨b,rfl,rfl,hw⟩:=DataW.trod_string ht hx
   simp only[aH] at h;subst h
   exact⟨[.con (.string b)],⟨_,_,rfl,⟨b,hw,rfl⟩,rfl⟩,⟨_,_,rfl,rfl,rfl⟩⟩
  ·rename_i e ht
   split at h
   ·rename_i l' hl'
    split at h
    ·rename_i hc
     simp only[aT,Nat.beq_eq,Bool.or_eq_true,Nat.blt_eq] at hc
     simp only[aH] at h;subst h
     rcases Go.Deep.open_slice ht hx with ⟨rfl,rfl⟩|⟨a,len,cap,mm,n',D,Pl,rfl,hb,hlc,hcap,hmm,rfl,hel⟩
     ·refine⟨[.slc l'.length 0 fun _=>.con undef],⟨_,_,rfl,⟨0,_,Nat.zero_le _,rfl,fun i hi=>absurd hi (by omega)⟩,rfl⟩,⟨_,_,rfl,⟨none,0,rfl,Nat.le_refl _,.inl rfl⟩,rfl⟩⟩
     ·have hlm:len≤mm:=by rw[hmm];split<;>omega
      have Wq:∀i,i<len→Fine P e (D i):=fun i hi=>by
       unfold Fine at hfi
       simp only[DataW.weights,ht,List.mem_cons,List.mem_append] at hfi
       exact Gs (fun w hw=>hfi w (.inr (.inl hw))) _ (List.mem_map.2 ⟨i,List.mem_range.2 hi,rfl⟩)
      have hspot:0<len→a.spot=none:=by
       intro hpos
       obtain ⟨cs',h1,_⟩:=hel 0 (by omega)
       obtain ⟨_,h5,h6⟩:=World.cells?_some h1
       have:=h6 0 (by omega)
       rw[Nat.zero_mul,bQ (by omega)] at this
       simp only[World.cell?,Addr.add,if_true] at this
       split at this
       ·split at this
        ·cases this
        ·rename_i hsp;simpa using hsp
       ·cases this
      have hadd:0<len→∀k,a.add k=⟨a.block,a.off+k,none⟩:=by
       intro hpos k
       have:=hspot hpos
       unfold Addr.add
       split
       ·rename_i hk;subst hk;cases a;simp_all
       ·rfl
      have each:∀i,i<len→∃d:DV,(match bK P e with|true=>∃es,d=.agg es∧iU.dv l' es|false=>iU.dv l' [d])∧∃v,DV.rel (allOf W) d v∧v.cells.size=l'.length∧∀j,j<l'.length→W.cell? ⟨a.block,a.off+i*l'.length+j,none⟩=v.cells[j]?:=by
       intro i hi
       obtain ⟨cs',h1,h2⟩:=hel i (by omega)
       obtain ⟨es,h3,h4⟩:=oL how hl' h2 (Wq i hi)
       obtain ⟨_,h5,h6⟩:=World.cells?_some h1
       have hsz:cs'.length=l'.length:=by rw[h5,hc.1]
       have hat:∀j,j<l'.length→W.cell? ⟨a.block,a.off+i*l'.length+j,none⟩=cs'[j]?:=by
        intro j hj
        rw[←h6 j (by omega),hadd (by omega),hc.1]
        congr 1
        unfold Addr.add
        split
        ·rename_i hk;subst hk;rfl
        ·rfl
       cases hag:bK P e with
       | true=>exact⟨.agg es,⟨es,rfl,h3⟩,.agg cs'.toArray,⟨cs',rfl,h4⟩,by simp[Value.cells,hsz],fun j hj=>by rw[hat j hj];simp[Value.cells]⟩
       | false=>
        have h1':l'.length=1:=by rcases hc.2.2 with h|h
                                 ·rw[hag] at h;cases h
                                 ·exact h
        match l',cs',es,h1',hsz,h3,h4,hat with
        | [s],[c],es,_,_,h3,h4,hat=>
         obtain ⟨d,es',e1,h3,e2⟩:=h3
         simp only[iU.dv] at e2;subst e2;subst e1
         obtain ⟨v,vs',e3,h4,e4⟩:=h4
         injection e3 with e3 _;subst e3
         have hcell:=Sh.cells h3 h4
         refine⟨d,⟨_,_,rfl,h3,rfl⟩,c,h4,by rw[hcell];rfl,fun j hj=>?_⟩
         rw[hat j hj,hcell];simp
      refine⟨[.slc l'.length len fun i=>if h:i<len then Classical.choose (each i h) else .con undef],⟨_,_,rfl,⟨len,_,Nat.le_trans hlc hcap,rfl,fun i hi=>?_⟩,rfl⟩,⟨_,_,rfl,⟨some a,cap,rfl,hlc,?_⟩,rfl⟩⟩
      ·simp only[dif_pos hi]
       exact(Classical.choose_spec (each i hi)).1
      ·by_cases hz:len=0
       ·exact .inl hz
       right
       refine⟨a.block,a.off,by have:=hspot (by omega);cases a;simp_all,fun i hi=>?_⟩
       simp only[dif_pos hi]
       obtain ⟨_,v,hv,hsz,hcl⟩:=Classical.choose_spec (each i hi)
       exact⟨v,hv,hsz,fun j hj=>hcl j hj⟩
    ·cases h
   ·cases h
  ·rename_i fs ht
   split at h
   ·rename_i l' e hl'
    split at h
    ·rename_i he
     simp only[aH] at h;subst h
     have he:=Nat.eq_of_beq_eq_true he
     obtain ⟨xs,n',rfl,rfl,hlen,hxl,hf⟩:=DataW.trod_struct ht hx
     obtain ⟨es,h1,h2⟩:=qV (cs:=cs) (fun t l m cs' x h1 h2 h3=>oL how h1 h2 h3) hl' fun f hf'=>by
      obtain ⟨i,hi⟩:=List.mem_iff_getElem?.1 hf'
      have hi':fs[i]?=some f:=by simpa using hi
      have:=hf i f hi'
      have hlt:i<xs.length:=by
       rw[hxl];exact(Array.getElem?_eq_some_iff.1 hi').1
      refine⟨n',xs[i],by rw[this];simp[hlt],?_⟩
      unfold Fine at hfi
      simp only[DataW.weights,ht] at hfi
      exact BZ hfi i f.type xs[i].1 (by simp[hi']) (by simp[hlt])
     refine⟨es,h1,?_⟩
     rw[List.drop_zero,Nat.sub_zero,he,←hlen,List.take_length] at h2
     exact h2
    ·cases h
   ·cases h
  ·cases h
theorem F7 {n:Nat} {t:TypeId} {l:List Sh} {b0:Nat} {v:Value} {d:DataW H} {p:List MemPlace} (how:How ow enc P W base sp held) (hno:ow t=none) (hs:fP P ow n t=some l) (hl:(bK P t||Nat.beq l.length 1)=true)
  (hv:Value.okWide P W .any b0 t v) (h:DataW.Trod enc P W base sp held t v d p) (hfi:Fine P t d):∃x:DV,Vu (bK P t) l x∧x.rel (allOf W) v:=by
 obtain ⟨m,hm⟩:=h
 obtain ⟨es,h1,h2⟩:=oL how hs hm hfi
 cases ha:bK P t with
 | true=>
  have:∃cs,v=.agg cs:=by
   unfold bK at ha
   unfold Value.okWide at hv
   split at ha
   ·rename_i fs hu;rw[hu] at hv;obtain ⟨cs,e,_⟩:=hv;exact⟨cs,e⟩
   ·rename_i k e hu;rw[hu] at hv;obtain ⟨cs,e,_⟩:=hv;exact⟨cs,e⟩
   ·cases ha
  obtain ⟨cs,rfl⟩:=this
  exact⟨.agg es,⟨es,rfl,h1⟩,⟨cs.toList,by simp,by simpa [Value.cells] using h2⟩⟩
 | false=>
  rw[ha] at hl
  simp only[Bool.false_or,Nat.beq_eq] at hl
  match l,hl,h1 with
  | [s],_,h1=>
   obtain ⟨x,es',e1,k1,e2⟩:=h1
   simp only[iU.dv] at e2;subst e2;subst e1
   obtain ⟨u,vs',e3,h3,e4⟩:=h2
   simp only[DV.aF] at e4;subst e4
   have hu:u=v:=by
    have hcell:=Sh.cells k1 h3
    have:v.cells=#[u]:=by rw[←Array.toArray_toList (xs:=v.cells),e3]
    unfold Value.okWide at hv
    cases n with
    | zero=>simp[fP] at hs
    | succ n=>
     have hna:∀cs,v≠.agg cs:=by
      rintro cs rfl
      unfold bK at ha
      simp only[fP,hno] at hs
      split at hv
      ·rename_i hu2;rw[hu2] at ha;simp at ha
      ·rename_i hu2;rw[hu2] at ha;simp at ha
      ·unfold Cell.okWide Cell.ok at hv
       split at hs<;>rename_i ht<;>simp_all
     cases v<;>first|(simp[Value.cells] at this;exact this.symm)|exact absurd rfl (hna _)
   subst hu
   exact⟨x,⟨x,[],rfl,k1,rfl⟩,h3⟩
def jf (P:Program) (ow:TypeId→Option (DV→Prop)):List TypeId→Option (List (Bool×List Sh))
 | []=>some []
 | t :: ts=>match fP P ow 8 t,jf P ow ts with
  | some l,some r=>match (bK P t||Nat.beq l.length 1)&&(P.readableRec t&&Nat.blt t P.types.size)&&(ow t).isNone with
   | true=>some ((bK P t,l) :: r)
   | false=>none
  | _,_=>none
def F5:List (Bool×List Sh)→List DV→Prop
 | [],xs=>xs=[]
 | s :: l,xs=>∃x xs',xs=x :: xs'∧Vu s.1 s.2 x∧F5 l xs'
theorem xR (how:How ow enc P W 0 sp held):∀{ts:List TypeId} {pI:List (Bool×List Sh)} {us:List Value} {es:List (DataW H)} {ps:List MemPlace},jf P ow ts=some pI→(∀(j:Nat) t v,ts[j]?=some t→us[j]?=some v→Value.okWide P W .any base t v)→
  DataW.TrodAll enc P W 0 sp held ts us es ps→(∀w∈DataW.weightsEach P ts es,w≤reachBytes)→∃xs:List DV,F5 pI xs∧DV.aF (allOf W) xs us
 | [],pI,us,es,ps,h,_,ht,_=>by
  simp only[jf,aH] at h;subst h
  obtain ⟨rfl,_,_⟩:=trodAll_nil ht
  exact⟨[],rfl,rfl⟩
 | t :: ts,pI,us,es,ps,h,hv,ht,hwt=>by
  match us,es,ht,hwt with
  | v :: us,e :: es,⟨p,q,h1,h2,_⟩,hwt=>
   simp only[jf] at h
   split at h
   ·rename_i l r hl hr
    split at h
    ·rename_i hc
     simp only[aT,Option.isNone_iff_eq_none] at hc
     simp only[aH] at h;subst h
     simp only[DataW.weightsEach,List.mem_append] at hwt
     obtain ⟨x,a1,a2⟩:=F7 how hc.2 hl hc.1.1 (hv 0 t v rfl rfl) h1 (fun w hw=>hwt w (.inl hw))
     obtain ⟨xs,b1,b2⟩:=xR how hr (fun j t' v' h3 h4=>hv (j+1) t' v' (by simpa using h3) (by simpa using h4)) h2 (fun w hw=>hwt w (.inr hw))
     exact⟨x :: xs,⟨_,_,rfl,a1,b1⟩,⟨_,_,rfl,a2,b2⟩⟩
    ·cases h
   ·cases h
theorem uY (hl:laidOutB P=true) {W':World} (hb:Below W.heap.size W W'):∀{ts:List TypeId} {pI:List (Bool×List Sh)} {us:List Value} {es:List (DataW H)} {ps:List MemPlace},jf P ow ts=some pI→
  (∀x∈ps,x.block<W.heap.size)→DataW.TrodAll enc P W 0 (fun _=>true) true ts us es ps→DataW.TrodAll enc P W' 0 (fun b=>decide (b<W.heap.size)) true ts us es ps
 | [],pI,us,es,ps,_,_,ht=>by obtain ⟨rfl,rfl,rfl⟩:=trodAll_nil ht;exact trodAll_mk0
 | t :: ts,pI,us,es,ps,h,hlt,ht=>by
  match us,es,ht with
  | v :: us,e :: es,⟨p,q,h1,h2,hp⟩=>
   simp only[jf] at h
   split at h
   ·rename_i l r hl' hr
    split at h
    ·rename_i hc
     simp only[aT,Nat.blt_eq] at hc
     subst hp
     exact⟨p,q,Below.trod hl hc.1.2.1 hc.1.2.2 h1 hb (fun x hx=>hlt x (List.mem_append_left _ hx)),uY hl hb hr (fun x hx=>hlt x (List.mem_append_right _ hx)) h2,rfl⟩
    ·cases h
   ·cases h
theorem trodAll_length:∀{ts:List TypeId} {us:List Value} {es:List (DataW H)} {ps:List MemPlace},DataW.TrodAll enc P W base sp held ts us es ps→es.length=ts.length
 | [],us,es,ps,ht=>by obtain ⟨_,rfl,_⟩:=trodAll_nil ht;rfl
 | t :: ts,us,es,ps,ht=>by
  match us,es,ht with
  | v :: us,e :: es,⟨p,q,h1,h2,hp⟩=>simp[trodAll_length h2]
theorem Qo {f:FuncId} {fn:Func} {spec:ChangeSpec} {laid:List (String×DataW Unit)} {tb:TypeId} {pI:List (Bool×List Sh)} (hlo:laidOutB P=true) (hr:fn.resultTypes=#[tb]) (htb:P.underlying tb=some .bool) (hvars:spec.vars=[])
  (hfn:∀es:List (DataW H),es.length=fn.params.toList.length→spec.fn H es={ results:=[.lit (.bool true)],args:=es }) (hsh:jf P ow fn.params.toList=some pI)
  (how:∀(W:World) (sp:Nat→Bool) (held:Bool),How ow enc P W 0 sp held)
  (WB:∀(W:World),laidMetH P laid W→∀xs,F5 pI xs→aj P (allOf W) f xs (.con (.bool true))) :
  ∀(W:World) (base:Nat) (args:Array Value) (es gs:List (DataW H)) (before:List MemPlace),
   (∀(j:Nat) t v,fn.params[j]?=some t→args[j]?=some v→Value.okWide P W .any base t v)→
   DataW.Whole enc P fn.params.toList spec.vars false W args.toList es gs before→(DataW.weightsEach P (fn.params.toList++spec.plain.varTypes P) (es++gs)).all (·≤reachBytes)=true→laidMetH P laid W→
   Calls P f args W fun e W'=>∃v,e=.returned v∧spec.post enc P fn false true false false W args v W':=by
 intro W base args es gs before hval hW hwt hL
 have hW':=hW
 obtain ⟨p,q,hA,hV,rfl,hfz,hnd⟩:=hW
 rw[hvars] at hV
 obtain ⟨rfl,rfl⟩:=trodVars_none hV
 have hwe:∀w∈DataW.weightsEach P fn.params.toList es,w≤reachBytes:=fun w hw=>by
  have hl:=trodAll_length hA
  have key:∀{ts:List TypeId} {l:List (DataW H)} (us:List TypeId),l.length=ts.length→∀w∈DataW.weightsEach P ts l,w∈DataW.weightsEach P (ts++us) (l++[]):=by
   intro ts
   induction ts with
   | nil=>intro l us hl w hw;simp[DataW.weightsEach] at hw
   | cons t ts ih=>
    intro l us hl w hw
    match l,hl with
    | d :: l,hl=>
     simp only[DataW.weightsEach,List.mem_append,List.cons_append] at hw⊢
     rcases hw with hw|hw
     ·exact .inl hw
     ·exact .inr (ih us (by simpa using hl) w hw)
  have:=List.all_eq_true.1 hwt w (key _ hl w hw)
  simpa using this
 obtain ⟨xs,hx,hrel⟩:=xR (how W _ _) hsh (fun j t v h1 h2=>hval j t v (by simpa using h1) (by simpa using h2)) hA hwe
 have hlt:∀x∈p,x.block<W.heap.size:=fun x hx=>by simpa using hW'.lt x (by simpa using hx)
 have hc:=(WB W hL xs hx).2 W (allOf W) args.toList (IH.le.refl _) (Fq W) hrel
 simp only[Array.toArray_toList] at hc
 refine Calls.mono hc ?_
 rintro e W' ⟨v,h',he,hv,-,-,hk,-⟩
 simp only[DV.rel] at hv
 subst hv;subst he
 have hbelow:Below W.heap.size W W':=⟨hk.os,hk.tape,hk.output,hk.size,fun k hk'=>hk.block k hk' (fun h=>h)⟩
 have hlen:=trodAll_length hA
 refine⟨_,rfl,es,[],p++[],[],p,[],by rw[hvars];simpa [hvars] using hW',?_,?_,?_,hbelow.frame _,fun h=>by cases h⟩
 ·rw[List.append_nil,hfn es hlen,hr];exact trodAll_mk1 (shut_bool htb true)
 ·rw[List.append_nil,hfn es hlen];exact uY hlo hbelow hsh hlt hA
 ·rw[List.append_nil,hfn es hlen,hvars];rfl
end
end Go.xH
/- Expressions that are read from memory. -/
namespace Go.Proofs
open Go Go.Ab Go.RowKit Go.ChangeShapes
set_option maxRecDepth 100000
theorem VZ:∀(m m':Nat) (x:Ex),ht x≤m→ht x≤m'→∀(k:IH) (v:Value),DV.rel k (bG m x) v→DV.rel k (bG m' x) v:=by
 intro m
 induction m with
 | zero=>
  intro m' x h1 h2 k v h
  have hk:x.kids=[]:=by
   refine Classical.byContradiction fun hh=>?_
   have:0<x.kids.length:=List.length_pos_iff.2 hh
   have:=iC this
   omega
  unfold bG exV at h⊢
  rw[hk] at h⊢
  obtain ⟨us,rfl,x1,u1,rfl,h1,x2,u2,rfl,h2,x3,u3,rfl,h3,x4,u4,rfl,h4,x5,u5,rfl,h5,x6,u6,rfl,h6,h0⟩:=h
  exact⟨_,rfl,x1,_,rfl,h1,x2,_,rfl,h2,x3,_,rfl,h3,x4,_,rfl,h4,x5,_,rfl,h5,x6,_,rfl,DV.dJ (fun i hi=>absurd hi (by simp)) h6,h0⟩
 | succ m ih=>
  intro m' x h1 h2 k v h
  obtain ⟨us,rfl,x1,u1,rfl,g1,x2,u2,rfl,g2,x3,u3,rfl,g3,x4,u4,rfl,g4,x5,u5,rfl,g5,x6,u6,rfl,g6,h0⟩:=h
  refine⟨_,rfl,x1,_,rfl,g1,x2,_,rfl,g2,x3,_,rfl,g3,x4,_,rfl,g4,x5,_,rfl,g5,x6,_,rfl,?_,h0⟩
  obtain ⟨p,cap,e,hc,r⟩:=g6
  refine⟨p,cap,e,hc,r.imp id fun ⟨b,off,hp,r⟩=>⟨b,off,hp,fun i hi=>?_⟩⟩
  obtain ⟨v,hv,hs,hj⟩:=r i hi
  have hki:=iC (x:=x) hi
  obtain ⟨m2,rfl⟩:∃m2,m'=m2+1:=⟨m' - 1,by omega⟩
  exact⟨v,ih m2 (x.kids.getD i ak) (by omega) (by omega) k v hv,hs,hj⟩
theorem aaq {l:List Ex} {n:Nat} (h:∀i,i<l.length→ht (l.getD i ak)+1≤n):iI l≤n:=by
 induction l with
 | nil=>simp[iI]
 | cons x l ih=>
  simp only[iI]
  have h0:=h 0 (by simp)
  have:=ih fun i hi=>by simpa using h (i+1) (by simpa using hi)
  have h0:ht x+1≤n:=h0
  omega
theorem aaj {l:List Ex} (h:∀i,i<l.length→rP (l.getD i ak)):JM l:=by
 induction l with
 | nil=>trivial
 | cons x l ih=>exact⟨h 0 (by simp),ih fun i hi=>by simpa using h (i+1) (by simpa using hi)⟩
theorem Vt (f:Nat→Nat):∀n:Nat,∃M,∀i,i<n→f i≤M
 | 0=>⟨0,fun i hi=>by omega⟩
 | n+1=>by
  obtain ⟨M,h⟩:=Vt f n
  refine⟨max M (f n),fun i hi=>?_⟩
  rcases Nat.lt_or_ge i n with h1|h1
  ·have:=h i h1;omega
  ·obtain rfl:i=n:=by omega
   omega
theorem cells26:Tryz.prog.cellsOf 26=6:=by kernel_rfl
theorem bytes26:Tryz.prog.bytesOf 26=72:=by kernel_rfl
theorem cells23:Tryz.prog.cellsOf 23=2:=by kernel_rfl
theorem cells3:Tryz.prog.cellsOf 3=1:=by kernel_rfl
theorem cells9:Tryz.prog.cellsOf 9=1:=by kernel_rfl
theorem cells24:Tryz.prog.cellsOf 24=1:=by kernel_rfl
def QT (d:DV):Prop:=∃(l:List Ex) (k:Nat),iI l≤k∧JM l∧l.length≤8796093022208∧d=.slc 6 l.length (lay (bJ k) l)
section
variable {H:Type} {enc:TypeId×Value→H} {W:World} {base:Nat} {sp:Nat→Bool} {held:Bool}
theorem open_node {n:Nat} {cs:List Value} {x:DataW H×List MemPlace} (h:DataW.trod enc Tryz.prog W base sp held n 26 cs=some x) (hf:xH.Fine Tryz.prog 26 x.1) :
  ∃(k n d a:Int) (s:ByteArray) (v:Value) (n':Nat) (y:DataW H×List MemPlace),s.size≤maxLen∧cs=[.int .i64 k,.string s,.int .i64 n,.int .i64 d,.int .i64 a,v]∧
   DataW.trod enc Tryz.prog W base sp held n' 24 [v]=some y∧xH.Fine Tryz.prog 24 y.1∧SizeOf.sizeOf y.1<SizeOf.sizeOf x.1:=by
 obtain ⟨xs,n',rfl,rfl,hl,hxl,hfl⟩:=DataW.trod_struct Tryz.underlying26 h
 have hxl:xs.length=5:=hxl
 match xs,hxl with
 | [y0,y1,y2,y3,y4],_=>
  have e0:=hfl 0 _ rfl
  have e1:=hfl 1 _ rfl
  have e2:=hfl 2 _ rfl
  have e3:=hfl 3 _ rfl
  have e4:=hfl 4 _ rfl
  simp only[List.getElem?_cons_zero,List.getElem?_cons_succ] at e0 e1 e2 e3 e4
  rw[cells26] at hl
  erw [cells3] at e0 e3
  erw [cells9] at e1
  erw [cells23] at e2
  erw [cells24] at e4
  match cs,hl with
  | [c0,c1,c2,c3,c4,c5],_=>
   have e0:DataW.trod enc Tryz.prog W base sp held n' 3 [c0]=some y0:=e0
   have e1:DataW.trod enc Tryz.prog W base sp held n' 9 [c1]=some y1:=e1
   have e2:DataW.trod enc Tryz.prog W base sp held n' 23 [c2,c3]=some y2:=e2
   have e3:DataW.trod enc Tryz.prog W base sp held n' 3 [c4]=some y3:=e3
   have e4:DataW.trod enc Tryz.prog W base sp held n' 24 [c5]=some y4:=e4
   obtain ⟨k,h0,_,_⟩:=DataW.trod_int Tryz.underlying3 e0
   obtain ⟨s,h1,_,hs⟩:=DataW.trod_string Tryz.underlying9 e1
   obtain ⟨z0,z1,m2,_,_,f0,f1⟩:=trod_struct2 Tryz.underlying23 e2
   erw [cells3] at f0 f1
   have f0:DataW.trod enc Tryz.prog W base sp held m2 3 [c2]=some z0:=f0
   have f1:DataW.trod enc Tryz.prog W base sp held m2 3 [c3]=some z1:=f1
   obtain ⟨a,g0,_,_⟩:=DataW.trod_int Tryz.underlying3 f0
   obtain ⟨b,g1,_,_⟩:=DataW.trod_int Tryz.underlying3 f1
   obtain ⟨c,h3,_,_⟩:=DataW.trod_int Tryz.underlying3 e3
   simp only[List.cons.injEq,and_true] at h0 h1 g0 g1 h3
   subst h0;subst h1;subst g0;subst g1;subst h3
   refine⟨k,a,b,c,s,c5,n',y4,hs,rfl,e4,?_,?_⟩
   ·have hf':∀w∈DataW.weights Tryz.prog 26 (.agg ([y0,y1,y2,y3,y4].map (·.1))),w≤reachBytes:=hf
    simp only[DataW.weights,Tryz.underlying26] at hf'
    exact xH.BZ hf' 4 24 y4.1 rfl rfl
   ·have:y4.1∈[y0,y1,y2,y3,y4].map (·.1):=by simp
    have h2:=List.sizeOf_lt_of_mem this
    show SizeOf.sizeOf y4.1<SizeOf.sizeOf (DataW.agg ([y0,y1,y2,y3,y4].map (·.1)))
    simp only[DataW.agg.sizeOf_spec]
    omega
theorem open_kids (N:Nat):∀(m:Nat) (cs:List Value) (x:DataW H×List MemPlace),SizeOf.sizeOf x.1≤N→DataW.trod enc Tryz.prog W base sp held m 24 cs=some x→xH.Fine Tryz.prog 24 x.1→∃d,QT d∧DV.aF (allOf W) [d] cs:=by
 induction N using Nat.strongRecOn with
 | _ N ih=>
 intro m cs x hN hx hfi
 rcases Go.Deep.open_slice Tryz.underlying24 hx with ⟨rfl,rfl⟩|⟨a,len,cap,mm,n',D,Pl,rfl,hb,hlc,hcap,hmm,rfl,hel⟩
 ·exact⟨_,⟨[],0,by simp[iI],trivial,by simp,rfl⟩,⟨_,_,rfl,⟨none,0,rfl,Nat.le_refl _,.inl rfl⟩,rfl⟩⟩
 have hlm:len≤mm:=by rw[hmm];split<;>omega
 have VU:∀w∈DataW.weights Tryz.prog 24 (.slice ((List.range len).map D) ((List.range (mm-len)).map fun j=>D (len+j))),w≤reachBytes:=hfi
 simp only[DataW.weights,Tryz.underlying24,List.mem_cons,List.mem_append] at VU
 have Wq:∀i,i<len→xH.Fine Tryz.prog 26 (D i):=fun i hi=>
  xH.Gs (fun w hw=>VU w (.inr (.inl hw))) _ (List.mem_map.2 ⟨i,List.mem_range.2 hi,rfl⟩)
 have hlen:len≤8796093022208:=by
  have:=VU _ (.inl rfl)
  rw[bytes26] at this
  simp only[List.length_map,List.length_range,reachBytes] at this
  omega
 have hspot:0<len→a.spot=none:=by
  intro hpos
  obtain ⟨cs',h1,_⟩:=hel 0 (by omega)
  obtain ⟨_,h5,h6⟩:=World.cells?_some h1
  have c26:=cells26
  have:=h6 0 (by show 0<Tryz.prog.cellsOf 26;omega)
  rw[Nat.zero_mul,bQ (by rw[h5,cells26];omega)] at this
  simp only[World.cell?,Addr.add,if_true] at this
  split at this
  ·split at this
   ·cases this
   ·rename_i hsp;simpa using hsp
  ·cases this
 have hadd:0<len→∀k,a.add k=⟨a.block,a.off+k,none⟩:=by
  intro hpos k
  have:=hspot hpos
  unfold Addr.add
  split
  ·rename_i hk;subst hk;cases a;simp_all
  ·rfl
 have each:∀i,i<len→∃(x:Ex) (k:Nat),ht x≤k∧rP x∧∃v,DV.rel (allOf W) (bG k x) v∧v.cells.size=6∧∀j,j<6→W.cell? ⟨a.block,a.off+i*6+j,none⟩=v.cells[j]?:=by
  intro i hi
  obtain ⟨cs',h1,h2⟩:=hel i (by omega)
  obtain ⟨k,n,d,at',s,v,n2,y,hs,rfl,h3,h4,h5⟩:=open_node h2 (Wq i hi)
  have hsz:SizeOf.sizeOf y.1<N:=by
   have hm:D i∈(List.range len).map D:=List.mem_map.2 ⟨i,List.mem_range.2 hi,rfl⟩
   have h6:=List.sizeOf_lt_of_mem hm
   have h7:SizeOf.sizeOf (DataW.slice ((List.range len).map D) ((List.range (mm-len)).map fun j=>D (len+j)))≤N:=hN
   simp only[DataW.slice.sizeOf_spec] at h7
   have h5:SizeOf.sizeOf y.1<SizeOf.sizeOf (D i):=h5
   omega
  obtain ⟨dk,⟨l,kk,hh,hw,hll,rfl⟩,hr⟩:=ih _ hsz n2 [v] y (Nat.le_refl _) h3 h4
  obtain ⟨u,us,e1,r1,r2⟩:=hr
  simp only[List.cons.injEq] at e1
  obtain ⟨rfl,rfl⟩:=e1
  obtain ⟨_,h8,h9⟩:=World.cells?_some h1
  rw[cells26] at h9 h1
  refine⟨.mk k s n d at' l,kk,by rw[Ho];exact hh,⟨hs,hll,hw⟩,.agg #[.int .i64 k,.string s,.int .i64 n,.int .i64 d,.int .i64 at',v],?_,rfl,fun j hj=>?_⟩
  ·exact⟨_,rfl,_,_,rfl,rfl,_,_,rfl,rfl,_,_,rfl,rfl,_,_,rfl,rfl,_,_,rfl,rfl,v,_,rfl,r1,rfl⟩
  ·have:=h9 j (by simpa using hj)
   rw[hadd (by omega)] at this
   have e:(⟨a.block,a.off+i*6,none⟩:Addr).add j=⟨a.block,a.off+i*6+j,none⟩:=by
    unfold Addr.add
    split
    ·rename_i hk;subst hk;rfl
    ·rfl
   rw[e] at this
   rw[this]
   simp[Value.cells]
 classical
 let X:Nat→Ex:=fun i=>if h:i<len then Classical.choose (each i h) else ak
 let K:Nat→Nat:=fun i=>if h:i<len then Classical.choose (Classical.choose_spec (each i h)) else 0
 have hX:∀i,i<len→ht (X i)≤K i∧rP (X i)∧∃v,DV.rel (allOf W) (bG (K i) (X i)) v∧v.cells.size=6∧∀j,j<6→W.cell? ⟨a.block,a.off+i*6+j,none⟩=v.cells[j]?:=fun i hi=>by
  simp only[X,K,dif_pos hi]
  exact Classical.choose_spec (Classical.choose_spec (each i hi))
 obtain ⟨M,hM⟩:=Vt K len
 have Eh:((List.range len).map X).length=len:=by simp
 have hget:∀i,i<len→((List.range len).map X).getD i ak=X i:=fun i hi=>by
  simp[List.getD,List.getElem?_map,List.getElem?_range hi]
 refine⟨.slc 6 ((List.range len).map X).length (lay (bJ (M+1)) ((List.range len).map X)),⟨_,M+1,aaq fun i hi=>?_,aaj fun i hi=>?_,by rw[Eh];exact hlen,rfl⟩,⟨_,_,rfl,⟨some a,cap,by rw[Eh],by rw[Eh];exact hlc,?_⟩,rfl⟩⟩
 ·rw[Eh] at hi
  rw[hget i hi]
  have:=(hX i hi).1
  have:=hM i hi
  omega
 ·rw[Eh] at hi
  rw[hget i hi]
  exact(hX i hi).2.1
 ·rw[Eh]
  by_cases hz:len=0
  ·exact .inl hz
  right
  refine⟨a.block,a.off,by have:=hspot (by omega);cases a;simp_all,fun i hi=>?_⟩
  obtain ⟨h1,_,v,hv,hs,hc⟩:=hX i hi
  refine⟨v,?_,hs,fun j hj=>hc j hj⟩
  show DV.rel (allOf W) (bG M (((List.range len).map X).getD i ak)) v
  rw[hget i hi]
  exact VZ _ _ _ h1 (Nat.le_trans h1 (hM i hi)) _ _ hv
def WO (t:TypeId):Option (DV→Prop):=match Nat.beq t 24 with|true=>some QT|false=>none
theorem ab9:xH.How WO enc Tryz.prog W base sp held:=by
 intro t p m cs x hp hx hf
 unfold WO at hp
 split at hp
 ·rename_i h
  obtain rfl:=Nat.eq_of_beq_eq_true h
  obtain rfl:=Option.some.inj hp
  obtain ⟨d,h1,h2⟩:=open_kids _ m cs x (Nat.le_refl _) hx hf
  obtain ⟨l,k,a,b,c,rfl⟩:=h1
  exact⟨_,⟨⟨l,k,a,b,c,rfl⟩,_,_,_,rfl⟩,h2⟩
 ·cases hp
end
open Go Go.Ab Go.RowKit
abbrev Xy:List xH.Sh:=[.str,.int .i64,.int .i64,.int .i64,.int .i64,.int .i64,.slc false [.str]]
abbrev Xe:List xH.Sh:=[.int .i64,.str,.int .i64,.int .i64,.int .i64,.own QT]
theorem Uh {n:Nat} {f:Nat→DV} (hf:∀i,i<n→∃es,f i=.agg es∧xH.iU.dv Xy es) :
  ∃L:List Fc,L.length=n∧(∀k v,DV.rel k (.slc 7 n f) v→DV.rel k (fC L) v)∧∀i,i<L.length→PX (L.getD i aG):=by
 obtain ⟨l,hl,hL⟩:=GH (p:=fun i (x:{x:Fc // PX x})=>∀k v,DV.rel k (f i) v→DV.rel k (qU x.1) v) ⟨aG,⟨by decide,by decide,fun i hi=>absurd hi (by simp[aG])⟩⟩ (fun i hi=>by
  obtain ⟨es,h1,_,_,rfl,⟨a,ha,rfl⟩,_,_,rfl,⟨b,_,rfl⟩,_,_,rfl,⟨c,_,rfl⟩,_,_,rfl,⟨d,_,rfl⟩,_,_,rfl,⟨e,_,rfl⟩,_,_,rfl,⟨g,_,rfl⟩,_,_,rfl,⟨n,f',hn,rfl,hw⟩,rfl⟩:=hf i hi
  obtain ⟨l,hl,hs,hr⟩:=VN hn hw
  subst hl
  refine⟨⟨⟨a,b,c,d,e,g,l⟩,⟨ha,hn,hs⟩⟩,fun k v h=>?_⟩
  rw[h1] at h
  exact UN (fun v=>hr k v) h)
 subst hl
 refine⟨l.map (·.1),List.length_map ..,fun k v h=>?_,fun i hi=>?_⟩
 ·unfold fC
  rw[List.length_map]
  refine jI (fun i hi v hv=>?_) h
  have:=hL i hi k v hv
  unfold gV
  rw[show (l.map (·.1)).getD i aG=(l.getD i ⟨aG,⟨by decide,by decide,fun i hi=>absurd hi (by simp[aG])⟩⟩).1 from by rw[List.getD,List.getD,List.getElem?_map,bQ hi];rfl]
  exact this
 ·rw[List.length_map] at hi
  rw[show (l.map (·.1)).getD i aG=(l.getD i ⟨aG,⟨by decide,by decide,fun i hi=>absurd hi (by simp[aG])⟩⟩).1 from by rw[List.getD,List.getD,List.getElem?_map,bQ hi];rfl]
  exact(l.getD i _).2
theorem ZO {es:List DV} (h:xH.iU.dv Xe es):∃(x:Ex) (m:Nat),ht x≤m∧rP x∧DV.agg es=bG m x:=by
 obtain ⟨_,_,rfl,⟨k,_,rfl⟩,_,_,rfl,⟨s,hs,rfl⟩,_,_,rfl,⟨n,_,rfl⟩,_,_,rfl,⟨d,_,rfl⟩,_,_,rfl,⟨a,_,rfl⟩,_,_,rfl,⟨⟨l,m,hm,hw,hl,rfl⟩,_⟩,rfl⟩:=h
 exact⟨.mk k s n d a l,m,by rw[Ho];exact hm,⟨hs,hl,hw⟩,rfl⟩
/-! Facts that are read. -/
abbrev Xj:List xH.Sh:=[.str,.int .i64,.int .i64,.int .i64,.bool,.str]
theorem YL {n:Nat} {f:Nat→DV} (hf:∀i,i<n→∃es,f i=.agg es∧xH.iU.dv Xj es) :
  ∃F:List Ft,F.length=n∧∀k v,DV.rel k (.slc 6 n f) v→DV.rel k (iJ F) v:=by
 obtain ⟨l,hl,hL⟩:=GH (p:=fun i (x:Ft)=>f i=eX x) aJ (fun i hi=>by
  obtain ⟨es,h1,_,_,rfl,⟨a,_,rfl⟩,_,_,rfl,⟨b,_,rfl⟩,_,_,rfl,⟨c,_,rfl⟩,_,_,rfl,⟨d,_,rfl⟩,_,_,rfl,⟨e,rfl⟩,_,_,rfl,⟨g,_,rfl⟩,rfl⟩:=hf i hi
  exact⟨⟨a,b,c,d,e,g⟩,h1⟩)
 subst hl
 refine⟨l,rfl,fun k v h=>?_⟩
 refine DV.dJ (fun i hi=>?_) h
 rw[hL i hi];rfl
end Go.Proofs
/- Bounds,plain: what they are as numbers. -/
namespace Go.Proofs
open Go Go.Ab Go.RowKit
set_option maxHeartbeats 1000000
def Is (p:gY) (v:Rat):Prop:=ok p.1 p.2=true∧qv p.1 p.2=v
def mn (u w:Rat):Rat:=if w<u then w else u
def mx (u w:Rat):Rat:=if u<w then w else u
theorem Aw {p q:gY} {u w:Rat} (h1:Is p u) (h2:Is q w):(fG p.1 p.2 q.1 q.2>0↔w<u)∧(fG p.1 p.2 q.1 q.2<0↔u<w)∧(fG p.1 p.2 q.1 q.2≤0↔u≤w):=by
 rw[Ua h1.1 h2.1,h1.2,h2.2]
 unfold OL
 grind
theorem YV {a b c d:Int} {u w:Rat} (h1:Is (a,b) u) (h2:Is (c,d) w):Is (xX a b c d,xZ a b c d) (mn u w):=by
 obtain ⟨k1,_,_⟩:=Aw h1 h2
 unfold xX xZ dM mn
 by_cases h:fG a b c d>0
 ·rw[if_pos h,if_pos h,if_pos (k1.1 h)];exact h2
 ·rw[if_neg h,if_neg h,if_neg (fun hh=>h (k1.2 hh))];exact h1
theorem YT {a b c d:Int} {u w:Rat} (h1:Is (a,b) u) (h2:Is (c,d) w):Is (x9 a b c d,xY a b c d) (mx u w):=by
 obtain ⟨_,k1,_⟩:=Aw h1 h2
 unfold x9 xY dM mx
 by_cases h:fG a b c d<0
 ·rw[if_pos h,if_pos h,if_pos (k1.1 h)];exact h2
 ·rw[if_neg h,if_neg h,if_neg (fun hh=>h (k1.2 hh))];exact h1
/-! Least and greatest of some values. -/
def XL (V:Nat→Rat):Nat→Rat
 | 0=>V 0
 | n+1=>mn (XL V n) (V n)
def YR (V:Nat→Rat):Nat→Rat
 | 0=>V 0
 | n+1=>mx (YR V n) (V n)
def NU (V:Nat→Rat):Nat→Rat
 | 0=>V 0
 | n+1=>mn (NU V n) (V (n+1))
def Nr (V:Nat→Rat):Nat→Rat
 | 0=>V 0
 | n+1=>mx (Nr V n) (V (n+1))
theorem aeD (u w:Rat):mn u w≤u∧mn u w≤w∧(mn u w=u∨mn u w=w):=by unfold mn;grind
theorem aeK (u w:Rat):u≤mx u w∧w≤mx u w∧(mx u w=u∨mx u w=w):=by unfold mx;grind
theorem Ae (V:Nat→Rat):∀n,(∀i,i≤n→NU V n≤V i)∧∃i,i≤n∧NU V n=V i
 | 0=>⟨fun i hi=>by obtain rfl:i=0:=by omega
                    exact Rat.le_refl,0,Nat.le_refl _,rfl⟩
 | n+1=>by
  obtain ⟨h1,j,hj,h2⟩:=Ae V n
  obtain ⟨a,b,c⟩:=aeD (NU V n) (V (n+1))
  refine⟨fun i hi=>?_,?_⟩
  ·show mn _ _≤_
   rcases Nat.lt_or_ge i (n+1) with h|h
   ·exact Rat.le_trans a (h1 i (by omega))
   ·obtain rfl:i=n+1:=by omega
    exact b
  ·rcases c with c|c
   ·exact⟨j,by omega,by show mn _ _=_;rw[c,h2]⟩
   ·exact⟨n+1,Nat.le_refl _,c⟩
theorem Dc (V:Nat→Rat):∀n,(∀i,i≤n→V i≤Nr V n)∧∃i,i≤n∧Nr V n=V i
 | 0=>⟨fun i hi=>by obtain rfl:i=0:=by omega
                    exact Rat.le_refl,0,Nat.le_refl _,rfl⟩
 | n+1=>by
  obtain ⟨h1,j,hj,h2⟩:=Dc V n
  obtain ⟨a,b,c⟩:=aeK (Nr V n) (V (n+1))
  refine⟨fun i hi=>?_,?_⟩
  ·show _≤mx _ _
   rcases Nat.lt_or_ge i (n+1) with h|h
   ·exact Rat.le_trans (h1 i (by omega)) a
   ·obtain rfl:i=n+1:=by omega
    exact b
  ·rcases c with c|c
   ·exact⟨j,by omega,by show mx _ _=_;rw[c,h2]⟩
   ·exact⟨n+1,Nat.le_refl _,c⟩
theorem TS (V:Nat→Rat):∀n,XL V (n+1)=NU V n
 | 0=>by show mn (V 0) (V 0)=V 0;unfold mn;grind
 | n+1=>by show mn (XL V (n+1)) (V (n+1))=mn (NU V n) (V (n+1));rw[TS V n]
theorem TM (V:Nat→Rat):∀n,YR V (n+1)=Nr V n
 | 0=>by show mx (V 0) (V 0)=V 0;unfold mx;grind
 | n+1=>by show mx (YR V (n+1)) (V (n+1))=mx (Nr V n) (V (n+1));rw[TM V n]
/-! Bounds with values. -/
structure In (b:Bd) (u w:Rat):Prop where
 lo:Is (b.a,b.b) u
 hi:Is (b.c,b.d) w
 le:u≤w
def cv (f:Rat→Rat→Rat) (u w u' w':Rat) (n:Nat):Rat:=f (if n / 2=0 then u else w) (if n % 2=0 then u' else w')
theorem ace {op:Int→Int→Int→Int→FE} {x y:Bd} {V:Nat→Rat} (h:∀n,n<4→Is ((iy op x y n).1,(iy op x y n).2.1) (V n)):∀n,n≤4→
  Is ((zD op x y n).a,(zD op x y n).b) (XL V n)∧Is ((zD op x y n).c,(zD op x y n).d) (YR V n)
 | 0,_=>⟨h 0 (by omega),h 0 (by omega)⟩
 | n+1,hn=>by
  obtain ⟨h1,h2⟩:=ace h n (by omega)
  exact⟨YV h1 (h n (by omega)),YT h2 (h n (by omega))⟩
theorem YZ {op:Int→Int→Int→Int→FE} {x y:Bd} {V:Nat→Rat} (h:∀n,n<4→Is ((iy op x y n).1,(iy op x y n).2.1) (V n)) (hb:jm op x y=false):In (oN op x y) (NU V 3) (Nr V 3):=by
 obtain ⟨h1,h2⟩:=ace h 4 (Nat.le_refl _)
 have e:oN op x y=zD op x y 4:=by unfold oN;rw[hb];rfl
 rw[e]
 refine⟨by rw[←TS];exact h1,by rw[←TM];exact h2,?_⟩
 exact Rat.le_trans ((Ae V 3).1 0 (by omega)) ((Dc V 3).1 0 (by omega))
theorem acw {op:Int→Int→Int→Int→FE} {x y:Bd} (hb:jm op x y=false) {n:Nat} (hn:n<4):(iy op x y n).2.2=0:=by
 refine Classical.byContradiction fun h=>?_
 rw[SG hn h] at hb;cases hb
theorem V8 {op:Int→Int→Int→Int→FE} {f:Rat→Rat→Rat} {x y:Bd} {u w u' w':Rat} (hx:In x u w) (hy:In y u' w')
  (hop:∀p q u w,Is p u→Is q w→(w=u'∨w=w')→(op p.1 p.2 q.1 q.2).2.2=0→Is ((op p.1 p.2 q.1 q.2).1,(op p.1 p.2 q.1 q.2).2.1) (f u w)) (hb:jm op x y=false) :
  ∀n,n<4→Is ((iy op x y n).1,(iy op x y n).2.1) (cv f u w u' w' n):=by
 intro n hn
 have hg:=acw hb hn
 have hlo:Is ((fD x).getD (n / 2) (0,0)) (if n / 2=0 then u else w):=by
  rcases n with _|_|_|_|n
  ·exact hx.lo
  ·exact hx.lo
  ·exact hx.hi
  ·exact hx.hi
  ·omega
 have hly:Is ((fD y).getD (n % 2) (0,0)) (if n % 2=0 then u' else w'):=by
  rcases n with _|_|_|_|n
  ·exact hy.lo
  ·exact hy.hi
  ·exact hy.lo
  ·exact hy.hi
  ·omega
 exact hop _ _ _ _ hlo hly (by split<;>simp) hg
theorem U8 {p q:gY} {u w:Rat} (h1:Is p u) (h2:Is q w) (h:(dG p.1 p.2 q.1 q.2).2.2=0):Is ((dG p.1 p.2 q.1 q.2).1,(dG p.1 p.2 q.1 q.2).2.1) (u+w):=by
 have:=(acp h1.1 h2.1).val h
 rw[h1.2,h2.2] at this;exact this
theorem OV {p q:gY} {u w:Rat} (h1:Is p u) (h2:Is q w) (h:(bD p.1 p.2 q.1 q.2).2.2=0):Is ((bD p.1 p.2 q.1 q.2).1,(bD p.1 p.2 q.1 q.2).2.1) (u-w):=by
 have:=(acn h1.1 h2.1).val h
 rw[h1.2,h2.2] at this;exact this
theorem Yf {p q:gY} {u w:Rat} (h1:Is p u) (h2:Is q w) (h:(bY p.1 p.2 q.1 q.2).2.2=0):Is ((bY p.1 p.2 q.1 q.2).1,(bY p.1 p.2 q.1 q.2).2.1) (u*w):=by
 have:=(acC h1.1 h2.1).val h
 rw[h1.2,h2.2] at this;exact this
theorem adC {q:gY} {w:Rat} (h2:Is q w) (hw:w≠0):q.1≠0:=by
 intro h
 apply hw
 rw[←h2.2,h]
 unfold qv
 rw[show ((0:Int):Rat)=0 from rfl,Rat.div_def,Rat.zero_mul]
theorem XW {p q:gY} {u w:Rat} (h1:Is p u) (h2:Is q w) (hw:w≠0) (h:(dD p.1 p.2 q.1 q.2).2.2=0):Is ((dD p.1 p.2 q.1 q.2).1,(dD p.1 p.2 q.1 q.2).2.1) (u / w):=by
 have:=(acu h1.1 h2.1 (adC h2 hw)).val h
 rw[h1.2,h2.2] at this;exact this
theorem TA {p:gY} {u:Rat} (h:Is p u):(p.1>0↔0<u)∧(p.1<0↔u<0)∧(p.1≥0↔0≤u)∧(p.1≤0↔u≤0):=by
 have hp:=uj h.1
 have e1:=Pm (a:=0) (b:=1) (c:=p.1) (d:=p.2) (by omega) hp
 have e2:=Pm (a:=p.1) (b:=p.2) (c:=0) (d:=1) hp (by omega)
 have z:qv 0 1=0:=by unfold qv;rw[show ((0:Int):Rat)=0 from rfl,Rat.div_def,Rat.zero_mul]
 rw[z,h.2] at e1 e2
 simp only[Int.zero_mul,Int.mul_one] at e1 e2
 refine⟨e1.symm,e2.symm,?_,?_⟩
 ·constructor
  ·intro hh;rw[←Rat.not_lt];intro hc;have:=e2.1 hc;omega
  ·intro hh;rw[←Rat.not_lt] at hh;refine Classical.byContradiction fun hc=>hh (e2.2 (by omega))
 ·constructor
  ·intro hh;rw[←Rat.not_lt];intro hc;have:=e1.1 hc;omega
  ·intro hh;rw[←Rat.not_lt] at hh;refine Classical.byContradiction fun hc=>hh (e1.2 (by omega))
theorem VB:Is (0,1) 0:=⟨by decide,by unfold qv;rw[show ((0:Int):Rat)=0 from rfl,Rat.div_def,Rat.zero_mul]⟩
theorem aco:In ⟨0,1,0,1⟩ 0 0:=⟨VB,VB,Rat.le_refl⟩
end Go.Proofs
/- The reference's bounds,plain: the same ones. -/
namespace Go.Proofs
open Go Go.Ab Go.RowKit
set_option maxHeartbeats 1000000
/-! afV. -/
def g2 (l:List gY) (i:Nat):gY:=l.getD i (0,0)
/-! aaT in the one order and in the other. -/
end Go.Proofs
/- The bounds of the program and of the reference are the same. -/
namespace Go.Proofs
open Go Go.Ab Go.RowKit
set_option maxHeartbeats 1000000
section
variable {R:List BR}
theorem TP {KH:Bool} {Vl Vh:Nat→Rat} (h:∀n,n<R.length→Is ((R.getD n (fE,true)).1.a,(R.getD n (fE,true)).1.b) (Vl n)∧Is ((R.getD n (fE,true)).1.c,(R.getD n (fE,true)).1.d) (Vh n)) (h0:0<R.length):∀n,n≤R.length→
  Is ((mO KH R n).a,(mO KH R n).b) (if KH then YR Vl n else XL Vl n)∧Is ((mO KH R n).c,(mO KH R n).d) (if KH then YR Vh n else XL Vh n)
 | 0,_=>by
  obtain ⟨a,b⟩:=h 0 h0
  cases KH
  ·exact⟨a,b⟩
  ·exact⟨a,b⟩
 | n+1,hn=>by
  obtain ⟨a,b⟩:=h n (by omega)
  have ih:=TP (KH:=KH) h h0 n (by omega)
  cases KH with
  | false=>exact⟨YV ih.1 a,YV ih.2 b⟩
  | true=>exact⟨YT ih.1 a,YT ih.2 b⟩
end
end Go.Proofs
/- The reference's bounds,plain: definitions. -/
namespace Go.Proofs
open Go Go.Ab Go.RowKit
section
variable {k:Int} {R:List BR}
end
end Go.Proofs
/- The bounds of an expression: the program's and the reference's. -/
namespace Go.Proofs
open Go Go.Ab Go.RowKit
set_option maxHeartbeats 1000000
section
variable {R:List BR}
end
theorem ad3 {n d:Int} (h:ru n d=true):ok n d=true:=by
 unfold ru at h
 simp only[aT] at h
 have h:=h.1.1
 unfold nI at h
 cases hk:ok n d with
 | true=>rfl
 | false=>rw[hk] at h;cases h
end Go.Proofs
/- Bounds within bounds: narrower operands have narrower results. -/
namespace Go.Proofs
open Go Go.Ab Go.RowKit
set_option maxHeartbeats 1000000
theorem Wi {u w u' w' a b:Rat} (h1:u≤a) (h2:a≤w) (h3:u'≤b) (h4:b≤w'):a*b≤u*u'∨a*b≤u*w'∨a*b≤w*u'∨a*b≤w*w':=by
 by_cases hb:0≤b
 ·have e1:=Rat.mul_le_mul_of_nonneg_right h2 hb
  by_cases hw:0≤w
  ·exact .inr (.inr (.inr (Rat.le_trans e1 (Rat.mul_le_mul_of_nonneg_left h4 hw))))
  ·have e2:=Rat.mul_le_mul_of_nonneg_left h3 (show (0:Rat)≤-w by grind)
   exact .inr (.inr (.inl (by grind)))
 ·have e1:=Rat.mul_le_mul_of_nonneg_right h1 (show (0:Rat)≤-b by grind)
  by_cases hu:0≤u
  ·have e2:=Rat.mul_le_mul_of_nonneg_left h4 hu
   exact .inr (.inl (by grind))
  ·have e2:=Rat.mul_le_mul_of_nonneg_left h3 (show (0:Rat)≤-u by grind)
   exact .inl (by grind)
theorem Zl {u w u' w' a b:Rat} (h1:u≤a) (h2:a≤w) (h3:u'≤b) (h4:b≤w'):u*u'≤a*b∨u*w'≤a*b∨w*u'≤a*b∨w*w'≤a*b:=by
 rcases Wi (u:=-w) (w:=-u) (a:=-a) (by grind) (by grind) h3 h4 with h|h|h|h
 ·exact .inr (.inr (.inl (by grind)))
 ·exact .inr (.inr (.inr (by grind)))
 ·exact .inl (by grind)
 ·exact .inr (.inl (by grind))
theorem acy {u w u' w' a b:Rat} (h1:u≤a) (h2:a≤w) (h3:u'≤b) (h4:b≤w'):NU (cv (· * ·) u w u' w') 3≤a*b∧a*b≤Nr (cv (· * ·) u w u' w') 3:=by
 have lo:=(Ae (cv (· * ·) u w u' w') 3).1
 have hi:=(Dc (cv (· * ·) u w u' w') 3).1
 have c0:cv (· * ·) u w u' w' 0=u*u':=rfl
 have c1:cv (· * ·) u w u' w' 1=u*w':=rfl
 have c2:cv (· * ·) u w u' w' 2=w*u':=rfl
 have c3:cv (· * ·) u w u' w' 3=w*w':=rfl
 constructor
 ·rcases Zl h1 h2 h3 h4 with h|h|h|h
  ·exact Rat.le_trans (by rw[←c0];exact lo 0 (by omega)) h
  ·exact Rat.le_trans (by rw[←c1];exact lo 1 (by omega)) h
  ·exact Rat.le_trans (by rw[←c2];exact lo 2 (by omega)) h
  ·exact Rat.le_trans (by rw[←c3];exact lo 3 (by omega)) h
 ·rcases Wi h1 h2 h3 h4 with h|h|h|h
  ·exact Rat.le_trans h (by rw[←c0];exact hi 0 (by omega))
  ·exact Rat.le_trans h (by rw[←c1];exact hi 1 (by omega))
  ·exact Rat.le_trans h (by rw[←c2];exact hi 2 (by omega))
  ·exact Rat.le_trans h (by rw[←c3];exact hi 3 (by omega))
theorem KC {a b:Rat} (h:0<a) (hab:a≤b):b⁻¹≤a⁻¹:=by
 have hb:0<b:=by grind
 have ia:=Rat.inv_pos.2 h
 have ib:=Rat.inv_pos.2 hb
 have e:=Rat.mul_le_mul_of_nonneg_right hab (Rat.le_of_lt (Rat.mul_pos ia ib))
 have e1:a*(a⁻¹*b⁻¹)=b⁻¹:=by rw[←Rat.mul_assoc,Rat.mul_inv_cancel _ (by grind),Rat.one_mul]
 have e2:b*(a⁻¹*b⁻¹)=a⁻¹:=by rw[Rat.mul_comm a⁻¹ b⁻¹,←Rat.mul_assoc,Rat.mul_inv_cancel _ (by grind),Rat.one_mul]
 rw[e1,e2] at e;exact e
theorem O6 {u' w' b:Rat} (h0:0<u'∨w' < 0) (h3:u'≤b) (h4:b≤w'):w'⁻¹≤b⁻¹∧b⁻¹≤u'⁻¹:=by
 rcases h0 with h0|h0
 ·exact⟨KC (by grind) h4,KC h0 h3⟩
 ·have n:∀x:Rat,x≠0→(-x)⁻¹ = -(x⁻¹):=fun x hx=>by
   apply Rat.inv_eq_of_mul_eq_one
   have:=Rat.mul_inv_cancel x hx
   grind
  have a1:=KC (a:=-w') (b:=-b) (by grind) (by grind)
  have a2:=KC (a:=-b) (b:=-u') (by grind) (by grind)
  rw[n _ (by grind),n _ (by grind)] at a1 a2
  constructor<;>grind
theorem acD {u w u' w' a b:Rat} (h0:0<u'∨w' < 0) (h1:u≤a) (h2:a≤w) (h3:u'≤b) (h4:b≤w'):NU (cv (· / ·) u w u' w') 3≤a / b∧a / b≤Nr (cv (· / ·) u w u' w') 3:=by
 obtain ⟨i1,i2⟩:=O6 h0 h3 h4
 have lo:=(Ae (cv (· / ·) u w u' w') 3).1
 have hi:=(Dc (cv (· / ·) u w u' w') 3).1
 have c0:cv (· / ·) u w u' w' 0=u*u'⁻¹:=Rat.div_def ..
 have c1:cv (· / ·) u w u' w' 1=u*w'⁻¹:=Rat.div_def ..
 have c2:cv (· / ·) u w u' w' 2=w*u'⁻¹:=Rat.div_def ..
 have c3:cv (· / ·) u w u' w' 3=w*w'⁻¹:=Rat.div_def ..
 rw[Rat.div_def]
 constructor
 ·rcases Zl h1 h2 i1 i2 with h|h|h|h
  ·exact Rat.le_trans (by rw[←c1];exact lo 1 (by omega)) h
  ·exact Rat.le_trans (by rw[←c0];exact lo 0 (by omega)) h
  ·exact Rat.le_trans (by rw[←c3];exact lo 3 (by omega)) h
  ·exact Rat.le_trans (by rw[←c2];exact lo 2 (by omega)) h
 ·rcases Wi h1 h2 i1 i2 with h|h|h|h
  ·exact Rat.le_trans h (by rw[←c1];exact hi 1 (by omega))
  ·exact Rat.le_trans h (by rw[←c0];exact hi 0 (by omega))
  ·exact Rat.le_trans h (by rw[←c3];exact hi 3 (by omega))
  ·exact Rat.le_trans h (by rw[←c2];exact hi 2 (by omega))
section
variable {R N:List BR}
abbrev r0 (R:List BR) (i:Nat):Bd:=(R.getD i (fE,true)).1
end
end Go.Proofs
/- A value lies within its bounds,plain. -/
namespace Go.Proofs
open Go Go.Ab Go.RowKit
set_option maxHeartbeats 1000000
def Inv (b:Bd) (p:gY):Prop:=∃u w v:Rat,In b u w∧Is p v∧u≤v∧v≤w
theorem Is.neg {p:gY} {v:Rat} (h:Is p v):Is (-p.1,p.2) (0-v):=by
 have hs:=kR h.1
 refine⟨?_,?_⟩
 ·have h1:=h.1
  unfold ok at h1⊢
  simp only[decide_eq_true_eq] at h1⊢
  have:Int.gcd (-p.1) p.2=Int.gcd p.1 p.2:=Int.neg_gcd ..
  omega
 ·have:qv (-p.1) p.2=0-qv p.1 p.2:=by
   unfold qv
   rw[Rat.intCast_neg,Rat.div_def,Rat.neg_mul,Rat.div_def]
   grind
  rw[this,h.2]
theorem VD {l:List gY} {V:Nat→Rat} (hV:∀n,n<l.length→Is (l.getD n (0,0)) (V n)):∀k,k<l.length→∃j,j≤k∧iL l (k+1)=l.getD j (0,0)∧∀i,i≤k→V j≤V i
 | 0,h=>by
  refine⟨0,Nat.le_refl _,?_,fun i hi=>?_⟩
  ·unfold iL
   split<;>rfl
  ·obtain rfl:i=0:=by omega
   exact Rat.le_refl
 | k+1,h=>by
  obtain ⟨j,h1,h2,h3⟩:=VD hV k (by omega)
  have c:=(Aw (hV (k+1) h) (hV j (by omega))).2.1
  rw[iL,h2]
  by_cases hc:dM (l.getD (k+1) (0,0)).1 (l.getD (k+1) (0,0)).2 (l.getD j (0,0)).1 (l.getD j (0,0)).2<0
  ·rw[if_pos hc]
   have hv:=c.1 hc
   refine⟨k+1,Nat.le_refl _,rfl,fun i hi=>?_⟩
   rcases Nat.lt_or_ge i (k+1) with hi2|hi2
   ·have:=h3 i (by omega);grind
   ·obtain rfl:i=k+1:=by omega
    exact Rat.le_refl
  ·rw[if_neg hc]
   have hv:¬V (k+1)<V j:=fun hh=>hc (c.2 hh)
   refine⟨j,by omega,rfl,fun i hi=>?_⟩
   rcases Nat.lt_or_ge i (k+1) with hi2|hi2
   ·exact h3 i (by omega)
   ·obtain rfl:i=k+1:=by omega
    grind
theorem TL {l:List gY} {V:Nat→Rat} (hV:∀n,n<l.length→Is (l.getD n (0,0)) (V n)):∀k,k<l.length→(dZ l (k+1)).toNat≤k∧0≤dZ l (k+1)∧∀i,i≤k→V i≤V (dZ l (k+1)).toNat
 | 0,h=>by
  have e:dZ l 1=0:=by
   rw[pK,if_neg (fun hh=>absurd hh.1 (by show ¬((-1:Int)≥0);decide))];rfl
  rw[e]
  refine⟨Nat.le_refl _,Int.le_refl _,fun i hi=>?_⟩
  obtain rfl:i=0:=by omega
  exact Rat.le_refl
 | k+1,h=>by
  obtain ⟨h1,h2,h3⟩:=TL hV k (by omega)
  have c:=(Aw (hV (k+1) h) (hV (dZ l (k+1)).toNat (by omega))).2.2
  rw[pK]
  by_cases hc:dM (l.getD (k+1) (0,0)).1 (l.getD (k+1) (0,0)).2 (l.getD (dZ l (k+1)).toNat (0,0)).1 (l.getD (dZ l (k+1)).toNat (0,0)).2≤0
  ·rw[if_pos ⟨h2,hc⟩]
   have hv:=c.1 hc
   refine⟨by omega,h2,fun i hi=>?_⟩
   rcases Nat.lt_or_ge i (k+1) with hi2|hi2
   ·exact h3 i (by omega)
   ·obtain rfl:i=k+1:=by omega
    exact hv
  ·rw[if_neg (fun hh=>hc hh.2)]
   have hv:¬V (k+1)≤V (dZ l (k+1)).toNat:=fun hh=>hc (c.2 hh)
   have e:(((k+1:Nat):Int)).toNat=k+1:=by omega
   rw[e]
   refine⟨Nat.le_refl _,by omega,fun i hi=>?_⟩
   rcases Nat.lt_or_ge i (k+1) with hi2|hi2
   ·have:=h3 i (by omega);grind
   ·obtain rfl:i=k+1:=by omega
    exact Rat.le_refl
theorem aeH {R:List BR} {ps:List gY} {q:gY} {k:Int} (hk:5≤k∧k≤11) (h1:k=5→1≤R.length) (h2:k=6∨k=7∨k=8∨k=9→2≤R.length) (h3:k=10∨k=11→1≤R.length) (hl:ps.length=R.length)
  (h:∀n,n<R.length→Inv (r0 R n) (ps.getD n (0,0))) (g1:(EK k R).2=true) (g2:vM k ps=some q):Inv (EK k R).1 q:=by
 have hc:k=5∨k=6∨k=7∨k=8∨k=9∨k=10∨k=11:=by omega
 unfold vM at g2
 rcases hc with rfl|rfl|rfl|rfl|rfl|rfl|rfl
 ·obtain ⟨u,w,v,p1,p2,p3,p4⟩:=h 0 (by have:=h1 rfl;omega)
  rw[if_pos rfl] at g2
  obtain rfl:=Option.some.inj g2
  rw[ach rfl] at g1⊢
  have b1:jm bD ⟨0,1,0,1⟩ (r0 R 0)=false:=by rw[Bool.not_eq_true'] at g1;exact g1
  have V1:=V8 aco p1 (f:=(· - ·)) (fun p q a b i1 i2 _ hh=>OV i1 i2 hh) b1
  have lo:=(Ae (cv (· - ·) 0 0 u w) 3).1 1 (by omega)
  have hi:=(Dc (cv (· - ·) 0 0 u w) 3).1 0 (by omega)
  have c0:cv (· - ·) 0 0 u w 0=0-u:=rfl
  have c1:cv (· - ·) 0 0 u w 1=0-w:=rfl
  rw[c1] at lo
  rw[c0] at hi
  exact⟨_,_,0-v,YZ V1 b1,p2.neg,by grind,by grind⟩
 ·have hl2:=h2 (.inl rfl)
  obtain ⟨u,w,v,p1,p2,p3,p4⟩:=h 0 (by omega)
  obtain ⟨u',w',v',q1,q2,q3,q4⟩:=h 1 (by omega)
  rw[if_neg (by decide),if_neg (by decide),if_neg (by decide)] at g2
  split at g2
  ·rename_i hz
   obtain rfl:=Option.some.inj g2
   unfold jv zW at hz⊢
   rw[if_pos rfl] at hz⊢
   rw[abn rfl] at g1⊢
   unfold yc at g1
   simp only[aT,beq_iff_eq] at g1
   have l1:=p1.le;have l3:=q1.le
   exact⟨u+u',w+w',v+v',⟨U8 p1.lo q1.lo g1.1,U8 p1.hi q1.hi g1.2,by grind⟩,U8 p2 q2 hz,by grind,by grind⟩
  ·cases g2
 ·have hl2:=h2 (.inr (.inl rfl))
  obtain ⟨u,w,v,p1,p2,p3,p4⟩:=h 0 (by omega)
  obtain ⟨u',w',v',q1,q2,q3,q4⟩:=h 1 (by omega)
  rw[if_neg (by decide),if_neg (by decide),if_neg (by decide)] at g2
  split at g2
  ·rename_i hz
   obtain rfl:=Option.some.inj g2
   unfold jv zW at hz⊢
   rw[if_neg (by decide),if_pos rfl] at hz⊢
   rw[abS rfl] at g1⊢
   unfold yc at g1
   simp only[aT,beq_iff_eq] at g1
   have l1:=p1.le;have l3:=q1.le
   exact⟨u-w',w-u',v-v',⟨OV p1.lo q1.hi g1.1,OV p1.hi q1.lo g1.2,by grind⟩,OV p2 q2 hz,by grind,by grind⟩
  ·cases g2
 ·have hl2:=h2 (.inr (.inr (.inl rfl)))
  obtain ⟨u,w,v,p1,p2,p3,p4⟩:=h 0 (by omega)
  obtain ⟨u',w',v',q1,q2,q3,q4⟩:=h 1 (by omega)
  rw[if_neg (by decide),if_neg (by decide),if_neg (by decide)] at g2
  split at g2
  ·rename_i hz
   obtain rfl:=Option.some.inj g2
   unfold jv zW at hz⊢
   rw[if_neg (by decide),if_neg (by decide),if_pos rfl] at hz⊢
   rw[acf rfl] at g1⊢
   have b1:jm bY (r0 R 0) (r0 R 1)=false:=by rw[Bool.not_eq_true'] at g1;exact g1
   have V1:=V8 p1 q1 (f:=(· * ·)) (fun p q a b i1 i2 _ hh=>Yf i1 i2 hh) b1
   obtain ⟨m1,m2⟩:=acy p3 p4 q3 q4
   exact⟨_,_,v*v',YZ V1 b1,Yf p2 q2 hz,m1,m2⟩
  ·cases g2
 ·have hl2:=h2 (.inr (.inr (.inr rfl)))
  obtain ⟨u,w,v,p1,p2,p3,p4⟩:=h 0 (by omega)
  obtain ⟨u',w',v',q1,q2,q3,q4⟩:=h 1 (by omega)
  rw[if_neg (by decide),if_neg (by decide),if_neg (by decide)] at g2
  split at g2
  ·rename_i hz
   obtain rfl:=Option.some.inj g2
   unfold jv zW at hz⊢
   rw[if_neg (by decide),if_neg (by decide),if_neg (by decide)] at hz⊢
   rw[YU rfl] at g1⊢
   split at g1
   ·cases g1
   rename_i s1
   rw[if_neg s1]
   have h0:0<u'∨w' < 0:=by
    unfold xW at s1
    split at s1
    ·rename_i hs;exact .inl ((TA q1.lo).1.1 hs)
    ·split at s1
     ·rename_i hs;exact .inr ((TA q1.hi).2.1.1 hs)
     ·omega
   have b1:jm dD (r0 R 0) (r0 R 1)=false:=by rw[Bool.not_eq_true'] at g1;exact g1
   have ly:=q1.le
   have V1:=V8 p1 q1 (f:=(· / ·)) (fun p q a b i1 i2 hb hh=>XW i1 i2 (by rcases hb with rfl|rfl<;>rcases h0 with h0|h0<;>grind) hh) b1
   obtain ⟨m1,m2⟩:=acD h0 p3 p4 q3 q4
   exact⟨_,_,v / v',YZ V1 b1,XW p2 q2 (by rcases h0 with h0|h0<;>grind) hz,m1,m2⟩
  ·cases g2
 all_goals
  have h0:0<R.length:=by have:=h3 (by decide);omega
  have hch:∀n,∃p:Rat×Rat×Rat,n<R.length→In (r0 R n) p.1 p.2.1∧Is (ps.getD n (0,0)) p.2.2∧p.1≤p.2.2∧p.2.2≤p.2.1:=fun n=>by
   by_cases hn:n<R.length
   ·obtain ⟨u,w,v,a1,a2,a3,a4⟩:=h n hn
    exact⟨(u,w,v),fun _=>⟨a1,a2,a3,a4⟩⟩
   ·exact⟨(0,0,0),fun hh=>absurd hh hn⟩
  obtain ⟨P,hP⟩:=Classical.axiomOfChoice hch
  obtain ⟨M,hM⟩:∃M,R.length=M+1:=⟨R.length-1,by omega⟩
  have hV:∀n,n<ps.length→Is (ps.getD n (0,0)) (P n).2.2:=fun n hn=>(hP n (by omega)).2.1
 ·have f1:=TP (R:=R) (KH:=false) (Vl:=fun n=>(P n).1) (Vh:=fun n=>(P n).2.1) (fun n hn=>⟨(hP n hn).1.lo,(hP n hn).1.hi⟩) h0 (M+1) (by omega)
  simp only[TS] at f1
  rw[if_neg (by decide),if_neg (by decide)] at f1
  rw[if_neg (by decide),if_neg (by decide),if_pos rfl,hl.trans hM] at g2
  obtain rfl:=Option.some.inj g2
  obtain ⟨j,j1,j2,j3⟩:=VD hV M (by omega)
  rw[VA (.inl rfl),hM,j2]
  have a1:=(Ae (fun n=>(P n).1) M).1 j j1
  obtain ⟨_,i,hi,ei⟩:=Ae (fun n=>(P n).2.1) M
  obtain ⟨_,i2,hi2,ei2⟩:=Ae (fun n=>(P n).2.1) M
  have b1:=(hP j (by omega)).2.2.1
  have b2:=(hP i (by omega)).2.2.2
  have b3:=j3 i hi
  have le:NU (fun n=>(P n).1) M≤NU (fun n=>(P n).2.1) M:=by
   rw[ei]
   have c1:=(Ae (fun n=>(P n).1) M).1 i hi
   have c2:=(hP i (by omega)).1.le
   exact Rat.le_trans c1 c2
  refine⟨_,_,(P j).2.2,⟨f1.1,f1.2,le⟩,hV j (by omega),Rat.le_trans a1 b1,?_⟩
  rw[ei]
  exact Rat.le_trans b3 b2
 ·have f1:=TP (R:=R) (KH:=true) (Vl:=fun n=>(P n).1) (Vh:=fun n=>(P n).2.1) (fun n hn=>⟨(hP n hn).1.lo,(hP n hn).1.hi⟩) h0 (M+1) (by omega)
  simp only[TM] at f1
  rw[if_pos (by decide),if_pos (by decide)] at f1
  have hal:nU ps=true:=by
   unfold nU
   rw[List.all_eq_true]
   intro p hp
   obtain ⟨i,hi,rfl⟩:=List.getElem_of_mem hp
   have:=(hV i hi).1
   rwa [List.getD,bQ hi] at this
  rw[if_neg (by decide),if_pos rfl] at g2
  obtain rfl:=Option.some.inj g2
  unfold jM
  rw[if_pos hal,hl.trans hM]
  obtain ⟨j1,j0,j3⟩:=TL hV M (by omega)
  rw[VA (.inr rfl),hM]
  generalize (dZ ps (M+1)).toNat=j at *
  have a1:=(Dc (fun n=>(P n).2.1) M).1 j j1
  obtain ⟨_,i,hi,ei⟩:=Dc (fun n=>(P n).1) M
  have b1:=(hP i (by omega)).2.2.1
  have b2:=(hP j (by omega)).2.2.2
  have b3:=j3 i hi
  have le:Nr (fun n=>(P n).1) M≤Nr (fun n=>(P n).2.1) M:=by
   rw[ei]
   have c1:=(Dc (fun n=>(P n).2.1) M).1 i hi
   have c2:=(hP i (by omega)).1.le
   exact Rat.le_trans c2 c1
  refine⟨_,_,(P j).2.2,⟨f1.1,f1.2,le⟩,hV j (by omega),?_,Rat.le_trans b2 a1⟩
  rw[ei]
  exact Rat.le_trans b1 b3
end Go.Proofs
/- A value lies within its bounds: expressions. -/
namespace Go.Proofs
open Go Go.Ab Go.RowKit
set_option maxHeartbeats 1000000
theorem aeM {F:List Ft} {L:List Fc} (hfit:nV F L) (n:Nat):∀(x:Ex) (p:gY),ht x≤n→aV x=true→(dA L x).2.2=0→(dA L x).1=0→gX (bC F F.length) x=some p→(jO (aW L L.length) x).2=true→Inv (jO (aW L L.length) x).1 p:=by
 induction n using Nat.strongRecOn with
 | _ n ih=>
 intro x p hx hsn hty adJ hv g1
 have hnum:=IJ _ _ (Nat.le_refl _) hsn hty adJ
 have hkn:=IX hnum
 rw[aaN] at g1⊢
 rw[vU] at hv
 unfold Gy at hv
 by_cases k1:x.k=1
 ·rw[if_pos k1] at hv⊢
  obtain rfl:=Option.some.inj hv
  have hok:=ad3 (Lj hsn k1)
  exact⟨qv x.n x.d,qv x.n x.d,qv x.n x.d,⟨⟨hok,rfl⟩,⟨hok,rfl⟩,Rat.le_refl⟩,⟨hok,rfl⟩,Rat.le_refl,Rat.le_refl⟩
 rw[if_neg k1] at g1 hv⊢
 by_cases k2:x.k=2
 ·rw[if_pos k2] at hv⊢
  obtain ⟨n1,n2⟩:=(nJ hsn hty).2.2 k2
  have h0:(bZ (aW L L.length) (dW L L.length) x).1=0:=adJ
  rw[h0] at n1
  have hH:fH (aW L L.length) (.string x.s)=true:=by
   cases hc:fH (aW L L.length) (.string x.s) with
   | true=>rfl
   | false=>
    exfalso
    unfold lN at n1 n2
    rw[if_neg (by rw[hc];decide)] at n1 n2
    split at n1
    ·simp at n1
    ·rename_i hw
     rw[if_neg hw] at n2
     simp at n2
  have hk0:(fM (aW L L.length) (.string x.s)).kind=0:=by
   unfold lN at n1
   rw[if_pos hH] at n1
   exact n1.symm
  obtain ⟨i,hi,e1,e2⟩:=hfit.at hH
  rw[e1] at hk0⊢
  rw[e2] at hv
  obtain rfl:=Option.some.inj hv
  have hf:=hfit.fit i hi
  unfold jK at hf
  simp only[aT,Bool.or_eq_true,bne_iff_ne,ne_eq] at hf
  have hno:=hf.1.2.resolve_left fun hh=>hh hk0
  unfold vJ at hno
  simp only[aT,decide_eq_true_eq] at hno
  obtain ⟨⟨⟨o1,o2⟩,c1⟩,c2⟩:=hno
  unfold iF ok2 at o1 o2
  simp only[aT] at o1 o2
  have i1:Is ((L.getD i aG).ln,(L.getD i aG).ld) (qv (L.getD i aG).ln (L.getD i aG).ld):=⟨o1.1,rfl⟩
  have i2:Is ((F.getD i aJ).n,(F.getD i aJ).d) (qv (F.getD i aJ).n (F.getD i aJ).d):=⟨o1.2,rfl⟩
  have i3:Is ((L.getD i aG).hn,(L.getD i aG).hd) (qv (L.getD i aG).hn (L.getD i aG).hd):=⟨o2.2,rfl⟩
  have l1:=(Aw i1 i2).2.2.1 c1
  have l2:=(Aw i2 i3).2.2.1 c2
  exact⟨_,_,_,⟨i1,i3,Rat.le_trans l1 l2⟩,i2,l1,l2⟩
 rw[if_neg k2] at g1 hv⊢
 split at g1
 ·cases g1
 rename_i hany
 rw[if_neg hany]
 cases hr:vZ (bC F F.length) x.kids with
 | none=>rw[hr] at hv;cases hv
 | some r=>
  rw[hr] at hv
  obtain ⟨rfl,hkv⟩:=yV hr
  have one:=fun h=>kG (x:=x) hsn h
  have two:=fun h=>(kH (x:=x) hsn h).1
  have hk5:5≤x.k∧x.k≤11:=by omega
  have TR:(EL (aW L L.length) x.kids).length=x.kids.length:=by rw[FH,List.length_map]
  refine aeH (ps:=x.kids.map (fB (bC F F.length))) hk5 (fun h=>?_) (fun h=>?_) (fun h=>?_) (by rw[TR,List.length_map]) (fun i hi=>?_) g1 hv
  ·rw[TR,one (.inl h)];omega
  ·rw[TR,two (by omega)];omega
  ·rw[TR];exact rZ hsn h
  ·rw[TR] at hi
   have hh:=iC (x:=x) hi
   have e1:r0 (EL (aW L L.length) x.kids) i=(jO (aW L L.length) (x.kids.getD i ak)).1:=by unfold r0;rw[TY hi]
   have e2:(x.kids.map (fB (bC F F.length))).getD i (0,0)=fB (bC F F.length) (x.kids.getD i ak):=by
    rw[List.getD,List.getElem?_map,bQ hi,List.getD,bQ hi];rfl
   rw[e1,e2]
   have gk:(jO (aW L L.length) (x.kids.getD i ak)).2=true:=by
    cases hg:(jO (aW L L.length) (x.kids.getD i ak)).2 with
    | true=>rfl
    | false=>exact absurd (List.any_eq_true.2 ⟨(EL (aW L L.length) x.kids).getD i (fE,true),getD_mem (x0:=(fE,true)) (by rw[TR];exact hi),by rw[TY hi,hg];rfl⟩) hany
   exact ih (ht (x.kids.getD i ak)) (by omega) _ _ (Nat.le_refl _) (dO hsn hi) ((ig hty).1 i hi) ((iw hty).1 (.inl hk5) i hi) (hkv i hi) gk
set_option maxHeartbeats 4000000
set_option maxRecDepth 100000
variable {G:IH}
/-! The law of ScoringWithin. -/
theorem ag4 {F:List Ft} {L:List Fc} {x:Ex} (hb:(pJ L x).2=true) (he:(dU F L x).2=0) :
  (dU F L x).1.kind=0∧fG (pJ L x).1.a (pJ L x).1.b (dU F L x).1.n (dU F L x).1.d≤0∧ok2 (pJ L x).1.a (pJ L x).1.b (dU F L x).1.n (dU F L x).1.d=true∧fG (dU F L x).1.n (dU F L x).1.d (pJ L x).1.c (pJ L x).1.d≤0∧ok2 (dU F L x).1.n (dU F L x).1.d (pJ L x).1.c (pJ L x).1.d=true:=by
 unfold pJ at hb⊢
 by_cases hc:((aP L x).2.2 != 0||(aP L x).1 != 0)=true
 ·rw[if_pos hc] at hb;cases hb
 rw[if_neg hc] at hb⊢
 by_cases hg:(jO (aW L L.length) x).2=true
 ·rw[if_pos hg]
  have ht0:(aP L x).2.2=0∧(aP L x).1=0:=by
   constructor
   ·exact Classical.byContradiction fun hh=>hc (by rw[bne_iff_ne.2 hh];rfl)
   ·exact Classical.byContradiction fun hh=>hc (by rw[bne_iff_ne.2 hh,Bool.or_true])
  unfold dU at he⊢
  by_cases hv:gJ F L=true
  ·rw[if_pos hv,if_pos ht0.1] at he⊢
   obtain ⟨_,hsn,hty,etyp⟩:=rO ht0.1
   have ek:(dA L x).1=0:=by rw[etyp] at ht0;exact ht0.2
   unfold zl at he⊢
   rw[if_pos ht0.2] at he⊢
   cases hn:gX (bC F F.length) x with
   | none=>rw[hn] at he;cases he
   | some p=>
    obtain ⟨u,w,v,h1,h2,h3,h4⟩:=aeM (DR hv) _ x p (Nat.le_refl _) hsn hty ek hn hg
    refine⟨ht0.2,(Aw h1.lo h2).2.2.2 h3,?_,(Aw h2 h1.hi).2.2.2 h4,?_⟩
    ·unfold ok2;rw[aT];exact⟨h1.lo.1,h2.1⟩
    ·unfold ok2;rw[aT];exact⟨h2.1,h1.hi.1⟩
  ·rw[if_neg hv] at he;cases he
 ·rw[if_neg hg] at hb;cases hb
noncomputable def ag2 (x:Ex) (F:List Ft) (L:List Fc):aZ:=fun f a=>match f,a with
 | 10,[]=>some (db true)
 | 11,[_,_,_]=>some (db (qE x F L))
 | 24,[_,_]=>some (.au [fr (pJ L x).1.a (pJ L x).1.b,fr (pJ L x).1.c (pJ L x).1.d,db (pJ L x).2])
 | 12,[_,_,_]=>some (.au [eX (dU F L x).1,di (dU F L x).2])
 | 25,[fr a b,fr c d]=>some (.au [di (fG a b c d),db (ok2 a b c d)])
 | _,_=>none
theorem f6 (hT:Tab G) (m:Nat) (x:Ex) (F:List Ft) (L:List Fc) (hx:ht x≤m) (hw:rP x) (hl:L.length≤9223372036854775807) (Sl:F.length≤9223372036854775807) (hw2:∀i,i<L.length→PX (L.getD i aG)) :
  aj Tryz.prog G 6 [bG m x,iJ F,fC L] (db true):=by
 refine aj.aK (ay:=ag2 x F L) (keep:=[]) follows Tryz.func6 rfl Tryz.call6 ?_
 refine aA (fun _ _ _ ZK=>(ZK 10 [] (db true)∧((false=true)→(((db false):DV)=(db true)))∧((false=false)→(ZK 11 [(aB m x),(.slc 6 F.length (kT F)),(.slc 7 L.length (gV L))] (db (qE x F L))∧(((!qE x F L)=true)→(ZS ((db true):DV)))∧(((!qE x F L)=false)→(ZK 24 [(aB m x),(.slc 7 L.length (gV L))] (.au [(.agg [(di (pJ L x).fst.a),(di (pJ L x).fst.b)]),(.agg [(di (pJ L x).fst.c),(di (pJ L x).fst.d)]),(db (pJ L x).snd)])∧ZK 12 [(aB m x),(.slc 6 F.length (kT F)),(.slc 7 L.length (gV L))] (.au [(.agg [(ds (dU F L x).fst.nm),(di (dU F L x).fst.kind),(di (dU F L x).fst.n),(di (dU F L x).fst.d),(db (dU F L x).fst.tr),(ds (dU F L x).fst.wd)]),(di (dU F L x).snd)])∧(((!(pJ L x).snd||(dU F L x).snd != 0)=true)→(ZS ((db true):DV)))∧(((!(pJ L x).snd||(dU F L x).snd != 0)=false)→(ZK 25 [(.agg [(di (pJ L x).fst.a),(di (pJ L x).fst.b)]),(.agg [(di (dU F L x).fst.n),(di (dU F L x).fst.d)])] (.au [(di (fG (pJ L x).fst.a (pJ L x).fst.b (dU F L x).fst.n (dU F L x).fst.d)),(db (ok2 (pJ L x).fst.a (pJ L x).fst.b (dU F L x).fst.n (dU F L x).fst.d))])∧ZK 25 [(.agg [(di (dU F L x).fst.n),(di (dU F L x).fst.d)]),(.agg [(di (pJ L x).fst.c),(di (pJ L x).fst.d)])] (.au [(di (fG (dU F L x).fst.n (dU F L x).fst.d (pJ L x).fst.c (pJ L x).fst.d)),(db (ok2 (dU F L x).fst.n (dU F L x).fst.d (pJ L x).fst.c (pJ L x).fst.d))])∧((db (ok2 (pJ L x).fst.a (pJ L x).fst.b (dU F L x).fst.n (dU F L x).fst.d&&ok2 (dU F L x).fst.n (dU F L x).fst.d (pJ L x).fst.c (pJ L x).fst.d&&(dU F L x).fst.kind==0&&decide (fG (pJ L x).fst.a (pJ L x).fst.b (dU F L x).fst.n (dU F L x).fst.d≤0)&&decide (fG (dU F L x).fst.n (dU F L x).fst.d (pJ L x).fst.c (pJ L x).fst.d≤0))):DV)=(db true))))))))) (by kernel_rfl) ?_
 refine⟨f10 hT,fun h=>Bool.noConfusion h,fun _=>⟨f11 m x F L hx hw hl Sl hw2,fun _=>rfl,fun h=>?_⟩⟩
 have h:=P6 hw (by simpa using h)
 have hll:L.length≤1000:=by have:=h.ll;omega
 refine⟨f24 hT m x L hx h.sm h.fc hll,f12 hT F L h.fc hll (by have:=h.lf;omega) m x hx h.sm,fun _=>rfl,fun hc=>?_⟩
 rw[Bool.or_eq_false_iff,Bool.not_eq_false'] at hc
 obtain ⟨c1,c2,c3,c4,c5⟩:=ag4 (F:=F) hc.1 (by simpa using hc.2)
 refine⟨f25 _ _ _ _,f25 _ _ _ _,?_⟩
 rw[c1,c3,c5,decide_eq_true c2,decide_eq_true c4];rfl
end Go.Proofs
