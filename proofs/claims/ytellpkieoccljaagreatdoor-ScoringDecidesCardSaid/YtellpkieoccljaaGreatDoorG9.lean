import Derived.Test.YtellpkieoccljaaGreatDoorAcD
import GoSem.ClaimJoined
import Derived.Carry
import Derived.ChangeShapes
import Derived.ChangeArms
import Derived.Deep.Slices
import Derived.LaidMore
import Derived.Test.YtellpkieoccljaaGreatDoorG0
import Derived.Test.YtellpkieoccljaaGreatDoorG8
import Derived.Test.YtellpkieoccljaaGreatDoorG7
import Derived.Test.YtellpkieoccljaaGreatDoorG6
import Derived.Test.YtellpkieoccljaaGreatDoorAcC
import Derived.Shelf.Strings.BuilderX
import Derived.Shelf.RegionOpenPlain
import Derived.Lib.Strings
import Derived.Lib.Slices
import Derived.Lib.Walk
import Derived.Lib.Builder
import Derived.Lib.AppendStr
import Derived.Lib.UnsafeStr
import Derived.Lib.MakeNoZero
import Derived.WalkKit
import Derived.Laws.Externs
import Derived.Laws.IdiomCopy
import Derived.Laws.BitsLemmas
set_option autoImplicit false
namespace Go.xH
open Go Go.Ab Go.RowKit Go.ChangeShapes
inductive Sh where
 | int (k:IntKind)
 | bool
 | str
 | slc (agg:Bool) (l:List Sh)
 | own (p:DV→Prop)
mutual
def Sh.dv:Sh→DV→Prop
 | .int k,d=>∃n,(Lit.int k n).wf=true∧d=.con (.int k n)
 | .bool,d=>∃b,d=.con (.bool b)
 | .str,d=>∃s:ByteArray,s.size≤maxLen∧d=.con (.string s)
 | .slc agg l,d=>∃n f,n≤maxLen∧d=.slc l.length n f∧∀i,i<n→(match agg with|true=>∃es,f i=.agg es∧iU.dv l es|false=>iU.dv l [f i])
 | .own p,d=>p d∧∃sz n f,d=.slc sz n f
def iU.dv:List Sh→List DV→Prop
 | [],es=>es=[]
 | s :: l,es=>∃d es',es=d :: es'∧Sh.dv s d∧iU.dv l es'
end
def Vu (agg:Bool) (l:List Sh) (d:DV):Prop:=match agg with|true=>∃es,d=.agg es∧iU.dv l es|false=>iU.dv l [d]
def jh (P:Program) (r:TypeId→Option (List Sh)):List Field→Nat→Option (List Sh×Nat)
 | [],off=>some ([],off)
 | f :: fs,off=>match Nat.beq f.offset off,r f.type with
  | true,some l=>match Nat.beq l.length (P.cellsOf f.type),jh P r fs (off+P.cellsOf f.type) with
   | true,some (m,e)=>some (l++m,e)
   | _,_=>none
  | _,_=>none
def fP (P:Program) (ow:TypeId→Option (DV→Prop)):Nat→TypeId→Option (List Sh)
 | 0,_=>none
 | n+1,t=>match ow t with
  | some p=>some [.own p]
  | none=>match P.underlying t with
  | some .bool=>some [.bool]
  | some (.int k)=>some [.int k]
  | some .string=>some [.str]
  | some (.slice e)=>match fP P ow n e with
   | some l=>match Nat.beq l.length (P.cellsOf e)&&(Nat.blt 0 l.length&&(bK P e||Nat.beq l.length 1)) with
    | true=>some [.slc (bK P e) l]
    | false=>none
   | none=>none
  | some (.struct fs)=>match jh P (fP P ow n) fs.toList 0 with
   | some (l,e)=>match Nat.beq e (P.cellsOf t) with|true=>some l|false=>none
   | none=>none
  | _=>none
theorem iU.append:∀{a b:List Sh} {u v:List DV},iU.dv a u→iU.dv b v→iU.dv (a++b) (u++v)
 | [],_,u,_,ha,hb=>by simp only[iU.dv] at ha;subst ha;exact hb
 | _ :: a,_,_,_,⟨x,u',e,r,rs⟩,hb=>by subst e;exact⟨x,_,rfl,r,iU.append rs hb⟩
theorem iU.length:∀{a:List Sh} {u:List DV},iU.dv a u→u.length=a.length
 | [],u,h=>by simp only[iU.dv] at h;subst h;rfl
 | _ :: a,_,⟨x,u',e,r,rs⟩=>by subst e;simp[iU.length rs]
theorem Sh.cells {s:Sh} {d:DV} {h:IH} {v:Value} (hs:s.dv d) (hv:d.rel h v):v.cells=#[v]:=by
 cases s with
 | int k=>obtain ⟨n,_,rfl⟩:=hs;simp only[DV.rel] at hv;subst hv;rfl
 | bool=>obtain ⟨n,rfl⟩:=hs;simp only[DV.rel] at hv;subst hv;rfl
 | str=>obtain ⟨n,_,rfl⟩:=hs;simp only[DV.rel] at hv;subst hv;rfl
 | slc agg l=>obtain ⟨n,f,_,rfl,_⟩:=hs;obtain ⟨p,cap,e,_⟩:=hv;subst e;rfl
 | own p=>obtain ⟨_,sz,n,f,rfl⟩:=hs;obtain ⟨p,cap,e,_⟩:=hv;subst e;rfl
section
variable {H:Type} {enc:TypeId×Value→H} {P:Program} {W:World} {base:Nat} {sp:Nat→Bool} {held:Bool}
variable {ow:TypeId→Option (DV→Prop)}
def Fine (P:Program) (t:TypeId) (d:DataW H):Prop:=∀w∈DataW.weights P t d,w≤reachBytes
theorem Gs {e:TypeId}:∀{l:List (DataW H)},(∀w∈DataW.weightsAll P e l,w≤reachBytes)→∀d∈l,Fine P e d
 | x :: l,h,d,hd=>by
  simp only[DataW.weightsAll,List.mem_append] at h
  rcases List.mem_cons.1 hd with rfl|hd
  ·exact fun w hw=>h w (.inl hw)
  ·exact Gs (fun w hw=>h w (.inr hw)) d hd
theorem BZ:∀{ts:List TypeId} {l:List (DataW H)},(∀w∈DataW.weightsEach P ts l,w≤reachBytes)→∀(i:Nat) (t:TypeId) (d:DataW H),ts[i]?=some t→l[i]?=some d→Fine P t d
 | [],_,_,i,t,d,h1,_=>by simp at h1
 | _ :: _,[],_,i,t,d,_,h2=>by simp at h2
 | t0 :: ts,d0 :: l,h,i,t,d,h1,h2=>by
  simp only[DataW.weightsEach,List.mem_append] at h
  cases i with
  | zero=>
   simp only[List.getElem?_cons_zero,aH] at h1 h2
   subst h1;subst h2
   exact fun w hw=>h w (.inl hw)
  | succ i=>exact BZ (fun w hw=>h w (.inr hw)) i t d (by simpa using h1) (by simpa using h2)
def How (ow:TypeId→Option (DV→Prop)) (enc:TypeId×Value→H) (P:Program) (W:World) (base:Nat) (sp:Nat→Bool) (held:Bool):Prop:=
 ∀(t:TypeId) (p:DV→Prop) (m:Nat) (cs:List Value) (x:DataW H×List MemPlace),ow t=some p→DataW.trod enc P W base sp held m t cs=some x→Fine P t x.1→∃d,Sh.dv (.own p) d∧DV.aF (allOf W) [d] cs
theorem qP {r:TypeId→Option (List Sh)}:∀{fs:List Field} {off e:Nat} {l:List Sh},jh P r fs off=some (l,e)→off≤e
 | [],off,e,l,h=>by simp only[jh,aH,aX] at h;omega
 | f :: fs,off,e,l,h=>by
  simp only[jh] at h
  split at h
  ·split at h
   ·rename_i m e' _ h2
    simp only[aH,aX] at h
    have:=qP h2
    omega
   ·cases h
  ·cases h
theorem qV {r:TypeId→Option (List Sh)} {cs:List Value}
  (hr:∀(t:TypeId) (l:List Sh) (m:Nat) (cs':List Value) (x:DataW H×List MemPlace),r t=some l→DataW.trod enc P W base sp held m t cs'=some x→Fine P t x.1→∃es,iU.dv l es∧DV.aF (allOf W) es cs') :
  ∀{fs:List Field} {off e:Nat} {l:List Sh},jh P r fs off=some (l,e)→(∀f∈fs,∃m y,DataW.trod enc P W base sp held m f.type ((cs.drop f.offset).take (P.cellsOf f.type))=some y∧Fine P f.type y.1)→
   ∃es,iU.dv l es∧DV.aF (allOf W) es ((cs.drop off).take (e-off))
 | [],off,e,l,h,_=>by
  simp only[jh,aH,aX] at h
  obtain ⟨rfl,rfl⟩:=h
  exact⟨[],rfl,by simp[DV.aF]⟩
 | f :: fs,off,e,l,h,hf=>by
  simp only[jh] at h
  split at h
  ·rename_i l0 ho hr0
   split at h
   ·rename_i m e' hc h2
    simp only[aH,aX] at h
    obtain ⟨rfl,rfl⟩:=h
    have ho:=Nat.eq_of_beq_eq_true ho
    obtain ⟨k,y,hy,hyf⟩:=hf f (List.mem_cons_self ..)
    obtain ⟨d1,a1,b1⟩:=hr _ _ _ _ _ hr0 hy hyf
    obtain ⟨d2,a2,b2⟩:=qV hr h2 fun g hg=>hf g (List.mem_cons_of_mem _ hg)
    have hle:=qP h2
    refine⟨d1++d2,iU.append a1 a2,?_⟩
    have:=DV.aF.append b1 b2
    rw[ho] at this
    rw[show (cs.drop off).take (e' - off)=(cs.drop off).take (P.cellsOf f.type)++(cs.drop (off+P.cellsOf f.type)).take (e' - (off+P.cellsOf f.type)) from by
     rw[show e' - off=P.cellsOf f.type+(e' - (off+P.cellsOf f.type)) by omega,List.take_add,List.drop_drop]]
    exact this
   ·cases h
  ·cases h
theorem oL (how:How ow enc P W base sp held):∀{n:Nat} {t:TypeId} {l:List Sh} {m:Nat} {cs:List Value} {x:DataW H×List MemPlace},fP P ow n t=some l→DataW.trod enc P W base sp held m t cs=some x→Fine P t x.1→
  ∃es,iU.dv l es∧DV.aF (allOf W) es cs
 | 0,_,_,_,_,_,h,_,_=>by simp[fP] at h
 | n+1,t,l,m,cs,x,h,hx,hfi=>by
  simp only[fP] at h
  split at h
  ·rename_i p hp
   simp only[aH] at h;subst h
   obtain ⟨d,h1,h2⟩:=how t p m cs x hp hx hfi
   exact⟨[d],⟨_,_,rfl,h1,rfl⟩,h2⟩
  split at h
  ·rename_i ht
   obtain ⟨b,rfl,rfl⟩:=DataW.trod_bool ht hx
   simp only[aH] at h;subst h
   exact⟨[.con (.bool b)],⟨_,_,rfl,⟨b,rfl⟩,rfl⟩,⟨_,_,rfl,rfl,rfl⟩⟩
  ·rename_i k ht
   obtain ⟨b,rfl,rfl,hw⟩:=DataW.trod_int ht hx
   simp only[aH] at h;subst h
   exact⟨[.con (.int k b)],⟨_,_,rfl,⟨b,hw,rfl⟩,rfl⟩,⟨_,_,rfl,rfl,rfl⟩⟩
  ·rename_i ht
   obtain ⟨b,rfl,rfl,hw⟩:=DataW.trod_string ht hx
   simp only[aH] at h;subst h
   exact⟨[.con (.string b)],⟨_,_,rfl,⟨b,hw,rfl⟩,rfl⟩,⟨_,_,rfl,rfl,rfl⟩⟩
  ·rename_i e ht
   split at h
   ·rename_i l' hl'
    split at h
    ·rename_i hc
     simp only[aT,Nat.beq_eq,Bool.or_eq_true,Nat.blt_eq] at hc
     simp only[aH] at h;subst h
     rcases Go.Deep.open_slice ht hx with ⟨rfl,rfl⟩|⟨a,len,cap,mm,n',D,Pl,rfl,hb,hlc,hcap,hmm,rfl,hel⟩
     ·refine⟨[.slc l'.length 0 fun _=>.con undef],⟨_,_,rfl,⟨0,_,Nat.zero_le _,rfl,fun i hi=>absurd hi (by omega)⟩,rfl⟩,⟨_,_,rfl,⟨none,0,rfl,Nat.le_refl _,.inl rfl⟩,rfl⟩⟩
     ·have hlm:len≤mm:=by rw[hmm];split<;>omega
      have Wq:∀i,i<len→Fine P e (D i):=fun i hi=>by
       unfold Fine at hfi
       simp only[DataW.weights,ht,List.mem_cons,List.mem_append] at hfi
       exact Gs (fun w hw=>hfi w (.inr (.inl hw))) _ (List.mem_map.2 ⟨i,List.mem_range.2 hi,rfl⟩)
      have hspot:0<len→a.spot=none:=by
       intro hpos
       obtain ⟨cs',h1,_⟩:=hel 0 (by omega)
       obtain ⟨_,h5,h6⟩:=World.cells?_some h1
       have:=h6 0 (by omega)
       rw[Nat.zero_mul,bQ (by omega)] at this
       simp only[World.cell?,Addr.add,if_true] at this
       split at this
       ·split at this
        ·cases this
        ·rename_i hsp;simpa using hsp
       ·cases this
      have hadd:0<len→∀k,a.add k=⟨a.block,a.off+k,none⟩:=by
       intro hpos k
       have:=hspot hpos
       unfold Addr.add
       split
       ·rename_i hk;subst hk;cases a;simp_all
       ·rfl
      have each:∀i,i<len→∃d:DV,(match bK P e with|true=>∃es,d=.agg es∧iU.dv l' es|false=>iU.dv l' [d])∧∃v,DV.rel (allOf W) d v∧v.cells.size=l'.length∧∀j,j<l'.length→W.cell? ⟨a.block,a.off+i*l'.length+j,none⟩=v.cells[j]?:=by
       intro i hi
       obtain ⟨cs',h1,h2⟩:=hel i (by omega)
       obtain ⟨es,h3,h4⟩:=oL how hl' h2 (Wq i hi)
       obtain ⟨_,h5,h6⟩:=World.cells?_some h1
       have hsz:cs'.length=l'.length:=by rw[h5,hc.1]
       have hat:∀j,j<l'.length→W.cell? ⟨a.block,a.off+i*l'.length+j,none⟩=cs'[j]?:=by
        intro j hj
        rw[←h6 j (by omega),hadd (by omega),hc.1]
        congr 1
        unfold Addr.add
        split
        ·rename_i hk;subst hk;rfl
        ·rfl
       cases hag:bK P e with
       | true=>exact⟨.agg es,⟨es,rfl,h3⟩,.agg cs'.toArray,⟨cs',rfl,h4⟩,by simp[Value.cells,hsz],fun j hj=>by rw[hat j hj];simp[Value.cells]⟩
       | false=>
        have h1':l'.length=1:=by rcases hc.2.2 with h|h
                                 ·rw[hag] at h;cases h
                                 ·exact h
        match l',cs',es,h1',hsz,h3,h4,hat with
        | [s],[c],es,_,_,h3,h4,hat=>
         obtain ⟨d,es',e1,h3,e2⟩:=h3
         simp only[iU.dv] at e2;subst e2;subst e1
         obtain ⟨v,vs',e3,h4,e4⟩:=h4
         injection e3 with e3 _;subst e3
         have hcell:=Sh.cells h3 h4
         refine⟨d,⟨_,_,rfl,h3,rfl⟩,c,h4,by rw[hcell];rfl,fun j hj=>?_⟩
         rw[hat j hj,hcell];simp
      refine⟨[.slc l'.length len fun i=>if h:i<len then Classical.choose (each i h) else .con undef],⟨_,_,rfl,⟨len,_,Nat.le_trans hlc hcap,rfl,fun i hi=>?_⟩,rfl⟩,⟨_,_,rfl,⟨some a,cap,rfl,hlc,?_⟩,rfl⟩⟩
      ·simp only[dif_pos hi]
       exact(Classical.choose_spec (each i hi)).1
      ·by_cases hz:len=0
       ·exact .inl hz
       right
       refine⟨a.block,a.off,by have:=hspot (by omega);cases a;simp_all,fun i hi=>?_⟩
       simp only[dif_pos hi]
       obtain ⟨_,v,hv,hsz,hcl⟩:=Classical.choose_spec (each i hi)
       exact⟨v,hv,hsz,fun j hj=>hcl j hj⟩
    ·cases h
   ·cases h
  ·rename_i fs ht
   split at h
   ·rename_i l' e hl'
    split at h
    ·rename_i he
     simp only[aH] at h;subst h
     have he:=Nat.eq_of_beq_eq_true he
     obtain ⟨xs,n',rfl,rfl,hlen,hxl,hf⟩:=DataW.trod_struct ht hx
     obtain ⟨es,h1,h2⟩:=qV (cs:=cs) (fun t l m cs' x h1 h2 h3=>oL how h1 h2 h3) hl' fun f hf'=>by
      obtain ⟨i,hi⟩:=List.mem_iff_getElem?.1 hf'
      have hi':fs[i]?=some f:=by simpa using hi
      have:=hf i f hi'
      have hlt:i<xs.length:=by
       rw[hxl];exact(Array.getElem?_eq_some_iff.1 hi').1
      refine⟨n',xs[i],by rw[this];simp[hlt],?_⟩
      unfold Fine at hfi
      simp only[DataW.weights,ht] at hfi
      exact BZ hfi i f.type xs[i].1 (by simp[hi']) (by simp[hlt])
     refine⟨es,h1,?_⟩
     rw[List.drop_zero,Nat.sub_zero,he,←hlen,List.take_length] at h2
     exact h2
    ·cases h
   ·cases h
  ·cases h
theorem F7 {n:Nat} {t:TypeId} {l:List Sh} {b0:Nat} {v:Value} {d:DataW H} {p:List MemPlace} (how:How ow enc P W base sp held) (hno:ow t=none) (hs:fP P ow n t=some l) (hl:(bK P t||Nat.beq l.length 1)=true)
  (hv:Value.okWide P W .any b0 t v) (h:DataW.Trod enc P W base sp held t v d p) (hfi:Fine P t d):∃x:DV,Vu (bK P t) l x∧x.rel (allOf W) v:=by
 obtain ⟨m,hm⟩:=h
 obtain ⟨es,h1,h2⟩:=oL how hs hm hfi
 cases ha:bK P t with
 | true=>
  have:∃cs,v=.agg cs:=by
   unfold bK at ha
   unfold Value.okWide at hv
   split at ha
   ·rename_i fs hu;rw[hu] at hv;obtain ⟨cs,e,_⟩:=hv;exact⟨cs,e⟩
   ·rename_i k e hu;rw[hu] at hv;obtain ⟨cs,e,_⟩:=hv;exact⟨cs,e⟩
   ·cases ha
  obtain ⟨cs,rfl⟩:=this
  exact⟨.agg es,⟨es,rfl,h1⟩,⟨cs.toList,by simp,by simpa [Value.cells] using h2⟩⟩
 | false=>
  rw[ha] at hl
  simp only[Bool.false_or,Nat.beq_eq] at hl
  match l,hl,h1 with
  | [s],_,h1=>
   obtain ⟨x,es',e1,k1,e2⟩:=h1
   simp only[iU.dv] at e2;subst e2;subst e1
   obtain ⟨u,vs',e3,h3,e4⟩:=h2
   simp only[DV.aF] at e4;subst e4
   have hu:u=v:=by
    have hcell:=Sh.cells k1 h3
    have:v.cells=#[u]:=by rw[←Array.toArray_toList (xs:=v.cells),e3]
    unfold Value.okWide at hv
    cases n with
    | zero=>simp[fP] at hs
    | succ n=>
     have hna:∀cs,v≠.agg cs:=by
      rintro cs rfl
      unfold bK at ha
      simp only[fP,hno] at hs
      split at hv
      ·rename_i hu2;rw[hu2] at ha;simp at ha
      ·rename_i hu2;rw[hu2] at ha;simp at ha
      ·unfold Cell.okWide Cell.ok at hv
       split at hs<;>rename_i ht<;>simp_all
     cases v<;>first|(simp[Value.cells] at this;exact this.symm)|exact absurd rfl (hna _)
   subst hu
   exact⟨x,⟨x,[],rfl,k1,rfl⟩,h3⟩
def jf (P:Program) (ow:TypeId→Option (DV→Prop)):List TypeId→Option (List (Bool×List Sh))
 | []=>some []
 | t :: ts=>match fP P ow 8 t,jf P ow ts with
  | some l,some r=>match (bK P t||Nat.beq l.length 1)&&(P.readableRec t&&Nat.blt t P.types.size)&&(ow t).isNone with
   | true=>some ((bK P t,l) :: r)
   | false=>none
  | _,_=>none
def F5:List (Bool×List Sh)→List DV→Prop
 | [],xs=>xs=[]
 | s :: l,xs=>∃x xs',xs=x :: xs'∧Vu s.1 s.2 x∧F5 l xs'
theorem xR (how:How ow enc P W 0 sp held):∀{ts:List TypeId} {pI:List (Bool×List Sh)} {us:List Value} {es:List (DataW H)} {ps:List MemPlace},jf P ow ts=some pI→(∀(j:Nat) t v,ts[j]?=some t→us[j]?=some v→Value.okWide P W .any base t v)→
  DataW.TrodAll enc P W 0 sp held ts us es ps→(∀w∈DataW.weightsEach P ts es,w≤reachBytes)→∃xs:List DV,F5 pI xs∧DV.aF (allOf W) xs us
 | [],pI,us,es,ps,h,_,ht,_=>by
  simp only[jf,aH] at h;subst h
  obtain ⟨rfl,_,_⟩:=trodAll_nil ht
  exact⟨[],rfl,rfl⟩
 | t :: ts,pI,us,es,ps,h,hv,ht,hwt=>by
  match us,es,ht,hwt with
  | v :: us,e :: es,⟨p,q,h1,h2,_⟩,hwt=>
   simp only[jf] at h
   split at h
   ·rename_i l r hl hr
    split at h
    ·rename_i hc
     simp only[aT,Option.isNone_iff_eq_none] at hc
     simp only[aH] at h;subst h
     simp only[DataW.weightsEach,List.mem_append] at hwt
     obtain ⟨x,a1,a2⟩:=F7 how hc.2 hl hc.1.1 (hv 0 t v rfl rfl) h1 (fun w hw=>hwt w (.inl hw))
     obtain ⟨xs,b1,b2⟩:=xR how hr (fun j t' v' h3 h4=>hv (j+1) t' v' (by simpa using h3) (by simpa using h4)) h2 (fun w hw=>hwt w (.inr hw))
     exact⟨x :: xs,⟨_,_,rfl,a1,b1⟩,⟨_,_,rfl,a2,b2⟩⟩
    ·cases h
   ·cases h
theorem uY (hl:laidOutB P=true) {W':World} (hb:Below W.heap.size W W'):∀{ts:List TypeId} {pI:List (Bool×List Sh)} {us:List Value} {es:List (DataW H)} {ps:List MemPlace},jf P ow ts=some pI→
  (∀x∈ps,x.block<W.heap.size)→DataW.TrodAll enc P W 0 (fun _=>true) true ts us es ps→DataW.TrodAll enc P W' 0 (fun b=>decide (b<W.heap.size)) true ts us es ps
 | [],pI,us,es,ps,_,_,ht=>by obtain ⟨rfl,rfl,rfl⟩:=trodAll_nil ht;exact trodAll_mk0
 | t :: ts,pI,us,es,ps,h,hlt,ht=>by
  match us,es,ht with
  | v :: us,e :: es,⟨p,q,h1,h2,hp⟩=>
   simp only[jf] at h
   split at h
   ·rename_i l r hl' hr
    split at h
    ·rename_i hc
     simp only[aT,Nat.blt_eq] at hc
     subst hp
     exact⟨p,q,Below.trod hl hc.1.2.1 hc.1.2.2 h1 hb (fun x hx=>hlt x (List.mem_append_left _ hx)),uY hl hb hr (fun x hx=>hlt x (List.mem_append_right _ hx)) h2,rfl⟩
    ·cases h
   ·cases h
theorem trodAll_length:∀{ts:List TypeId} {us:List Value} {es:List (DataW H)} {ps:List MemPlace},DataW.TrodAll enc P W base sp held ts us es ps→es.length=ts.length
 | [],us,es,ps,ht=>by obtain ⟨_,rfl,_⟩:=trodAll_nil ht;rfl
 | t :: ts,us,es,ps,ht=>by
  match us,es,ht with
  | v :: us,e :: es,⟨p,q,h1,h2,hp⟩=>simp[trodAll_length h2]
theorem Qo {f:FuncId} {fn:Func} {spec:ChangeSpec} {laid:List (String×DataW Unit)} {tb:TypeId} {pI:List (Bool×List Sh)} (hlo:laidOutB P=true) (hr:fn.resultTypes=#[tb]) (htb:P.underlying tb=some .bool) (hvars:spec.vars=[])
  (hfn:∀es:List (DataW H),es.length=fn.params.toList.length→spec.fn H es={ results:=[.lit (.bool true)],args:=es }) (hsh:jf P ow fn.params.toList=some pI)
  (how:∀(W:World) (sp:Nat→Bool) (held:Bool),How ow enc P W 0 sp held)
  (WB:∀(W:World),laidMetH P laid W→∀xs,F5 pI xs→aj P (allOf W) f xs (.con (.bool true))) :
  ∀(W:World) (base:Nat) (args:Array Value) (es gs:List (DataW H)) (before:List MemPlace),
   (∀(j:Nat) t v,fn.params[j]?=some t→args[j]?=some v→Value.okWide P W .any base t v)→
   DataW.Whole enc P fn.params.toList spec.vars false W args.toList es gs before→(DataW.weightsEach P (fn.params.toList++spec.plain.varTypes P) (es++gs)).all (·≤reachBytes)=true→laidMetH P laid W→
   Calls P f args W fun e W'=>∃v,e=.returned v∧spec.post enc P fn false true false false W args v W':=by
 intro W base args es gs before hval hW hwt hL
 have hW':=hW
 obtain ⟨p,q,hA,hV,rfl,hfz,hnd⟩:=hW
 rw[hvars] at hV
 obtain ⟨rfl,rfl⟩:=trodVars_none hV
 have hwe:∀w∈DataW.weightsEach P fn.params.toList es,w≤reachBytes:=fun w hw=>by
  have hl:=trodAll_length hA
  have key:∀{ts:List TypeId} {l:List (DataW H)} (us:List TypeId),l.length=ts.length→∀w∈DataW.weightsEach P ts l,w∈DataW.weightsEach P (ts++us) (l++[]):=by
   intro ts
   induction ts with
   | nil=>intro l us hl w hw;simp[DataW.weightsEach] at hw
   | cons t ts ih=>
    intro l us hl w hw
    match l,hl with
    | d :: l,hl=>
     simp only[DataW.weightsEach,List.mem_append,List.cons_append] at hw⊢
     rcases hw with hw|hw
     ·exact .inl hw
     ·exact .inr (ih us (by simpa using hl) w hw)
  have:=List.all_eq_true.1 hwt w (key _ hl w hw)
  simpa using this
 obtain ⟨xs,hx,hrel⟩:=xR (how W _ _) hsh (fun j t v h1 h2=>hval j t v (by simpa using h1) (by simpa using h2)) hA hwe
 have hlt:∀x∈p,x.block<W.heap.size:=fun x hx=>by simpa using hW'.lt x (by simpa using hx)
 have hc:=(WB W hL xs hx).2 W (allOf W) args.toList (IH.le.refl _) (Fq W) hrel
 simp only[Array.toArray_toList] at hc
 refine Calls.mono hc ?_
 rintro e W' ⟨v,h',he,hv,-,-,hk,-⟩
 simp only[DV.rel] at hv
 subst hv;subst he
 have hbelow:Below W.heap.size W W':=⟨hk.os,hk.tape,hk.output,hk.size,fun k hk'=>hk.block k hk' (fun h=>h)⟩
 have hlen:=trodAll_length hA
 refine⟨_,rfl,es,[],p++[],[],p,[],by rw[hvars];simpa [hvars] using hW',?_,?_,?_,hbelow.frame _,fun h=>by cases h⟩
 ·rw[List.append_nil,hfn es hlen,hr];exact trodAll_mk1 (shut_bool htb true)
 ·rw[List.append_nil,hfn es hlen];exact uY hlo hbelow hsh hlt hA
 ·rw[List.append_nil,hfn es hlen,hvars];rfl
end
end Go.xH
/- Expressions that are read from memory. -/
namespace Go.Proofs
open Go Go.Ab Go.RowKit Go.ChangeShapes
set_option maxRecDepth 100000
theorem VZ:∀(m m':Nat) (x:Ex),ht x≤m→ht x≤m'→∀(k:IH) (v:Value),DV.rel k (bG m x) v→DV.rel k (bG m' x) v:=by
 intro m
 induction m with
 | zero=>
  intro m' x h1 h2 k v h
  have hk:x.kids=[]:=by
   refine Classical.byContradiction fun hh=>?_
   have:0<x.kids.length:=List.length_pos_iff.2 hh
   have:=iC this
   omega
  unfold bG exV at h⊢
  rw[hk] at h⊢
  obtain ⟨us,rfl,x1,u1,rfl,h1,x2,u2,rfl,h2,x3,u3,rfl,h3,x4,u4,rfl,h4,x5,u5,rfl,h5,x6,u6,rfl,h6,h0⟩:=h
  exact⟨_,rfl,x1,_,rfl,h1,x2,_,rfl,h2,x3,_,rfl,h3,x4,_,rfl,h4,x5,_,rfl,h5,x6,_,rfl,DV.dJ (fun i hi=>absurd hi (by simp)) h6,h0⟩
 | succ m ih=>
  intro m' x h1 h2 k v h
  obtain ⟨us,rfl,x1,u1,rfl,g1,x2,u2,rfl,g2,x3,u3,rfl,g3,x4,u4,rfl,g4,x5,u5,rfl,g5,x6,u6,rfl,g6,h0⟩:=h
  refine⟨_,rfl,x1,_,rfl,g1,x2,_,rfl,g2,x3,_,rfl,g3,x4,_,rfl,g4,x5,_,rfl,g5,x6,_,rfl,?_,h0⟩
  obtain ⟨p,cap,e,hc,r⟩:=g6
  refine⟨p,cap,e,hc,r.imp id fun ⟨b,off,hp,r⟩=>⟨b,off,hp,fun i hi=>?_⟩⟩
  obtain ⟨v,hv,hs,hj⟩:=r i hi
  have hki:=iC (x:=x) hi
  obtain ⟨m2,rfl⟩:∃m2,m'=m2+1:=⟨m' - 1,by omega⟩
  exact⟨v,ih m2 (x.kids.getD i ak) (by omega) (by omega) k v hv,hs,hj⟩
theorem aaq {l:List Ex} {n:Nat} (h:∀i,i<l.length→ht (l.getD i ak)+1≤n):iI l≤n:=by
 induction l with
 | nil=>simp[iI]
 | cons x l ih=>
  simp only[iI]
  have h0:=h 0 (by simp)
  have:=ih fun i hi=>by simpa using h (i+1) (by simpa using hi)
  have h0:ht x+1≤n:=h0
  omega
theorem aaj {l:List Ex} (h:∀i,i<l.length→rP (l.getD i ak)):JM l:=by
 induction l with
 | nil=>trivial
 | cons x l ih=>exact⟨h 0 (by simp),ih fun i hi=>by simpa using h (i+1) (by simpa using hi)⟩
theorem Vt (f:Nat→Nat):∀n:Nat,∃M,∀i,i<n→f i≤M
 | 0=>⟨0,fun i hi=>by omega⟩
 | n+1=>by
  obtain ⟨M,h⟩:=Vt f n
  refine⟨max M (f n),fun i hi=>?_⟩
  rcases Nat.lt_or_ge i n with h1|h1
  ·have:=h i h1;omega
  ·obtain rfl:i=n:=by omega
   omega
theorem cells26:Tryz.prog.cellsOf 26=6:=by kernel_rfl
theorem bytes26:Tryz.prog.bytesOf 26=72:=by kernel_rfl
theorem cells23:Tryz.prog.cellsOf 23=2:=by kernel_rfl
theorem cells3:Tryz.prog.cellsOf 3=1:=by kernel_rfl
theorem cells9:Tryz.prog.cellsOf 9=1:=by kernel_rfl
theorem cells24:Tryz.prog.cellsOf 24=1:=by kernel_rfl
def QT (d:DV):Prop:=∃(l:List Ex) (k:Nat),iI l≤k∧JM l∧l.length≤8796093022208∧d=.slc 6 l.length (lay (bJ k) l)
section
variable {H:Type} {enc:TypeId×Value→H} {W:World} {base:Nat} {sp:Nat→Bool} {held:Bool}
theorem open_node {n:Nat} {cs:List Value} {x:DataW H×List MemPlace} (h:DataW.trod enc Tryz.prog W base sp held n 26 cs=some x) (hf:xH.Fine Tryz.prog 26 x.1) :
  ∃(k n d a:Int) (s:ByteArray) (v:Value) (n':Nat) (y:DataW H×List MemPlace),s.size≤maxLen∧cs=[.int .i64 k,.string s,.int .i64 n,.int .i64 d,.int .i64 a,v]∧
   DataW.trod enc Tryz.prog W base sp held n' 24 [v]=some y∧xH.Fine Tryz.prog 24 y.1∧SizeOf.sizeOf y.1<SizeOf.sizeOf x.1:=by
 obtain ⟨xs,n',rfl,rfl,hl,hxl,hfl⟩:=DataW.trod_struct Tryz.underlying26 h
 have hxl:xs.length=5:=hxl
 match xs,hxl with
 | [y0,y1,y2,y3,y4],_=>
  have e0:=hfl 0 _ rfl
  have e1:=hfl 1 _ rfl
  have e2:=hfl 2 _ rfl
  have e3:=hfl 3 _ rfl
  have e4:=hfl 4 _ rfl
  simp only[List.getElem?_cons_zero,List.getElem?_cons_succ] at e0 e1 e2 e3 e4
  rw[cells26] at hl
  erw [cells3] at e0 e3
  erw [cells9] at e1
  erw [cells23] at e2
  erw [cells24] at e4
  match cs,hl with
  | [c0,c1,c2,c3,c4,c5],_=>
   have e0:DataW.trod enc Tryz.prog W base sp held n' 3 [c0]=some y0:=e0
   have e1:DataW.trod enc Tryz.prog W base sp held n' 9 [c1]=some y1:=e1
   have e2:DataW.trod enc Tryz.prog W base sp held n' 23 [c2,c3]=some y2:=e2
   have e3:DataW.trod enc Tryz.prog W base sp held n' 3 [c4]=some y3:=e3
   have e4:DataW.trod enc Tryz.prog W base sp held n' 24 [c5]=some y4:=e4
   obtain ⟨k,h0,_,_⟩:=DataW.trod_int Tryz.underlying3 e0
   obtain ⟨s,h1,_,hs⟩:=DataW.trod_string Tryz.underlying9 e1
   obtain ⟨z0,z1,m2,_,_,f0,f1⟩:=trod_struct2 Tryz.underlying23 e2
   erw [cells3] at f0 f1
   have f0:DataW.trod enc Tryz.prog W base sp held m2 3 [c2]=some z0:=f0
   have f1:DataW.trod enc Tryz.prog W base sp held m2 3 [c3]=some z1:=f1
   obtain ⟨a,g0,_,_⟩:=DataW.trod_int Tryz.underlying3 f0
   obtain ⟨b,g1,_,_⟩:=DataW.trod_int Tryz.underlying3 f1
   obtain ⟨c,h3,_,_⟩:=DataW.trod_int Tryz.underlying3 e3
   simp only[List.cons.injEq,and_true] at h0 h1 g0 g1 h3
   subst h0;subst h1;subst g0;subst g1;subst h3
   refine⟨k,a,b,c,s,c5,n',y4,hs,rfl,e4,?_,?_⟩
   ·have hf':∀w∈DataW.weights Tryz.prog 26 (.agg ([y0,y1,y2,y3,y4].map (·.1))),w≤reachBytes:=hf
    simp only[DataW.weights,Tryz.underlying26] at hf'
    exact xH.BZ hf' 4 24 y4.1 rfl rfl
   ·have:y4.1∈[y0,y1,y2,y3,y4].map (·.1):=by simp
    have h2:=List.sizeOf_lt_of_mem this
    show SizeOf.sizeOf y4.1<SizeOf.sizeOf (DataW.agg ([y0,y1,y2,y3,y4].map (·.1)))
    simp only[DataW.agg.sizeOf_spec]
    omega
theorem open_kids (N:Nat):∀(m:Nat) (cs:List Value) (x:DataW H×List MemPlace),SizeOf.sizeOf x.1≤N→DataW.trod enc Tryz.prog W base sp held m 24 cs=some x→xH.Fine Tryz.prog 24 x.1→∃d,QT d∧DV.aF (allOf W) [d] cs:=by
 induction N using Nat.strongRecOn with
 | _ N ih=>
 intro m cs x hN hx hfi
 rcases Go.Deep.open_slice Tryz.underlying24 hx with ⟨rfl,rfl⟩|⟨a,len,cap,mm,n',D,Pl,rfl,hb,hlc,hcap,hmm,rfl,hel⟩
 ·exact⟨_,⟨[],0,by simp[iI],trivial,by simp,rfl⟩,⟨_,_,rfl,⟨none,0,rfl,Nat.le_refl _,.inl rfl⟩,rfl⟩⟩
 have hlm:len≤mm:=by rw[hmm];split<;>omega
 have VU:∀w∈DataW.weights Tryz.prog 24 (.slice ((List.range len).map D) ((List.range (mm-len)).map fun j=>D (len+j))),w≤reachBytes:=hfi
 simp only[DataW.weights,Tryz.underlying24,List.mem_cons,List.mem_append] at VU
 have Wq:∀i,i<len→xH.Fine Tryz.prog 26 (D i):=fun i hi=>
  xH.Gs (fun w hw=>VU w (.inr (.inl hw))) _ (List.mem_map.2 ⟨i,List.mem_range.2 hi,rfl⟩)
 have hlen:len≤8796093022208:=by
  have:=VU _ (.inl rfl)
  rw[bytes26] at this
  simp only[List.length_map,List.length_range,reachBytes] at this
  omega
 have hspot:0<len→a.spot=none:=by
  intro hpos
  obtain ⟨cs',h1,_⟩:=hel 0 (by omega)
  obtain ⟨_,h5,h6⟩:=World.cells?_some h1
  have c26:=cells26
  have:=h6 0 (by show 0<Tryz.prog.cellsOf 26;omega)
  rw[Nat.zero_mul,bQ (by rw[h5,cells26];omega)] at this
  simp only[World.cell?,Addr.add,if_true] at this
  split at this
  ·split at this
   ·cases this
   ·rename_i hsp;simpa using hsp
  ·cases this
 have hadd:0<len→∀k,a.add k=⟨a.block,a.off+k,none⟩:=by
  intro hpos k
  have:=hspot hpos
  unfold Addr.add
  split
  ·rename_i hk;subst hk;cases a;simp_all
  ·rfl
 have each:∀i,i<len→∃(x:Ex) (k:Nat),ht x≤k∧rP x∧∃v,DV.rel (allOf W) (bG k x) v∧v.cells.size=6∧∀j,j<6→W.cell? ⟨a.block,a.off+i*6+j,none⟩=v.cells[j]?:=by
  intro i hi
  obtain ⟨cs',h1,h2⟩:=hel i (by omega)
  obtain ⟨k,n,d,at',s,v,n2,y,hs,rfl,h3,h4,h5⟩:=open_node h2 (Wq i hi)
  have hsz:SizeOf.sizeOf y.1<N:=by
   have hm:D i∈(List.range len).map D:=List.mem_map.2 ⟨i,List.mem_range.2 hi,rfl⟩
   have h6:=List.sizeOf_lt_of_mem hm
   have h7:SizeOf.sizeOf (DataW.slice ((List.range len).map D) ((List.range (mm-len)).map fun j=>D (len+j)))≤N:=hN
   simp only[DataW.slice.sizeOf_spec] at h7
   have h5:SizeOf.sizeOf y.1<SizeOf.sizeOf (D i):=h5
   omega
  obtain ⟨dk,⟨l,kk,hh,hw,hll,rfl⟩,hr⟩:=ih _ hsz n2 [v] y (Nat.le_refl _) h3 h4
  obtain ⟨u,us,e1,r1,r2⟩:=hr
  simp only[List.cons.injEq] at e1
  obtain ⟨rfl,rfl⟩:=e1
  obtain ⟨_,h8,h9⟩:=World.cells?_some h1
  rw[cells26] at h9 h1
  refine⟨.mk k s n d at' l,kk,by rw[Ho];exact hh,⟨hs,hll,hw⟩,.agg #[.int .i64 k,.string s,.int .i64 n,.int .i64 d,.int .i64 at',v],?_,rfl,fun j hj=>?_⟩
  ·exact⟨_,rfl,_,_,rfl,rfl,_,_,rfl,rfl,_,_,rfl,rfl,_,_,rfl,rfl,_,_,rfl,rfl,v,_,rfl,r1,rfl⟩
  ·have:=h9 j (by simpa using hj)
   rw[hadd (by omega)] at this
   have e:(⟨a.block,a.off+i*6,none⟩:Addr).add j=⟨a.block,a.off+i*6+j,none⟩:=by
    unfold Addr.add
    split
    ·rename_i hk;subst hk;rfl
    ·rfl
   rw[e] at this
   rw[this]
   simp[Value.cells]
 classical
 let X:Nat→Ex:=fun i=>if h:i<len then Classical.choose (each i h) else ak
 let K:Nat→Nat:=fun i=>if h:i<len then Classical.choose (Classical.choose_spec (each i h)) else 0
 have hX:∀i,i<len→ht (X i)≤K i∧rP (X i)∧∃v,DV.rel (allOf W) (bG (K i) (X i)) v∧v.cells.size=6∧∀j,j<6→W.cell? ⟨a.block,a.off+i*6+j,none⟩=v.cells[j]?:=fun i hi=>by
  simp only[X,K,dif_pos hi]
  exact Classical.choose_spec (Classical.choose_spec (each i hi))
 obtain ⟨M,hM⟩:=Vt K len
 have Eh:((List.range len).map X).length=len:=by simp
 have hget:∀i,i<len→((List.range len).map X).getD i ak=X i:=fun i hi=>by
  simp[List.getD,List.getElem?_map,List.getElem?_range hi]
 refine⟨.slc 6 ((List.range len).map X).length (lay (bJ (M+1)) ((List.range len).map X)),⟨_,M+1,aaq fun i hi=>?_,aaj fun i hi=>?_,by rw[Eh];exact hlen,rfl⟩,⟨_,_,rfl,⟨some a,cap,by rw[Eh],by rw[Eh];exact hlc,?_⟩,rfl⟩⟩
 ·rw[Eh] at hi
  rw[hget i hi]
  have:=(hX i hi).1
  have:=hM i hi
  omega
 ·rw[Eh] at hi
  rw[hget i hi]
  exact(hX i hi).2.1
 ·rw[Eh]
  by_cases hz:len=0
  ·exact .inl hz
  right
  refine⟨a.block,a.off,by have:=hspot (by omega);cases a;simp_all,fun i hi=>?_⟩
  obtain ⟨h1,_,v,hv,hs,hc⟩:=hX i hi
  refine⟨v,?_,hs,fun j hj=>hc j hj⟩
  show DV.rel (allOf W) (bG M (((List.range len).map X).getD i ak)) v
  rw[hget i hi]
  exact VZ _ _ _ h1 (Nat.le_trans h1 (hM i hi)) _ _ hv
def WO (t:TypeId):Option (DV→Prop):=match Nat.beq t 24 with|true=>some QT|false=>none
theorem ab9:xH.How WO enc Tryz.prog W base sp held:=by
 intro t p m cs x hp hx hf
 unfold WO at hp
 split at hp
 ·rename_i h
  obtain rfl:=Nat.eq_of_beq_eq_true h
  obtain rfl:=Option.some.inj hp
  obtain ⟨d,h1,h2⟩:=open_kids _ m cs x (Nat.le_refl _) hx hf
  obtain ⟨l,k,a,b,c,rfl⟩:=h1
  exact⟨_,⟨⟨l,k,a,b,c,rfl⟩,_,_,_,rfl⟩,h2⟩
 ·cases hp
end
open Go Go.Ab Go.RowKit
abbrev Xy:List xH.Sh:=[.str,.int .i64,.int .i64,.int .i64,.int .i64,.int .i64,.slc false [.str]]
abbrev Xe:List xH.Sh:=[.int .i64,.str,.int .i64,.int .i64,.int .i64,.own QT]
theorem Uh {n:Nat} {f:Nat→DV} (hf:∀i,i<n→∃es,f i=.agg es∧xH.iU.dv Xy es) :
  ∃L:List Fc,L.length=n∧(∀k v,DV.rel k (.slc 7 n f) v→DV.rel k (fC L) v)∧∀i,i<L.length→PX (L.getD i aG):=by
 obtain ⟨l,hl,hL⟩:=GH (p:=fun i (x:{x:Fc // PX x})=>∀k v,DV.rel k (f i) v→DV.rel k (qU x.1) v) ⟨aG,⟨by decide,by decide,fun i hi=>absurd hi (by simp[aG])⟩⟩ (fun i hi=>by
  obtain ⟨es,h1,_,_,rfl,⟨a,ha,rfl⟩,_,_,rfl,⟨b,_,rfl⟩,_,_,rfl,⟨c,_,rfl⟩,_,_,rfl,⟨d,_,rfl⟩,_,_,rfl,⟨e,_,rfl⟩,_,_,rfl,⟨g,_,rfl⟩,_,_,rfl,⟨n,f',hn,rfl,hw⟩,rfl⟩:=hf i hi
  obtain ⟨l,hl,hs,hr⟩:=VN hn hw
  subst hl
  refine⟨⟨⟨a,b,c,d,e,g,l⟩,⟨ha,hn,hs⟩⟩,fun k v h=>?_⟩
  rw[h1] at h
  exact UN (fun v=>hr k v) h)
 subst hl
 refine⟨l.map (·.1),List.length_map ..,fun k v h=>?_,fun i hi=>?_⟩
 ·unfold fC
  rw[List.length_map]
  refine jI (fun i hi v hv=>?_) h
  have:=hL i hi k v hv
  unfold gV
  rw[show (l.map (·.1)).getD i aG=(l.getD i ⟨aG,⟨by decide,by decide,fun i hi=>absurd hi (by simp[aG])⟩⟩).1 from by rw[List.getD,List.getD,List.getElem?_map,bQ hi];rfl]
  exact this
 ·rw[List.length_map] at hi
  rw[show (l.map (·.1)).getD i aG=(l.getD i ⟨aG,⟨by decide,by decide,fun i hi=>absurd hi (by simp[aG])⟩⟩).1 from by rw[List.getD,List.getD,List.getElem?_map,bQ hi];rfl]
  exact(l.getD i _).2
theorem ZO {es:List DV} (h:xH.iU.dv Xe es):∃(x:Ex) (m:Nat),ht x≤m∧rP x∧DV.agg es=bG m x:=by
 obtain ⟨_,_,rfl,⟨k,_,rfl⟩,_,_,rfl,⟨s,hs,rfl⟩,_,_,rfl,⟨n,_,rfl⟩,_,_,rfl,⟨d,_,rfl⟩,_,_,rfl,⟨a,_,rfl⟩,_,_,rfl,⟨⟨l,m,hm,hw,hl,rfl⟩,_⟩,rfl⟩:=h
 exact⟨.mk k s n d a l,m,by rw[Ho];exact hm,⟨hs,hl,hw⟩,rfl⟩
/-! Facts that are read. -/
abbrev Xj:List xH.Sh:=[.str,.int .i64,.int .i64,.int .i64,.bool,.str]
theorem YL {n:Nat} {f:Nat→DV} (hf:∀i,i<n→∃es,f i=.agg es∧xH.iU.dv Xj es) :
  ∃F:List Ft,F.length=n∧∀k v,DV.rel k (.slc 6 n f) v→DV.rel k (iJ F) v:=by
 obtain ⟨l,hl,hL⟩:=GH (p:=fun i (x:Ft)=>f i=eX x) aJ (fun i hi=>by
  obtain ⟨es,h1,_,_,rfl,⟨a,_,rfl⟩,_,_,rfl,⟨b,_,rfl⟩,_,_,rfl,⟨c,_,rfl⟩,_,_,rfl,⟨d,_,rfl⟩,_,_,rfl,⟨e,rfl⟩,_,_,rfl,⟨g,_,rfl⟩,rfl⟩:=hf i hi
  exact⟨⟨a,b,c,d,e,g⟩,h1⟩)
 subst hl
 refine⟨l,rfl,fun k v h=>?_⟩
 refine DV.dJ (fun i hi=>?_) h
 rw[hL i hi];rfl
set_option maxHeartbeats 4000000
variable {G:IH}
/-! The deciding atoms,by the reference. -/
section
variable (Fl F:List Ft) (l:List Fc) (ws:List ByteArray) (m:Nat) (x:Ex) (first:Int) (hx:ht x≤m)
include hx
variable (hs:Sm x) (hl:x.kids.length=2) (hk:x.k=19∨x.k=20) (hf:0≤first∧first+jV x≤100000) {v b:Bool} (hv:gu F l ws x=({ eY 1 with tr:=v },0)) (hb:gu F l ws (x.kids.getD 0 ak)=({ eY 1 with tr:=b },0))
 (hV:aj Tryz.prog G 50 [bG m x,iJ Fl] (.au [eX { eY 1 with tr:=v },di 0])) (hB:aj Tryz.prog G 50 [aS m x 0,iJ Fl] (.au [eX { eY 1 with tr:=b },di 0]))
 (h57:aj Tryz.prog G 57 [aS m x 0] (qG m (bM (x.kids.getD 0 ak))))
include hs hl hk hf hv hb hV hB h57
end
/-! Reasons,by the reference. -/
section
variable (hT:Tab G) (F:List Ft) (L:List Fc) (h:∀i,i<L.length→sS (L.getD i aG)) (hl:L.length≤1000) (hF:F.length≤100000) (m:Nat) (x:Ex) (hx:ht x≤m) (hs:Sm x)
include hT h hl hF hx hs
end
/-! Atoms. -/
def atR (L:List Fc) (x:Ex):List Ex:=if (aP L x).2.2=0∧(aP L x).1=1 then bM x else []
noncomputable def d16 (L:List Fc) (M:Nat):aZ:=fun f a=>match f,a with
 | 42,[x,_]=>some (.au [di (aP L (ah x)).1,di (aP L (ah x)).2.1,di (aP L (ah x)).2.2])
 | 49,[x,_]=>some (.au [di (aP L (ah x)).1,di (aP L (ah x)).2.1,di (aP L (ah x)).2.2])
 | 56,[x]=>some (qG M (bM (ah x)))
 | 57,[x]=>some (qG M (bM (ah x)))
 | _,_=>none
theorem f16 (hT:Tab G) (L:List Fc) (h:∀i,i<L.length→sS (L.getD i aG)) (hl:L.length≤1000) (m:Nat) (x:Ex) (hx:ht x≤m) (hs:Sm x):aj Tryz.prog G 16 [bG m x,fC L] (qG m (atR L x)):=by
 have er:ah (aB m x)=x:=fU hx
 unfold atR
 by_cases hc:(aP L x).2.2=0∧(aP L x).1=1
 ·rw[if_pos hc]
  refine aj.aK (ay:=d16 L m) (keep:=[]) follows Tryz.func16 rfl Tryz.call16 ?_
  refine aA (fun _ _ _ ZK=>(fun Za=>(ZK 42 [(aB m x),(.slc 7 L.length (gV L))] (.au [(di (aP L (ah (aB m x))).fst),(di (aP L (ah (aB m x))).snd.fst),(di (aP L (ah (aB m x))).snd.snd)])∧((Za=true)→(((.con (.slice none 0 0)):DV)=(qG m (bM x))))∧((Za=false)→(ZK 56 [(aB m x)] (.slc 6 (bM (ah (aB m x))).length (nG m (bM (ah (aB m x)))))∧((.slc 6 (bM (ah (aB m x))).length (nG m (bM (ah (aB m x))))):DV)=(qG m (bM x)))))) ((aP L (ah (aB m x))).snd.snd != 0||(aP L (ah (aB m x))).fst != 1)) (by kernel_rfl) ?_
  simp only[er]
  refine⟨f42 hT m x L hx hs h hl,fun c=>?_,fun _=>⟨f56 m m x hx hx hs,trivial⟩⟩
  rw[hc.1,hc.2] at c;cases c
 ·rw[if_neg hc]
  refine aj.res (r:=.con (.slice none 0 0)) ?_ fun k v hv=>su hv
  refine aj.aK (ay:=d16 L m) (keep:=[]) follows Tryz.func16 rfl Tryz.call16 ?_
  refine aA (fun _ _ _ ZK=>(fun Za=>(ZK 42 [(aB m x),(.slc 7 L.length (gV L))] (.au [(di (aP L (ah (aB m x))).fst),(di (aP L (ah (aB m x))).snd.fst),(di (aP L (ah (aB m x))).snd.snd)])∧((Za=true)→(ZS ((.con (.slice none 0 0)):DV)))∧((Za=false)→(ZK 56 [(aB m x)] (.slc 6 (bM (ah (aB m x))).length (nG m (bM (ah (aB m x)))))∧((.slc 6 (bM (ah (aB m x))).length (nG m (bM (ah (aB m x))))):DV)=(.con (.slice none 0 0)))))) ((aP L (ah (aB m x))).snd.snd != 0||(aP L (ah (aB m x))).fst != 1)) (by kernel_rfl) ?_
  simp only[er]
  refine⟨f42 hT m x L hx hs h hl,fun _=>trivial,fun c=>?_⟩
  exact absurd (by simpa using c) hc
/-! An expression is itself;the law about atoms and reasons. -/
noncomputable def d4 (x:Ex) (F:List Ft) (L:List Fc) (m:Nat) (e:Bool):aZ:=fun f a=>match f,a with
 | 10,[]=>some (db true)
 | 11,[_,_,_]=>some (db (qE x F L))
 | 16,[_,_]=>some (qG m (atR L x))
 | 17,[_,_]=>some (qG m (atR L x))
 | 18,[_,_]=>some (db true)
 | 19,[_,_,_]=>match e with|true=>some (.au [.con (.slice none 0 0),di (Gz F L x).2])|false=>none
 | 20,[_,_,_]=>match e with|true=>some (.au [.con (.slice none 0 0),di (Gz F L x).2])|false=>none
 | 21,[_,_]=>some (db true)
 | _,_=>none
mutual
theorem ae4:∀(x a:Ex),xU x→a∈bM x→xU a
 | .mk k s n d p kids,a,h,ha=>by
  rw[bM] at ha
  split at ha
  ·simp only[xU] at h
   exact aeS kids a h.2 ha
  ·rw[List.mem_singleton.1 ha];exact h
theorem aeS:∀(l:List Ex) (a:Ex),zC l→a∈iP l→xU a
 | [],a,_,ha=>by cases ha
 | x :: l,a,h,ha=>by
  simp only[zC] at h
  rw[iP,List.mem_append] at ha
  rcases ha with ha|ha
  ·exact ae4 x a h.1 ha
  ·exact aeS l a h.2 ha
end
theorem agt {x a:Ex} (h:Sm x) (ha:a∈bM x):Sm a:=⟨by have:=(abY x a ha).2;have:=h.nd;omega,ae4 x a h.tx ha⟩
theorem agG {F:List Ft} {L:List Fc} {x:Ex} (h:jV x≤1000):(Gz F L x).1.length≤100000:=by
 unfold Gz
 split
 ·split
  ·rename_i h2
   split
   ·unfold rzE
    cases dI (bC F F.length) x with
    | none=>simp
    | some v=>
     cases hr:rsE (bC F F.length) x 0 with
     | none=>simp[hr]
     | some l=>
      have:=ada (ht x) x 0 l (Nat.le_refl _) (rO h2).2.1 hr
      simp only[hr];omega
   ·simp
  ·simp
 ·simp
end Go.Proofs
/- Replacing atoms by Rw,plain. -/
namespace Go.Proofs
open Go Go.Ab Go.RowKit
set_option maxHeartbeats 4000000
def tfE (b:Bool):Ex:=.mk (if b then 3 else 4) .empty 0 0 0 []
mutual
def yx (B:Nat→Bool):Ex→Nat→Ex
 | .mk k s n d p kids,a=>if k=18∨k=19∨k=20 then .mk k .empty 0 0 0 (DZ B kids a) else tfE (B a)
def DZ (B:Nat→Bool):List Ex→Nat→List Ex
 | [],_=>[]
 | x :: l,a=>yx B x a :: DZ B l (a+(bM x).length)
end
theorem abp (B:Nat→Bool) (x:Ex) (a:Nat):yx B x a=if x.k=18∨x.k=19∨x.k=20 then .mk x.k .empty 0 0 0 (DZ B x.kids a) else tfE (B a):=by cases x;rw[yx];rfl
theorem afe (B:Nat→Bool) {x:Ex} (h:jU x=true) (a:Nat):yx B x a=.mk x.k .empty 0 0 0 (DZ B x.kids a):=by rw[abp,if_pos ((ql x).1 h)]
theorem aaS (B:Nat→Bool) {x:Ex} (h:jU x=false) (a:Nat):yx B x a=tfE (B a):=by rw[abp,if_neg (fun hh=>by rw[(ql x).2 hh] at h;cases h)]
theorem TQ (B:Nat→Bool):∀(l:List Ex) (a:Nat),(DZ B l a).length=l.length
 | [],_=>rfl
 | x :: l,a=>by rw[DZ,List.length_cons,List.length_cons,TQ B l]
theorem TV (B:Nat→Bool):∀(l:List Ex) (a i:Nat),i<l.length→(DZ B l a).getD i ak=yx B (l.getD i ak) (a+(iP (l.take i)).length)
 | [],_,i,h=>absurd h (Nat.not_lt_zero i)
 | x :: l,a,0,_=>by rw[DZ];rfl
 | x :: l,a,i+1,h=>by
  have:=TV B l (a+(bM x).length) i (by simpa using h)
  rw[DZ,List.take_succ_cons,iP,List.length_append,←Nat.add_assoc]
  exact this
mutual
theorem abH (B:Nat→Bool):∀(x:Ex) (a:Nat),ht (yx B x a)≤ht x∧jV (yx B x a)≤jV x
 | .mk k s n d p kids,a=>by
  rw[yx]
  split
  ·have:=afG B kids a
   simp only[ht,jV];omega
  ·simp only[tfE,ht,jV,iI,iK];omega
theorem afG (B:Nat→Bool):∀(l:List Ex) (a:Nat),iI (DZ B l a)≤iI l∧iK (DZ B l a)≤iK l
 | [],a=>⟨Nat.le_refl _,Nat.le_refl _⟩
 | x :: l,a=>by
  have h1:=abH B x a
  have h2:=afG B l (a+(bM x).length)
  rw[DZ]
  simp only[iI,iK];omega
end
theorem aed:∀(l:List Ex) (k:Nat),k<l.length→iK (l.take k)+jV (l.getD k ak)≤iK l
 | [],k,h=>absurd h (Nat.not_lt_zero k)
 | x :: l,0,_=>by
  rw[List.take_zero]
  simp only[iK]
  show 0+jV x≤_
  omega
 | x :: l,k+1,h=>by
  have:=aed l k (by simpa using h)
  rw[List.take_succ_cons]
  simp only[iK]
  show jV x+iK (l.take k)+jV (l.getD k ak)≤_
  omega
set_option maxRecDepth 100000
variable {G:IH}
/-! Rules,and their lines. -/
structure Rl where
 kind:Int
 nm:ByteArray
 gr:ByteArray
 am:Ex
 wh:Ex
 pos:Int
 ma:Nat
 mw:Nat
def ahq (x:Ex):Bool:=x.k==0&&decide (x.s.size=0)&&(x.n==0&&x.d==0)&&decide (x.kids.length=0)
def kdL:List ByteArray:=[⟨#[112,111,105,110,116,115]⟩,⟨#[112,101,110,97,108,116,121]⟩,⟨#[99,97,112]⟩,⟨#[102,108,111,111,114]⟩]
def lnB (r:Rl):ByteArray:=kdL.getD r.kind.toNat .empty++⟨#[32]⟩++r.nm++(if r.gr.size=0 then .empty else ⟨#[32,105,110,32]⟩++r.gr)++(⟨#[58,32]⟩++aO r.am)++(if r.wh.k=0 then .empty else ⟨#[32,105,102,32]⟩++aO r.wh)++⟨#[59,10]⟩
theorem je.frozen {h:IH} {k:RK} {sz c m:Nat} {f:Nat→DV} {o o':Option Obj} (hR:je h k sz f c m o) (ho:∀(vs:Array Value) (fr:Nat×Nat),o=some (.cells vs k.ty fr)→∃fr',o'=some (.cells vs k.ty fr')):je h ⟨k.agg,k.ty,true,k.mn⟩ sz f c m o':=by
 obtain ⟨h1,h2⟩:=hR
 refine⟨h1,h2.imp id ?_⟩
 rintro ⟨fr,vs,e,hf,hl,hone,r⟩
 obtain ⟨fr',e'⟩:=ho _ _ e
 exact⟨fr',vs,e',fun hh=>Bool.noConfusion hh,hl,hone,r⟩
end Go.Proofs
