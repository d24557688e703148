import Derived.Test.YtellpkieoccljaaGreatDoorAcD
import GoSem.ClaimJoined
import Derived.Carry
import Derived.ChangeShapes
import Derived.ChangeArms
import Derived.Deep.Slices
import Derived.LaidMore
import Derived.Test.YtellpkieoccljaaGreatDoorG0
import Derived.Test.YtellpkieoccljaaGreatDoorG8
import Derived.Test.YtellpkieoccljaaGreatDoorG6
import Derived.Test.YtellpkieoccljaaGreatDoorG7
import Derived.Test.YtellpkieoccljaaGreatDoorAcC
import Derived.Shelf.Strings.BuilderX
import Derived.Shelf.RegionOpenPlain
import Derived.Lib.Strings
import Derived.Lib.Slices
import Derived.Lib.Walk
import Derived.Lib.Builder
import Derived.Lib.AppendStr
import Derived.Lib.UnsafeStr
import Derived.Lib.MakeNoZero
import Derived.WalkKit
import Derived.Laws.Externs
import Derived.Laws.IdiomCopy
import Derived.Laws.BitsLemmas
set_option autoImplicit false
namespace Go.AbW
open Go Go.Ab Go.RowKit Go.ChangeShapes
inductive Sh where
 | int (k:IntKind)
 | bool
 | str
 | slc (agg:Bool) (l:List Sh)
 | own (p:DV→Prop)
mutual
def Sh.dv:Sh→DV→Prop
 | .int k,d=>∃n,(Lit.int k n).wf=true∧d=.con (.int k n)
 | .bool,d=>∃b,d=.con (.bool b)
 | .str,d=>∃s:ByteArray,s.size≤maxLen∧d=.con (.string s)
 | .slc agg l,d=>∃n f,n≤maxLen∧d=.slc l.length n f∧∀i,i<n→(match agg with|true=>∃es,f i=.agg es∧Shs.dv l es|false=>Shs.dv l [f i])
 | .own p,d=>p d∧∃sz n f,d=.slc sz n f
def Shs.dv:List Sh→List DV→Prop
 | [],es=>es=[]
 | s :: l,es=>∃d es',es=d :: es'∧Sh.dv s d∧Shs.dv l es'
end
def vdv (agg:Bool) (l:List Sh) (d:DV):Prop:=match agg with|true=>∃es,d=.agg es∧Shs.dv l es|false=>Shs.dv l [d]
def fsShapes (P:Program) (r:TypeId→Option (List Sh)):List Field→Nat→Option (List Sh×Nat)
 | [],off=>some ([],off)
 | f :: fs,off=>match Nat.beq f.offset off,r f.type with
  | true,some l=>match Nat.beq l.length (P.cellsOf f.type),fsShapes P r fs (off+P.cellsOf f.type) with
   | true,some (m,e)=>some (l++m,e)
   | _,_=>none
  | _,_=>none
def cellShapes (P:Program) (ow:TypeId→Option (DV→Prop)):Nat→TypeId→Option (List Sh)
 | 0,_=>none
 | n+1,t=>match ow t with
  | some p=>some [.own p]
  | none=>match P.underlying t with
  | some .bool=>some [.bool]
  | some (.int k)=>some [.int k]
  | some .string=>some [.str]
  | some (.slice e)=>match cellShapes P ow n e with
   | some l=>match Nat.beq l.length (P.cellsOf e)&&(Nat.blt 0 l.length&&(aggT P e||Nat.beq l.length 1)) with
    | true=>some [.slc (aggT P e) l]
    | false=>none
   | none=>none
  | some (.struct fs)=>match fsShapes P (cellShapes P ow n) fs.toList 0 with
   | some (l,e)=>match Nat.beq e (P.cellsOf t) with|true=>some l|false=>none
   | none=>none
  | _=>none
theorem Shs.append:∀{a b:List Sh} {u v:List DV},Shs.dv a u→Shs.dv b v→Shs.dv (a++b) (u++v)
 | [],_,u,_,ha,hb=>by simp only[Shs.dv] at ha;subst ha;exact hb
 | _ :: a,_,_,_,⟨x,u',e,r,rs⟩,hb=>by subst e;exact⟨x,_,rfl,r,Shs.append rs hb⟩
theorem Shs.length:∀{a:List Sh} {u:List DV},Shs.dv a u→u.length=a.length
 | [],u,h=>by simp only[Shs.dv] at h;subst h;rfl
 | _ :: a,_,⟨x,u',e,r,rs⟩=>by subst e;simp[Shs.length rs]
theorem Sh.cells {s:Sh} {d:DV} {h:IH} {v:Value} (hs:s.dv d) (hv:d.rel h v):v.cells=#[v]:=by
 cases s with
 | int k=>obtain ⟨n,_,rfl⟩:=hs;simp only[DV.rel] at hv;subst hv;rfl
 | bool=>obtain ⟨n,rfl⟩:=hs;simp only[DV.rel] at hv;subst hv;rfl
 | str=>obtain ⟨n,_,rfl⟩:=hs;simp only[DV.rel] at hv;subst hv;rfl
 | slc agg l=>obtain ⟨n,f,_,rfl,_⟩:=hs;obtain ⟨p,cap,e,_⟩:=hv;subst e;rfl
 | own p=>obtain ⟨_,sz,n,f,rfl⟩:=hs;obtain ⟨p,cap,e,_⟩:=hv;subst e;rfl
section
variable {H:Type} {enc:TypeId×Value→H} {P:Program} {W:World} {base:Nat} {sp:Nat→Bool} {held:Bool}
variable {ow:TypeId→Option (DV→Prop)}
def Fine (P:Program) (t:TypeId) (d:DataW H):Prop:=∀w∈DataW.weights P t d,w≤reachBytes
theorem fine_all {e:TypeId}:∀{l:List (DataW H)},(∀w∈DataW.weightsAll P e l,w≤reachBytes)→∀d∈l,Fine P e d
 | x :: l,h,d,hd=>by
  simp only[DataW.weightsAll,List.mem_append] at h
  rcases List.mem_cons.1 hd with rfl|hd
  ·exact fun w hw=>h w (.inl hw)
  ·exact fine_all (fun w hw=>h w (.inr hw)) d hd
theorem fine_each:∀{ts:List TypeId} {l:List (DataW H)},(∀w∈DataW.weightsEach P ts l,w≤reachBytes)→∀(i:Nat) (t:TypeId) (d:DataW H),ts[i]?=some t→l[i]?=some d→Fine P t d
 | [],_,_,i,t,d,h1,_=>by simp at h1
 | _ :: _,[],_,i,t,d,_,h2=>by simp at h2
 | t0 :: ts,d0 :: l,h,i,t,d,h1,h2=>by
  simp only[DataW.weightsEach,List.mem_append] at h
  cases i with
  | zero=>
   simp only[List.getElem?_cons_zero,oSi] at h1 h2
   subst h1;subst h2
   exact fun w hw=>h w (.inl hw)
  | succ i=>exact fine_each (fun w hw=>h w (.inr hw)) i t d (by simpa using h1) (by simpa using h2)
def How (ow:TypeId→Option (DV→Prop)) (enc:TypeId×Value→H) (P:Program) (W:World) (base:Nat) (sp:Nat→Bool) (held:Bool):Prop:=
 ∀(t:TypeId) (p:DV→Prop) (m:Nat) (cs:List Value) (x:DataW H×List MemPlace),ow t=some p→DataW.trod enc P W base sp held m t cs=some x→Fine P t x.1→∃d,Sh.dv (.own p) d∧DV.rels (allOf W) [d] cs
theorem fsShapes_le {r:TypeId→Option (List Sh)}:∀{fs:List Field} {off e:Nat} {l:List Sh},fsShapes P r fs off=some (l,e)→off≤e
 | [],off,e,l,h=>by simp only[fsShapes,oSi,pMi] at h;omega
 | f :: fs,off,e,l,h=>by
  simp only[fsShapes] at h
  split at h
  ·split at h
   ·rename_i m e' _ h2
    simp only[oSi,pMi] at h
    have:=fsShapes_le h2
    omega
   ·cases h
  ·cases h
theorem open_fields {r:TypeId→Option (List Sh)} {cs:List Value}
  (hr:∀(t:TypeId) (l:List Sh) (m:Nat) (cs':List Value) (x:DataW H×List MemPlace),r t=some l→DataW.trod enc P W base sp held m t cs'=some x→Fine P t x.1→∃es,Shs.dv l es∧DV.rels (allOf W) es cs') :
  ∀{fs:List Field} {off e:Nat} {l:List Sh},fsShapes P r fs off=some (l,e)→(∀f∈fs,∃m y,DataW.trod enc P W base sp held m f.type ((cs.drop f.offset).take (P.cellsOf f.type))=some y∧Fine P f.type y.1)→
   ∃es,Shs.dv l es∧DV.rels (allOf W) es ((cs.drop off).take (e-off))
 | [],off,e,l,h,_=>by
  simp only[fsShapes,oSi,pMi] at h
  obtain ⟨rfl,rfl⟩:=h
  exact⟨[],rfl,by simp[DV.rels]⟩
 | f :: fs,off,e,l,h,hf=>by
  simp only[fsShapes] at h
  split at h
  ·rename_i l0 ho hr0
   split at h
   ·rename_i m e' hc h2
    simp only[oSi,pMi] at h
    obtain ⟨rfl,rfl⟩:=h
    have ho:=Nat.eq_of_beq_eq_true ho
    obtain ⟨k,y,hy,hyf⟩:=hf f (List.mem_cons_self ..)
    obtain ⟨d1,a1,b1⟩:=hr _ _ _ _ _ hr0 hy hyf
    obtain ⟨d2,a2,b2⟩:=open_fields hr h2 fun g hg=>hf g (List.mem_cons_of_mem _ hg)
    have hle:=fsShapes_le h2
    refine⟨d1++d2,Shs.append a1 a2,?_⟩
    have:=DV.rels.append b1 b2
    rw[ho] at this
    rw[show (cs.drop off).take (e' - off)=(cs.drop off).take (P.cellsOf f.type)++(cs.drop (off+P.cellsOf f.type)).take (e' - (off+P.cellsOf f.type)) from by
     rw[show e' - off=P.cellsOf f.type+(e' - (off+P.cellsOf f.type)) by omega,List.take_add,List.drop_drop]]
    exact this
   ·cases h
  ·cases h
theorem open_cells (how:How ow enc P W base sp held):∀{n:Nat} {t:TypeId} {l:List Sh} {m:Nat} {cs:List Value} {x:DataW H×List MemPlace},cellShapes P ow n t=some l→DataW.trod enc P W base sp held m t cs=some x→Fine P t x.1→
  ∃es,Shs.dv l es∧DV.rels (allOf W) es cs
 | 0,_,_,_,_,_,h,_,_=>by simp[cellShapes] at h
 | n+1,t,l,m,cs,x,h,hx,hfi=>by
  simp only[cellShapes] at h
  split at h
  ·rename_i p hp
   simp only[oSi] at h;subst h
   obtain ⟨d,h1,h2⟩:=how t p m cs x hp hx hfi
   exact⟨[d],⟨_,_,rfl,h1,rfl⟩,h2⟩
  split at h
  ·rename_i ht
   obtain ⟨b,rfl,rfl⟩:=DataW.trod_bool ht hx
   simp only[oSi] at h;subst h
   exact⟨[.con (.bool b)],⟨_,_,rfl,⟨b,rfl⟩,rfl⟩,⟨_,_,rfl,rfl,rfl⟩⟩
  ·rename_i k ht
   obtain ⟨b,rfl,rfl,hw⟩:=DataW.trod_int ht hx
   simp only[oSi] at h;subst h
   exact⟨[.con (.int k b)],⟨_,_,rfl,⟨b,hw,rfl⟩,rfl⟩,⟨_,_,rfl,rfl,rfl⟩⟩
  ·rename_i ht
   obtain ⟨b,rfl,rfl,hw⟩:=DataW.trod_string ht hx
   simp only[oSi] at h;subst h
   exact⟨[.con (.string b)],⟨_,_,rfl,⟨b,hw,rfl⟩,rfl⟩,⟨_,_,rfl,rfl,rfl⟩⟩
  ·rename_i e ht
   split at h
   ·rename_i l' hl'
    split at h
    ·rename_i hc
     simp only[bAt,Nat.beq_eq,Bool.or_eq_true,Nat.blt_eq] at hc
     simp only[oSi] at h;subst h
     rcases Go.Deep.open_slice ht hx with ⟨rfl,rfl⟩|⟨a,len,cap,mm,n',D,Pl,rfl,hb,hlc,hcap,hmm,rfl,hel⟩
     ·refine⟨[.slc l'.length 0 fun _=>.con undef],⟨_,_,rfl,⟨0,_,Nat.zero_le _,rfl,fun i hi=>absurd hi (by omega)⟩,rfl⟩,⟨_,_,rfl,⟨none,0,rfl,Nat.le_refl _,.inl rfl⟩,rfl⟩⟩
     ·have hlm:len≤mm:=by rw[hmm];split<;>omega
      have helf:∀i,i<len→Fine P e (D i):=fun i hi=>by
       unfold Fine at hfi
       simp only[DataW.weights,ht,List.mem_cons,List.mem_append] at hfi
       exact fine_all (fun w hw=>hfi w (.inr (.inl hw))) _ (List.mem_map.2 ⟨i,List.mem_range.2 hi,rfl⟩)
      have hspot:0<len→a.spot=none:=by
       intro hpos
       obtain ⟨cs',h1,_⟩:=hel 0 (by omega)
       obtain ⟨_,h5,h6⟩:=World.cells?_some h1
       have:=h6 0 (by omega)
       rw[Nat.zero_mul,gEe (by omega)] at this
       simp only[World.cell?,Addr.add,if_true] at this
       split at this
       ·split at this
        ·cases this
        ·rename_i hsp;simpa using hsp
       ·cases this
      have hadd:0<len→∀k,a.add k=⟨a.block,a.off+k,none⟩:=by
       intro hpos k
       have:=hspot hpos
       unfold Addr.add
       split
       ·rename_i hk;subst hk;cases a;simp_all
       ·rfl
      have each:∀i,i<len→∃d:DV,(match aggT P e with|true=>∃es,d=.agg es∧Shs.dv l' es|false=>Shs.dv l' [d])∧∃v,DV.rel (allOf W) d v∧v.cells.size=l'.length∧∀j,j<l'.length→W.cell? ⟨a.block,a.off+i*l'.length+j,none⟩=v.cells[j]?:=by
       intro i hi
       obtain ⟨cs',h1,h2⟩:=hel i (by omega)
       obtain ⟨es,h3,h4⟩:=open_cells how hl' h2 (helf i hi)
       obtain ⟨_,h5,h6⟩:=World.cells?_some h1
       have hsz:cs'.length=l'.length:=by rw[h5,hc.1]
       have hat:∀j,j<l'.length→W.cell? ⟨a.block,a.off+i*l'.length+j,none⟩=cs'[j]?:=by
        intro j hj
        rw[←h6 j (by omega),hadd (by omega),hc.1]
        congr 1
        unfold Addr.add
        split
        ·rename_i hk;subst hk;rfl
        ·rfl
       cases hag:aggT P e with
       | true=>exact⟨.agg es,⟨es,rfl,h3⟩,.agg cs'.toArray,⟨cs',rfl,h4⟩,by simp[Value.cells,hsz],fun j hj=>by rw[hat j hj];simp[Value.cells]⟩
       | false=>
        have h1':l'.length=1:=by rcases hc.2.2 with h|h
                                 ·rw[hag] at h;cases h
                                 ·exact h
        match l',cs',es,h1',hsz,h3,h4,hat with
        | [s],[c],es,_,_,h3,h4,hat=>
         obtain ⟨d,es',e1,h3,e2⟩:=h3
         simp only[Shs.dv] at e2;subst e2;subst e1
         obtain ⟨v,vs',e3,h4,e4⟩:=h4
         injection e3 with e3 _;subst e3
         have hcell:=Sh.cells h3 h4
         refine⟨d,⟨_,_,rfl,h3,rfl⟩,c,h4,by rw[hcell];rfl,fun j hj=>?_⟩
         rw[hat j hj,hcell];simp
      refine⟨[.slc l'.length len fun i=>if h:i<len then Classical.choose (each i h) else .con undef],⟨_,_,rfl,⟨len,_,Nat.le_trans hlc hcap,rfl,fun i hi=>?_⟩,rfl⟩,⟨_,_,rfl,⟨some a,cap,rfl,hlc,?_⟩,rfl⟩⟩
      ·simp only[dif_pos hi]
       exact(Classical.choose_spec (each i hi)).1
      ·by_cases hz:len=0
       ·exact .inl hz
       right
       refine⟨a.block,a.off,by have:=hspot (by omega);cases a;simp_all,fun i hi=>?_⟩
       simp only[dif_pos hi]
       obtain ⟨_,v,hv,hsz,hcl⟩:=Classical.choose_spec (each i hi)
       exact⟨v,hv,hsz,fun j hj=>hcl j hj⟩
    ·cases h
   ·cases h
  ·rename_i fs ht
   split at h
   ·rename_i l' e hl'
    split at h
    ·rename_i he
     simp only[oSi] at h;subst h
     have he:=Nat.eq_of_beq_eq_true he
     obtain ⟨xs,n',rfl,rfl,hlen,hxl,hf⟩:=DataW.trod_struct ht hx
     obtain ⟨es,h1,h2⟩:=open_fields (cs:=cs) (fun t l m cs' x h1 h2 h3=>open_cells how h1 h2 h3) hl' fun f hf'=>by
      obtain ⟨i,hi⟩:=List.mem_iff_getElem?.1 hf'
      have hi':fs[i]?=some f:=by simpa using hi
      have:=hf i f hi'
      have hlt:i<xs.length:=by
       rw[hxl];exact(Array.getElem?_eq_some_iff.1 hi').1
      refine⟨n',xs[i],by rw[this];simp[hlt],?_⟩
      unfold Fine at hfi
      simp only[DataW.weights,ht] at hfi
      exact fine_each hfi i f.type xs[i].1 (by simp[hi']) (by simp[hlt])
     refine⟨es,h1,?_⟩
     rw[List.drop_zero,Nat.sub_zero,he,←hlen,List.take_length] at h2
     exact h2
    ·cases h
   ·cases h
  ·cases h
theorem open_val {n:Nat} {t:TypeId} {l:List Sh} {b0:Nat} {v:Value} {d:DataW H} {p:List MemPlace} (how:How ow enc P W base sp held) (hno:ow t=none) (hs:cellShapes P ow n t=some l) (hl:(aggT P t||Nat.beq l.length 1)=true)
  (hv:Value.okWide P W .any b0 t v) (h:DataW.Trod enc P W base sp held t v d p) (hfi:Fine P t d):∃x:DV,vdv (aggT P t) l x∧x.rel (allOf W) v:=by
 obtain ⟨m,hm⟩:=h
 obtain ⟨es,h1,h2⟩:=open_cells how hs hm hfi
 cases ha:aggT P t with
 | true=>
  have:∃cs,v=.agg cs:=by
   unfold aggT at ha
   unfold Value.okWide at hv
   split at ha
   ·rename_i fs hu;rw[hu] at hv;obtain ⟨cs,e,_⟩:=hv;exact⟨cs,e⟩
   ·rename_i k e hu;rw[hu] at hv;obtain ⟨cs,e,_⟩:=hv;exact⟨cs,e⟩
   ·cases ha
  obtain ⟨cs,rfl⟩:=this
  exact⟨.agg es,⟨es,rfl,h1⟩,⟨cs.toList,by simp,by simpa [Value.cells] using h2⟩⟩
 | false=>
  rw[ha] at hl
  simp only[Bool.false_or,Nat.beq_eq] at hl
  match l,hl,h1 with
  | [s],_,h1=>
   obtain ⟨x,es',e1,k1,e2⟩:=h1
   simp only[Shs.dv] at e2;subst e2;subst e1
   obtain ⟨u,vs',e3,h3,e4⟩:=h2
   simp only[DV.rels] at e4;subst e4
   have hu:u=v:=by
    have hcell:=Sh.cells k1 h3
    have:v.cells=#[u]:=by rw[←Array.toArray_toList (xs:=v.cells),e3]
    unfold Value.okWide at hv
    cases n with
    | zero=>simp[cellShapes] at hs
    | succ n=>
     have hna:∀cs,v≠.agg cs:=by
      rintro cs rfl
      unfold aggT at ha
      simp only[cellShapes,hno] at hs
      split at hv
      ·rename_i hu2;rw[hu2] at ha;simp at ha
      ·rename_i hu2;rw[hu2] at ha;simp at ha
      ·unfold Cell.okWide Cell.ok at hv
       split at hs<;>rename_i ht<;>simp_all
     cases v<;>first|(simp[Value.cells] at this;exact this.symm)|exact absurd rfl (hna _)
   subst hu
   exact⟨x,⟨x,[],rfl,k1,rfl⟩,h3⟩
def argShapes (P:Program) (ow:TypeId→Option (DV→Prop)):List TypeId→Option (List (Bool×List Sh))
 | []=>some []
 | t :: ts=>match cellShapes P ow 8 t,argShapes P ow ts with
  | some l,some r=>match (aggT P t||Nat.beq l.length 1)&&(P.readableRec t&&Nat.blt t P.types.size)&&(ow t).isNone with
   | true=>some ((aggT P t,l) :: r)
   | false=>none
  | _,_=>none
def vdvs:List (Bool×List Sh)→List DV→Prop
 | [],xs=>xs=[]
 | s :: l,xs=>∃x xs',xs=x :: xs'∧vdv s.1 s.2 x∧vdvs l xs'
theorem open_all (how:How ow enc P W 0 sp held):∀{ts:List TypeId} {shs:List (Bool×List Sh)} {us:List Value} {es:List (DataW H)} {ps:List MemPlace},argShapes P ow ts=some shs→(∀(j:Nat) t v,ts[j]?=some t→us[j]?=some v→Value.okWide P W .any base t v)→
  DataW.TrodAll enc P W 0 sp held ts us es ps→(∀w∈DataW.weightsEach P ts es,w≤reachBytes)→∃xs:List DV,vdvs shs xs∧DV.rels (allOf W) xs us
 | [],shs,us,es,ps,h,_,ht,_=>by
  simp only[argShapes,oSi] at h;subst h
  obtain ⟨rfl,_,_⟩:=trodAll_nil ht
  exact⟨[],rfl,rfl⟩
 | t :: ts,shs,us,es,ps,h,hv,ht,hwt=>by
  match us,es,ht,hwt with
  | v :: us,e :: es,⟨p,q,h1,h2,_⟩,hwt=>
   simp only[argShapes] at h
   split at h
   ·rename_i l r hl hr
    split at h
    ·rename_i hc
     simp only[bAt,Option.isNone_iff_eq_none] at hc
     simp only[oSi] at h;subst h
     simp only[DataW.weightsEach,List.mem_append] at hwt
     obtain ⟨x,a1,a2⟩:=open_val how hc.2 hl hc.1.1 (hv 0 t v rfl rfl) h1 (fun w hw=>hwt w (.inl hw))
     obtain ⟨xs,b1,b2⟩:=open_all how hr (fun j t' v' h3 h4=>hv (j+1) t' v' (by simpa using h3) (by simpa using h4)) h2 (fun w hw=>hwt w (.inr hw))
     exact⟨x :: xs,⟨_,_,rfl,a1,b1⟩,⟨_,_,rfl,a2,b2⟩⟩
    ·cases h
   ·cases h
theorem stays_all (hl:laidOutB P=true) {W':World} (hb:Below W.heap.size W W'):∀{ts:List TypeId} {shs:List (Bool×List Sh)} {us:List Value} {es:List (DataW H)} {ps:List MemPlace},argShapes P ow ts=some shs→
  (∀x∈ps,x.block<W.heap.size)→DataW.TrodAll enc P W 0 (fun _=>true) true ts us es ps→DataW.TrodAll enc P W' 0 (fun b=>decide (b<W.heap.size)) true ts us es ps
 | [],shs,us,es,ps,_,_,ht=>by obtain ⟨rfl,rfl,rfl⟩:=trodAll_nil ht;exact trodAll_mk0
 | t :: ts,shs,us,es,ps,h,hlt,ht=>by
  match us,es,ht with
  | v :: us,e :: es,⟨p,q,h1,h2,hp⟩=>
   simp only[argShapes] at h
   split at h
   ·rename_i l r hl' hr
    split at h
    ·rename_i hc
     simp only[bAt,Nat.blt_eq] at hc
     subst hp
     exact⟨p,q,Below.trod hl hc.1.2.1 hc.1.2.2 h1 hb (fun x hx=>hlt x (List.mem_append_left _ hx)),stays_all hl hb hr (fun x hx=>hlt x (List.mem_append_right _ hx)) h2,rfl⟩
    ·cases h
   ·cases h
theorem trodAll_length:∀{ts:List TypeId} {us:List Value} {es:List (DataW H)} {ps:List MemPlace},DataW.TrodAll enc P W base sp held ts us es ps→es.length=ts.length
 | [],us,es,ps,ht=>by obtain ⟨_,rfl,_⟩:=trodAll_nil ht;rfl
 | t :: ts,us,es,ps,ht=>by
  match us,es,ht with
  | v :: us,e :: es,⟨p,q,h1,h2,hp⟩=>simp[trodAll_length h2]
theorem law_row {f:FuncId} {fn:Func} {spec:ChangeSpec} {laid:List (String×DataW Unit)} {tb:TypeId} {shs:List (Bool×List Sh)} (hlo:laidOutB P=true) (hr:fn.resultTypes=#[tb]) (htb:P.underlying tb=some .bool) (hvars:spec.vars=[])
  (hfn:∀es:List (DataW H),es.length=fn.params.toList.length→spec.fn H es={ results:=[.lit (.bool true)],args:=es }) (hsh:argShapes P ow fn.params.toList=some shs)
  (how:∀(W:World) (sp:Nat→Bool) (held:Bool),How ow enc P W 0 sp held)
  (hlaw:∀(W:World),laidMetH P laid W→∀xs,vdvs shs xs→FnOK P (allOf W) f xs (.con (.bool true))) :
  ∀(W:World) (base:Nat) (args:Array Value) (es gs:List (DataW H)) (before:List MemPlace),
   (∀(j:Nat) t v,fn.params[j]?=some t→args[j]?=some v→Value.okWide P W .any base t v)→
   DataW.Whole enc P fn.params.toList spec.vars false W args.toList es gs before→(DataW.weightsEach P (fn.params.toList++spec.plain.varTypes P) (es++gs)).all (·≤reachBytes)=true→laidMetH P laid W→
   Calls P f args W fun e W'=>∃v,e=.returned v∧spec.post enc P fn false true false false W args v W':=by
 intro W base args es gs before hval hW hwt hL
 have hW':=hW
 obtain ⟨p,q,hA,hV,rfl,hfz,hnd⟩:=hW
 rw[hvars] at hV
 obtain ⟨rfl,rfl⟩:=trodVars_none hV
 have hwe:∀w∈DataW.weightsEach P fn.params.toList es,w≤reachBytes:=fun w hw=>by
  have hl:=trodAll_length hA
  have key:∀{ts:List TypeId} {l:List (DataW H)} (us:List TypeId),l.length=ts.length→∀w∈DataW.weightsEach P ts l,w∈DataW.weightsEach P (ts++us) (l++[]):=by
   intro ts
   induction ts with
   | nil=>intro l us hl w hw;simp[DataW.weightsEach] at hw
   | cons t ts ih=>
    intro l us hl w hw
    match l,hl with
    | d :: l,hl=>
     simp only[DataW.weightsEach,List.mem_append,List.cons_append] at hw⊢
     rcases hw with hw|hw
     ·exact .inl hw
     ·exact .inr (ih us (by simpa using hl) w hw)
  have:=List.all_eq_true.1 hwt w (key _ hl w hw)
  simpa using this
 obtain ⟨xs,hx,hrel⟩:=open_all (how W _ _) hsh (fun j t v h1 h2=>hval j t v (by simpa using h1) (by simpa using h2)) hA hwe
 have hlt:∀x∈p,x.block<W.heap.size:=fun x hx=>by simpa using hW'.lt x (by simpa using hx)
 have hc:=(hlaw W hL xs hx).2 W (allOf W) args.toList (IH.le.refl _) (allOf_holds W) hrel
 simp only[Array.toArray_toList] at hc
 refine Calls.mono hc ?_
 rintro e W' ⟨v,h',he,hv,-,-,hk,-⟩
 simp only[DV.rel] at hv
 subst hv;subst he
 have hbelow:Below W.heap.size W W':=⟨hk.os,hk.tape,hk.output,hk.size,fun k hk'=>hk.block k hk' (fun h=>h)⟩
 have hlen:=trodAll_length hA
 refine⟨_,rfl,es,[],p++[],[],p,[],by rw[hvars];simpa [hvars] using hW',?_,?_,?_,hbelow.frame _,fun h=>by cases h⟩
 ·rw[List.append_nil,hfn es hlen,hr];exact trodAll_mk1 (shut_bool htb true)
 ·rw[List.append_nil,hfn es hlen];exact stays_all hlo hbelow hsh hlt hA
 ·rw[List.append_nil,hfn es hlen,hvars];rfl
end
end Go.AbW
/- Expressions that are read from memory. -/
namespace Go.Proofs
open Go Go.Ab Go.RowKit Go.ChangeShapes
set_option maxRecDepth 100000
theorem lift_rel:∀(m m':Nat) (x:Ex),ht x≤m→ht x≤m'→∀(k:IH) (v:Value),DV.rel k (exD m x) v→DV.rel k (exD m' x) v:=by
 intro m
 induction m with
 | zero=>
  intro m' x h1 h2 k v h
  have hk:x.kids=[]:=by
   refine Classical.byContradiction fun hh=>?_
   have:0<x.kids.length:=List.length_pos_iff.2 hh
   have:=ht_kid this
   omega
  unfold exD exV at h⊢
  rw[hk] at h⊢
  obtain ⟨us,rfl,x1,u1,rfl,h1,x2,u2,rfl,h2,x3,u3,rfl,h3,x4,u4,rfl,h4,x5,u5,rfl,h5,x6,u6,rfl,h6,h0⟩:=h
  exact⟨_,rfl,x1,_,rfl,h1,x2,_,rfl,h2,x3,_,rfl,h3,x4,_,rfl,h4,x5,_,rfl,h5,x6,_,rfl,DV.rel_slc_congr (fun i hi=>absurd hi (by simp)) h6,h0⟩
 | succ m ih=>
  intro m' x h1 h2 k v h
  obtain ⟨us,rfl,x1,u1,rfl,g1,x2,u2,rfl,g2,x3,u3,rfl,g3,x4,u4,rfl,g4,x5,u5,rfl,g5,x6,u6,rfl,g6,h0⟩:=h
  refine⟨_,rfl,x1,_,rfl,g1,x2,_,rfl,g2,x3,_,rfl,g3,x4,_,rfl,g4,x5,_,rfl,g5,x6,_,rfl,?_,h0⟩
  obtain ⟨p,cap,e,hc,r⟩:=g6
  refine⟨p,cap,e,hc,r.imp id fun ⟨b,off,hp,r⟩=>⟨b,off,hp,fun i hi=>?_⟩⟩
  obtain ⟨v,hv,hs,hj⟩:=r i hi
  have hki:=ht_kid (x:=x) hi
  obtain ⟨m2,rfl⟩:∃m2,m'=m2+1:=⟨m' - 1,by omega⟩
  exact⟨v,ih m2 (x.kids.getD i ex0) (by omega) (by omega) k v hv,hs,hj⟩
theorem htL_le {l:List Ex} {n:Nat} (h:∀i,i<l.length→ht (l.getD i ex0)+1≤n):htL l≤n:=by
 induction l with
 | nil=>simp[htL]
 | cons x l ih=>
  simp only[htL]
  have h0:=h 0 (by simp)
  have:=ih fun i hi=>by simpa using h (i+1) (by simpa using hi)
  have h0:ht x+1≤n:=h0
  omega
theorem wfL_of {l:List Ex} (h:∀i,i<l.length→wfE (l.getD i ex0)):wfL l:=by
 induction l with
 | nil=>trivial
 | cons x l ih=>exact⟨h 0 (by simp),ih fun i hi=>by simpa using h (i+1) (by simpa using hi)⟩
theorem max_of (f:Nat→Nat):∀n:Nat,∃M,∀i,i<n→f i≤M
 | 0=>⟨0,fun i hi=>by omega⟩
 | n+1=>by
  obtain ⟨M,h⟩:=max_of f n
  refine⟨max M (f n),fun i hi=>?_⟩
  rcases Nat.lt_or_ge i n with h1|h1
  ·have:=h i h1;omega
  ·obtain rfl:i=n:=by omega
   omega
theorem cells26:Tryz.prog.cellsOf 26=6:=by kernel_rfl
theorem bytes26:Tryz.prog.bytesOf 26=72:=by kernel_rfl
theorem cells23:Tryz.prog.cellsOf 23=2:=by kernel_rfl
theorem cells3:Tryz.prog.cellsOf 3=1:=by kernel_rfl
theorem cells9:Tryz.prog.cellsOf 9=1:=by kernel_rfl
theorem cells24:Tryz.prog.cellsOf 24=1:=by kernel_rfl
def kidsP (d:DV):Prop:=∃(l:List Ex) (k:Nat),htL l≤k∧wfL l∧l.length≤8796093022208∧d=.slc 6 l.length (lay (exG k) l)
section
variable {H:Type} {enc:TypeId×Value→H} {W:World} {base:Nat} {sp:Nat→Bool} {held:Bool}
theorem open_node {n:Nat} {cs:List Value} {x:DataW H×List MemPlace} (h:DataW.trod enc Tryz.prog W base sp held n 26 cs=some x) (hf:AbW.Fine Tryz.prog 26 x.1) :
  ∃(k n d a:Int) (s:ByteArray) (v:Value) (n':Nat) (y:DataW H×List MemPlace),s.size≤maxLen∧cs=[.int .i64 k,.string s,.int .i64 n,.int .i64 d,.int .i64 a,v]∧
   DataW.trod enc Tryz.prog W base sp held n' 24 [v]=some y∧AbW.Fine Tryz.prog 24 y.1∧SizeOf.sizeOf y.1<SizeOf.sizeOf x.1:=by
 obtain ⟨xs,n',rfl,rfl,hl,hxl,hfl⟩:=DataW.trod_struct Tryz.underlying26 h
 have hxl:xs.length=5:=hxl
 match xs,hxl with
 | [y0,y1,y2,y3,y4],_=>
  have e0:=hfl 0 _ rfl
  have e1:=hfl 1 _ rfl
  have e2:=hfl 2 _ rfl
  have e3:=hfl 3 _ rfl
  have e4:=hfl 4 _ rfl
  simp only[List.getElem?_cons_zero,List.getElem?_cons_succ] at e0 e1 e2 e3 e4
  rw[cells26] at hl
  erw [cells3] at e0 e3
  erw [cells9] at e1
  erw [cells23] at e2
  erw [cells24] at e4
  match cs,hl with
  | [c0,c1,c2,c3,c4,c5],_=>
   have e0:DataW.trod enc Tryz.prog W base sp held n' 3 [c0]=some y0:=e0
   have e1:DataW.trod enc Tryz.prog W base sp held n' 9 [c1]=some y1:=e1
   have e2:DataW.trod enc Tryz.prog W base sp held n' 23 [c2,c3]=some y2:=e2
   have e3:DataW.trod enc Tryz.prog W base sp held n' 3 [c4]=some y3:=e3
   have e4:DataW.trod enc Tryz.prog W base sp held n' 24 [c5]=some y4:=e4
   obtain ⟨k,h0,_,_⟩:=DataW.trod_int Tryz.underlying3 e0
   obtain ⟨s,h1,_,hs⟩:=DataW.trod_string Tryz.underlying9 e1
   obtain ⟨z0,z1,m2,_,_,f0,f1⟩:=trod_struct2 Tryz.underlying23 e2
   erw [cells3] at f0 f1
   have f0:DataW.trod enc Tryz.prog W base sp held m2 3 [c2]=some z0:=f0
   have f1:DataW.trod enc Tryz.prog W base sp held m2 3 [c3]=some z1:=f1
   obtain ⟨a,g0,_,_⟩:=DataW.trod_int Tryz.underlying3 f0
   obtain ⟨b,g1,_,_⟩:=DataW.trod_int Tryz.underlying3 f1
   obtain ⟨c,h3,_,_⟩:=DataW.trod_int Tryz.underlying3 e3
   simp only[List.cons.injEq,and_true] at h0 h1 g0 g1 h3
   subst h0;subst h1;subst g0;subst g1;subst h3
   refine⟨k,a,b,c,s,c5,n',y4,hs,rfl,e4,?_,?_⟩
   ·have hf':∀w∈DataW.weights Tryz.prog 26 (.agg ([y0,y1,y2,y3,y4].map (·.1))),w≤reachBytes:=hf
    simp only[DataW.weights,Tryz.underlying26] at hf'
    exact AbW.fine_each hf' 4 24 y4.1 rfl rfl
   ·have:y4.1∈[y0,y1,y2,y3,y4].map (·.1):=by simp
    have h2:=List.sizeOf_lt_of_mem this
    show SizeOf.sizeOf y4.1<SizeOf.sizeOf (DataW.agg ([y0,y1,y2,y3,y4].map (·.1)))
    simp only[DataW.agg.sizeOf_spec]
    omega
theorem open_kids (N:Nat):∀(m:Nat) (cs:List Value) (x:DataW H×List MemPlace),SizeOf.sizeOf x.1≤N→DataW.trod enc Tryz.prog W base sp held m 24 cs=some x→AbW.Fine Tryz.prog 24 x.1→∃d,kidsP d∧DV.rels (allOf W) [d] cs:=by
 induction N using Nat.strongRecOn with
 | _ N ih=>
 intro m cs x hN hx hfi
 rcases Go.Deep.open_slice Tryz.underlying24 hx with ⟨rfl,rfl⟩|⟨a,len,cap,mm,n',D,Pl,rfl,hb,hlc,hcap,hmm,rfl,hel⟩
 ·exact⟨_,⟨[],0,by simp[htL],trivial,by simp,rfl⟩,⟨_,_,rfl,⟨none,0,rfl,Nat.le_refl _,.inl rfl⟩,rfl⟩⟩
 have hlm:len≤mm:=by rw[hmm];split<;>omega
 have hfi':∀w∈DataW.weights Tryz.prog 24 (.slice ((List.range len).map D) ((List.range (mm-len)).map fun j=>D (len+j))),w≤reachBytes:=hfi
 simp only[DataW.weights,Tryz.underlying24,List.mem_cons,List.mem_append] at hfi'
 have helf:∀i,i<len→AbW.Fine Tryz.prog 26 (D i):=fun i hi=>
  AbW.fine_all (fun w hw=>hfi' w (.inr (.inl hw))) _ (List.mem_map.2 ⟨i,List.mem_range.2 hi,rfl⟩)
 have hlen:len≤8796093022208:=by
  have:=hfi' _ (.inl rfl)
  rw[bytes26] at this
  simp only[List.length_map,List.length_range,reachBytes] at this
  omega
 have hspot:0<len→a.spot=none:=by
  intro hpos
  obtain ⟨cs',h1,_⟩:=hel 0 (by omega)
  obtain ⟨_,h5,h6⟩:=World.cells?_some h1
  have c26:=cells26
  have:=h6 0 (by show 0<Tryz.prog.cellsOf 26;omega)
  rw[Nat.zero_mul,gEe (by rw[h5,cells26];omega)] at this
  simp only[World.cell?,Addr.add,if_true] at this
  split at this
  ·split at this
   ·cases this
   ·rename_i hsp;simpa using hsp
  ·cases this
 have hadd:0<len→∀k,a.add k=⟨a.block,a.off+k,none⟩:=by
  intro hpos k
  have:=hspot hpos
  unfold Addr.add
  split
  ·rename_i hk;subst hk;cases a;simp_all
  ·rfl
 have each:∀i,i<len→∃(x:Ex) (k:Nat),ht x≤k∧wfE x∧∃v,DV.rel (allOf W) (exD k x) v∧v.cells.size=6∧∀j,j<6→W.cell? ⟨a.block,a.off+i*6+j,none⟩=v.cells[j]?:=by
  intro i hi
  obtain ⟨cs',h1,h2⟩:=hel i (by omega)
  obtain ⟨k,n,d,at',s,v,n2,y,hs,rfl,h3,h4,h5⟩:=open_node h2 (helf i hi)
  have hsz:SizeOf.sizeOf y.1<N:=by
   have hm:D i∈(List.range len).map D:=List.mem_map.2 ⟨i,List.mem_range.2 hi,rfl⟩
   have h6:=List.sizeOf_lt_of_mem hm
   have h7:SizeOf.sizeOf (DataW.slice ((List.range len).map D) ((List.range (mm-len)).map fun j=>D (len+j)))≤N:=hN
   simp only[DataW.slice.sizeOf_spec] at h7
   have h5:SizeOf.sizeOf y.1<SizeOf.sizeOf (D i):=h5
   omega
  obtain ⟨dk,⟨l,kk,hh,hw,hll,rfl⟩,hr⟩:=ih _ hsz n2 [v] y (Nat.le_refl _) h3 h4
  obtain ⟨u,us,e1,r1,r2⟩:=hr
  simp only[List.cons.injEq] at e1
  obtain ⟨rfl,rfl⟩:=e1
  obtain ⟨_,h8,h9⟩:=World.cells?_some h1
  rw[cells26] at h9 h1
  refine⟨.mk k s n d at' l,kk,by rw[ht_eq];exact hh,⟨hs,hll,hw⟩,.agg #[.int .i64 k,.string s,.int .i64 n,.int .i64 d,.int .i64 at',v],?_,rfl,fun j hj=>?_⟩
  ·exact⟨_,rfl,_,_,rfl,rfl,_,_,rfl,rfl,_,_,rfl,rfl,_,_,rfl,rfl,_,_,rfl,rfl,v,_,rfl,r1,rfl⟩
  ·have:=h9 j (by simpa using hj)
   rw[hadd (by omega)] at this
   have e:(⟨a.block,a.off+i*6,none⟩:Addr).add j=⟨a.block,a.off+i*6+j,none⟩:=by
    unfold Addr.add
    split
    ·rename_i hk;subst hk;rfl
    ·rfl
   rw[e] at this
   rw[this]
   simp[Value.cells]
 classical
 let X:Nat→Ex:=fun i=>if h:i<len then Classical.choose (each i h) else ex0
 let K:Nat→Nat:=fun i=>if h:i<len then Classical.choose (Classical.choose_spec (each i h)) else 0
 have hX:∀i,i<len→ht (X i)≤K i∧wfE (X i)∧∃v,DV.rel (allOf W) (exD (K i) (X i)) v∧v.cells.size=6∧∀j,j<6→W.cell? ⟨a.block,a.off+i*6+j,none⟩=v.cells[j]?:=fun i hi=>by
  simp only[X,K,dif_pos hi]
  exact Classical.choose_spec (Classical.choose_spec (each i hi))
 obtain ⟨M,hM⟩:=max_of K len
 have hlenl:((List.range len).map X).length=len:=by simp
 have hget:∀i,i<len→((List.range len).map X).getD i ex0=X i:=fun i hi=>by
  simp[List.getD,List.getElem?_map,List.getElem?_range hi]
 refine⟨.slc 6 ((List.range len).map X).length (lay (exG (M+1)) ((List.range len).map X)),⟨_,M+1,htL_le fun i hi=>?_,wfL_of fun i hi=>?_,by rw[hlenl];exact hlen,rfl⟩,⟨_,_,rfl,⟨some a,cap,by rw[hlenl],by rw[hlenl];exact hlc,?_⟩,rfl⟩⟩
 ·rw[hlenl] at hi
  rw[hget i hi]
  have:=(hX i hi).1
  have:=hM i hi
  omega
 ·rw[hlenl] at hi
  rw[hget i hi]
  exact(hX i hi).2.1
 ·rw[hlenl]
  by_cases hz:len=0
  ·exact .inl hz
  right
  refine⟨a.block,a.off,by have:=hspot (by omega);cases a;simp_all,fun i hi=>?_⟩
  obtain ⟨h1,_,v,hv,hs,hc⟩:=hX i hi
  refine⟨v,?_,hs,fun j hj=>hc j hj⟩
  show DV.rel (allOf W) (exD M (((List.range len).map X).getD i ex0)) v
  rw[hget i hi]
  exact lift_rel _ _ _ h1 (Nat.le_trans h1 (hM i hi)) _ _ hv
def ow24 (t:TypeId):Option (DV→Prop):=match Nat.beq t 24 with|true=>some kidsP|false=>none
theorem how24:AbW.How ow24 enc Tryz.prog W base sp held:=by
 intro t p m cs x hp hx hf
 unfold ow24 at hp
 split at hp
 ·rename_i h
  obtain rfl:=Nat.eq_of_beq_eq_true h
  obtain rfl:=Option.some.inj hp
  obtain ⟨d,h1,h2⟩:=open_kids _ m cs x (Nat.le_refl _) hx hf
  obtain ⟨l,k,a,b,c,rfl⟩:=h1
  exact⟨_,⟨⟨l,k,a,b,c,rfl⟩,_,_,_,rfl⟩,h2⟩
 ·cases hp
end
open Go Go.Ab Go.RowKit
abbrev fcShW:List AbW.Sh:=[.str,.int .i64,.int .i64,.int .i64,.int .i64,.int .i64,.slc false [.str]]
theorem facts_ofW {n:Nat} {f:Nat→DV} (hf:∀i,i<n→∃es,f i=.agg es∧AbW.Shs.dv fcShW es) :
  ∃L:List Fc,L.length=n∧(∀k v,DV.rel k (.slc 7 n f) v→DV.rel k (fcsD L) v)∧∀i,i<L.length→FcW (L.getD i fc0):=by
 obtain ⟨l,hl,hL⟩:=list_of (p:=fun i (x:{x:Fc // FcW x})=>∀k v,DV.rel k (f i) v→DV.rel k (fcD x.1) v) ⟨fc0,⟨by decide,by decide,fun i hi=>absurd hi (by simp[fc0])⟩⟩ (fun i hi=>by
  obtain ⟨es,h1,_,_,rfl,⟨a,ha,rfl⟩,_,_,rfl,⟨b,_,rfl⟩,_,_,rfl,⟨c,_,rfl⟩,_,_,rfl,⟨d,_,rfl⟩,_,_,rfl,⟨e,_,rfl⟩,_,_,rfl,⟨g,_,rfl⟩,_,_,rfl,⟨n,f',hn,rfl,hw⟩,rfl⟩:=hf i hi
  obtain ⟨l,hl,hs,hr⟩:=words_of hn hw
  subst hl
  refine⟨⟨⟨a,b,c,d,e,g,l⟩,⟨ha,hn,hs⟩⟩,fun k v h=>?_⟩
  rw[h1] at h
  exact fc_rel (fun v=>hr k v) h)
 subst hl
 refine⟨l.map (·.1),List.length_map ..,fun k v h=>?_,fun i hi=>?_⟩
 ·unfold fcsD
  rw[List.length_map]
  refine rel_slc_imp (fun i hi v hv=>?_) h
  have:=hL i hi k v hv
  unfold fcF
  rw[show (l.map (·.1)).getD i fc0=(l.getD i ⟨fc0,⟨by decide,by decide,fun i hi=>absurd hi (by simp[fc0])⟩⟩).1 from by rw[List.getD,List.getD,List.getElem?_map,gEe hi];rfl]
  exact this
 ·rw[List.length_map] at hi
  rw[show (l.map (·.1)).getD i fc0=(l.getD i ⟨fc0,⟨by decide,by decide,fun i hi=>absurd hi (by simp[fc0])⟩⟩).1 from by rw[List.getD,List.getD,List.getElem?_map,gEe hi];rfl]
  exact(l.getD i _).2
/-! Facts that are read. -/
abbrev ftShW:List AbW.Sh:=[.str,.int .i64,.int .i64,.int .i64,.bool,.str]
theorem fts_ofW {n:Nat} {f:Nat→DV} (hf:∀i,i<n→∃es,f i=.agg es∧AbW.Shs.dv ftShW es) :
  ∃F:List Ft,F.length=n∧∀k v,DV.rel k (.slc 6 n f) v→DV.rel k (ftsD F) v:=by
 obtain ⟨l,hl,hL⟩:=list_of (p:=fun i (x:Ft)=>f i=ftD x) ft0 (fun i hi=>by
  obtain ⟨es,h1,_,_,rfl,⟨a,_,rfl⟩,_,_,rfl,⟨b,_,rfl⟩,_,_,rfl,⟨c,_,rfl⟩,_,_,rfl,⟨d,_,rfl⟩,_,_,rfl,⟨e,rfl⟩,_,_,rfl,⟨g,_,rfl⟩,rfl⟩:=hf i hi
  exact⟨⟨a,b,c,d,e,g⟩,h1⟩)
 subst hl
 refine⟨l,rfl,fun k v h=>?_⟩
 refine DV.rel_slc_congr (fun i hi=>?_) h
 rw[hL i hi];rfl
set_option maxHeartbeats 4000000
variable {G:IH}
/-! Rules,and their lines. -/
structure Rl where
 kind:Int
 nm:ByteArray
 gr:ByteArray
 am:Ex
 wh:Ex
 pos:Int
 ma:Nat
 mw:Nat
abbrev rlD (r:Rl):DV:=.agg [di r.kind,ds r.nm,ds r.gr,di r.am.k,ds r.am.s,di r.am.n,di r.am.d,di r.am.pos,.slc 6 r.am.kids.length (lay (exG r.ma) r.am.kids),di r.wh.k,ds r.wh.s,di r.wh.n,di r.wh.d,di r.wh.pos,.slc 6 r.wh.kids.length (lay (exG r.mw) r.wh.kids),di r.pos]
structure RlS (r:Rl):Prop where
 nm:r.nm.size≤1000
 gr:r.gr.size≤1000
 ha:ht r.am≤r.ma
 am:Sm r.am
 hw:ht r.wh≤r.mw
 wh:Sm r.wh
def nonB (x:Ex):Bool:=x.k==0&&decide (x.s.size=0)&&(x.n==0&&x.d==0)&&decide (x.kids.length=0)
theorem f202 (m:Nat) (x:Ex):FnOK Tryz.prog G 202 [exD m x] (db (nonB x)):=by
 refine FnOK.walkK (orc:=noO) (keep:=[]) follows Tryz.func202 rfl Tryz.call202 ?_
 refine of_tr (fun _ _ _ _=>(((db (x.k==0&&x.s.toList==(ByteArray.mk #[]).toList&&Bool.rec false (x.d==0) (x.n==0)&&(↑x.kids.length:Int)==0)):DV)=(db (nonB x)))) (by kernel_rfl) ?_
 refine congrArg (fun b=>(db b:DV)) ?_
 unfold nonB
 rw[emp_beq,show ((x.kids.length:Int)==0)=decide (x.kids.length=0) by rw[Bool.eq_iff_iff];simp]
 cases h:x.n==0<;>cases h2:x.d==0<;>rfl
theorem f201 (r:Rl) (h:RlS r):FnOK Tryz.prog G 201 [rlD r] (db (decide ((ht r.am:Int)+1≤32)&&decide ((ht r.wh:Int)+1≤32))):=by
 refine FnOK.walkK (orc:=fun f a=>match f,a with|121,[e]=>some (di ((ht (rdE e):Int)+1))|_,_=>none) (keep:=[]) follows Tryz.func201 rfl Tryz.call201 ?_
 refine of_tr (fun _ _ _ ZK=>((ZK 121 [(ndX r.ma r.am)] (di (↑(ht (rdE (ndX r.ma r.am)))+1))∧(((decide ((↑(ht (rdE (ndX r.ma r.am))):Int)+1≤32))=true)→ZK 121 [(ndX r.mw r.wh)] (di (↑(ht (rdE (ndX r.mw r.wh)))+1))))∧((db (decide ((↑(ht (rdE (ndX r.ma r.am))):Int)+1≤32)&&decide ((↑(ht (rdE (ndX r.mw r.wh))):Int)+1≤32))):DV)=(db (decide ((↑(ht r.am):Int)+1≤32)&&decide ((↑(ht r.wh):Int)+1≤32))))) (by kernel_rfl) ?_
 have e1:rdE (ndX r.ma r.am)=r.am:=rdE_eq h.ha
 have e2:rdE (ndX r.mw r.wh)=r.wh:=rdE_eq h.hw
 simp only[e1,e2]
 exact⟨⟨f121 _ _ h.ha h.am,fun _=>f121 _ _ h.hw h.wh⟩,trivial⟩
def kdL:List ByteArray:=[⟨#[112,111,105,110,116,115]⟩,⟨#[112,101,110,97,108,116,121]⟩,⟨#[99,97,112]⟩,⟨#[102,108,111,111,114]⟩]
theorem kd_rel {h:IH} {v:Value} (hv:DV.rel h (.slc 1 4 (elemF false 1 [ds ⟨#[112,111,105,110,116,115]⟩,ds ⟨#[112,101,110,97,108,116,121]⟩,ds ⟨#[99,97,112]⟩,ds ⟨#[102,108,111,111,114]⟩])) v):DV.rel h (wdD kdL) v:=by
 refine DV.rel_slc_congr (fun i hi=>?_) hv
 have hi:i<4:=hi
 rcases i with _|_|_|_|i
 ·rfl
 ·rfl
 ·rfl
 ·rfl
 ·omega
theorem f200:FnOK Tryz.prog G 200 [] (wdD kdL):=by
 refine FnOK.res ?_ fun k v hv=>kd_rel hv
 refine FnOK.walkK (orc:=noO) (keep:=[]) follows Tryz.func200 rfl Tryz.call200 ?_
 refine of_tr (fun _ _ _ _=>(ZS ((.slc 1 4 (elemF false 1 [(ds (ByteArray.mk #[112,111,105,110,116,115])),(ds (ByteArray.mk #[112,101,110,97,108,116,121])),(ds (ByteArray.mk #[99,97,112])),(ds (ByteArray.mk #[102,108,111,111,114]))])):DV))) (by kernel_rfl) ?_
 rfl
def ruB (r:Rl):Bool:=decide (r.kind≥0)&&decide (r.kind<4)&&nameB r.nm&&(decide (r.gr.size=0)||nameB r.gr)&&(decide ((ht r.am:Int)+1≤32)&&decide ((ht r.wh:Int)+1≤32))&&sndE r.am&&(nonB r.wh||sndE r.wh)
noncomputable def orcRu (r:Rl):Oracle:=fun f a=>match f,a with
 | 200,[]=>some (wdD kdL)
 | 157,[.con (.string s)]=>some (db (nameB s))
 | 201,[_]=>some (db (decide ((ht r.am:Int)+1≤32)&&decide ((ht r.wh:Int)+1≤32)))
 | 202,[e]=>some (db (nonB (rdE e)))
 | 122,[e]=>some (db (sndE (rdE e)))
 | 123,[e]=>some (ds (fmtE (rdE e)))
 | _,_=>none
theorem f176 (hT:Tab G) (r:Rl) (h:RlS r):FnOK Tryz.prog G 176 [rlD r] (db (ruB r)):=by
 refine FnOK.walkK (orc:=orcRu r) (keep:=[]) follows Tryz.func176 rfl Tryz.call176 ?_
 refine of_tr (fun _ _ _ ZK=>(fun Za Zb=>(((((decide (r.kind≥0))=true)→ZK 200 [] (.slc 1 4 (stF kdL)))∧(((decide (r.kind≥0)&&decide (r.kind<↑kdL.length))=true)→ZK 157 [(ds r.nm)] (db (nameB r.nm)))∧(((decide (r.kind≥0)&&decide (r.kind<↑kdL.length)&&nameB r.nm&&!r.gr.toList==(ByteArray.mk #[]).toList)=true)→ZK 157 [(ds r.gr)] (db (nameB r.gr)))∧(((decide (r.kind≥0)&&decide (r.kind<↑kdL.length)&&nameB r.nm&&Zb)=true)→ZK 201 [(rlD r)] (db Za))∧(((decide (r.kind≥0)&&decide (r.kind<(↑kdL.length:Int))&&nameB r.nm&&Zb&&Za)=true)→ZK 122 [(ndX r.ma r.am)] (db (sndE (rdE (ndX r.ma r.am)))))∧(((decide (r.kind≥0)&&decide (r.kind<(↑kdL.length:Int))&&nameB r.nm&&Zb&&Za&&sndE (rdE (ndX r.ma r.am)))=true)→ZK 202 [(ndX r.mw r.wh)] (db (nonB (rdE (ndX r.mw r.wh)))))∧(((decide (r.kind≥0)&&decide (r.kind<(↑kdL.length:Int))&&nameB r.nm&&Zb&&Za&&sndE (rdE (ndX r.ma r.am))&&!nonB (rdE (ndX r.mw r.wh)))=true)→ZK 122 [(ndX r.mw r.wh)] (db (sndE (rdE (ndX r.mw r.wh))))))∧((db (decide (r.kind≥0)&&decide (r.kind<(↑kdL.length:Int))&&nameB r.nm&&Zb&&Za&&sndE (rdE (ndX r.ma r.am))&&(nonB (rdE (ndX r.mw r.wh))||sndE (rdE (ndX r.mw r.wh))))):DV)=(db (ruB r)))) (decide ((↑(ht r.am):Int)+1≤32)&&decide ((↑(ht r.wh):Int)+1≤32)) (r.gr.toList==(ByteArray.mk #[]).toList||nameB r.gr)) (by kernel_rfl) ?_
 have e1:rdE (ndX r.ma r.am)=r.am:=rdE_eq h.ha
 have e2:rdE (ndX r.mw r.wh)=r.wh:=rdE_eq h.hw
 simp only[e1,e2,emp_beq]
 exact⟨⟨fun _=>f200,fun _=>f157 _ (by have:=h.nm;omega),fun _=>f157 _ (by have:=h.gr;omega),fun _=>f201 r h,fun _=>f122 hT _ _ h.ha h.am,fun _=>f202 _ _,fun _=>f122 hT _ _ h.hw h.wh⟩,rfl⟩
def lnB (r:Rl):ByteArray:=kdL.getD r.kind.toNat .empty++⟨#[32]⟩++r.nm++(if r.gr.size=0 then .empty else ⟨#[32,105,110,32]⟩++r.gr)++(⟨#[58,32]⟩++fmtE r.am)++(if r.wh.k=0 then .empty else ⟨#[32,105,102,32]⟩++fmtE r.wh)++⟨#[59,10]⟩
theorem lnA {r:Rl} (h1:r.gr.size≠0) (h2:r.wh.k≠0):lnB r=kdL.getD r.kind.toNat .empty++⟨#[32]⟩++r.nm++(⟨#[32,105,110,32]⟩++r.gr)++(⟨#[58,32]⟩++fmtE r.am)++(⟨#[32,105,102,32]⟩++fmtE r.wh)++⟨#[59,10]⟩:=by
 unfold lnB;rw[if_neg h1,if_neg h2]
theorem lnBb {r:Rl} (h1:r.gr.size≠0) (h2:r.wh.k=0):lnB r=kdL.getD r.kind.toNat .empty++⟨#[32]⟩++r.nm++(⟨#[32,105,110,32]⟩++r.gr)++(⟨#[58,32]⟩++fmtE r.am)++⟨#[59,10]⟩:=by
 unfold lnB;rw[if_neg h1,if_pos h2,ByteArray.append_empty]
theorem lnC {r:Rl} (h1:r.gr.size=0) (h2:r.wh.k≠0):lnB r=kdL.getD r.kind.toNat .empty++⟨#[32]⟩++r.nm++(⟨#[58,32]⟩++fmtE r.am)++(⟨#[32,105,102,32]⟩++fmtE r.wh)++⟨#[59,10]⟩:=by
 unfold lnB;rw[if_pos h1,if_neg h2,ByteArray.append_empty]
theorem lnD {r:Rl} (h1:r.gr.size=0) (h2:r.wh.k=0):lnB r=kdL.getD r.kind.toNat .empty++⟨#[32]⟩++r.nm++(⟨#[58,32]⟩++fmtE r.am)++⟨#[59,10]⟩:=by
 unfold lnB;rw[if_pos h1,if_pos h2,ByteArray.append_empty,ByteArray.append_empty]
theorem f178 (hT:Tab G) (r:Rl) (h:RlS r) (hr:ruB r=true):FnOK Tryz.prog G 178 [rlD r] (ds (lnB r)):=by
 refine FnOK.walkK (orc:=orcRu r) (keep:=[]) follows Tryz.func178 rfl Tryz.call178 ?_
 refine of_tr (fun _ _ _ ZK=>(fun Za Zb Zc=>((ZK 200 [] (.slc 1 4 (stF kdL))∧((0≤r.kind)∧(r.kind<↑kdL.length))∧((kdL.getD r.kind.toNat ByteArray.empty).size+(ByteArray.mk #[32]).size≤9223372036854775807)∧((kdL.getD r.kind.toNat ByteArray.empty++ByteArray.mk #[32]).size+r.nm.size≤9223372036854775807))∧(((!r.gr.toList==(ByteArray.mk #[]).toList)=true)→((((ByteArray.mk #[32,105,110,32]).size+r.gr.size≤9223372036854775807)∧((kdL.getD r.kind.toNat ByteArray.empty++ByteArray.mk #[32]++r.nm).size+Zc.size≤9223372036854775807))∧(ZK 123 [(ndX r.ma r.am)] (ds (fmtE (rdE (ndX r.ma r.am))))∧((ByteArray.mk #[58,32]).size+(fmtE (rdE (ndX r.ma r.am))).size≤9223372036854775807)∧((kdL.getD r.kind.toNat ByteArray.empty++ByteArray.mk #[32]++r.nm++Zc).size+Za.size≤9223372036854775807))∧(((r.wh.k != 0)=true)→((ZK 123 [(ndX r.mw r.wh)] (ds (fmtE (rdE (ndX r.mw r.wh))))∧((ByteArray.mk #[32,105,102,32]).size+(fmtE (rdE (ndX r.mw r.wh))).size≤9223372036854775807)∧((kdL.getD r.kind.toNat ByteArray.empty++ByteArray.mk #[32]++r.nm++Zc++Za).size+Zb.size≤9223372036854775807))∧((kdL.getD r.kind.toNat ByteArray.empty++ByteArray.mk #[32]++r.nm++Zc++Za++Zb).size+(ByteArray.mk #[59,10]).size≤9223372036854775807)∧((ds (kdL.getD r.kind.toNat ByteArray.empty++ByteArray.mk #[32]++r.nm++Zc++Za++Zb++ByteArray.mk #[59,10])):DV)=(ds (lnB r))))∧(((r.wh.k != 0)=false)→(((kdL.getD r.kind.toNat ByteArray.empty++ByteArray.mk #[32]++r.nm++Zc++Za).size+(ByteArray.mk #[59,10]).size≤9223372036854775807)∧((ds (kdL.getD r.kind.toNat ByteArray.empty++ByteArray.mk #[32]++r.nm++Zc++Za++ByteArray.mk #[59,10])):DV)=(ds (lnB r))))))∧(((!r.gr.toList==(ByteArray.mk #[]).toList)=false)→((ZK 123 [(ndX r.ma r.am)] (ds (fmtE (rdE (ndX r.ma r.am))))∧((ByteArray.mk #[58,32]).size+(fmtE (rdE (ndX r.ma r.am))).size≤9223372036854775807)∧((kdL.getD r.kind.toNat ByteArray.empty++ByteArray.mk #[32]++r.nm).size+Za.size≤9223372036854775807))∧(((r.wh.k != 0)=true)→((ZK 123 [(ndX r.mw r.wh)] (ds (fmtE (rdE (ndX r.mw r.wh))))∧((ByteArray.mk #[32,105,102,32]).size+(fmtE (rdE (ndX r.mw r.wh))).size≤9223372036854775807)∧((kdL.getD r.kind.toNat ByteArray.empty++ByteArray.mk #[32]++r.nm++Za).size+Zb.size≤9223372036854775807))∧((kdL.getD r.kind.toNat ByteArray.empty++ByteArray.mk #[32]++r.nm++Za++Zb).size+(ByteArray.mk #[59,10]).size≤9223372036854775807)∧((ds (kdL.getD r.kind.toNat ByteArray.empty++ByteArray.mk #[32]++r.nm++Za++Zb++ByteArray.mk #[59,10])):DV)=(ds (lnB r))))∧(((r.wh.k != 0)=false)→(((kdL.getD r.kind.toNat ByteArray.empty++ByteArray.mk #[32]++r.nm++Za).size+(ByteArray.mk #[59,10]).size≤9223372036854775807)∧((ds (kdL.getD r.kind.toNat ByteArray.empty++ByteArray.mk #[32]++r.nm++Za++ByteArray.mk #[59,10])):DV)=(ds (lnB r)))))))) (ByteArray.mk #[58,32]++fmtE (rdE (ndX r.ma r.am))) (ByteArray.mk #[32,105,102,32]++fmtE (rdE (ndX r.mw r.wh))) (ByteArray.mk #[32,105,110,32]++r.gr)) (by kernel_rfl) ?_
 have e1:rdE (ndX r.ma r.am)=r.am:=rdE_eq h.ha
 have e2:rdE (ndX r.mw r.wh)=r.wh:=rdE_eq h.hw
 simp only[e1,e2,emp_beq,bSa]
 have hh:=hr
 unfold ruB at hh
 simp only[bAt,dEt] at hh
 obtain ⟨⟨⟨⟨⟨⟨hk0,hk4⟩,hn⟩,hg⟩,hd⟩,ha⟩,hw⟩:=hh
 have k4:kdL.length=4:=rfl
 have hks:∀i,(kdL.getD i .empty).size≤7:=fun i=>by
  rcases i with _|_|_|_|i
  ·decide
  ·decide
  ·decide
  ·decide
  ·show (ByteArray.empty).size≤7
   decide
 have s1:=hks r.kind.toNat
 have s2:=h.nm
 have s3:=h.gr
 have s4:=fmt_small _ _ (Nat.le_refl _) ha
 have n4:=h.am.nd
 have c1:(ByteArray.mk #[32]).size=1:=rfl
 have c2:(ByteArray.mk #[32,105,110,32]).size=4:=rfl
 have c3:(ByteArray.mk #[58,32]).size=2:=rfl
 have c4:(ByteArray.mk #[32,105,102,32]).size=4:=rfl
 have c5:(ByteArray.mk #[59,10]).size=2:=rfl
 have hw2:(r.wh.k != 0)=true→sndE r.wh=true:=fun hc=>by
  rcases Bool.or_eq_true ..▸hw with h1|h1
  ·unfold nonB at h1
   simp only[bAt,beq_iff_eq] at h1
   rw[h1.1.1.1] at hc;cases hc
  ·exact h1
 have s5:(r.wh.k != 0)=true→(fmtE r.wh).size≤120000:=fun hc=>by
  have:=fmt_small _ _ (Nat.le_refl _) (hw2 hc)
  have:=h.wh.nd
  omega
 refine⟨⟨f200,⟨by omega,by omega⟩,by omega,by omega⟩,fun h1=>⟨⟨by omega,by omega⟩,⟨f123 hT _ _ h.ha h.am ha,by omega,by omega⟩,fun h2=>?_,fun h2=>⟨by omega,?_⟩⟩,fun h1=>⟨⟨f123 hT _ _ h.ha h.am ha,by omega,by omega⟩,fun h2=>?_,fun h2=>⟨by omega,?_⟩⟩⟩
 ·have:=s5 h2
  refine⟨⟨f123 hT _ _ h.hw h.wh (hw2 h2),by omega,by omega⟩,by omega,?_⟩
  rw[lnA (by simpa using h1) (by simpa using h2)]
 ·rw[lnBb (by simpa using h1) (by simpa using h2)]
 ·have:=s5 h2
  refine⟨⟨f123 hT _ _ h.hw h.wh (hw2 h2),by omega,by omega⟩,by omega,?_⟩
  rw[lnC (by simpa using h1) (by simpa using h2)]
 ·rw[lnD (by simpa using h1) (by simpa using h2)]
def byteL (l:List UInt8) (i:Nat):DV:=.con (.int .u8 (((l[i]?).getD 0).toNat:Int))
def nilP:AV:=.d (.con (.pointer none))
def unitV:DV:=.tup []
theorem Gam.result {F:Fr} {w0:World} {h0:IH} {st:AS} {β:Nat→Nat} {h:IH} {tm:Array Value} {w:World} (g:Gam G F w0 h0 st β h tm w) {r:AV} {v:Value} (hr:r.rel β h v):Gam G F w0 h0 ⟨[r],st.boxes⟩ β h #[v] w:=
 ⟨g.glob,g.holds,g.ext,g.old,g.kept,g.fix,rfl,fun t x hx=>by
  cases t with
  | zero=>simp at hx;subst hx;exact⟨v,rfl,hr⟩
  | succ t=>simp at hx,g.box,g.inj⟩
theorem tup0_rel (h:IH):unitV.rel h (.tuple #[]):=⟨[],rfl,rfl⟩
theorem arg1 {F:Fr} {w0:World} {h0:IH} {x:AV} {bx:List (Nat×List AV)} {β:Nat→Nat} {h:IH} {us:Array Value} {w:World} (g:Gam G F w0 h0 ⟨[x],bx⟩ β h us w):∃v,us=#[v]∧x.rel β h v:=by
 have hs:us.size=1:=g.size
 obtain ⟨v,hv,hr⟩:=g.regs 0 x rfl
 refine⟨v,?_,hr⟩
 apply Array.ext
 ·simpa using hs
 ·intro i h1 h2
  have:i=0:=by simp at h2;omega
  subst this
  have:=(Array.getElem?_eq_some_iff.1 hv).2
  simpa using this
theorem look_head (s:Nat) (l:List AV) (r:List (Nat×List AV)):Go.Ab.look ((s,l) :: r) s=some l:=by simp[Go.Ab.look]
theorem i146':(Tryz.prog.info? 184).map (·.size)=some 2:=by kernel_rfl
theorem i146:∃j,Tryz.prog.info? 184=some j∧j.size=2:=Option.map_eq_some_iff.1 i146'
theorem lies146:liesAt Tryz.prog Tryz.prog.depth 184 (2 / Tryz.prog.cellsOf 184) 0 184 1=true:=by kernel_rfl
theorem copyCheck_used (b:Nat) (w:World) (h0:w.cell? ⟨b,0,none⟩=some (.pointer (some ⟨b,0,none⟩))) :
  Calls Tryz.prog 203 #[.pointer (some ⟨b,0,none⟩)] w fun e w'=>e=.returned (.tuple #[])∧w'=w:=by
 obtain ⟨j,hj,hjs⟩:=i146
 go_enter Tryz.func203,Tryz.ntmps203
 go_wp2
 rw[Lib.run_neq_ptr_same w _ Tryz.underlying181 hj]
 go_wp2
 go_end0
 exact⟨rfl,rfl⟩
theorem copyCheck_fresh (b:Nat) (w:World) (h0:w.cell? ⟨b,0,none⟩=some (.pointer none)) (hsh:w.shape? b=some (184,2)) (hfz:w.frozen? ⟨b,0,none⟩=false) :
  Calls Tryz.prog 203 #[.pointer (some ⟨b,0,none⟩)] w fun e w'=>e=.returned (.tuple #[])∧w'=w.setCell ⟨b,0,none⟩ (.pointer (some ⟨b,0,none⟩)):=by
 obtain ⟨j,hj,hjs⟩:=i146
 go_enter Tryz.func203,Tryz.ntmps203
 go_wp2
 rw[Lib.run_to_unsafe w ⟨b,0,none⟩ Tryz.underlying181 Tryz.underlying207 hj (by rw[hjs];decide) hsh (Nat.zero_lt_succ 1)]
 simp only[Result.andThen]
 rw[Oper.upon_value]
 go_wp2
 rw[run_callFunc_extern Tryz.func210 (by kernel_rfl) (by kernel_rfl) (by kernel_rfl) (e:=Extern.AbiNoEscape.same) (by kernel_rfl)]
 rw[Lib.run_noEscape]
 simp only[Result.andThen]
 rw[Oper.upon_value]
 go_wp2
 rw[Lib.run_from_unsafe w ⟨b,0,none⟩ Tryz.underlying207 Tryz.underlying181 hj hsh lies146]
 simp only[Result.andThen]
 rw[Oper.upon_value]
 go_wp2
 go_end0
 exact⟨rfl,rfl⟩
theorem builder_String (b g cap n:Nat) (T:TypeId) (p:Value) (vs:Array Value) (fz:Nat×Nat) (l:List UInt8) (h0:l≠[]) (hn:n=l.length) (w:World) (hbk:w.heap[b]?=some (.cells #[p,.slice (some ⟨g,0,none⟩) n cap] T (0,0)))
  (hg:w.heap[g]?=some (.cells vs 5 fz)) (hcap:n≤cap) (hsz:n≤vs.size) (h63:n≤9223372036854775807) (hvs:∀(j:Nat) (x:UInt8),l[j]?=some x→vs[j]?=some (Value.int .u8 x.toNat)) :
  Calls Tryz.prog 180 #[.pointer (some ⟨b,0,none⟩)] w fun e w'=>e=.returned (.string ⟨l.toArray⟩)∧w'=w.drew.freeze ⟨g,0,none⟩ n:=by
 subst hn
 have hl0:l.length≠0:=by simpa using h0
 have c1:w.drew.cell? ⟨b,1,none⟩=some (.slice (some ⟨g,0,none⟩) l.length cap):=by
  have:w.drew.heap[b]?=some (.cells #[p,.slice (some ⟨g,0,none⟩) l.length cap] T (0,0)):=hbk
  rw[Lib.cell_of_heap this];rfl
 have hSD:(Builtin.unsafeSliceData_ #[182] 205 #[.slice (some ⟨g,0,none⟩) l.length cap]).run Tryz.prog w.drew=.ok (.pointer (some ⟨g,0,none⟩)) w.drew:=
  Lib.run_unsafeSliceData_row _ _ _ _ _ _ (by omega)
 have hUS:(Builtin.unsafeString_ #[205,3] 9 #[.pointer (some ⟨g,0,none⟩),.int .i64 l.length]).run Tryz.prog w.drew=.ok (.string ⟨l.toArray⟩) (w.drew.freeze ⟨g,0,none⟩ l.length):=by
  refine Lib.run_unsafeString_row w.drew 205 3 9 5 Tryz.underlying205 (by kernel_rfl) g vs.size (by have hg':w.drew.heap[g]?=some (.cells vs 5 fz):=hg;simp[World.shape?,hg']) l h0 hsz h63 ?_
  intro j x hx
  have hg':w.drew.heap[g]?=some (.cells vs 5 fz):=hg
  have:(⟨g,0,none⟩:Addr).add j=⟨g,j,none⟩:=by rw[add_off];simp
  rw[this]
  simp only[World.cell?,hg']
  exact hvs j x hx
 have mixed:=follows
 go_enter Tryz.func180,Tryz.ntmps180
 go_wp2
 go_region_o
 all_goals (go_wp2;go_ret;exact⟨rfl,rfl⟩)
theorem builder_String_nil (b:Nat) (T:TypeId) (p:Value) (w:World) (hbk:w.heap[b]?=some (.cells #[p,.slice none 0 0] T (0,0))) :
  Calls Tryz.prog 180 #[.pointer (some ⟨b,0,none⟩)] w fun e w'=>e=.returned (.string ⟨#[]⟩)∧w'=w.drew:=by
 have c1:w.drew.cell? ⟨b,1,none⟩=some (.slice none 0 0):=by
  have:w.drew.heap[b]?=some (.cells #[p,.slice none 0 0] T (0,0)):=hbk
  rw[Lib.cell_of_heap this];rfl
 have hSD:(Builtin.unsafeSliceData_ #[182] 205 #[.slice none 0 0]).run Tryz.prog w.drew=.ok (.pointer none) w.drew:=rfl
 have hUS:(Builtin.unsafeString_ #[205,3] 9 #[.pointer none,.int .i64 0]).run Tryz.prog w.drew=.ok (.string .empty) w.drew:=Lib.run_unsafeString_none w.drew _ _ _ none
 have mixed:=follows
 go_enter Tryz.func180,Tryz.ntmps180
 go_wp2
 go_region_o
 all_goals (go_wp2;go_ret;exact⟨rfl,rfl⟩)
theorem f203_fresh (x:AV) (rest:List (Nat×List AV)):FnM Tryz.prog G 203 [.tb 1000000 0 184] ((1000000,[nilP,x]) :: rest) (.d unitV) ((1000000,[.box 1000000 0,x]) :: rest):=by
 refine⟨Tryz.call203,fun F w h β us g=>?_⟩
 obtain ⟨v,rfl,hv,hT⟩:=arg1 g
 subst hv
 have hb:(⟨[.tb 1000000 0 184],(1000000,[nilP,x]) :: rest⟩:AS).box 1000000=some [nilP,x]:=look_head ..
 have hp:plainB [nilP,x]=true:=by
  cases x<;>rfl
 obtain ⟨_,_,_,T,vs,hh,hr⟩:=g.boxP hb hp
 obtain ⟨v0,vs',rfl,h0,v1,vs'',rfl,h1,h2⟩:=hr
 simp only[AV.rels] at h2;subst h2
 simp only[nilP,AV.rel,DV.rel] at h0;subst h0
 have hTT:T.1=184:=T.2.trans hT
 rw[hTT] at hh
 have c0:w.cell? ⟨blk β 1000000,0,none⟩=some (.pointer none):=by simp[World.cell?,hh]
 refine(copyCheck_fresh (blk β 1000000) w c0 (by simp[World.shape?,hh]) (by simp[World.frozen?,hh])).mono ?_
 rintro e w' ⟨rfl,rfl⟩
 have g2:=g.store (s:=1000000) (i:=0) (x:=.box 1000000 0) (v:=.pointer (some ⟨blk β 1000000,0,none⟩)) ⟨_,hb,hp⟩ rfl
 have hset:setCells 1000000 0 (.box 1000000 0) ((1000000,[nilP,x]) :: rest)=(1000000,[.box 1000000 0,x]) :: rest:=by simp[setCells]
 rw[hset] at g2
 exact⟨_,β,h,rfl,Gam.result g2 (tup0_rel h)⟩
theorem f203_used (y x:AV) (hy:∀β h v,y.rel β h v→v=.pointer (some ⟨blk β 1000000,0,none⟩)) (rest:List (Nat×List AV)):FnM Tryz.prog G 203 [y] ((1000000,[.box 1000000 0,x]) :: rest) (.d unitV) ((1000000,[.box 1000000 0,x]) :: rest):=by
 refine⟨Tryz.call203,fun F w h β us g=>?_⟩
 obtain ⟨v,rfl,hv⟩:=arg1 g
 have hv:=hy _ _ _ hv
 subst hv
 have hb:(⟨[y],(1000000,[.box 1000000 0,x]) :: rest⟩:AS).box 1000000=some [.box 1000000 0,x]:=look_head ..
 have hp:plainB [.box 1000000 0,x]=true:=by
  cases x<;>rfl
 obtain ⟨_,_,_,T,vs,hh,hr⟩:=g.boxP hb hp
 obtain ⟨v0,vs',rfl,h0,v1,vs'',rfl,h1,h2⟩:=hr
 simp only[AV.rels] at h2;subst h2
 simp only[AV.rel] at h0;subst h0
 have c0:w.cell? ⟨blk β 1000000,0,none⟩=some (.pointer (some ⟨blk β 1000000,0,none⟩)):=by simp[World.cell?,hh]
 refine(copyCheck_used (blk β 1000000) w c0).mono ?_
 rintro e w' ⟨rfl,rfl⟩
 exact⟨_,β,h,rfl,Gam.result g (tup0_rel h)⟩
abbrev byteF:RK:=⟨false,5,true,none⟩
theorem onlyBlk_freeze {g n:Nat} {w:World}:OnlyBlk g w (w.freeze ⟨g,0,none⟩ n):=by
 unfold World.freeze
 split
 ·exact⟨rfl,rfl,rfl,rfl,fun _ _=>rfl⟩
 ·refine⟨rfl,rfl,rfl,by simp,fun k hk=>?_⟩
  simp only[Array.getElem?_modify]
  rw[if_neg (Ne.symm hk)]
theorem heap_freeze {g n:Nat} {w:World} {vs:Array Value} {T:TypeId} {fr:Nat×Nat} (h:w.heap[g]?=some (.cells vs T fr)):∃fr',(w.freeze ⟨g,0,none⟩ n).heap[g]?=some (.cells vs T fr'):=by
 unfold World.freeze
 split
 ·exact⟨fr,h⟩
 ·simp only[Array.getElem?_modify,if_true,h]
  exact⟨_,rfl⟩
theorem RowOK.frozen {h:IH} {k:RK} {sz c m:Nat} {f:Nat→DV} {o o':Option Obj} (hR:RowOK h k sz f c m o) (ho:∀(vs:Array Value) (fr:Nat×Nat),o=some (.cells vs k.ty fr)→∃fr',o'=some (.cells vs k.ty fr')):RowOK h ⟨k.agg,k.ty,true,k.mn⟩ sz f c m o':=by
 obtain ⟨h1,h2⟩:=hR
 refine⟨h1,h2.imp id ?_⟩
 rintro ⟨fr,vs,e,hf,hl,hone,r⟩
 obtain ⟨fr',e'⟩:=ho _ _ e
 exact⟨fr',vs,e',fun hh=>Bool.noConfusion hh,hl,hone,r⟩
theorem f180 (y A:AV) (hy:∀β h v,y.rel β h v→v=.pointer (some ⟨blk β 1000000,0,none⟩)) (fz:Bool) (l:List UInt8) (h0:l≠[]) (hl:l.length≤4611686018427387904) :
  FnM Tryz.prog G 180 [y] [(1000000,[A,.vec 1000001 1 0 l.length]),(1000001,[.arr ⟨false,5,fz,none⟩ 1 (byteL l)])] (.d (ds (bs l))) [(1000000,[A,.vec 1000001 1 0 l.length]),(1000001,[.arr byteF 1 (byteL l)])]:=by
 refine⟨Tryz.call180,fun F w h β us g=>?_⟩
 obtain ⟨v,rfl,hv⟩:=arg1 g
 have hv:=hy _ _ _ hv
 subst hv
 have hb:(⟨[y],[(1000000,[A,.vec 1000001 1 0 l.length]),(1000001,[.arr ⟨false,5,fz,none⟩ 1 (byteL l)])]⟩:AS).box 1000000=some [A,.vec 1000001 1 0 l.length]:=look_head ..
 have hb1:(⟨[y],[(1000000,[A,.vec 1000001 1 0 l.length]),(1000001,[.arr ⟨false,5,fz,none⟩ 1 (byteL l)])]⟩:AS).box 1000001=some [.arr ⟨false,5,fz,none⟩ 1 (byteL l)]:=by
  simp only[AS.box,Go.Ab.look];rfl
 have hp:plainB [A,.vec 1000001 1 0 l.length]=true:=by
  cases A<;>rfl
 obtain ⟨_,_,_,T,vs,hh,hr⟩:=g.boxP hb hp
 obtain ⟨v0,vs',rfl,hA,v1,vs'',rfl,⟨k1,k2,p,hv1,hpp⟩,h2⟩:=hr
 simp only[AV.rels] at h2;subst h2
 subst hv1
 have hpos:0<l.length:=List.length_pos_iff.2 h0
 have hR:=(g.box _ _ hb1).2
 simp only[Own] at hR
 obtain ⟨r1,r2⟩:=hR
 rcases r2 with r2|⟨fr,us,hu,hfr,hul,hone,hel⟩
 ·omega
 have hp':p=some ⟨blk β 1000001,0,none⟩:=by
  rcases hpp with hpp|hpp
  ·simpa using hpp
  ·omega
 subst hp'
 have hRow:RowOK h ⟨false,5,fz,none⟩ 1 (byteL l) (room β 1000001) (many β 1000001) w.heap[blk β 1000001]?:=⟨r1,.inr ⟨fr,us,hu,hfr,hul,hone,hel⟩⟩
 have hcap:l.length≤room β 1000001:=by omega
 refine(builder_String (blk β 1000000) (blk β 1000001) (room β 1000001-0) l.length T.1 v0 us.toArray fr l h0 rfl w hh hu (by omega) (by simp[hul];omega) (by omega) ?_).mono ?_
 ·intro j x hx
  have hj:j<l.length:=(List.getElem?_eq_some_iff.1 hx).1
  obtain ⟨v,a1,a2,a3,a4⟩:=hel j (by omega)
  simp only[byteL,hx,Option.getD_some,DV.rel] at a1
  subst a1
  have:=a4 0 (by omega)
  simp only[Nat.mul_one,Nat.add_zero,Value.cells] at this
  simpa using this
 ·rintro e w' ⟨rfl,rfl⟩
  have gd:=g.drew (w.drawn+1)
  have hlive:Live β 1000001 [.arr ⟨false,5,fz,none⟩ 1 (byteL l)]:=show 0<room β 1000001 by omega
  have g2:=gd.write (s:=1000001) (l:=[.arr ⟨false,5,fz,none⟩ 1 (byteL l)]) (l':=[.arr byteF 1 (byteL l)]) (w':=w.drew.freeze ⟨blk β 1000001,0,none⟩ l.length)
   (bx:=[(1000000,[A,.vec 1000001 1 0 l.length]),(1000001,[.arr byteF 1 (byteL l)])]) hb1 hlive onlyBlk_freeze (by
    simp only[Own]
    refine RowOK.frozen (k:=⟨false,5,fz,none⟩) hRow fun vs fr' he=>?_
    exact heap_freeze (w:=w.drew) he) (by
    intro t m ht
    simp only[Go.Ab.look] at ht
    by_cases h1:(1000000:Nat)=t
    ·subst h1
     simp at ht
     subst ht
     exact .inr ⟨by decide,rfl⟩
    ·rw[beq_ne h1,cond_false] at ht
     by_cases h2:(1000001:Nat)=t
     ·subst h2
      simp at ht
      subst ht
      exact .inl ⟨rfl,rfl⟩
     ·rw[beq_ne h2,cond_false] at ht
      cases ht)
  exact⟨_,β,h,rfl,Gam.result g2 (r:=.d (ds (bs l))) rfl⟩
theorem f180n (y A:AV) (hy:∀β h v,y.rel β h v→v=.pointer (some ⟨blk β 1000000,0,none⟩)) :
  FnM Tryz.prog G 180 [y] [(1000000,[A,.d (.con (.slice none 0 0))])] (.d (ds (bs []))) [(1000000,[A,.d (.con (.slice none 0 0))])]:=by
 refine⟨Tryz.call180,fun F w h β us g=>?_⟩
 obtain ⟨v,rfl,hv⟩:=arg1 g
 have hv:=hy _ _ _ hv
 subst hv
 have hb:(⟨[y],[(1000000,[A,.d (.con (.slice none 0 0))])]⟩:AS).box 1000000=some [A,.d (.con (.slice none 0 0))]:=look_head ..
 have hp:plainB [A,.d (.con (.slice none 0 0))]=true:=by
  cases A<;>rfl
 obtain ⟨_,_,_,T,vs,hh,hr⟩:=g.boxP hb hp
 obtain ⟨v0,vs',rfl,hA,v1,vs'',rfl,h1,h2⟩:=hr
 simp only[AV.rels] at h2;subst h2
 simp only[AV.rel,DV.rel] at h1;subst h1
 refine(builder_String_nil (blk β 1000000) T.1 v0 w hh).mono ?_
 rintro e w' ⟨rfl,rfl⟩
 exact⟨_,β,h,rfl,Gam.result (g.drew (w.drawn+1)) (r:=.d (ds (bs []))) rfl⟩
abbrev byteK:RK:=⟨false,5,false,none⟩
def orcCC:Orc:={ d:=fun _ _=>none,m:=fun f _ pre=>match f,pre with
 | 203,(u,[.d (.con (.pointer none)),x]) :: rest=>some (.d unitV,(u,[.box u 0,x]) :: rest)
 | 203,(u,[.box v 0,x]) :: rest=>some (.d unitV,(u,[.box v 0,x]) :: rest)
 | _,_=>none }
theorem byteD_L (s:ByteArray):byteD s=byteL s.data.toList:=by
 funext i
 simp only[byteD,byteL,byteAt,Array.getElem?_toList]
theorem byteL_app (l m:List UInt8):(fun i=>bif Nat.blt i l.length then byteL l i else byteL m (i-l.length))=byteL (l++m):=by
 funext i
 cases h:Nat.blt i l.length with
 | true=>
  rw[Nat.blt_eq] at h
  simp only[cond_true,byteL,List.getElem?_append_left h]
 | false=>
  have h:¬i<l.length:=by rw[←Nat.blt_eq,h];decide
  simp only[cond_false,byteL,List.getElem?_append_right (Nat.le_of_not_lt h)]
theorem f177_fresh (s:ByteArray) (hs:s.size≤281474976710):FnM Tryz.prog G 177 [.tb 1000000 0 184,vs s] [(1000000,[nilP,.d (.con (.slice none 0 0))])] (.d (.tup [di s.size,.con .nilIface]))
  [(1000000,[.box 1000000 0,.vec 14 1 0 s.data.toList.length]),(14,[.arr byteK 1 (byteL s.data.toList)])]:=by
 refine FnM.walk (orc:=orcCC) (keep:=[]) [] follows (by kernel_rfl) Tryz.func177 rfl Tryz.call177 ?_
 refine of_tr (fun _ _ _ _=>(FnM Tryz.prog G 203 [(.tb 1000000 0 184)] [(1000000,[(.d (.con (.pointer none))),(.d (.con (.slice none 0 0)))])] (.d (.tup [])) [(1000000,[(.box 1000000 0),(.d (.con (.slice none 0 0)))])]∧((s.size*1≤1099511627776)∧(s.size≤1099511627776))∧(ZS ((.d (.tup [(di (↑s.size)),(.con .nilIface)])):AV))∧((some [(.box 1000000 0),(.vec 14 1 0 s.size)]):(Option (List AV)))=(some [(.box 1000000 0),(.vec 14 1 0 s.data.toList.length)])∧((some [(.arr ⟨false,5,false,none⟩ 1 (byteD s))]):(Option (List AV)))=(some [(.arr ⟨false,5,false,none⟩ 1 (byteL s.data.toList))])∧True)) (by kernel_rfl) ?_
 refine⟨f203_fresh _ _,⟨by omega,by omega⟩,rfl,?_,?_,trivial⟩
 ·rw[size_list]
 ·rw[byteD_L]
theorem f177_used (s:ByteArray) (l:List UInt8) (hs:l.length+s.size≤281474976710):FnM Tryz.prog G 177 [.tb 1000000 0 184,vs s] [(1000000,[.box 1000000 0,.vec 1000001 1 0 l.length]),(1000001,[.arr byteK 1 (byteL l)])] (.d (.tup [di s.size,.con .nilIface]))
  [(1000000,[.box 1000000 0,.vec 14 1 0 (l++s.data.toList).length]),(14,[.arr byteK 1 (byteL (l++s.data.toList))])]:=by
 refine FnM.walk (orc:=orcCC) (keep:=[]) [] follows (by kernel_rfl) Tryz.func177 rfl Tryz.call177 ?_
 refine of_tr (fun _ _ _ _=>(FnM Tryz.prog G 203 [(.tb 1000000 0 184)] [(1000000,[(.box 1000000 0),(.vec 1000001 1 0 l.length)]),(1000001,[(.arr ⟨false,5,false,none⟩ 1 (byteL l))])] (.d (.tup [])) [(1000000,[(.box 1000000 0),(.vec 1000001 1 0 l.length)]),(1000001,[(.arr ⟨false,5,false,none⟩ 1 (byteL l))])]∧(((l.length+s.size)*1≤1099511627776)∧(l.length+s.size≤1099511627776))∧(ZS ((.d (.tup [(di (↑s.size)),(.con .nilIface)])):AV))∧((some [(.box 1000000 0),(.vec 14 1 0 (l.length+s.size))]):(Option (List AV)))=(some [(.box 1000000 0),(.vec 14 1 0 (l++s.data.toList).length)])∧((some [(.arr ⟨false,5,false,none⟩ 1 (fun i=>bif i.blt l.length then byteL l i else byteD s (i-l.length)))]):(Option (List AV)))=(some [(.arr ⟨false,5,false,none⟩ 1 (byteL (l++s.data.toList)))])∧True)) (by kernel_rfl) ?_
 refine⟨f203_used (.tb 1000000 0 184) _ (fun β h v hv=>hv.1) _,⟨by omega,by omega⟩,rfl,?_,?_,trivial⟩
 ·rw[List.length_append,size_list]
 ·rw[byteD_L,byteL_app]
/-! The text of rules. -/
def rl0:Rl:=⟨0,.empty,.empty,ex0,ex0,0,0,0⟩
def rlF (R:List Rl) (i:Nat):DV:=rlD (R.getD i rl0)
abbrev rlsD (R:List Rl):DV:=.slc 16 R.length (rlF R)
def catB (R:List Rl):Nat→ByteArray
 | 0=>.empty
 | k+1=>catB R k++lnB (R.getD k rl0)
def fmtR (R:List Rl):ByteArray:=if R.length>32 then .empty else if R.any (fun r=>!ruB r) then .empty else if (catB R R.length).size>16384 then .empty else catB R R.length
def bB (n:Nat) (f:Nat→DV):ByteArray:=bs (bytesOf n f)
theorem bB_eq (t:ByteArray):bB t.size (byteD t)=t:=by
 unfold bB bs
 rw[byteD_L,←size_list]
 have:bytesOf t.data.toList.length (byteL t.data.toList)=t.data.toList:=by
  unfold bytesOf
  apply List.ext_getElem
  ·simp
  ·intro i h1 h2
   have h3:i<t.data.size:=by simpa using h2
   have e3:t.data[i]?=some t.data[i]:=Array.getElem?_eq_getElem h3
   simp[byteL,byteOfD,e3]
 rw[this]
def orcBm:FuncId→List AV→List (Nat×List AV)→Option (AV×List (Nat×List AV)):=fun f args pre=>match f,args,pre with
 | 177,[_,.d (.con (.string s))],[(u,[.d (.con (.pointer none)),.d (.con (.slice none _ _))])]=>some (.d (.tup [di s.size,.con .nilIface]),[(u,[.box u 0,.vec 14 1 0 s.size]),(14,[.arr byteK 1 (byteD s)])])
 | 177,[_,.d (.con (.string s))],[(u,[.box _ 0,.vec v 1 0 n]),(_,[.arr k 1 f])]=>some (.d (.tup [di s.size,.con .nilIface]),[(u,[.box u 0,.vec 14 1 0 (bB n f++s).size]),(14,[.arr byteK 1 (byteD (bB n f++s))])])
 | 179,[_],[(u,[A,.vec v 1 0 n]),(w,[.arr k 1 f])]=>some (vi n,[(u,[A,.vec v 1 0 n]),(w,[.arr k 1 f])])
 | 179,[_],[(u,[A,.d (.con (.slice none 0 0))])]=>some (vi 0,[(u,[A,.d (.con (.slice none 0 0))])])
 | 180,[_],[(u,[A,.vec v 1 0 n]),(w,[.arr k 1 f])]=>some (.d (ds (bB n f)),[(u,[A,.vec v 1 0 n]),(w,[.arr byteF 1 f])])
 | 180,[_],[(u,[A,.d (.con (.slice none 0 0))])]=>some (.d (ds .empty),[(u,[A,.d (.con (.slice none 0 0))])])
 | _,_,_=>none
theorem f177a (s:ByteArray) (hs:s.size≤281474976710):FnM Tryz.prog G 177 [.tb 1000000 0 184,vs s] [(1000000,[nilP,.d (.con (.slice none 0 0))])] (.d (.tup [di s.size,.con .nilIface]))
  [(1000000,[.box 1000000 0,.vec 14 1 0 s.size]),(14,[.arr byteK 1 (byteD s)])]:=by
 have:=f177_fresh (G:=G) s hs
 rwa [size_list,←byteD_L] at this
theorem f177b (s t:ByteArray) (hs:t.size+s.size≤281474976710):FnM Tryz.prog G 177 [.tb 1000000 0 184,vs s] [(1000000,[.box 1000000 0,.vec 1000001 1 0 t.size]),(1000001,[.arr byteK 1 (byteD t)])] (.d (.tup [di s.size,.con .nilIface]))
  [(1000000,[.box 1000000 0,.vec 14 1 0 (t++s).size]),(14,[.arr byteK 1 (byteD (t++s))])]:=by
 have:=f177_used (G:=G) s t.data.toList (by rw[size_list];exact hs)
 have e:t.data.toList++s.data.toList=(t++s).data.toList:=by rw[ByteArray.data_append,Array.toList_append]
 rwa [e,size_list,size_list,←byteD_L,←byteD_L] at this
theorem f180a (y A:AV) (hy:∀β h v,y.rel β h v→v=.pointer (some ⟨blk β 1000000,0,none⟩)) (t:ByteArray) (h0:0<t.size) (hl:t.size≤4611686018427387904) :
  FnM Tryz.prog G 180 [y] [(1000000,[A,.vec 1000001 1 0 t.size]),(1000001,[.arr byteK 1 (byteD t)])] (.d (ds t)) [(1000000,[A,.vec 1000001 1 0 t.size]),(1000001,[.arr byteF 1 (byteD t)])]:=by
 have:=f180 (G:=G) y A hy false t.data.toList (fun e=>by rw[←size_list,e] at h0;simp at h0) (by rw[size_list];exact hl)
 rw[size_list,←byteD_L] at this
 exact this
theorem f179 (A:AV) (n:Nat) (k:RK) (f:Nat→DV):FnM Tryz.prog G 179 [.tb 1000000 0 184] [(1000000,[A,.vec 1000001 1 0 n]),(1000001,[.arr k 1 f])] (vi n) [(1000000,[A,.vec 1000001 1 0 n]),(1000001,[.arr k 1 f])]:=by
 refine FnM.walk (orc:=noO) (keep:=[]) [] follows (by kernel_rfl) Tryz.func179 rfl Tryz.call179 ?_
 refine of_tr (fun _ _ _ _=>((ZS ((vi (↑n)):AV))∧((some [A,(.vec 1000001 1 0 n)]):(Option (List AV)))=(some [A,(.vec 1000001 1 0 n)])∧((some [(.arr k 1 f)]):(Option (List AV)))=(some [(.arr k 1 f)])∧True)) (by kernel_rfl) ?_
 exact⟨rfl,rfl,rfl,trivial⟩
theorem f179n (A:AV):FnM Tryz.prog G 179 [.tb 1000000 0 184] [(1000000,[A,.d (.con (.slice none 0 0))])] (vi 0) [(1000000,[A,.d (.con (.slice none 0 0))])]:=by
 refine FnM.walk (orc:=noO) (keep:=[]) [] follows (by kernel_rfl) Tryz.func179 rfl Tryz.call179 ?_
 refine of_tr (fun _ _ _ _=>((ZS ((vi 0):AV))∧((some [A,(.d (.con (.slice none 0 0)))]):(Option (List AV)))=(some [A,(.d (.con (.slice none 0 0)))])∧True)) (by kernel_rfl) ?_
 exact⟨rfl,rfl,trivial⟩
noncomputable def rdR (d:DV):Rl:=match d with
 | .agg [.con (.int _ k),.con (.string nm),.con (.string gr),a1,a2,a3,a4,a5,a6,b1,b2,b3,b4,b5,b6,.con (.int _ p)]=>⟨k,nm,gr,rdE (.agg [a1,a2,a3,a4,a5,a6]),rdE (.agg [b1,b2,b3,b4,b5,b6]),p,0,0⟩
 | _=>rl0
theorem rdR_eq {r:Rl} (h:RlS r):rdR (rlD r)={ r with ma:=0,mw:=0 }:=by
 have e1:rdE (ndX r.ma r.am)=r.am:=rdE_eq h.ha
 have e2:rdE (ndX r.mw r.wh)=r.wh:=rdE_eq h.hw
 show Rl.mk r.kind r.nm r.gr (rdE (ndX r.ma r.am)) (rdE (ndX r.mw r.wh)) r.pos 0 0=_
 rw[e1,e2]
theorem ru_rd {r:Rl} (h:RlS r):ruB (rdR (rlD r))=ruB r:=by rw[rdR_eq h];rfl
theorem ln_rd {r:Rl} (h:RlS r):lnB (rdR (rlD r))=lnB r:=by rw[rdR_eq h];rfl
noncomputable def orcFd:Oracle:=fun f a=>match f,a with
 | 176,[d]=>some (db (ruB (rdR d)))
 | 178,[d]=>some (ds (lnB (rdR d)))
 | _,_=>none
noncomputable def orcFm:Orc:={ d:=orcFd,ty:=fun T=>Nat.beq T 184,m:=orcBm }
theorem getD_mem' {α:Type} {l:List α} {i:Nat} {x0:α} (h:i<l.length):l.getD i x0∈l:=by
 rw[List.getD,gEe h];exact List.getElem_mem h
theorem ln_small {r:Rl} (h:RlS r) (hr:ruB r=true):(lnB r).size≤300000∧0<(lnB r).size:=by
 have hh:=hr
 unfold ruB at hh
 simp only[bAt,dEt] at hh
 obtain ⟨⟨⟨⟨⟨⟨hk0,hk4⟩,hn⟩,hg⟩,hd⟩,ha⟩,hw⟩:=hh
 have hks:∀i,(kdL.getD i .empty).size≤7:=fun i=>by
  rcases i with _|_|_|_|i
  ·decide
  ·decide
  ·decide
  ·decide
  ·show (ByteArray.empty).size≤7
   decide
 have s1:=hks r.kind.toNat
 have s2:=h.nm
 have s3:=h.gr
 have s4:=fmt_small _ _ (Nat.le_refl _) ha
 have n4:=h.am.nd
 have n5:=h.wh.nd
 have c1:(ByteArray.mk #[32]).size=1:=rfl
 have c2:(ByteArray.mk #[32,105,110,32]).size=4:=rfl
 have c3:(ByteArray.mk #[58,32]).size=2:=rfl
 have c4:(ByteArray.mk #[32,105,102,32]).size=4:=rfl
 have c5:(ByteArray.mk #[59,10]).size=2:=rfl
 have c0:(ByteArray.empty).size=0:=rfl
 have g1:(if r.gr.size=0 then ByteArray.empty else ⟨#[32,105,110,32]⟩++r.gr).size≤1004:=by
  split
  ·omega
  ·rw[bSa];omega
 have g2:(if r.wh.k=0 then ByteArray.empty else ⟨#[32,105,102,32]⟩++fmtE r.wh).size≤120004:=by
  split
  ·omega
  ·rename_i hc
   have hs:sndE r.wh=true:=by
    rcases (Bool.or_eq_true ..).mp hw with h1|h1
    ·unfold nonB at h1
     simp only[bAt,beq_iff_eq] at h1
     exact absurd h1.1.1.1 hc
    ·exact h1
   have:=fmt_small _ _ (Nat.le_refl _) hs
   rw[bSa];omega
 unfold lnB
 simp only[bSa]
 omega
theorem cat_small {R:List Rl} (hR:∀i,i<R.length→RlS (R.getD i rl0)):∀k,k≤R.length→(∀i,i<k→ruB (R.getD i rl0)=true)→(catB R k).size≤300000*k∧(0<k→0<(catB R k).size)
 | 0,_,_=>⟨Nat.le_refl _,fun h=>absurd h (by decide)⟩
 | k+1,hk,hu=>by
  have ih:=cat_small hR k (by omega) fun i hi=>hu i (by omega)
  have h1:=ln_small (hR k hk) (hu k (by omega))
  simp only[catB,bSa]
  omega
theorem any_bad {R:List Rl} {k:Nat} (hk:k<R.length) (h:ruB (R.getD k rl0)=false):(R.any fun r=>!ruB r)=true:=by
 rw[List.any_eq_true]
 exact⟨_,getD_mem' hk,by rw[h];rfl⟩
def bx114 (R:List Rl) (k:Nat):List (Nat×List AV):=match Nat.beq k 0 with
 | true=>[(3,[nilP,.d (.con (.slice none 0 0))])]
 | false=>[(3,[.box 3 0,.vec 900 1 0 (catB R k).size]),(900,[.arr byteK 1 (byteD (catB R k))])]
noncomputable def S114 (R:List Rl) (k:Nat):AS:=⟨regs Tryz.f151.ntmps [(3,.tb 3 0 184),(9,.d (rlsD R)),(10,vi R.length),(11,vi k)],bx114 R k⟩
theorem f151 (hT:Tab G) (R:List Rl) (hR:∀i,i<R.length→RlS (R.getD i rl0)) (hl:R.length≤9223372036854775807):FnOK Tryz.prog G 151 [rlsD R] (ds (fmtR R)):=by
 refine FnOK.walkK (orc:=orcFm) (keep:=[]) follows Tryz.func151 rfl Tryz.call151 ?_
 refine of_tr (fun ZT ZW ZQ _=>((((decide ((↑R.length:Int)>32))=true)→(((ds (ByteArray.mk #[])):DV)=(ds (fmtR R))))∧(((decide ((↑R.length:Int)>32))=false)→ZW [cd Tryz.f151 [1,1,1,0,1,0],(.blk 0),cd Tryz.f151 [1,1,1,1]] (stS ZT [1]) ZQ))) (by kernel_rfl) ?_
 refine⟨fun h=>?_,fun h=>?_⟩
 ·have:R.length>32:=by have:=oDt h;omega
  unfold fmtR
  rw[if_pos this];rfl
 have hl32:¬R.length>32:=by have:=of_decide_eq_false h;omega
 refine AWP.loop (c:=cAt (bodyOf Tryz.f151) [1,1,1,0,1,0,0]) (by kernel_rfl) (S114 R) (fun k=>k≤R.length∧∀i,i<k→ruB (R.getD i rl0)=true) (fun k=>R.length-k) 0 ?_ ⟨Nat.zero_le _,fun i hi=>by omega⟩ ?_
 ·exact AS.leA (by kernel_rfl)
 ·rintro k ⟨hk,hkd⟩
  have hbad:∀k,k<R.length→(!ruB (R.getD k rl0))=true→(ds ⟨#[]⟩:DV)=ds (fmtR R):=fun k h1 h2=>by
   unfold fmtR
   rw[if_neg hl32,if_pos (any_bad h1 (by simpa using h2))];rfl
  have hgood:(∀i,i<R.length→ruB (R.getD i rl0)=true)→(R.any fun r=>!ruB r)=false:=fun h=>by
   rw[List.any_eq_false]
   intro r hr
   obtain ⟨i,hi,rfl⟩:=List.getElem_of_mem hr
   have:=h i hi
   rw[List.getD,gEe hi,Option.getD_some] at this
   rw[this];decide
  rcases k with _|k
  ·refine walkK (orc:=orcFm) (keep:=[]) (cuts:=[]) (n:=1000) follows ?_
   refine of_rd (fun ZT ZW ZQ ZK ZA _=>(fun Za=>((((decide (0<(↑R.length:Int)))=true)→((((0:Int)≤(0:Int))∧(0<(↑R.length:Int)))∧ZK 176 [Za] (db (ruB (rdR Za)))∧(((!ruB (rdR Za))=true)→(((ds (ByteArray.mk #[])):DV)=(ds (fmtR R))))∧(((!ruB (rdR Za))=false)→((ZK 178 [Za] (ds (lnB (rdR Za)))∧FnM Tryz.prog G 177 [(.tb 1000000 0 184),(vs (lnB (rdR Za)))] [(1000000,[(.d (.con (.pointer none))),(.d (.con (.slice none 0 0)))])] (.d (.tup [(di (↑(lnB (rdR Za)).size)),(.con .nilIface)])) [(1000000,[(.box 1000000 0),(.vec 14 1 0 (lnB (rdR Za)).size)]),(14,[(.arr ⟨false,5,false,none⟩ 1 (byteD (lnB (rdR Za))))])])∧(I64 (0+1))∧(ZA (stS ZT [0,1]))))))∧(((decide (0<(↑R.length:Int)))=false)→ZW [cd Tryz.f151 [1,1,1,1]] (stS ZT [1]) ZQ))) (rlD (R.getD (Int.toNat 0) rl0))) (by kernel_rfl) ?_
   refine⟨fun h1=>?_,fun h1=>?_⟩
   ·have hk2:0<R.length:=by have:=oDt h1;omega
    have hs:=hR 0 hk2
    rw[show Int.toNat 0=0 from rfl,ru_rd hs,ln_rd hs]
    refine⟨⟨by omega,by omega⟩,f176 hT _ hs,fun h2=>hbad 0 hk2 h2,fun h2=>?_⟩
    have h2:ruB (R.getD 0 rl0)=true:=by simpa using h2
    have hz:=ln_small hs h2
    refine⟨⟨f178 hT _ hs h2,f177a _ (by omega)⟩,⟨by omega,by omega⟩,Again.mkR [(21014,900)] rfl 1 ?_ ⟨hk2,fun i hi=>(by obtain rfl:i=0:=(by omega);exact h2)⟩ (by omega)⟩
    have e:catB R 1=lnB (rdR (rlD (R.getD 0 rl0))):=by
     rw[ln_rd hs]
     show ByteArray.empty++lnB (R.getD 0 rl0)=_
     exact ByteArray.empty_append
    refine AS.leZ [] [0,1] (b:=((T0∧T0∧T0∧T0∧True)∧((some [(.box 3 0),(.vec 900 1 0 (lnB (rdR (rlD (R.getD (↑0:Int).toNat rl0)))).size)]):(Option (List AV)))=(some [(.box 3 0),(.vec 900 1 0 (catB R 1).size)])∧((some [(.arr ⟨false,5,false,none⟩ 1 (byteD (lnB (rdR (rlD (R.getD (↑0:Int).toNat rl0))))))]):(Option (List AV)))=(some [(.arr ⟨false,5,false,none⟩ 1 (byteD (catB R 1)))])∧True)) (by kernel_rfl) (by kernel_rfl) ?_
    rw[e]
    exact⟨⟨rfl,rfl,rfl,rfl,trivial⟩,rfl,rfl,trivial⟩
   ·have h1:=of_decide_eq_false h1
    have h0:R.length=0:=by omega
    refine walkK (orc:=orcFm) (keep:=[]) (cuts:=[]) (n:=1000) follows ?_
    refine of_tr (fun _ _ _ _=>(FnM Tryz.prog G 179 [(.tb 1000000 0 184)] [(1000000,[(.d (.con (.pointer none))),(.d (.con (.slice none 0 0)))])] (vi 0) [(1000000,[(.d (.con (.pointer none))),(.d (.con (.slice none 0 0)))])]∧((false=true)→(((ds (ByteArray.mk #[])):DV)=(ds (fmtR R))))∧((false=false)→(FnM Tryz.prog G 180 [(.tb 1000000 0 184)] [(1000000,[(.d (.con (.pointer none))),(.d (.con (.slice none 0 0)))])] (vs ByteArray.empty) [(1000000,[(.d (.con (.pointer none))),(.d (.con (.slice none 0 0)))])]∧((ds ByteArray.empty):DV)=(ds (fmtR R)))))) (by kernel_rfl) ?_
    refine⟨f179n _,fun h=>(by cases h),fun _=>⟨f180n _ _ (fun β h v hv=>hv.1),?_⟩⟩
    obtain rfl:=List.eq_nil_of_length_eq_zero h0
    rfl
  ·refine walkK (orc:=orcFm) (keep:=[]) (cuts:=[]) (n:=1000) follows ?_
   refine of_rd (fun ZT ZW ZQ ZK ZA _=>(fun Za=>((((decide ((↑(k+1):Int)<↑R.length))=true)→(((0≤(↑(k+1):Int))∧((↑(k+1):Int)<↑R.length))∧ZK 176 [Za] (db (ruB (rdR Za)))∧(((!ruB (rdR Za))=true)→(((ds (ByteArray.mk #[])):DV)=(ds (fmtR R))))∧(((!ruB (rdR Za))=false)→((ZK 178 [Za] (ds (lnB (rdR Za)))∧FnM Tryz.prog G 177 [(.tb 1000000 0 184),(vs (lnB (rdR Za)))] [(1000000,[(.box 1000000 0),(.vec 1000001 1 0 (catB R (k+1)).size)]),(1000001,[(.arr ⟨false,5,false,none⟩ 1 (byteD (catB R (k+1))))])] (.d (.tup [(di ((↑(ByteArray.size (lnB (rdR (rlD (List.getD R (Int.toNat (↑(k+1):Int)) rl0))))):Int))),(.con .nilIface)])) [(1000000,[(.box 1000000 0),(.vec 14 1 0 (bB (catB R (k+1)).size (byteD (catB R (k+1)))++lnB (rdR Za)).size)]),(14,[(.arr ⟨false,5,false,none⟩ 1 (byteD (bB (catB R (k+1)).size (byteD (catB R (k+1)))++lnB (rdR Za))))])])∧(I64 (↑(k+1)+1))∧(ZA (stS ZT [0,1]))))))∧(((decide ((↑(k+1):Int)<↑R.length))=false)→ZW [cd Tryz.f151 [1,1,1,1]] (stS ZT [1]) ZQ))) (rlD (R.getD ((↑(k+1):Int)).toNat rl0))) (by kernel_rfl) ?_
   refine⟨fun h1=>?_,fun h1=>?_⟩
   ·have hk2:k+1<R.length:=by have:=oDt h1;omega
    have hs:=hR (k+1) hk2
    have hc:=cat_small hR (k+1) (by omega) hkd
    rw[show ((k+1:Nat):Int).toNat=k+1 from rfl,ru_rd hs,ln_rd hs,bB_eq]
    refine⟨⟨by omega,by omega⟩,f176 hT _ hs,fun h2=>hbad _ hk2 h2,fun h2=>?_⟩
    have h2:ruB (R.getD (k+1) rl0)=true:=by simpa using h2
    have hz:=ln_small hs h2
    refine⟨⟨f178 hT _ hs h2,f177b _ _ (by omega)⟩,⟨by omega,by omega⟩,Again.mkR [(21014,900)] rfl (k+1+1) ?_ ⟨hk2,fun i hi=>?_⟩ (by omega)⟩
    ·have e:catB R (k+1+1)=bB (catB R (k+1)).size (byteD (catB R (k+1)))++lnB (rdR (rlD (R.getD (k+1) rl0))):=by
      rw[ln_rd hs,bB_eq];rfl
     refine AS.leZ [] [0,1] (b:=((T0∧T0∧T0∧T0∧True)∧((some [(.box 3 0),(.vec 900 1 0 (bB (catB R (k+1)).size (byteD (catB R (k+1)))++lnB (rdR (rlD (R.getD ((↑(k+1):Int)).toNat rl0)))).size)]):(Option (List AV)))=(some [(.box 3 0),(.vec 900 1 0 (catB R (k+1+1)).size)])∧((some [(.arr ⟨false,5,false,none⟩ 1 (byteD (bB (catB R (k+1)).size (byteD (catB R (k+1)))++lnB (rdR (rlD (R.getD ((↑(k+1):Int)).toNat rl0))))))]):(Option (List AV)))=(some [(.arr ⟨false,5,false,none⟩ 1 (byteD (catB R (k+1+1))))])∧True)) (by kernel_rfl) (by kernel_rfl) ?_
     rw[e]
     exact⟨⟨rfl,rfl,rfl,rfl,trivial⟩,rfl,rfl,trivial⟩
    ·rcases Nat.lt_or_ge i (k+1) with h4|h4
     ·exact hkd i h4
     ·obtain rfl:i=k+1:=by omega
      exact h2
   ·have h1:=of_decide_eq_false h1
    obtain h0:R.length=k+1:=by omega
    have hc:=cat_small hR (k+1) (by omega) hkd
    refine walkK (orc:=orcFm) (keep:=[]) (cuts:=[]) (n:=1000) follows ?_
    refine of_tr (fun _ _ _ _=>(fun Za Zb=>(FnM Tryz.prog G 179 [(.tb 1000000 0 184)] [(1000000,[(.box 1000000 0),Zb]),(1000001,[Za])] (vi (↑(catB R (k+1)).size)) [(1000000,[(.box 1000000 0),Zb]),(1000001,[Za])]∧(((decide ((↑(catB R (k+1)).size:Int)>16384))=true)→(((ds (ByteArray.mk #[])):DV)=(ds (fmtR R))))∧(((decide ((↑(catB R (k+1)).size:Int)>16384))=false)→(FnM Tryz.prog G 180 [(.tb 1000000 0 184)] [(1000000,[(.box 1000000 0),Zb]),(1000001,[Za])] (vs (bB (catB R (k+1)).size (byteD (catB R (k+1))))) [(1000000,[(.box 1000000 0),Zb]),(1000001,[(.arr ⟨false,5,true,none⟩ 1 (byteD (catB R (k+1))))])]∧((ds (bB (catB R (k+1)).size (byteD (catB R (k+1))))):DV)=(ds (fmtR R)))))) ((.arr ⟨false,5,false,none⟩ 1 (byteD (catB R (k+1)))):AV) ((.vec 1000001 1 0 (catB R (k+1)).size):AV)) (by kernel_rfl) ?_
    have hf:fmtR R=if (catB R (k+1)).size>16384 then .empty else catB R (k+1):=by
     unfold fmtR
     rw[if_neg hl32,hgood (fun i hi=>hkd i (by omega)),if_neg (by decide),h0]
    rw[bB_eq,hf]
    refine⟨f179 _ _ _ _,fun h2=>?_,fun h2=>⟨f180a (.tb 1000000 0 184) _ (fun β h v hv=>hv.1) _ (hc.2 (by omega)) (by omega),?_⟩⟩
    ·rw[if_pos (by have:=oDt h2;omega)];rfl
    ·rw[if_neg (by have:=of_decide_eq_false h2;omega)]
/-! Checked rules. -/
abbrev rlL (r:Rl):List DV:=[di r.kind,ds r.nm,ds r.gr,di r.am.k,ds r.am.s,di r.am.n,di r.am.d,di r.am.pos,.slc 6 r.am.kids.length (lay (exG r.ma) r.am.kids),di r.wh.k,ds r.wh.s,di r.wh.n,di r.wh.d,di r.wh.pos,.slc 6 r.wh.kids.length (lay (exG r.mw) r.wh.kids),di r.pos]
def vaR (R:List Rl):Bool:=decide (R.length=0)||!decide ((fmtR R).size=0)
noncomputable def orc66 (R:List Rl):Oracle:=fun f a=>match f,a with
 | 151,[_]=>some (ds (fmtR R))
 | _,_=>none
theorem f110 (hT:Tab G) (R:List Rl) (hR:∀i,i<R.length→RlS (R.getD i rl0)) (hl:R.length≤9223372036854775807):FnOK Tryz.prog G 110 [rlsD R] (db (vaR R)):=by
 refine FnOK.walkK (orc:=orc66 R) (keep:=[]) follows Tryz.func110 rfl Tryz.call110 ?_
 refine of_tr (fun _ _ _ ZK=>((((!(↑R.length:Int)==0)=true)→ZK 151 [(.slc 16 R.length (rlF R))] (ds (fmtR R)))∧((db ((↑R.length:Int)==0||!(fmtR R).toList==(ByteArray.mk #[]).toList)):DV)=(db (vaR R)))) (by kernel_rfl) ?_
 refine⟨fun _=>f151 hT R hR hl,?_⟩
 rw[emp_beq,show ((R.length:Int)==0)=decide (R.length=0) by rw[Bool.eq_iff_iff];simp]
 rfl
theorem f113 (x r:Rl):FnOK Tryz.prog G 113 [rlD x,.ptr (rlL r)] (db (decide (x.nm=r.nm))):=by
 refine FnOK.walkK (orc:=noO) (keep:=[]) follows Tryz.func113 rfl Tryz.call113 ?_
 refine of_tr (fun _ _ _ _=>(((db (x.nm.toList==r.nm.toList)):DV)=(db (decide (x.nm=r.nm))))) (by kernel_rfl) ?_
 rw[toList_beq]
theorem f114 (x r:Rl):FnOK Tryz.prog G 114 [rlD x,.ptr (rlL r)] (db (decide (x.gr=r.nm))):=by
 refine FnOK.walkK (orc:=noO) (keep:=[]) follows Tryz.func114 rfl Tryz.call114 ?_
 refine of_tr (fun _ _ _ _=>(((db (x.gr.toList==r.nm.toList)):DV)=(db (decide (x.gr=r.nm))))) (by kernel_rfl) ?_
 rw[toList_beq]
noncomputable def orcRa (p:Rl→Bool) (l:List Rl):Oracle:=fun f a=>match f,a with
 | 113,[d,_]=>some (db (p (rdR d)))
 | 152,[_,_]=>some (di (idI p l))
 | _,_=>none
noncomputable def S115a (l:List Rl) (c:DV) (k:Nat):AS:=⟨regs Tryz.f152.ntmps [(0,.d (rlsD l)),(1,.d (.clo (.func 113) [] [c])),(7,vi l.length),(8,vi k)],[]⟩
theorem f152a (p:Rl→Bool) (l:List Rl) (c:DV) (hl:l.length≤1000000) (hp:∀i,i<l.length→p (rdR (rlD (l.getD i rl0)))=p (l.getD i rl0)) (hc:∀i,i<l.length→FnOK Tryz.prog G 113 [rlD (l.getD i rl0),c] (db (p (l.getD i rl0)))):FnOK Tryz.prog G 152 [rlsD l,(.clo (.func 113) [] [c])] (di (idI p l)):=by
 refine FnOK.walkK (orc:=orcRa p l) (keep:=[]) follows Tryz.func152 rfl Tryz.call152 ?_
 refine of_tr (fun ZT ZW ZQ _=>ZW [cd Tryz.f152 [1,0,1,0],(.blk 0),cd Tryz.f152 [1,1]] (stS ZT []) ZQ) (by kernel_rfl) ?_
 refine AWP.loop (c:=cAt (bodyOf Tryz.f152) [1,0,1,0,0]) (by kernel_rfl) (S115a l c) (fun k=>k≤l.length∧∀i,i<k→p (l.getD i rl0)=false) (fun k=>l.length-k) 0 ?_ ⟨Nat.zero_le _,fun i hi=>by omega⟩ ?_
 ·exact AS.leA (by kernel_rfl)
 ·rintro k ⟨hk,hkd⟩
  refine walkK (orc:=orcRa p l) (keep:=[]) (cuts:=[]) (n:=1000) follows ?_
  refine of_rd (fun ZT ZW ZQ ZK ZA _=>(fun Za=>((((decide ((↑k:Int)<↑l.length))=true)→((((0≤(↑k:Int))∧((↑k:Int)<↑l.length))∧ZK 113 [Za,c] (db (p (rdR Za))))∧(((p (rdR Za))=true)→(((di (↑k)):DV)=(di (idI p l))))∧(((p (rdR Za))=false)→((I64 (↑k+1))∧(ZA (stS ZT [0,1]))))))∧(((decide ((↑k:Int)<↑l.length))=false)→ZW [cd Tryz.f152 [1,1]] (stS ZT [1]) ZQ))) (rlD (l.getD (↑k:Int).toNat rl0))) (by kernel_rfl) ?_
  simp only[iTn]
  refine⟨fun h=>?_,fun h=>?_⟩
  ·have hk2:k<l.length:=by have:=oDt h;omega
   rw[hp k hk2]
   refine⟨⟨⟨by omega,by omega⟩,hc k hk2⟩,fun h2=>?_,fun h2=>⟨⟨by omega,by omega⟩,Again.mk (k+1) ?_ ⟨hk2,fun i hi=>?_⟩ (by omega)⟩⟩
   ·rw[(idI_hit hk2 hkd h2).2]
   ·exact AS.leA (by kernel_rfl)
   ·rcases Nat.lt_or_ge i k with h4|h4
    ·exact hkd i h4
    ·obtain rfl:i=k:=by omega
     exact h2
  ·simp only[decide_eq_false_iff_not] at h
   have hst:=idI_none (p:=p) (L:=l) (x0:=rl0) fun i hi=>hkd i (by omega)
   refine walkK (orc:=orcRa p l) (keep:=[]) (cuts:=[]) (n:=1000) follows ?_
   refine of_tr (fun _ _ _ _=>(((di (-1)):DV)=(di (idI p l)))) (by kernel_rfl) ?_
   rw[hst.2]
theorem f112a (p:Rl→Bool) (l:List Rl) (c:DV) (hl:l.length≤1000000) (hp:∀i,i<l.length→p (rdR (rlD (l.getD i rl0)))=p (l.getD i rl0)) (hc:∀i,i<l.length→FnOK Tryz.prog G 113 [rlD (l.getD i rl0),c] (db (p (l.getD i rl0)))):FnOK Tryz.prog G 112 [rlsD l,(.clo (.func 113) [] [c])] (db (l.any p)):=by
 refine FnOK.walkK (orc:=orcRa p l) (keep:=[]) follows Tryz.func112 rfl Tryz.call112 ?_
 refine of_tr (fun _ _ _ ZK=>(ZK 152 [(.slc 16 l.length (rlF l)),(.clo (.func 113) [] [c])] (di (idI p l))∧((db (decide (idI p l≥0))):DV)=(db (l.any p)))) (by kernel_rfl) ?_
 refine⟨f152a p l c hl hp hc,?_⟩
 rw[idI_ge]
noncomputable def orcRb (p:Rl→Bool) (l:List Rl):Oracle:=fun f a=>match f,a with
 | 114,[d,_]=>some (db (p (rdR d)))
 | 152,[_,_]=>some (di (idI p l))
 | _,_=>none
noncomputable def S115b (l:List Rl) (c:DV) (k:Nat):AS:=⟨regs Tryz.f152.ntmps [(0,.d (rlsD l)),(1,.d (.clo (.func 114) [] [c])),(7,vi l.length),(8,vi k)],[]⟩
theorem f152b (p:Rl→Bool) (l:List Rl) (c:DV) (hl:l.length≤1000000) (hp:∀i,i<l.length→p (rdR (rlD (l.getD i rl0)))=p (l.getD i rl0)) (hc:∀i,i<l.length→FnOK Tryz.prog G 114 [rlD (l.getD i rl0),c] (db (p (l.getD i rl0)))):FnOK Tryz.prog G 152 [rlsD l,(.clo (.func 114) [] [c])] (di (idI p l)):=by
 refine FnOK.walkK (orc:=orcRb p l) (keep:=[]) follows Tryz.func152 rfl Tryz.call152 ?_
 refine of_tr (fun ZT ZW ZQ _=>ZW [cd Tryz.f152 [1,0,1,0],(.blk 0),cd Tryz.f152 [1,1]] (stS ZT []) ZQ) (by kernel_rfl) ?_
 refine AWP.loop (c:=cAt (bodyOf Tryz.f152) [1,0,1,0,0]) (by kernel_rfl) (S115b l c) (fun k=>k≤l.length∧∀i,i<k→p (l.getD i rl0)=false) (fun k=>l.length-k) 0 ?_ ⟨Nat.zero_le _,fun i hi=>by omega⟩ ?_
 ·exact AS.leA (by kernel_rfl)
 ·rintro k ⟨hk,hkd⟩
  refine walkK (orc:=orcRb p l) (keep:=[]) (cuts:=[]) (n:=1000) follows ?_
  refine of_rd (fun ZT ZW ZQ ZK ZA _=>(fun Za=>((((decide ((↑k:Int)<↑l.length))=true)→((((0≤(↑k:Int))∧((↑k:Int)<↑l.length))∧ZK 114 [Za,c] (db (p (rdR Za))))∧(((p (rdR Za))=true)→(((di (↑k)):DV)=(di (idI p l))))∧(((p (rdR Za))=false)→((I64 (↑k+1))∧(ZA (stS ZT [0,1]))))))∧(((decide ((↑k:Int)<↑l.length))=false)→ZW [cd Tryz.f152 [1,1]] (stS ZT [1]) ZQ))) (rlD (l.getD (↑k:Int).toNat rl0))) (by kernel_rfl) ?_
  simp only[iTn]
  refine⟨fun h=>?_,fun h=>?_⟩
  ·have hk2:k<l.length:=by have:=oDt h;omega
   rw[hp k hk2]
   refine⟨⟨⟨by omega,by omega⟩,hc k hk2⟩,fun h2=>?_,fun h2=>⟨⟨by omega,by omega⟩,Again.mk (k+1) ?_ ⟨hk2,fun i hi=>?_⟩ (by omega)⟩⟩
   ·rw[(idI_hit hk2 hkd h2).2]
   ·exact AS.leA (by kernel_rfl)
   ·rcases Nat.lt_or_ge i k with h4|h4
    ·exact hkd i h4
    ·obtain rfl:i=k:=by omega
     exact h2
  ·simp only[decide_eq_false_iff_not] at h
   have hst:=idI_none (p:=p) (L:=l) (x0:=rl0) fun i hi=>hkd i (by omega)
   refine walkK (orc:=orcRb p l) (keep:=[]) (cuts:=[]) (n:=1000) follows ?_
   refine of_tr (fun _ _ _ _=>(((di (-1)):DV)=(di (idI p l)))) (by kernel_rfl) ?_
   rw[hst.2]
theorem f112b (p:Rl→Bool) (l:List Rl) (c:DV) (hl:l.length≤1000000) (hp:∀i,i<l.length→p (rdR (rlD (l.getD i rl0)))=p (l.getD i rl0)) (hc:∀i,i<l.length→FnOK Tryz.prog G 114 [rlD (l.getD i rl0),c] (db (p (l.getD i rl0)))):FnOK Tryz.prog G 112 [rlsD l,(.clo (.func 114) [] [c])] (db (l.any p)):=by
 refine FnOK.walkK (orc:=orcRb p l) (keep:=[]) follows Tryz.func112 rfl Tryz.call112 ?_
 refine of_tr (fun _ _ _ ZK=>(ZK 152 [(.slc 16 l.length (rlF l)),(.clo (.func 114) [] [c])] (di (idI p l))∧((db (decide (idI p l≥0))):DV)=(db (l.any p)))) (by kernel_rfl) ?_
 refine⟨f152b p l c hl hp hc,?_⟩
 rw[idI_ge]
/-! What an expression must be. -/
def xpC (want:Int) (r:KR):Int:=if r.2.2=0∧r.1≠want then 5 else r.2.2
abbrev exM (want:Int) (r:KR):Int×Int:=(r.2.1,xpC want r)
noncomputable def orc67 (L:List Fc):Oracle:=fun f a=>match f,a with
 | 73,[_,e,_]=>some (.tup [di (tyW L (rdE e)).1,.agg [di (tyW L (rdE e)).2.1,di (tyW L (rdE e)).2.2]])
 | _,_=>none
theorem f111 (L:List Fc) (h:∀i,i<L.length→FcS (L.getD i fc0)) (m:Nat) (x:Ex) (hx:ht x≤m) (hs:Sm x) (hsn:sndE x=true) (want:Int):FnOK Tryz.prog G 111 [exD m x,di want,.ptr [wrL L],.ptr [kdM (wrL L)]] (.agg [di (exM want (tyW L x)).1,di (exM want (tyW L x)).2]):=by
 have e:rdE (exV x.k x.s x.n x.d x.pos x.kids.length (lay (exG m) x.kids))=x:=rdE_eq hx
 refine FnOK.walkK (orc:=orc67 L) (keep:=[]) follows Tryz.func111 rfl Tryz.call111 ?_
 refine of_tr (fun _ _ _ ZK=>(fun Za Zb=>(ZK 73 [(.ptr [(.mp none (fV (revF L L.length)) (fH (revF L L.length))),(.mp none (wV (revW L L.length)) (wL (revW L L.length)))]),(ndX m x),(.mp (some .i64) (kF (wrL L)) (hK (kh3 3)))] (.tup [(di (tyW L (rdE (ndX m x))).fst),Za])∧((Zb=true)→(((.agg [(di (tyW L (rdE (ndX m x))).snd.fst),(di 5)]):DV)=(.agg [(di (exM want (tyW L x)).fst),(di (exM want (tyW L x)).snd)])))∧((Zb=false)→((Za:DV)=(.agg [(di (exM want (tyW L x)).fst),(di (exM want (tyW L x)).snd)]))))) ((.agg [(di (tyW L (rdE (ndX m x))).snd.fst),(di (tyW L (rdE (ndX m x))).snd.snd)]):DV) ((tyW L (rdE (ndX m x))).snd.snd==0&&(tyW L (rdE (ndX m x))).fst != want)) (by kernel_rfl) ?_
 simp only[e]
 have hw:∀v,(fM (revF L L.length) v).words.length≤100000:=fun v=>by have:=revF_words h v;omega
 refine⟨f73 _ _ hw m x hx hs hsn,fun h1=>?_,fun h1=>?_⟩
 ·simp only[bAt,beq_iff_eq,bne_iff_ne] at h1
  unfold xpC
  rw[if_pos h1]
 ·have h2:¬((tyW L x).2.2=0∧(tyW L x).1≠want):=fun hh=>by
   rw[Bool.eq_false_iff] at h1
   exact h1 (by simpa using hh)
  unfold xpC
  rw[if_neg h2]
/-! Check. -/
def agB (R:List Rl) (n:Nat) (s:ByteArray):Bool:=(R.take n).any fun x=>decide (x.nm=s)
def gpB (R:List Rl) (s:ByteArray):Bool:=R.any fun x=>decide (x.gr=s)
def chS (L:List Fc) (R:List Rl) (i:Nat):Option (Int×Int):=
 if (agB R i (R.getD i rl0).nm||gpB R (R.getD i rl0).nm)=true then some ((R.getD i rl0).pos,6)
 else if (R.getD i rl0).gr.size≠0∧(R.getD i rl0).kind≠0 then some ((R.getD i rl0).pos,5)
 else if (exM 0 (tyW L (R.getD i rl0).am)).2≠0 then some (exM 0 (tyW L (R.getD i rl0).am))
 else if (R.getD i rl0).wh.k=0 then none
 else if (exM 1 (tyW L (R.getD i rl0).wh)).2≠0 then some (exM 1 (tyW L (R.getD i rl0).wh))
 else none
def chF (L:List Fc) (R:List Rl):Nat→Nat→Int×Int
 | 0,_=>(0,0)
 | n+1,i=>match chS L R i with
  | some p=>p
  | none=>chF L R n (i+1)
def chR (L:List Fc) (R:List Rl):Int×Int:=if (!vfB L||!vaR R)=true then (0,1) else chF L R R.length 0
theorem chF_hit {L:List Fc} {R:List Rl} {p:Int×Int}:∀(n i k:Nat),k<n→(∀j,i≤j→j<i+k→chS L R j=none)→chS L R (i+k)=some p→chF L R n i=p
 | 0,_,_,h,_,_=>absurd h (Nat.not_lt_zero _)
 | n+1,i,0,_,_,h=>by unfold chF;rw[show chS L R i=some p from h]
 | n+1,i,k+1,hk,hn,h=>by
  unfold chF
  rw[hn i (Nat.le_refl _) (by omega)]
  exact chF_hit n (i+1) k (by omega) (fun j h1 h2=>hn j (by omega) (by omega)) (by rw[show i+1+k=i+(k+1) from by omega];exact h)
theorem chF_none {L:List Fc} {R:List Rl}:∀(n i:Nat),(∀j,i≤j→j<i+n→chS L R j=none)→chF L R n i=(0,0)
 | 0,_,_=>rfl
 | n+1,i,hn=>by
  unfold chF
  rw[hn i (Nat.le_refl _) (by omega)]
  exact chF_none n (i+1) fun j h1 h2=>hn j (by omega) (by omega)
theorem va_of {L:List Fc} {R:List Rl} (h:(!vfB L||!vaR R)=false):vaR R=true:=by
 revert h;cases vfB L<;>cases vaR R<;>decide
theorem vaR_ru {R:List Rl} (h:vaR R=true) (i:Nat) (hi:i<R.length):ruB (R.getD i rl0)=true:=by
 unfold vaR at h
 have h0:¬R.length=0:=by omega
 rw[decide_eq_false h0,Bool.false_or,Bool.not_eq_true',decide_eq_false_iff_not] at h
 cases hb:ruB (R.getD i rl0) with
 | true=>rfl
 | false=>
  exfalso
  unfold fmtR at h
  by_cases hl:R.length>32
  ·rw[if_pos hl] at h;exact h rfl
  ·rw[if_neg hl,if_pos (any_bad hi hb)] at h;exact h rfl
theorem ru_snd {r:Rl} (h:ruB r=true):sndE r.am=true∧(r.wh.k≠0→sndE r.wh=true):=by
 unfold ruB at h
 simp only[bAt] at h
 refine⟨h.1.2,fun hk=>?_⟩
 rcases (Bool.or_eq_true ..).mp h.2 with h1|h1
 ·unfold nonB at h1
  simp only[bAt,beq_iff_eq] at h1
  exact absurd h1.1.1.1 hk
 ·exact h1
theorem rfl_nm (s:ByteArray) (r:Rl):decide ((rdR (rlD r)).nm=s)=decide (r.nm=s):=rfl
theorem rfl_gr (s:ByteArray) (r:Rl):decide ((rdR (rlD r)).gr=s)=decide (r.gr=s):=rfl
noncomputable def orc34 (L:List Fc) (R:List Rl):Oracle:=fun f a=>match f,a with
 | 51,[_]=>some (db (vfB L))
 | 110,[_]=>some (db (vaR R))
 | 63,[_]=>some (wrL L)
 | 74,[w]=>some (kdM w)
 | 112,[.slc _ n _,.clo (.func 113) _ [.ptr c]]=>some (db (agB R n (rdR (.agg c)).nm))
 | 112,[_,.clo (.func 114) _ [.ptr c]]=>some (db (gpB R (rdR (.agg c)).nm))
 | 111,[e,.con (.int _ k),_,_]=>some (.agg [di (tyW L (rdE e)).2.1,di (xpC k (tyW L (rdE e)))])
 | _,_=>none
noncomputable def S34 (L:List Fc) (R:List Rl) (k:Nat):AS:=⟨regs Tryz.f66.ntmps [(0,.d (rlsD R)),(8,.d (.clo (.func 111) [] [.ptr [wrL L],.ptr [kdM (wrL L)]])),(28,.d (rlsD R)),(29,vi R.length),(30,vi k)],[]⟩
theorem f66 (hT:Tab G) (L:List Fc) (R:List Rl) (h:∀i,i<L.length→FcS (L.getD i fc0)) (hl:L.length≤1000) (hR:∀i,i<R.length→RlS (R.getD i rl0)) (hn:R.length≤1000):FnOK Tryz.prog G 66 [rlsD R,fcsD L] (.tup [di (chR L R).1,di (chR L R).2]):=by
 have hwd:=fun i (hi:i<L.length)=>(h i hi).ln
 refine FnOK.of_body Tryz.func66 rfl Tryz.call66 ?_
 refine walkK (orc:=orc34 L R) (keep:=[]) (cuts:=[5]) (n:=1000) follows ?_
 refine of_tr (fun ZT ZW ZQ ZK=>(fun Za=>((ZK 51 [(.slc 7 L.length (fcF L))] (db (vfB L))∧(((!!vfB L)=true)→ZK 110 [(.slc 16 R.length (rlF R))] (db (vaR R))))∧(((!vfB L||!vaR R)=true)→(((.tup [(di 0),(di 1)]):DV)=(.tup [(di (chR L R).fst),(di (chR L R).snd)])))∧(((!vfB L||!vaR R)=false)→(ZK 63 [(.slc 7 L.length (fcF L))] Za∧ZK 74 [Za] (.mp (some .i64) (kF (DV.ptr [DV.mp none (fV (revF L L.length)) (fH (revF L L.length)),DV.mp none (wV (revW L L.length)) (wL (revW L L.length))])) (hK (kh3 3)))∧ZW [cd Tryz.f66 [1,1,1,1]] (stS ZT [1]) ZQ)))) ((.ptr [(.mp none (fV (revF L L.length)) (fH (revF L L.length))),(.mp none (wV (revW L L.length)) (wL (revW L L.length)))]):DV)) (by kernel_rfl) ?_
 refine⟨⟨f51 hT L h hl,fun _=>f110 hT R hR (by omega)⟩,fun h1=>?_,fun h1=>⟨f63 L (by omega) (fun i hi=>by have:=hwd i hi;omega),f74 _ _,?_⟩⟩
 ·unfold chR
  rw[if_pos h1]
 refine AWP.freezeB (dl:=[wrL L]) 6 (by kernel_rfl) rfl ?_
 refine AWP.freezeB (dl:=[kdM (wrL L)]) 7 (by kernel_rfl) rfl ?_
 refine walkK (orc:=orc34 L R) (keep:=[]) (cuts:=[]) (n:=1000) follows ?_
 refine of_tr (fun ZT ZW ZQ _=>ZW [cd Tryz.f66 [1,1,1,1,1,0,1,0],(.blk 0),cd Tryz.f66 [1,1,1,1,1,1]] (stS ZT []) ZQ) (by kernel_rfl) ?_
 refine AWP.loop (c:=cAt (bodyOf Tryz.f66) [1,1,1,1,1,0,1,0,0]) (by kernel_rfl) (S34 L R) (fun k=>k≤R.length∧∀i,i<k→chS L R i=none) (fun k=>R.length-k) 0 ?_ ⟨Nat.zero_le _,fun i hi=>by omega⟩ ?_
 ·exact AS.leA (by kernel_rfl)
 ·rintro k ⟨hk,hkd⟩
  refine walkK (orc:=orc34 L R) (keep:=[]) (cuts:=[9]) (n:=1000) follows ?_
  refine of_rd (fun ZT ZW ZQ _ _ ZR=>((((decide ((↑k:Int)<↑R.length))=true)→(((0≤(↑k:Int))∧((↑k:Int)<↑R.length))∧ZW [cd Tryz.f66 [1,1,1,1,1,0,1,0,0,1,1,0,0,1],(.blk 1),cd Tryz.f66 [1,1,1,1,1,0,1,0,0,1,1,1]] (stS ZT [0]) ZR))∧(((decide ((↑k:Int)<↑R.length))=false)→ZW [cd Tryz.f66 [1,1,1,1,1,1]] (stS ZT [1]) ZQ))) (by kernel_rfl) ?_
  refine⟨fun h2=>?_,fun h2=>?_⟩
  ·have hk2:k<R.length:=by have:=oDt h2;omega
   have hs:=hR k hk2
   refine⟨⟨by omega,by omega⟩,?_⟩
   refine AWP.freezeB (dl:=rlL (R.getD k rl0)) 10 (by kernel_rfl) rfl ?_
   refine walkK (orc:=orc34 L R) (keep:=[]) (cuts:=[]) (n:=1000) follows ?_
   refine of_rd (fun ZT _ _ ZK ZA _=>(fun Za Zb Zc Zd Ze Zf Zg=>(((((0:Int)≤(0:Int))∧(0≤(↑k:Int))∧((↑k:Int)≤↑R.length))∧ZK 112 [(.slc 16 ((↑k:Int)-0).toNat (fun i=>rlF R (Int.toNat 0+i))),(.clo (.func 113) [] [Za])] (db (agB R ((↑k:Int)-0).toNat (R.getD k rl0).nm)))∧ZK 112 [(.slc 16 R.length (rlF R)),(.clo (.func 114) [] [Za])] (db (gpB R (R.getD k rl0).nm))∧((Zg=true)→(((.tup [(di (R.getD k rl0).pos),(di 6)]):DV)=Zd))∧((Zg=false)→(((Zf=true)→(((.tup [(di (R.getD k rl0).pos),(di 5)]):DV)=Zd))∧((Zf=false)→(ZK 111 [(ndX (R.getD k rl0).ma (R.getD k rl0).am),(di 0),Ze,(.ptr [(.mp (some .i64) (kF (wrL L)) (hK (kh3 3)))])] (.agg [(di Zb.snd.fst),(di (xpC 0 Zb))])∧(((xpC 0 Zb != 0)=true)→(((.tup [(di Zb.snd.fst),(di (xpC 0 Zb))]):DV)=Zd))∧(((xpC 0 Zb != 0)=false)→(((((R.getD k rl0).wh.k==0)=true)→((I64 (↑k+1))∧(ZA (stS ZT [1,1,1,0]))))∧((((R.getD k rl0).wh.k==0)=false)→(ZK 111 [(ndX (R.getD k rl0).mw (R.getD k rl0).wh),(di 1),Ze,(.ptr [(.mp (some .i64) (kF (wrL L)) (hK (kh3 3)))])] (.agg [(di Zc.snd.fst),(di (xpC 1 Zc))])∧(((xpC 1 Zc != 0)=true)→(((.tup [(di Zc.snd.fst),(di (xpC 1 Zc))]):DV)=Zd))∧(((xpC 1 Zc != 0)=false)→((I64 (↑k+1))∧(ZA (stS ZT [1,1,1,1,1])))))))))))))) ((.ptr [(di (R.getD k rl0).kind),(ds (R.getD k rl0).nm),(ds (R.getD k rl0).gr),(di (R.getD k rl0).am.k),(ds (R.getD k rl0).am.s),(di (R.getD k rl0).am.n),(di (R.getD k rl0).am.d),(di (R.getD k rl0).am.pos),(.slc 6 (R.getD k rl0).am.kids.length (lay (exG (R.getD k rl0).ma) (R.getD k rl0).am.kids)),(di (R.getD k rl0).wh.k),(ds (R.getD k rl0).wh.s),(di (R.getD k rl0).wh.n),(di (R.getD k rl0).wh.d),(di (R.getD k rl0).wh.pos),(.slc 6 (R.getD k rl0).wh.kids.length (lay (exG (R.getD k rl0).mw) (R.getD k rl0).wh.kids)),(di (R.getD k rl0).pos)]):DV) (tyW L (rdE (ndX (R.getD k rl0).ma (R.getD k rl0).am))) (tyW L (rdE (ndX (R.getD k rl0).mw (R.getD k rl0).wh))) ((.tup [(di (chR L R).fst),(di (chR L R).snd)]):DV) ((.ptr [(.ptr [(.mp none (fV (revF L L.length)) (fH (revF L L.length))),(.mp none (wV (revW L L.length)) (wL (revW L L.length)))])]):DV) (!(R.getD k rl0).gr.toList==(ByteArray.mk #[]).toList&&(R.getD k rl0).kind != 0) (agB R ((↑k:Int)-0).toNat (R.getD k rl0).nm||gpB R (R.getD k rl0).nm)) (by kernel_rfl) ?_
   have ek:(((k:Nat):Int)-0).toNat=k:=by omega
   have e1:rdE (ndX (R.getD k rl0).ma (R.getD k rl0).am)=(R.getD k rl0).am:=rdE_eq hs.ha
   have e2:rdE (ndX (R.getD k rl0).mw (R.getD k rl0).wh)=(R.getD k rl0).wh:=rdE_eq hs.hw
   simp only[e1,e2,ek,emp_beq]
   have hit:∀p,chS L R k=some p→chR L R=p:=fun p hp=>by
    unfold chR
    rw[if_neg (by rw[h1];decide)]
    exact chF_hit R.length 0 k hk2 (fun j _ hj=>hkd j (by omega)) (by rw[Nat.zero_add];exact hp)
   have hru:=vaR_ru (va_of h1) _ hk2
   obtain ⟨s1,s2⟩:=ru_snd hru
   have c68:=f112a (G:=G) (fun x=>decide (x.nm=(R.getD k rl0).nm)) (R.take k) (.ptr (rlL (R.getD k rl0))) (by rw[List.length_take];omega) (fun i _=>rfl_nm _ _) fun i hi=>f113 _ _
   refine⟨⟨⟨by omega,by omega,by omega⟩,c68.args fun q us=>DV.rels_cons (fun v hv=>?_) (fun _ h=>h) us⟩,f112b (fun x=>decide (x.gr=(R.getD k rl0).nm)) R _ (by omega) (fun i _=>rfl_gr _ _) fun i hi=>f114 _ _,fun h3=>?_,fun h3=>⟨fun h4=>?_,fun h4=>⟨f111 L h _ _ hs.ha hs.am s1 0,fun h5=>?_,fun h5=>⟨fun h6=>?_,fun h6=>⟨f111 L h _ _ hs.hw hs.wh (s2 (by simpa using h6)) 1,fun h7=>?_,fun h7=>?_⟩⟩⟩⟩⟩
   ·have el:(R.take k).length=k:=by rw[List.length_take];omega
    show DV.rel q (.slc 16 (R.take k).length (rlF (R.take k))) v
    rw[el]
    refine DV.rel_slc_congr (fun i hi=>?_) hv
    show rlF R (0+i)=rlF (R.take k) i
    rw[Nat.zero_add]
    unfold rlF
    rw[List.getD,List.getD,List.getElem?_take_of_lt hi]
   ·rw[hit ((R.getD k rl0).pos,6) (by unfold chS;rw[if_pos h3])]
   ·simp only[bAt,Bool.not_eq_true',decide_eq_false_iff_not,bne_iff_ne] at h4
    rw[hit ((R.getD k rl0).pos,5) (by unfold chS;rw[if_neg (by rw[h3];decide),if_pos h4])]
   ·have h5:xpC 0 (tyW L (R.getD k rl0).am)≠0:=by simpa using h5
    have h4':¬((R.getD k rl0).gr.size≠0∧(R.getD k rl0).kind≠0):=fun hh=>by
     rw[Bool.eq_false_iff] at h4
     exact h4 (by simpa using hh)
    rw[hit (exM 0 (tyW L (R.getD k rl0).am)) (by unfold chS;rw[if_neg (by rw[h3];decide),if_neg h4',if_pos h5])]
   ·refine⟨⟨by omega,by omega⟩,Again.mk (k+1) ?_ ⟨hk2,fun i hi=>?_⟩ (by omega)⟩
    ·exact AS.leA (by kernel_rfl)
    ·rcases Nat.lt_or_ge i k with h8|h8
     ·exact hkd i h8
     ·obtain rfl:i=k:=by omega
      have h4':¬((R.getD i rl0).gr.size≠0∧(R.getD i rl0).kind≠0):=fun hh=>by
       rw[Bool.eq_false_iff] at h4
       exact h4 (by simpa using hh)
      have h5:¬xpC 0 (tyW L (R.getD i rl0).am)≠0:=by simpa using h5
      unfold chS
      rw[if_neg (by rw[h3];decide),if_neg h4',if_neg h5,if_pos (by simpa using h6)]
   ·have h7:xpC 1 (tyW L (R.getD k rl0).wh)≠0:=by simpa using h7
    have h4':¬((R.getD k rl0).gr.size≠0∧(R.getD k rl0).kind≠0):=fun hh=>by
     rw[Bool.eq_false_iff] at h4
     exact h4 (by simpa using hh)
    have h5:¬xpC 0 (tyW L (R.getD k rl0).am)≠0:=by simpa using h5
    rw[hit (exM 1 (tyW L (R.getD k rl0).wh)) (by unfold chS;rw[if_neg (by rw[h3];decide),if_neg h4',if_neg h5,if_neg (by simpa using h6),if_pos h7])]
   ·refine⟨⟨by omega,by omega⟩,Again.mk (k+1) ?_ ⟨hk2,fun i hi=>?_⟩ (by omega)⟩
    ·exact AS.leA (by kernel_rfl)
    ·rcases Nat.lt_or_ge i k with h8|h8
     ·exact hkd i h8
     ·obtain rfl:i=k:=by omega
      have h4':¬((R.getD i rl0).gr.size≠0∧(R.getD i rl0).kind≠0):=fun hh=>by
       rw[Bool.eq_false_iff] at h4
       exact h4 (by simpa using hh)
      have h5:¬xpC 0 (tyW L (R.getD i rl0).am)≠0:=by simpa using h5
      have h7:¬xpC 1 (tyW L (R.getD i rl0).wh)≠0:=by simpa using h7
      unfold chS
      rw[if_neg (by rw[h3];decide),if_neg h4',if_neg h5,if_neg (by simpa using h6),if_neg h7]
  ·have h2:=of_decide_eq_false h2
   refine walkK (orc:=orc34 L R) (keep:=[]) (cuts:=[]) (n:=1000) follows ?_
   refine of_tr (fun _ _ _ _=>(((.tup [(di 0),(di 0)]):DV)=(.tup [(di (chR L R).fst),(di (chR L R).snd)]))) (by kernel_rfl) ?_
   unfold chR
   rw[if_neg (by rw[h1];decide),chF_none R.length 0 fun j _ hj=>hkd j (by omega)]
/-! The reference's rules. -/
def rfB (r:Rl):Bool:=decide (r.kind≥0)&&decide (r.kind≤3)&&nameB r.nm&&(decide (r.gr.size=0)||nameB r.gr)&&fitE r.am&&(nonB r.wh||fitE r.wh)
def vaS (R:List Rl):Bool:=decide (R.length≤32)&&R.all rfB&&decide ((catB R R.length).size≤16384)
theorem rf_ru {r:Rl} (h:rfB r=true):ruB r=true:=by
 unfold rfB fitE at h
 unfold ruB
 simp only[bAt,Bool.or_eq_true,dEt] at h⊢
 obtain ⟨⟨⟨⟨⟨h1,h2⟩,h3⟩,h4⟩,⟨h5,h6⟩,h7⟩,h8⟩:=h
 refine⟨⟨⟨⟨⟨⟨h1,by omega⟩,h3⟩,h4⟩,h6,?_⟩,h5⟩,?_⟩
 ·rcases h8 with h8|h8
  ·unfold nonB at h8
   simp only[bAt,dEt] at h8
   have:=List.eq_nil_of_length_eq_zero h8.2
   have:ht r.wh=0:=by
    cases hw:r.wh with
    | mk k s n d pos kids=>
     rw[hw] at this
     have this:kids=[]:=this
     subst this
     rfl
   omega
  ·exact h8.1.2
 ·rcases h8 with h8|h8
  ·exact .inl h8
  ·exact .inr h8.1.1
/-! The two ways in which rules are valid are one. -/
theorem ln_cat {R:List Rl}:∀(k i:Nat),i<k→(lnB (R.getD i rl0)).size≤(catB R k).size
 | k+1,i,h=>by
  simp only[catB,bSa]
  rcases Nat.lt_or_ge i k with h1|h1
  ·have:=ln_cat (R:=R) k i h1;omega
  ·obtain rfl:i=k:=by omega
   omega
theorem ln_am (r:Rl):(fmtE r.am).size≤(lnB r).size:=by
 unfold lnB
 simp only[bSa];omega
theorem ln_wh {r:Rl} (h:r.wh.k≠0):(fmtE r.wh).size≤(lnB r).size:=by
 unfold lnB
 rw[if_neg h]
 simp only[bSa];omega
theorem ru_rf {r:Rl} (h:ruB r=true) (hz:(lnB r).size≤16384):rfB r=true:=by
 have h0:=h
 have h1:=ln_am r
 unfold ruB at h
 unfold rfB fitE
 simp only[bAt,Bool.or_eq_true,dEt] at h⊢
 obtain ⟨⟨⟨⟨⟨⟨q0,q4⟩,q1⟩,q2⟩,q5,q6⟩,q7⟩,q8⟩:=h
 refine⟨⟨⟨⟨⟨q0,by omega⟩,q1⟩,q2⟩,⟨q7,q5⟩,by omega⟩,?_⟩
 rcases q8 with q8|q8
 ·exact .inl q8
 ·refine .inr ⟨⟨q8,q6⟩,?_⟩
  have:=ln_wh (r:=r) (fun hk=>snd_rk q8 (by rw[hk];rfl))
  omega
theorem vaR_S {R:List Rl} (hR:∀i,i<R.length→RlS (R.getD i rl0)):vaR R=vaS R:=by
 by_cases h0:R.length=0
 ·obtain rfl:=List.eq_nil_of_length_eq_zero h0
  rfl
 have hm:∀r∈R,∃i,i<R.length∧R.getD i rl0=r:=fun r hr=>by
  obtain ⟨i,hi,rfl⟩:=List.getElem_of_mem hr
  exact⟨i,hi,by rw[List.getD,gEe hi];rfl⟩
 unfold vaR
 rw[decide_eq_false h0,Bool.false_or]
 unfold fmtR vaS
 by_cases h1:R.length>32
 ·rw[if_pos h1,decide_eq_false (by omega:¬R.length≤32)];rfl
 rw[if_neg h1,decide_eq_true (by omega:R.length≤32),Bool.true_and]
 cases h2:R.any fun r=>!ruB r with
 | true=>
  rw[if_pos rfl]
  obtain ⟨r,hr,hb⟩:=List.any_eq_true.1 h2
  have:R.all rfB=false:=by
   rw[List.all_eq_false]
   refine⟨r,hr,fun h=>?_⟩
   rw[rf_ru h] at hb;cases hb
  rw[this];rfl
 | false=>
  rw[if_neg (by decide)]
  have hu:∀i,i<R.length→ruB (R.getD i rl0)=true:=fun i hi=>by
   have:=List.any_eq_false.1 h2 _ (getD_mem' (x0:=rl0) hi)
   simpa using this
  have hp:=(cat_small hR R.length (Nat.le_refl _) hu).2 (by omega)
  by_cases h3:(catB R R.length).size>16384
  ·rw[if_pos h3,decide_eq_false (by omega:¬(catB R R.length).size≤16384),Bool.and_false];rfl
  ·rw[if_neg h3,decide_eq_true (by omega:(catB R R.length).size≤16384),Bool.and_true,decide_eq_false (by omega)]
   symm
   rw[Bool.not_false,List.all_eq_true]
   intro r hr
   obtain ⟨i,hi,rfl⟩:=hm r hr
   exact ru_rf (hu i hi) (Nat.le_trans (ln_cat _ _ hi) (by omega))
end Go.Proofs
