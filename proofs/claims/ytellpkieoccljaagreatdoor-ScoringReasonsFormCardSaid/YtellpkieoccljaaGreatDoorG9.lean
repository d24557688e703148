import Derived.Test.YtellpkieoccljaaGreatDoorAcD
import GoSem.ClaimJoined
import Derived.Carry
import Derived.ChangeShapes
import Derived.ChangeArms
import Derived.Deep.Slices
import Derived.LaidMore
import Derived.Test.YtellpkieoccljaaGreatDoorG0
import Derived.Test.YtellpkieoccljaaGreatDoorG8
import Derived.Test.YtellpkieoccljaaGreatDoorG7
set_option autoImplicit false
namespace Go.AbW
open Go Go.Ab Go.RowKit Go.ChangeShapes
inductive Sh where
 | int (k:IntKind)
 | bool
 | str
 | slc (agg:Bool) (l:List Sh)
 | own (p:DV→Prop)
mutual
def Sh.dv:Sh→DV→Prop
 | .int k,d=>∃n,(Lit.int k n).wf=true∧d=.con (.int k n)
 | .bool,d=>∃b,d=.con (.bool b)
 | .str,d=>∃s:ByteArray,s.size≤maxLen∧d=.con (.string s)
 | .slc agg l,d=>∃n f,n≤maxLen∧d=.slc l.length n f∧∀i,i<n→(match agg with|true=>∃es,f i=.agg es∧Shs.dv l es|false=>Shs.dv l [f i])
 | .own p,d=>p d∧∃sz n f,d=.slc sz n f
def Shs.dv:List Sh→List DV→Prop
 | [],es=>es=[]
 | s :: l,es=>∃d es',es=d :: es'∧Sh.dv s d∧Shs.dv l es'
end
def vdv (agg:Bool) (l:List Sh) (d:DV):Prop:=match agg with|true=>∃es,d=.agg es∧Shs.dv l es|false=>Shs.dv l [d]
def fsShapes (P:Program) (r:TypeId→Option (List Sh)):List Field→Nat→Option (List Sh×Nat)
 | [],off=>some ([],off)
 | f :: fs,off=>match Nat.beq f.offset off,r f.type with
  | true,some l=>match Nat.beq l.length (P.cellsOf f.type),fsShapes P r fs (off+P.cellsOf f.type) with
   | true,some (m,e)=>some (l++m,e)
   | _,_=>none
  | _,_=>none
def cellShapes (P:Program) (ow:TypeId→Option (DV→Prop)):Nat→TypeId→Option (List Sh)
 | 0,_=>none
 | n+1,t=>match ow t with
  | some p=>some [.own p]
  | none=>match P.underlying t with
  | some .bool=>some [.bool]
  | some (.int k)=>some [.int k]
  | some .string=>some [.str]
  | some (.slice e)=>match cellShapes P ow n e with
   | some l=>match Nat.beq l.length (P.cellsOf e)&&(Nat.blt 0 l.length&&(aggT P e||Nat.beq l.length 1)) with
    | true=>some [.slc (aggT P e) l]
    | false=>none
   | none=>none
  | some (.struct fs)=>match fsShapes P (cellShapes P ow n) fs.toList 0 with
   | some (l,e)=>match Nat.beq e (P.cellsOf t) with|true=>some l|false=>none
   | none=>none
  | _=>none
theorem Shs.append:∀{a b:List Sh} {u v:List DV},Shs.dv a u→Shs.dv b v→Shs.dv (a++b) (u++v)
 | [],_,u,_,ha,hb=>by simp only[Shs.dv] at ha;subst ha;exact hb
 | _ :: a,_,_,_,⟨x,u',e,r,rs⟩,hb=>by subst e;exact⟨x,_,rfl,r,Shs.append rs hb⟩
theorem Shs.length:∀{a:List Sh} {u:List DV},Shs.dv a u→u.length=a.length
 | [],u,h=>by simp only[Shs.dv] at h;subst h;rfl
 | _ :: a,_,⟨x,u',e,r,rs⟩=>by subst e;simp[Shs.length rs]
theorem Sh.cells {s:Sh} {d:DV} {h:IH} {v:Value} (hs:s.dv d) (hv:d.rel h v):v.cells=#[v]:=by
 cases s with
 | int k=>obtain ⟨n,_,rfl⟩:=hs;simp only[DV.rel] at hv;subst hv;rfl
 | bool=>obtain ⟨n,rfl⟩:=hs;simp only[DV.rel] at hv;subst hv;rfl
 | str=>obtain ⟨n,_,rfl⟩:=hs;simp only[DV.rel] at hv;subst hv;rfl
 | slc agg l=>obtain ⟨n,f,_,rfl,_⟩:=hs;obtain ⟨p,cap,e,_⟩:=hv;subst e;rfl
 | own p=>obtain ⟨_,sz,n,f,rfl⟩:=hs;obtain ⟨p,cap,e,_⟩:=hv;subst e;rfl
section
variable {H:Type} {enc:TypeId×Value→H} {P:Program} {W:World} {base:Nat} {sp:Nat→Bool} {held:Bool}
variable {ow:TypeId→Option (DV→Prop)}
def Fine (P:Program) (t:TypeId) (d:DataW H):Prop:=∀w∈DataW.weights P t d,w≤reachBytes
theorem fine_all {e:TypeId}:∀{l:List (DataW H)},(∀w∈DataW.weightsAll P e l,w≤reachBytes)→∀d∈l,Fine P e d
 | x :: l,h,d,hd=>by
  simp only[DataW.weightsAll,List.mem_append] at h
  rcases List.mem_cons.1 hd with rfl|hd
  ·exact fun w hw=>h w (.inl hw)
  ·exact fine_all (fun w hw=>h w (.inr hw)) d hd
theorem fine_each:∀{ts:List TypeId} {l:List (DataW H)},(∀w∈DataW.weightsEach P ts l,w≤reachBytes)→∀(i:Nat) (t:TypeId) (d:DataW H),ts[i]?=some t→l[i]?=some d→Fine P t d
 | [],_,_,i,t,d,h1,_=>by simp at h1
 | _ :: _,[],_,i,t,d,_,h2=>by simp at h2
 | t0 :: ts,d0 :: l,h,i,t,d,h1,h2=>by
  simp only[DataW.weightsEach,List.mem_append] at h
  cases i with
  | zero=>
   simp only[List.getElem?_cons_zero,oSi] at h1 h2
   subst h1;subst h2
   exact fun w hw=>h w (.inl hw)
  | succ i=>exact fine_each (fun w hw=>h w (.inr hw)) i t d (by simpa using h1) (by simpa using h2)
def How (ow:TypeId→Option (DV→Prop)) (enc:TypeId×Value→H) (P:Program) (W:World) (base:Nat) (sp:Nat→Bool) (held:Bool):Prop:=
 ∀(t:TypeId) (p:DV→Prop) (m:Nat) (cs:List Value) (x:DataW H×List MemPlace),ow t=some p→DataW.trod enc P W base sp held m t cs=some x→Fine P t x.1→∃d,Sh.dv (.own p) d∧DV.rels (allOf W) [d] cs
theorem fsShapes_le {r:TypeId→Option (List Sh)}:∀{fs:List Field} {off e:Nat} {l:List Sh},fsShapes P r fs off=some (l,e)→off≤e
 | [],off,e,l,h=>by simp only[fsShapes,oSi,pMi] at h;omega
 | f :: fs,off,e,l,h=>by
  simp only[fsShapes] at h
  split at h
  ·split at h
   ·rename_i m e' _ h2
    simp only[oSi,pMi] at h
    have:=fsShapes_le h2
    omega
   ·cases h
  ·cases h
theorem open_fields {r:TypeId→Option (List Sh)} {cs:List Value}
  (hr:∀(t:TypeId) (l:List Sh) (m:Nat) (cs':List Value) (x:DataW H×List MemPlace),r t=some l→DataW.trod enc P W base sp held m t cs'=some x→Fine P t x.1→∃es,Shs.dv l es∧DV.rels (allOf W) es cs') :
  ∀{fs:List Field} {off e:Nat} {l:List Sh},fsShapes P r fs off=some (l,e)→(∀f∈fs,∃m y,DataW.trod enc P W base sp held m f.type ((cs.drop f.offset).take (P.cellsOf f.type))=some y∧Fine P f.type y.1)→
   ∃es,Shs.dv l es∧DV.rels (allOf W) es ((cs.drop off).take (e-off))
 | [],off,e,l,h,_=>by
  simp only[fsShapes,oSi,pMi] at h
  obtain ⟨rfl,rfl⟩:=h
  exact⟨[],rfl,by simp[DV.rels]⟩
 | f :: fs,off,e,l,h,hf=>by
  simp only[fsShapes] at h
  split at h
  ·rename_i l0 ho hr0
   split at h
   ·rename_i m e' hc h2
    simp only[oSi,pMi] at h
    obtain ⟨rfl,rfl⟩:=h
    have ho:=Nat.eq_of_beq_eq_true ho
    obtain ⟨k,y,hy,hyf⟩:=hf f (List.mem_cons_self ..)
    obtain ⟨d1,a1,b1⟩:=hr _ _ _ _ _ hr0 hy hyf
    obtain ⟨d2,a2,b2⟩:=open_fields hr h2 fun g hg=>hf g (List.mem_cons_of_mem _ hg)
    have hle:=fsShapes_le h2
    refine⟨d1++d2,Shs.append a1 a2,?_⟩
    have:=DV.rels.append b1 b2
    rw[ho] at this
    rw[show (cs.drop off).take (e' - off)=(cs.drop off).take (P.cellsOf f.type)++(cs.drop (off+P.cellsOf f.type)).take (e' - (off+P.cellsOf f.type)) from by
     rw[show e' - off=P.cellsOf f.type+(e' - (off+P.cellsOf f.type)) by omega,List.take_add,List.drop_drop]]
    exact this
   ·cases h
  ·cases h
theorem open_cells (how:How ow enc P W base sp held):∀{n:Nat} {t:TypeId} {l:List Sh} {m:Nat} {cs:List Value} {x:DataW H×List MemPlace},cellShapes P ow n t=some l→DataW.trod enc P W base sp held m t cs=some x→Fine P t x.1→
  ∃es,Shs.dv l es∧DV.rels (allOf W) es cs
 | 0,_,_,_,_,_,h,_,_=>by simp[cellShapes] at h
 | n+1,t,l,m,cs,x,h,hx,hfi=>by
  simp only[cellShapes] at h
  split at h
  ·rename_i p hp
   simp only[oSi] at h;subst h
   obtain ⟨d,h1,h2⟩:=how t p m cs x hp hx hfi
   exact⟨[d],⟨_,_,rfl,h1,rfl⟩,h2⟩
  split at h
  ·rename_i ht
   obtain ⟨b,rfl,rfl⟩:=DataW.trod_bool ht hx
   simp only[oSi] at h;subst h
   exact⟨[.con (.bool b)],⟨_,_,rfl,⟨b,rfl⟩,rfl⟩,⟨_,_,rfl,rfl,rfl⟩⟩
  ·rename_i k ht
   obtain ⟨b,rfl,rfl,hw⟩:=DataW.trod_int ht hx
   simp only[oSi] at h;subst h
   exact⟨[.con (.int k b)],⟨_,_,rfl,⟨b,hw,rfl⟩,rfl⟩,⟨_,_,rfl,rfl,rfl⟩⟩
  ·rename_i ht
   obtain ⟨b,rfl,rfl,hw⟩:=DataW.trod_string ht hx
   simp only[oSi] at h;subst h
   exact⟨[.con (.string b)],⟨_,_,rfl,⟨b,hw,rfl⟩,rfl⟩,⟨_,_,rfl,rfl,rfl⟩⟩
  ·rename_i e ht
   split at h
   ·rename_i l' hl'
    split at h
    ·rename_i hc
     simp only[bAt,Nat.beq_eq,Bool.or_eq_true,Nat.blt_eq] at hc
     simp only[oSi] at h;subst h
     rcases Go.Deep.open_slice ht hx with ⟨rfl,rfl⟩|⟨a,len,cap,mm,n',D,Pl,rfl,hb,hlc,hcap,hmm,rfl,hel⟩
     ·refine⟨[.slc l'.length 0 fun _=>.con undef],⟨_,_,rfl,⟨0,_,Nat.zero_le _,rfl,fun i hi=>absurd hi (by omega)⟩,rfl⟩,⟨_,_,rfl,⟨none,0,rfl,Nat.le_refl _,.inl rfl⟩,rfl⟩⟩
     ·have hlm:len≤mm:=by rw[hmm];split<;>omega
      have helf:∀i,i<len→Fine P e (D i):=fun i hi=>by
       unfold Fine at hfi
       simp only[DataW.weights,ht,List.mem_cons,List.mem_append] at hfi
       exact fine_all (fun w hw=>hfi w (.inr (.inl hw))) _ (List.mem_map.2 ⟨i,List.mem_range.2 hi,rfl⟩)
      have hspot:0<len→a.spot=none:=by
       intro hpos
       obtain ⟨cs',h1,_⟩:=hel 0 (by omega)
       obtain ⟨_,h5,h6⟩:=World.cells?_some h1
       have:=h6 0 (by omega)
       rw[Nat.zero_mul,gEe (by omega)] at this
       simp only[World.cell?,Addr.add,if_true] at this
       split at this
       ·split at this
        ·cases this
        ·rename_i hsp;simpa using hsp
       ·cases this
      have hadd:0<len→∀k,a.add k=⟨a.block,a.off+k,none⟩:=by
       intro hpos k
       have:=hspot hpos
       unfold Addr.add
       split
       ·rename_i hk;subst hk;cases a;simp_all
       ·rfl
      have each:∀i,i<len→∃d:DV,(match aggT P e with|true=>∃es,d=.agg es∧Shs.dv l' es|false=>Shs.dv l' [d])∧∃v,DV.rel (allOf W) d v∧v.cells.size=l'.length∧∀j,j<l'.length→W.cell? ⟨a.block,a.off+i*l'.length+j,none⟩=v.cells[j]?:=by
       intro i hi
       obtain ⟨cs',h1,h2⟩:=hel i (by omega)
       obtain ⟨es,h3,h4⟩:=open_cells how hl' h2 (helf i hi)
       obtain ⟨_,h5,h6⟩:=World.cells?_some h1
       have hsz:cs'.length=l'.length:=by rw[h5,hc.1]
       have hat:∀j,j<l'.length→W.cell? ⟨a.block,a.off+i*l'.length+j,none⟩=cs'[j]?:=by
        intro j hj
        rw[←h6 j (by omega),hadd (by omega),hc.1]
        congr 1
        unfold Addr.add
        split
        ·rename_i hk;subst hk;rfl
        ·rfl
       cases hag:aggT P e with
       | true=>exact⟨.agg es,⟨es,rfl,h3⟩,.agg cs'.toArray,⟨cs',rfl,h4⟩,by simp[Value.cells,hsz],fun j hj=>by rw[hat j hj];simp[Value.cells]⟩
       | false=>
        have h1':l'.length=1:=by rcases hc.2.2 with h|h
                                 ·rw[hag] at h;cases h
                                 ·exact h
        match l',cs',es,h1',hsz,h3,h4,hat with
        | [s],[c],es,_,_,h3,h4,hat=>
         obtain ⟨d,es',e1,h3,e2⟩:=h3
         simp only[Shs.dv] at e2;subst e2;subst e1
         obtain ⟨v,vs',e3,h4,e4⟩:=h4
         injection e3 with e3 _;subst e3
         have hcell:=Sh.cells h3 h4
         refine⟨d,⟨_,_,rfl,h3,rfl⟩,c,h4,by rw[hcell];rfl,fun j hj=>?_⟩
         rw[hat j hj,hcell];simp
      refine⟨[.slc l'.length len fun i=>if h:i<len then Classical.choose (each i h) else .con undef],⟨_,_,rfl,⟨len,_,Nat.le_trans hlc hcap,rfl,fun i hi=>?_⟩,rfl⟩,⟨_,_,rfl,⟨some a,cap,rfl,hlc,?_⟩,rfl⟩⟩
      ·simp only[dif_pos hi]
       exact(Classical.choose_spec (each i hi)).1
      ·by_cases hz:len=0
       ·exact .inl hz
       right
       refine⟨a.block,a.off,by have:=hspot (by omega);cases a;simp_all,fun i hi=>?_⟩
       simp only[dif_pos hi]
       obtain ⟨_,v,hv,hsz,hcl⟩:=Classical.choose_spec (each i hi)
       exact⟨v,hv,hsz,fun j hj=>hcl j hj⟩
    ·cases h
   ·cases h
  ·rename_i fs ht
   split at h
   ·rename_i l' e hl'
    split at h
    ·rename_i he
     simp only[oSi] at h;subst h
     have he:=Nat.eq_of_beq_eq_true he
     obtain ⟨xs,n',rfl,rfl,hlen,hxl,hf⟩:=DataW.trod_struct ht hx
     obtain ⟨es,h1,h2⟩:=open_fields (cs:=cs) (fun t l m cs' x h1 h2 h3=>open_cells how h1 h2 h3) hl' fun f hf'=>by
      obtain ⟨i,hi⟩:=List.mem_iff_getElem?.1 hf'
      have hi':fs[i]?=some f:=by simpa using hi
      have:=hf i f hi'
      have hlt:i<xs.length:=by
       rw[hxl];exact(Array.getElem?_eq_some_iff.1 hi').1
      refine⟨n',xs[i],by rw[this];simp[hlt],?_⟩
      unfold Fine at hfi
      simp only[DataW.weights,ht] at hfi
      exact fine_each hfi i f.type xs[i].1 (by simp[hi']) (by simp[hlt])
     refine⟨es,h1,?_⟩
     rw[List.drop_zero,Nat.sub_zero,he,←hlen,List.take_length] at h2
     exact h2
    ·cases h
   ·cases h
  ·cases h
theorem open_val {n:Nat} {t:TypeId} {l:List Sh} {b0:Nat} {v:Value} {d:DataW H} {p:List MemPlace} (how:How ow enc P W base sp held) (hno:ow t=none) (hs:cellShapes P ow n t=some l) (hl:(aggT P t||Nat.beq l.length 1)=true)
  (hv:Value.okWide P W .any b0 t v) (h:DataW.Trod enc P W base sp held t v d p) (hfi:Fine P t d):∃x:DV,vdv (aggT P t) l x∧x.rel (allOf W) v:=by
 obtain ⟨m,hm⟩:=h
 obtain ⟨es,h1,h2⟩:=open_cells how hs hm hfi
 cases ha:aggT P t with
 | true=>
  have:∃cs,v=.agg cs:=by
   unfold aggT at ha
   unfold Value.okWide at hv
   split at ha
   ·rename_i fs hu;rw[hu] at hv;obtain ⟨cs,e,_⟩:=hv;exact⟨cs,e⟩
   ·rename_i k e hu;rw[hu] at hv;obtain ⟨cs,e,_⟩:=hv;exact⟨cs,e⟩
   ·cases ha
  obtain ⟨cs,rfl⟩:=this
  exact⟨.agg es,⟨es,rfl,h1⟩,⟨cs.toList,by simp,by simpa [Value.cells] using h2⟩⟩
 | false=>
  rw[ha] at hl
  simp only[Bool.false_or,Nat.beq_eq] at hl
  match l,hl,h1 with
  | [s],_,h1=>
   obtain ⟨x,es',e1,k1,e2⟩:=h1
   simp only[Shs.dv] at e2;subst e2;subst e1
   obtain ⟨u,vs',e3,h3,e4⟩:=h2
   simp only[DV.rels] at e4;subst e4
   have hu:u=v:=by
    have hcell:=Sh.cells k1 h3
    have:v.cells=#[u]:=by rw[←Array.toArray_toList (xs:=v.cells),e3]
    unfold Value.okWide at hv
    cases n with
    | zero=>simp[cellShapes] at hs
    | succ n=>
     have hna:∀cs,v≠.agg cs:=by
      rintro cs rfl
      unfold aggT at ha
      simp only[cellShapes,hno] at hs
      split at hv
      ·rename_i hu2;rw[hu2] at ha;simp at ha
      ·rename_i hu2;rw[hu2] at ha;simp at ha
      ·unfold Cell.okWide Cell.ok at hv
       split at hs<;>rename_i ht<;>simp_all
     cases v<;>first|(simp[Value.cells] at this;exact this.symm)|exact absurd rfl (hna _)
   subst hu
   exact⟨x,⟨x,[],rfl,k1,rfl⟩,h3⟩
def argShapes (P:Program) (ow:TypeId→Option (DV→Prop)):List TypeId→Option (List (Bool×List Sh))
 | []=>some []
 | t :: ts=>match cellShapes P ow 8 t,argShapes P ow ts with
  | some l,some r=>match (aggT P t||Nat.beq l.length 1)&&(P.readableRec t&&Nat.blt t P.types.size)&&(ow t).isNone with
   | true=>some ((aggT P t,l) :: r)
   | false=>none
  | _,_=>none
def vdvs:List (Bool×List Sh)→List DV→Prop
 | [],xs=>xs=[]
 | s :: l,xs=>∃x xs',xs=x :: xs'∧vdv s.1 s.2 x∧vdvs l xs'
theorem open_all (how:How ow enc P W 0 sp held):∀{ts:List TypeId} {shs:List (Bool×List Sh)} {us:List Value} {es:List (DataW H)} {ps:List MemPlace},argShapes P ow ts=some shs→(∀(j:Nat) t v,ts[j]?=some t→us[j]?=some v→Value.okWide P W .any base t v)→
  DataW.TrodAll enc P W 0 sp held ts us es ps→(∀w∈DataW.weightsEach P ts es,w≤reachBytes)→∃xs:List DV,vdvs shs xs∧DV.rels (allOf W) xs us
 | [],shs,us,es,ps,h,_,ht,_=>by
  simp only[argShapes,oSi] at h;subst h
  obtain ⟨rfl,_,_⟩:=trodAll_nil ht
  exact⟨[],rfl,rfl⟩
 | t :: ts,shs,us,es,ps,h,hv,ht,hwt=>by
  match us,es,ht,hwt with
  | v :: us,e :: es,⟨p,q,h1,h2,_⟩,hwt=>
   simp only[argShapes] at h
   split at h
   ·rename_i l r hl hr
    split at h
    ·rename_i hc
     simp only[bAt,Option.isNone_iff_eq_none] at hc
     simp only[oSi] at h;subst h
     simp only[DataW.weightsEach,List.mem_append] at hwt
     obtain ⟨x,a1,a2⟩:=open_val how hc.2 hl hc.1.1 (hv 0 t v rfl rfl) h1 (fun w hw=>hwt w (.inl hw))
     obtain ⟨xs,b1,b2⟩:=open_all how hr (fun j t' v' h3 h4=>hv (j+1) t' v' (by simpa using h3) (by simpa using h4)) h2 (fun w hw=>hwt w (.inr hw))
     exact⟨x :: xs,⟨_,_,rfl,a1,b1⟩,⟨_,_,rfl,a2,b2⟩⟩
    ·cases h
   ·cases h
theorem stays_all (hl:laidOutB P=true) {W':World} (hb:Below W.heap.size W W'):∀{ts:List TypeId} {shs:List (Bool×List Sh)} {us:List Value} {es:List (DataW H)} {ps:List MemPlace},argShapes P ow ts=some shs→
  (∀x∈ps,x.block<W.heap.size)→DataW.TrodAll enc P W 0 (fun _=>true) true ts us es ps→DataW.TrodAll enc P W' 0 (fun b=>decide (b<W.heap.size)) true ts us es ps
 | [],shs,us,es,ps,_,_,ht=>by obtain ⟨rfl,rfl,rfl⟩:=trodAll_nil ht;exact trodAll_mk0
 | t :: ts,shs,us,es,ps,h,hlt,ht=>by
  match us,es,ht with
  | v :: us,e :: es,⟨p,q,h1,h2,hp⟩=>
   simp only[argShapes] at h
   split at h
   ·rename_i l r hl' hr
    split at h
    ·rename_i hc
     simp only[bAt,Nat.blt_eq] at hc
     subst hp
     exact⟨p,q,Below.trod hl hc.1.2.1 hc.1.2.2 h1 hb (fun x hx=>hlt x (List.mem_append_left _ hx)),stays_all hl hb hr (fun x hx=>hlt x (List.mem_append_right _ hx)) h2,rfl⟩
    ·cases h
   ·cases h
theorem trodAll_length:∀{ts:List TypeId} {us:List Value} {es:List (DataW H)} {ps:List MemPlace},DataW.TrodAll enc P W base sp held ts us es ps→es.length=ts.length
 | [],us,es,ps,ht=>by obtain ⟨_,rfl,_⟩:=trodAll_nil ht;rfl
 | t :: ts,us,es,ps,ht=>by
  match us,es,ht with
  | v :: us,e :: es,⟨p,q,h1,h2,hp⟩=>simp[trodAll_length h2]
theorem law_row {f:FuncId} {fn:Func} {spec:ChangeSpec} {laid:List (String×DataW Unit)} {tb:TypeId} {shs:List (Bool×List Sh)} (hlo:laidOutB P=true) (hr:fn.resultTypes=#[tb]) (htb:P.underlying tb=some .bool) (hvars:spec.vars=[])
  (hfn:∀es:List (DataW H),es.length=fn.params.toList.length→spec.fn H es={ results:=[.lit (.bool true)],args:=es }) (hsh:argShapes P ow fn.params.toList=some shs)
  (how:∀(W:World) (sp:Nat→Bool) (held:Bool),How ow enc P W 0 sp held)
  (hlaw:∀(W:World),laidMetH P laid W→∀xs,vdvs shs xs→FnOK P (allOf W) f xs (.con (.bool true))) :
  ∀(W:World) (base:Nat) (args:Array Value) (es gs:List (DataW H)) (before:List MemPlace),
   (∀(j:Nat) t v,fn.params[j]?=some t→args[j]?=some v→Value.okWide P W .any base t v)→
   DataW.Whole enc P fn.params.toList spec.vars false W args.toList es gs before→(DataW.weightsEach P (fn.params.toList++spec.plain.varTypes P) (es++gs)).all (·≤reachBytes)=true→laidMetH P laid W→
   Calls P f args W fun e W'=>∃v,e=.returned v∧spec.post enc P fn false true false false W args v W':=by
 intro W base args es gs before hval hW hwt hL
 have hW':=hW
 obtain ⟨p,q,hA,hV,rfl,hfz,hnd⟩:=hW
 rw[hvars] at hV
 obtain ⟨rfl,rfl⟩:=trodVars_none hV
 have hwe:∀w∈DataW.weightsEach P fn.params.toList es,w≤reachBytes:=fun w hw=>by
  have hl:=trodAll_length hA
  have key:∀{ts:List TypeId} {l:List (DataW H)} (us:List TypeId),l.length=ts.length→∀w∈DataW.weightsEach P ts l,w∈DataW.weightsEach P (ts++us) (l++[]):=by
   intro ts
   induction ts with
   | nil=>intro l us hl w hw;simp[DataW.weightsEach] at hw
   | cons t ts ih=>
    intro l us hl w hw
    match l,hl with
    | d :: l,hl=>
     simp only[DataW.weightsEach,List.mem_append,List.cons_append] at hw⊢
     rcases hw with hw|hw
     ·exact .inl hw
     ·exact .inr (ih us (by simpa using hl) w hw)
  have:=List.all_eq_true.1 hwt w (key _ hl w hw)
  simpa using this
 obtain ⟨xs,hx,hrel⟩:=open_all (how W _ _) hsh (fun j t v h1 h2=>hval j t v (by simpa using h1) (by simpa using h2)) hA hwe
 have hlt:∀x∈p,x.block<W.heap.size:=fun x hx=>by simpa using hW'.lt x (by simpa using hx)
 have hc:=(hlaw W hL xs hx).2 W (allOf W) args.toList (IH.le.refl _) (allOf_holds W) hrel
 simp only[Array.toArray_toList] at hc
 refine Calls.mono hc ?_
 rintro e W' ⟨v,h',he,hv,-,-,hk,-⟩
 simp only[DV.rel] at hv
 subst hv;subst he
 have hbelow:Below W.heap.size W W':=⟨hk.os,hk.tape,hk.output,hk.size,fun k hk'=>hk.block k hk' (fun h=>h)⟩
 have hlen:=trodAll_length hA
 refine⟨_,rfl,es,[],p++[],[],p,[],by rw[hvars];simpa [hvars] using hW',?_,?_,?_,hbelow.frame _,fun h=>by cases h⟩
 ·rw[List.append_nil,hfn es hlen,hr];exact trodAll_mk1 (shut_bool htb true)
 ·rw[List.append_nil,hfn es hlen];exact stays_all hlo hbelow hsh hlt hA
 ·rw[List.append_nil,hfn es hlen,hvars];rfl
end
end Go.AbW
/- Expressions that are read from memory. -/
namespace Go.Proofs
open Go Go.Ab Go.RowKit Go.ChangeShapes
set_option maxRecDepth 100000
theorem lift_rel:∀(m m':Nat) (x:Ex),ht x≤m→ht x≤m'→∀(k:IH) (v:Value),DV.rel k (exD m x) v→DV.rel k (exD m' x) v:=by
 intro m
 induction m with
 | zero=>
  intro m' x h1 h2 k v h
  have hk:x.kids=[]:=by
   refine Classical.byContradiction fun hh=>?_
   have:0<x.kids.length:=List.length_pos_iff.2 hh
   have:=ht_kid this
   omega
  unfold exD exV at h⊢
  rw[hk] at h⊢
  obtain ⟨us,rfl,x1,u1,rfl,h1,x2,u2,rfl,h2,x3,u3,rfl,h3,x4,u4,rfl,h4,x5,u5,rfl,h5,x6,u6,rfl,h6,h0⟩:=h
  exact⟨_,rfl,x1,_,rfl,h1,x2,_,rfl,h2,x3,_,rfl,h3,x4,_,rfl,h4,x5,_,rfl,h5,x6,_,rfl,DV.rel_slc_congr (fun i hi=>absurd hi (by simp)) h6,h0⟩
 | succ m ih=>
  intro m' x h1 h2 k v h
  obtain ⟨us,rfl,x1,u1,rfl,g1,x2,u2,rfl,g2,x3,u3,rfl,g3,x4,u4,rfl,g4,x5,u5,rfl,g5,x6,u6,rfl,g6,h0⟩:=h
  refine⟨_,rfl,x1,_,rfl,g1,x2,_,rfl,g2,x3,_,rfl,g3,x4,_,rfl,g4,x5,_,rfl,g5,x6,_,rfl,?_,h0⟩
  obtain ⟨p,cap,e,hc,r⟩:=g6
  refine⟨p,cap,e,hc,r.imp id fun ⟨b,off,hp,r⟩=>⟨b,off,hp,fun i hi=>?_⟩⟩
  obtain ⟨v,hv,hs,hj⟩:=r i hi
  have hki:=ht_kid (x:=x) hi
  obtain ⟨m2,rfl⟩:∃m2,m'=m2+1:=⟨m' - 1,by omega⟩
  exact⟨v,ih m2 (x.kids.getD i ex0) (by omega) (by omega) k v hv,hs,hj⟩
theorem htL_le {l:List Ex} {n:Nat} (h:∀i,i<l.length→ht (l.getD i ex0)+1≤n):htL l≤n:=by
 induction l with
 | nil=>simp[htL]
 | cons x l ih=>
  simp only[htL]
  have h0:=h 0 (by simp)
  have:=ih fun i hi=>by simpa using h (i+1) (by simpa using hi)
  have h0:ht x+1≤n:=h0
  omega
theorem wfL_of {l:List Ex} (h:∀i,i<l.length→wfE (l.getD i ex0)):wfL l:=by
 induction l with
 | nil=>trivial
 | cons x l ih=>exact⟨h 0 (by simp),ih fun i hi=>by simpa using h (i+1) (by simpa using hi)⟩
theorem max_of (f:Nat→Nat):∀n:Nat,∃M,∀i,i<n→f i≤M
 | 0=>⟨0,fun i hi=>by omega⟩
 | n+1=>by
  obtain ⟨M,h⟩:=max_of f n
  refine⟨max M (f n),fun i hi=>?_⟩
  rcases Nat.lt_or_ge i n with h1|h1
  ·have:=h i h1;omega
  ·obtain rfl:i=n:=by omega
   omega
theorem cells26:Tryz.prog.cellsOf 26=6:=by kernel_rfl
theorem bytes26:Tryz.prog.bytesOf 26=72:=by kernel_rfl
theorem cells23:Tryz.prog.cellsOf 23=2:=by kernel_rfl
theorem cells3:Tryz.prog.cellsOf 3=1:=by kernel_rfl
theorem cells9:Tryz.prog.cellsOf 9=1:=by kernel_rfl
theorem cells24:Tryz.prog.cellsOf 24=1:=by kernel_rfl
def kidsP (d:DV):Prop:=∃(l:List Ex) (k:Nat),htL l≤k∧wfL l∧l.length≤8796093022208∧d=.slc 6 l.length (lay (exG k) l)
section
variable {H:Type} {enc:TypeId×Value→H} {W:World} {base:Nat} {sp:Nat→Bool} {held:Bool}
theorem open_node {n:Nat} {cs:List Value} {x:DataW H×List MemPlace} (h:DataW.trod enc Tryz.prog W base sp held n 26 cs=some x) (hf:AbW.Fine Tryz.prog 26 x.1) :
  ∃(k n d a:Int) (s:ByteArray) (v:Value) (n':Nat) (y:DataW H×List MemPlace),s.size≤maxLen∧cs=[.int .i64 k,.string s,.int .i64 n,.int .i64 d,.int .i64 a,v]∧
   DataW.trod enc Tryz.prog W base sp held n' 24 [v]=some y∧AbW.Fine Tryz.prog 24 y.1∧SizeOf.sizeOf y.1<SizeOf.sizeOf x.1:=by
 obtain ⟨xs,n',rfl,rfl,hl,hxl,hfl⟩:=DataW.trod_struct Tryz.underlying26 h
 have hxl:xs.length=5:=hxl
 match xs,hxl with
 | [y0,y1,y2,y3,y4],_=>
  have e0:=hfl 0 _ rfl
  have e1:=hfl 1 _ rfl
  have e2:=hfl 2 _ rfl
  have e3:=hfl 3 _ rfl
  have e4:=hfl 4 _ rfl
  simp only[List.getElem?_cons_zero,List.getElem?_cons_succ] at e0 e1 e2 e3 e4
  rw[cells26] at hl
  erw [cells3] at e0 e3
  erw [cells9] at e1
  erw [cells23] at e2
  erw [cells24] at e4
  match cs,hl with
  | [c0,c1,c2,c3,c4,c5],_=>
   have e0:DataW.trod enc Tryz.prog W base sp held n' 3 [c0]=some y0:=e0
   have e1:DataW.trod enc Tryz.prog W base sp held n' 9 [c1]=some y1:=e1
   have e2:DataW.trod enc Tryz.prog W base sp held n' 23 [c2,c3]=some y2:=e2
   have e3:DataW.trod enc Tryz.prog W base sp held n' 3 [c4]=some y3:=e3
   have e4:DataW.trod enc Tryz.prog W base sp held n' 24 [c5]=some y4:=e4
   obtain ⟨k,h0,_,_⟩:=DataW.trod_int Tryz.underlying3 e0
   obtain ⟨s,h1,_,hs⟩:=DataW.trod_string Tryz.underlying9 e1
   obtain ⟨z0,z1,m2,_,_,f0,f1⟩:=trod_struct2 Tryz.underlying23 e2
   erw [cells3] at f0 f1
   have f0:DataW.trod enc Tryz.prog W base sp held m2 3 [c2]=some z0:=f0
   have f1:DataW.trod enc Tryz.prog W base sp held m2 3 [c3]=some z1:=f1
   obtain ⟨a,g0,_,_⟩:=DataW.trod_int Tryz.underlying3 f0
   obtain ⟨b,g1,_,_⟩:=DataW.trod_int Tryz.underlying3 f1
   obtain ⟨c,h3,_,_⟩:=DataW.trod_int Tryz.underlying3 e3
   simp only[List.cons.injEq,and_true] at h0 h1 g0 g1 h3
   subst h0;subst h1;subst g0;subst g1;subst h3
   refine⟨k,a,b,c,s,c5,n',y4,hs,rfl,e4,?_,?_⟩
   ·have hf':∀w∈DataW.weights Tryz.prog 26 (.agg ([y0,y1,y2,y3,y4].map (·.1))),w≤reachBytes:=hf
    simp only[DataW.weights,Tryz.underlying26] at hf'
    exact AbW.fine_each hf' 4 24 y4.1 rfl rfl
   ·have:y4.1∈[y0,y1,y2,y3,y4].map (·.1):=by simp
    have h2:=List.sizeOf_lt_of_mem this
    show SizeOf.sizeOf y4.1<SizeOf.sizeOf (DataW.agg ([y0,y1,y2,y3,y4].map (·.1)))
    simp only[DataW.agg.sizeOf_spec]
    omega
theorem open_kids (N:Nat):∀(m:Nat) (cs:List Value) (x:DataW H×List MemPlace),SizeOf.sizeOf x.1≤N→DataW.trod enc Tryz.prog W base sp held m 24 cs=some x→AbW.Fine Tryz.prog 24 x.1→∃d,kidsP d∧DV.rels (allOf W) [d] cs:=by
 induction N using Nat.strongRecOn with
 | _ N ih=>
 intro m cs x hN hx hfi
 rcases Go.Deep.open_slice Tryz.underlying24 hx with ⟨rfl,rfl⟩|⟨a,len,cap,mm,n',D,Pl,rfl,hb,hlc,hcap,hmm,rfl,hel⟩
 ·exact⟨_,⟨[],0,by simp[htL],trivial,by simp,rfl⟩,⟨_,_,rfl,⟨none,0,rfl,Nat.le_refl _,.inl rfl⟩,rfl⟩⟩
 have hlm:len≤mm:=by rw[hmm];split<;>omega
 have hfi':∀w∈DataW.weights Tryz.prog 24 (.slice ((List.range len).map D) ((List.range (mm-len)).map fun j=>D (len+j))),w≤reachBytes:=hfi
 simp only[DataW.weights,Tryz.underlying24,List.mem_cons,List.mem_append] at hfi'
 have helf:∀i,i<len→AbW.Fine Tryz.prog 26 (D i):=fun i hi=>
  AbW.fine_all (fun w hw=>hfi' w (.inr (.inl hw))) _ (List.mem_map.2 ⟨i,List.mem_range.2 hi,rfl⟩)
 have hlen:len≤8796093022208:=by
  have:=hfi' _ (.inl rfl)
  rw[bytes26] at this
  simp only[List.length_map,List.length_range,reachBytes] at this
  omega
 have hspot:0<len→a.spot=none:=by
  intro hpos
  obtain ⟨cs',h1,_⟩:=hel 0 (by omega)
  obtain ⟨_,h5,h6⟩:=World.cells?_some h1
  have c26:=cells26
  have:=h6 0 (by show 0<Tryz.prog.cellsOf 26;omega)
  rw[Nat.zero_mul,gEe (by rw[h5,cells26];omega)] at this
  simp only[World.cell?,Addr.add,if_true] at this
  split at this
  ·split at this
   ·cases this
   ·rename_i hsp;simpa using hsp
  ·cases this
 have hadd:0<len→∀k,a.add k=⟨a.block,a.off+k,none⟩:=by
  intro hpos k
  have:=hspot hpos
  unfold Addr.add
  split
  ·rename_i hk;subst hk;cases a;simp_all
  ·rfl
 have each:∀i,i<len→∃(x:Ex) (k:Nat),ht x≤k∧wfE x∧∃v,DV.rel (allOf W) (exD k x) v∧v.cells.size=6∧∀j,j<6→W.cell? ⟨a.block,a.off+i*6+j,none⟩=v.cells[j]?:=by
  intro i hi
  obtain ⟨cs',h1,h2⟩:=hel i (by omega)
  obtain ⟨k,n,d,at',s,v,n2,y,hs,rfl,h3,h4,h5⟩:=open_node h2 (helf i hi)
  have hsz:SizeOf.sizeOf y.1<N:=by
   have hm:D i∈(List.range len).map D:=List.mem_map.2 ⟨i,List.mem_range.2 hi,rfl⟩
   have h6:=List.sizeOf_lt_of_mem hm
   have h7:SizeOf.sizeOf (DataW.slice ((List.range len).map D) ((List.range (mm-len)).map fun j=>D (len+j)))≤N:=hN
   simp only[DataW.slice.sizeOf_spec] at h7
   have h5:SizeOf.sizeOf y.1<SizeOf.sizeOf (D i):=h5
   omega
  obtain ⟨dk,⟨l,kk,hh,hw,hll,rfl⟩,hr⟩:=ih _ hsz n2 [v] y (Nat.le_refl _) h3 h4
  obtain ⟨u,us,e1,r1,r2⟩:=hr
  simp only[List.cons.injEq] at e1
  obtain ⟨rfl,rfl⟩:=e1
  obtain ⟨_,h8,h9⟩:=World.cells?_some h1
  rw[cells26] at h9 h1
  refine⟨.mk k s n d at' l,kk,by rw[ht_eq];exact hh,⟨hs,hll,hw⟩,.agg #[.int .i64 k,.string s,.int .i64 n,.int .i64 d,.int .i64 at',v],?_,rfl,fun j hj=>?_⟩
  ·exact⟨_,rfl,_,_,rfl,rfl,_,_,rfl,rfl,_,_,rfl,rfl,_,_,rfl,rfl,_,_,rfl,rfl,v,_,rfl,r1,rfl⟩
  ·have:=h9 j (by simpa using hj)
   rw[hadd (by omega)] at this
   have e:(⟨a.block,a.off+i*6,none⟩:Addr).add j=⟨a.block,a.off+i*6+j,none⟩:=by
    unfold Addr.add
    split
    ·rename_i hk;subst hk;rfl
    ·rfl
   rw[e] at this
   rw[this]
   simp[Value.cells]
 classical
 let X:Nat→Ex:=fun i=>if h:i<len then Classical.choose (each i h) else ex0
 let K:Nat→Nat:=fun i=>if h:i<len then Classical.choose (Classical.choose_spec (each i h)) else 0
 have hX:∀i,i<len→ht (X i)≤K i∧wfE (X i)∧∃v,DV.rel (allOf W) (exD (K i) (X i)) v∧v.cells.size=6∧∀j,j<6→W.cell? ⟨a.block,a.off+i*6+j,none⟩=v.cells[j]?:=fun i hi=>by
  simp only[X,K,dif_pos hi]
  exact Classical.choose_spec (Classical.choose_spec (each i hi))
 obtain ⟨M,hM⟩:=max_of K len
 have hlenl:((List.range len).map X).length=len:=by simp
 have hget:∀i,i<len→((List.range len).map X).getD i ex0=X i:=fun i hi=>by
  simp[List.getD,List.getElem?_map,List.getElem?_range hi]
 refine⟨.slc 6 ((List.range len).map X).length (lay (exG (M+1)) ((List.range len).map X)),⟨_,M+1,htL_le fun i hi=>?_,wfL_of fun i hi=>?_,by rw[hlenl];exact hlen,rfl⟩,⟨_,_,rfl,⟨some a,cap,by rw[hlenl],by rw[hlenl];exact hlc,?_⟩,rfl⟩⟩
 ·rw[hlenl] at hi
  rw[hget i hi]
  have:=(hX i hi).1
  have:=hM i hi
  omega
 ·rw[hlenl] at hi
  rw[hget i hi]
  exact(hX i hi).2.1
 ·rw[hlenl]
  by_cases hz:len=0
  ·exact .inl hz
  right
  refine⟨a.block,a.off,by have:=hspot (by omega);cases a;simp_all,fun i hi=>?_⟩
  obtain ⟨h1,_,v,hv,hs,hc⟩:=hX i hi
  refine⟨v,?_,hs,fun j hj=>hc j hj⟩
  show DV.rel (allOf W) (exD M (((List.range len).map X).getD i ex0)) v
  rw[hget i hi]
  exact lift_rel _ _ _ h1 (Nat.le_trans h1 (hM i hi)) _ _ hv
def ow24 (t:TypeId):Option (DV→Prop):=match Nat.beq t 24 with|true=>some kidsP|false=>none
theorem how24:AbW.How ow24 enc Tryz.prog W base sp held:=by
 intro t p m cs x hp hx hf
 unfold ow24 at hp
 split at hp
 ·rename_i h
  obtain rfl:=Nat.eq_of_beq_eq_true h
  obtain rfl:=Option.some.inj hp
  obtain ⟨d,h1,h2⟩:=open_kids _ m cs x (Nat.le_refl _) hx hf
  obtain ⟨l,k,a,b,c,rfl⟩:=h1
  exact⟨_,⟨⟨l,k,a,b,c,rfl⟩,_,_,_,rfl⟩,h2⟩
 ·cases hp
end
open Go Go.Ab Go.RowKit
abbrev fcShW:List AbW.Sh:=[.str,.int .i64,.int .i64,.int .i64,.int .i64,.int .i64,.slc false [.str]]
abbrev exShW:List AbW.Sh:=[.int .i64,.str,.int .i64,.int .i64,.int .i64,.own kidsP]
theorem facts_ofW {n:Nat} {f:Nat→DV} (hf:∀i,i<n→∃es,f i=.agg es∧AbW.Shs.dv fcShW es) :
  ∃L:List Fc,L.length=n∧(∀k v,DV.rel k (.slc 7 n f) v→DV.rel k (fcsD L) v)∧∀i,i<L.length→FcW (L.getD i fc0):=by
 obtain ⟨l,hl,hL⟩:=list_of (p:=fun i (x:{x:Fc // FcW x})=>∀k v,DV.rel k (f i) v→DV.rel k (fcD x.1) v) ⟨fc0,⟨by decide,by decide,fun i hi=>absurd hi (by simp[fc0])⟩⟩ (fun i hi=>by
  obtain ⟨es,h1,_,_,rfl,⟨a,ha,rfl⟩,_,_,rfl,⟨b,_,rfl⟩,_,_,rfl,⟨c,_,rfl⟩,_,_,rfl,⟨d,_,rfl⟩,_,_,rfl,⟨e,_,rfl⟩,_,_,rfl,⟨g,_,rfl⟩,_,_,rfl,⟨n,f',hn,rfl,hw⟩,rfl⟩:=hf i hi
  obtain ⟨l,hl,hs,hr⟩:=words_of hn hw
  subst hl
  refine⟨⟨⟨a,b,c,d,e,g,l⟩,⟨ha,hn,hs⟩⟩,fun k v h=>?_⟩
  rw[h1] at h
  exact fc_rel (fun v=>hr k v) h)
 subst hl
 refine⟨l.map (·.1),List.length_map ..,fun k v h=>?_,fun i hi=>?_⟩
 ·unfold fcsD
  rw[List.length_map]
  refine rel_slc_imp (fun i hi v hv=>?_) h
  have:=hL i hi k v hv
  unfold fcF
  rw[show (l.map (·.1)).getD i fc0=(l.getD i ⟨fc0,⟨by decide,by decide,fun i hi=>absurd hi (by simp[fc0])⟩⟩).1 from by rw[List.getD,List.getD,List.getElem?_map,gEe hi];rfl]
  exact this
 ·rw[List.length_map] at hi
  rw[show (l.map (·.1)).getD i fc0=(l.getD i ⟨fc0,⟨by decide,by decide,fun i hi=>absurd hi (by simp[fc0])⟩⟩).1 from by rw[List.getD,List.getD,List.getElem?_map,gEe hi];rfl]
  exact(l.getD i _).2
theorem ex_ofW {es:List DV} (h:AbW.Shs.dv exShW es):∃(x:Ex) (m:Nat),ht x≤m∧wfE x∧DV.agg es=exD m x:=by
 obtain ⟨_,_,rfl,⟨k,_,rfl⟩,_,_,rfl,⟨s,hs,rfl⟩,_,_,rfl,⟨n,_,rfl⟩,_,_,rfl,⟨d,_,rfl⟩,_,_,rfl,⟨a,_,rfl⟩,_,_,rfl,⟨⟨l,m,hm,hw,hl,rfl⟩,_⟩,rfl⟩:=h
 exact⟨.mk k s n d a l,m,by rw[ht_eq];exact hm,⟨hs,hl,hw⟩,rfl⟩
/-! Facts that are read. -/
abbrev ftShW:List AbW.Sh:=[.str,.int .i64,.int .i64,.int .i64,.bool,.str]
theorem fts_ofW {n:Nat} {f:Nat→DV} (hf:∀i,i<n→∃es,f i=.agg es∧AbW.Shs.dv ftShW es) :
  ∃F:List Ft,F.length=n∧∀k v,DV.rel k (.slc 6 n f) v→DV.rel k (ftsD F) v:=by
 obtain ⟨l,hl,hL⟩:=list_of (p:=fun i (x:Ft)=>f i=ftD x) ft0 (fun i hi=>by
  obtain ⟨es,h1,_,_,rfl,⟨a,_,rfl⟩,_,_,rfl,⟨b,_,rfl⟩,_,_,rfl,⟨c,_,rfl⟩,_,_,rfl,⟨d,_,rfl⟩,_,_,rfl,⟨e,rfl⟩,_,_,rfl,⟨g,_,rfl⟩,rfl⟩:=hf i hi
  exact⟨⟨a,b,c,d,e,g⟩,h1⟩)
 subst hl
 refine⟨l,rfl,fun k v h=>?_⟩
 refine DV.rel_slc_congr (fun i hi=>?_) h
 rw[hL i hi];rfl
set_option maxHeartbeats 4000000
variable {G:IH}
/-! The deciding atoms,by the reference. -/
noncomputable def dRf (F:List Ft) (l:List Fc) (ws:List ByteArray) (M:Nat):Oracle:=fun f a=>match f,a with
 | 103,[e]=>some (db (spB (rdE e)))
 | 57,[e]=>some (exsD M (atE (rdE e)))
 | 50,[e,_]=>some (.tup [ftD (kvR F l ws (rdE e)).1,di (kvR F l ws (rdE e)).2])
 | _,_=>none
noncomputable def mRf (F:List Ft):FuncId→List AV→List (Nat×List AV)→Option (AV×List (Nat×List AV)):=fun f a _=>match f,a with
 | 62,[.d e,.d (.con (.int _ n)),_]=>some (.vec 900 1 0 (rsD F (rdE e) n).length,[rwI (rsD F (rdE e) n)])
 | _,_=>none
noncomputable def orcRf (F:List Ft) (l:List Fc) (ws:List ByteArray) (M:Nat):Orc:={ d:=dRf F l ws M,m:=mRf F,rows:=fun n=>Nat.beq n 16 }
abbrev RfOK (G:IH) (Fl:List Ft) (d:DV) (first:Int) (r:List Int):Prop:=FnM Tryz.prog G 62 [.d d,.d (di first),.d (ftsD Fl)] [] (.vec 900 1 0 r.length) [rwI r]
section
variable (Fl F:List Ft) (l:List Fc) (ws:List ByteArray) (m:Nat) (x:Ex) (first:Int) (hx:ht x≤m)
include hx
theorem rf_out (h:spB x=false):RfOK G Fl (exD m x) first [first]:=by
 have er:rdE (ndX m x)=x:=rdE_eq hx
 refine FnM.resA (r:=.vec 900 1 0 1) (post:=[(900,[.arr inRK 1 (elemF false 1 [di first])])]) ((AS.leX.rowF _ 0 900 1 (agg:=inRK) (sz:=1) (f:=elemF false 1 [di first]) (rowI [first]) (by kernel_rfl) (by kernel_rfl) rfl (by kernel_rfl) (fun i hi=>?_)).trans (.of_le ?_)) ?_
 ·obtain rfl:i=0:=by omega
  rfl
 ·exact AS.leA (by kernel_rfl)
 refine FnM.walk (orc:=orcRf [] [] [] m) (keep:=[]) [(16,900)] follows (by kernel_rfl) Tryz.func62 rfl Tryz.call62 ?_
 refine of_tr (fun _ _ _ ZK=>(fun Za Zb Zc Zd Ze Zf=>(ZK 103 [(ndX m x)] (db (spB (rdE (ndX m x))))∧(((!spB (rdE (ndX m x)))=true)→((ZS ((.vec 900 1 0 1):AV))∧(Zb:(Option (List AV)))=Zb∧True))∧(((!spB (rdE (ndX m x)))=false)→((((x.k==18)=true)→(((((0:Int)≤(0:Int))∧(0<(↑x.kids.length:Int)))∧FnM Tryz.prog G 62 [(.d Ze),(vi first),Zf] [] (.vec 900 1 0 (rsD [] Za first).length) [(900,[(.arr ⟨false,3,false,none⟩ 1 (rowI (rsD [] Za first)))])])∧((.vec 27900 1 0 (rsD [] Za first).length):AV)=(.vec 900 1 0 1)∧(none:(Option (List AV)))=Zb∧True))∧(((x.k==18)=false)→(ZK 50 [(ndX m x),(.slc 6 Fl.length (ftF Fl))] (.tup [(.agg [(ds Zd.fst.nm),(di Zd.fst.kind),(di Zd.fst.n),(di Zd.fst.d),(db Zd.fst.tr),(ds Zd.fst.wd)]),(di Zd.snd)])∧((((0:Int)≤(0:Int))∧(0<(↑x.kids.length:Int)))∧ZK 50 [Ze,(.slc 6 Fl.length (ftF Fl))] (.tup [(.agg [(ds (kvR [] [] [] Za).fst.nm),(di (kvR [] [] [] Za).fst.kind),(di (kvR [] [] [] Za).fst.n),(di (kvR [] [] [] Za).fst.d),(db (kvR [] [] [] Za).fst.tr),(ds (kvR [] [] [] Za).fst.wd)]),(di (kvR [] [] [] Za).snd)]))∧((((0:Int)≤(0:Int))∧(0<(↑x.kids.length:Int)))∧ZK 57 [Ze] (.slc 6 (atE Za).length (exsF m (atE Za)))∧(I64 (first + ↑(atE Za).length)))∧(((Zd.fst.tr==(x.k==19))=true)→(((((0:Int)≤(0:Int))∧(0<(↑x.kids.length:Int)))∧FnM Tryz.prog G 62 [(.d Ze),(vi first),Zf] [] (.vec 900 1 0 (rsD [] Za first).length) [(900,[(.arr ⟨false,3,false,none⟩ 1 (rowI (rsD [] Za first)))])]∧(((0:Int)≤(1:Int))∧(1<(↑x.kids.length:Int)))∧FnM Tryz.prog G 62 [(.d Zc),(vi (first + ↑(atE Za).length)),Zf] [] (.vec 900 1 0 (rsD [] (rdE Zc) (first + ↑(atE Za).length)).length) [(900,[(.arr ⟨false,3,false,none⟩ 1 (rowI (rsD [] (rdE Zc) (first + ↑(atE Za).length))))])]∧(((rsD [] Za first).length+(rsD [] (rdE Zc) (first + ↑(atE Za).length)).length)*8≤1099511627776)∧((rsD [] Za first).length+(rsD [] (rdE Zc) (first + ↑(atE Za).length)).length≤1099511627776))∧((.vec 70 1 0 ((rsD [] Za first).length+(rsD [] (rdE Zc) (first + ↑(atE Za).length)).length)):AV)=(.vec 900 1 0 1)∧(none:(Option (List AV)))=Zb∧True))∧(((Zd.fst.tr==(x.k==19))=false)→(((((kvR [] [] [] Za).fst.tr==Zd.fst.tr)=true)→(((((0:Int)≤(0:Int))∧(0<(↑x.kids.length:Int)))∧FnM Tryz.prog G 62 [(.d Ze),(vi first),Zf] [] (.vec 900 1 0 (rsD [] Za first).length) [(900,[(.arr ⟨false,3,false,none⟩ 1 (rowI (rsD [] Za first)))])])∧((.vec 83900 1 0 (rsD [] Za first).length):AV)=(.vec 900 1 0 1)∧(none:(Option (List AV)))=Zb∧True))∧((((kvR [] [] [] Za).fst.tr==Zd.fst.tr)=false)→(((((0:Int)≤(1:Int))∧(1<(↑x.kids.length:Int)))∧FnM Tryz.prog G 62 [(.d Zc),(vi (first + ↑(atE Za).length)),Zf] [] (.vec 900 1 0 (rsD [] (rdE Zc) (first + ↑(atE Za).length)).length) [(900,[(.arr ⟨false,3,false,none⟩ 1 (rowI (rsD [] (rdE Zc) (first + ↑(atE Za).length))))])])∧((.vec 90900 1 0 (rsD [] (rdE Zc) (first + ↑(atE Za).length)).length):AV)=(.vec 900 1 0 1)∧(none:(Option (List AV)))=Zb∧True)))))))))) (rdE (ndA m (x.kids.getD (Int.toNat 0) ex0))) (some [(.arr ⟨false,3,false,none⟩ 1 (elemF false 1 [(di first)]))]) (ndA m (x.kids.getD (Int.toNat 1) ex0)) (kvR [] [] [] (rdE (ndX m x))) (ndA m (x.kids.getD (Int.toNat 0) ex0)) ((.d (.slc 6 Fl.length (ftF Fl))):AV)) (by kernel_rfl) ?_
 simp only[er]
 refine⟨f103 m x,fun _=>⟨trivial,trivial,trivial⟩,fun h2=>(by rw[h] at h2;cases h2)⟩
theorem rf_not (h:x.k=18) (hl:0<x.kids.length) (r:List Int) (e:rsE F (x.kids.getD 0 ex0) first=some r) (h0:RfOK G Fl (kidA m x 0) first r):RfOK G Fl (exD m x) first r:=by
 have er:rdE (ndX m x)=x:=rdE_eq hx
 have e0:rdE (kidA m x 0)=x.kids.getD 0 ex0:=kid_rd hx hl
 have hsp:spB x=true:=(spB_iff x).2 (.inl h)
 refine FnM.walk (orc:=orcRf F [] [] m) (keep:=[]) [(27900,900)] follows (by kernel_rfl) Tryz.func62 rfl Tryz.call62 ?_
 refine of_tr (fun _ _ _ ZK=>(fun Za Zb Zc Zd Ze=>(ZK 103 [(ndX m x)] (db (spB (rdE (ndX m x))))∧(((!spB (rdE (ndX m x)))=true)→(((.vec 16 1 0 1):AV)=(.vec 900 1 0 r.length)∧(none:(Option (List AV)))=Zc∧True))∧(((!spB (rdE (ndX m x)))=false)→((((x.k==18)=true)→(((((0:Int)≤(0:Int))∧(0<(↑x.kids.length:Int)))∧FnM Tryz.prog G 62 [(.d Zd),(vi first),Ze] [] (.vec 900 1 0 (rsD F Za first).length) [(900,[(.arr ⟨false,3,false,none⟩ 1 (rowI (rsD F Za first)))])])∧((.vec 900 1 0 (rsD F Za first).length):AV)=(.vec 900 1 0 r.length)∧((some [(.arr ⟨false,3,false,none⟩ 1 (rowI (rsD F Za first)))]):(Option (List AV)))=Zc∧True))∧(((x.k==18)=false)→(ZK 50 [(ndX m x),(.slc 6 Fl.length (ftF Fl))] (.tup [(.agg [(ds (kvR F [] [] (rdE (ndX m x))).fst.nm),(di (kvR F [] [] (rdE (ndX m x))).fst.kind),(di (kvR F [] [] (rdE (ndX m x))).fst.n),(di (kvR F [] [] (rdE (ndX m x))).fst.d),(db (kvR F [] [] (rdE (ndX m x))).fst.tr),(ds (kvR F [] [] (rdE (ndX m x))).fst.wd)]),(di (kvR F [] [] (rdE (ndX m x))).snd)])∧((((0:Int)≤(0:Int))∧(0<(↑x.kids.length:Int)))∧ZK 50 [Zd,(.slc 6 Fl.length (ftF Fl))] (.tup [(.agg [(ds (kvR F [] [] Za).fst.nm),(di (kvR F [] [] Za).fst.kind),(di (kvR F [] [] Za).fst.n),(di (kvR F [] [] Za).fst.d),(db (kvR F [] [] Za).fst.tr),(ds (kvR F [] [] Za).fst.wd)]),(di (kvR F [] [] Za).snd)]))∧((((0:Int)≤(0:Int))∧(0<(↑x.kids.length:Int)))∧ZK 57 [Zd] (.slc 6 (atE Za).length (exsF m (atE Za)))∧(I64 (first + ↑(atE Za).length)))∧((((kvR F [] [] (rdE (ndX m x))).fst.tr==(x.k==19))=true)→(((((0:Int)≤(0:Int))∧(0<(↑x.kids.length:Int)))∧FnM Tryz.prog G 62 [(.d Zd),(vi first),Ze] [] (.vec 900 1 0 (rsD F Za first).length) [(900,[(.arr ⟨false,3,false,none⟩ 1 (rowI (rsD F Za first)))])]∧(((0:Int)≤(1:Int))∧(1<(↑x.kids.length:Int)))∧FnM Tryz.prog G 62 [(.d Zb),(vi (first + ↑(atE Za).length)),Ze] [] (.vec 900 1 0 (rsD F (rdE Zb) (first + ↑(atE Za).length)).length) [(900,[(.arr ⟨false,3,false,none⟩ 1 (rowI (rsD F (rdE Zb) (first + ↑(atE Za).length))))])]∧(((rsD F Za first).length+(rsD F (rdE Zb) (first + ↑(atE Za).length)).length)*8≤1099511627776)∧((rsD F Za first).length+(rsD F (rdE Zb) (first + ↑(atE Za).length)).length≤1099511627776))∧((.vec 70 1 0 ((rsD F Za first).length+(rsD F (rdE Zb) (first + ↑(atE Za).length)).length)):AV)=(.vec 900 1 0 r.length)∧(none:(Option (List AV)))=Zc∧True))∧((((kvR F [] [] (rdE (ndX m x))).fst.tr==(x.k==19))=false)→(((((kvR F [] [] Za).fst.tr==(kvR F [] [] (rdE (ndX m x))).fst.tr)=true)→(((((0:Int)≤(0:Int))∧(0<(↑x.kids.length:Int)))∧FnM Tryz.prog G 62 [(.d Zd),(vi first),Ze] [] (.vec 900 1 0 (rsD F Za first).length) [(900,[(.arr ⟨false,3,false,none⟩ 1 (rowI (rsD F Za first)))])])∧((.vec 83900 1 0 (rsD F Za first).length):AV)=(.vec 900 1 0 r.length)∧(none:(Option (List AV)))=Zc∧True))∧((((kvR F [] [] Za).fst.tr==(kvR F [] [] (rdE (ndX m x))).fst.tr)=false)→(((((0:Int)≤(1:Int))∧(1<(↑x.kids.length:Int)))∧FnM Tryz.prog G 62 [(.d Zb),(vi (first + ↑(atE Za).length)),Ze] [] (.vec 900 1 0 (rsD F (rdE Zb) (first + ↑(atE Za).length)).length) [(900,[(.arr ⟨false,3,false,none⟩ 1 (rowI (rsD F (rdE Zb) (first + ↑(atE Za).length))))])])∧((.vec 90900 1 0 (rsD F (rdE Zb) (first + ↑(atE Za).length)).length):AV)=(.vec 900 1 0 r.length)∧(none:(Option (List AV)))=Zc∧True)))))))))) (rdE (ndA m (x.kids.getD (Int.toNat 0) ex0))) (ndA m (x.kids.getD (Int.toNat 1) ex0)) (some [(.arr ⟨false,3,false,none⟩ 1 (rowI r))]) (ndA m (x.kids.getD (Int.toNat 0) ex0)) ((.d (.slc 6 Fl.length (ftF Fl))):AV)) (by kernel_rfl) ?_
 simp only[er,Int.toNat_zero,e0,rsD_of e]
 refine⟨f103 m x,fun h2=>(by rw[hsp] at h2;cases h2),fun _=>⟨fun _=>⟨⟨⟨by omega,by omega⟩,h0⟩,trivial,trivial,trivial⟩,fun h2=>absurd h (by simpa using h2)⟩⟩
variable (hs:Sm x) (hl:x.kids.length=2) (hk:x.k=19∨x.k=20) (hf:0≤first∧first+nds x≤100000) {v b:Bool} (hv:kvR F l ws x=({ ftK 1 with tr:=v },0)) (hb:kvR F l ws (x.kids.getD 0 ex0)=({ ftK 1 with tr:=b },0))
 (hV:FnOK Tryz.prog G 50 [exD m x,ftsD Fl] (.tup [ftD { ftK 1 with tr:=v },di 0])) (hB:FnOK Tryz.prog G 50 [kidA m x 0,ftsD Fl] (.tup [ftD { ftK 1 with tr:=b },di 0]))
 (h57:FnOK Tryz.prog G 57 [kidA m x 0] (exsD m (atE (x.kids.getD 0 ex0))))
include hs hl hk hf hv hb hV hB h57
theorem rf_both (hne:v≠(x.k==20)) (l0 l1:List Int) (e0:rsE F (x.kids.getD 0 ex0) first=some l0) (e1:rsE F (x.kids.getD 1 ex0) (first+(atE (x.kids.getD 0 ex0)).length)=some l1)
  (b0:l0.length≤100000) (b1:l1.length≤100000) (h0:RfOK G Fl (kidA m x 0) first l0) (h1:RfOK G Fl (kidA m x 1) (first+(atE (x.kids.getD 0 ex0)).length) l1):RfOK G Fl (exD m x) first (l0++l1):=by
 have _:=hs
 have er:rdE (ndX m x)=x:=rdE_eq hx
 have k0:rdE (kidA m x 0)=x.kids.getD 0 ex0:=kid_rd hx (by omega)
 have k1:rdE (kidA m x 1)=x.kids.getD 1 ex0:=kid_rd hx (by omega)
 have t1:Int.toNat 1=1:=rfl
 have hsp:spB x=true:=(spB_iff x).2 (by omega)
 have hn:=atE_nds (x.kids.getD 0 ex0)
 have hn2:=nds_kid (x:=x) (i:=0) (by omega)
 refine FnM.resA (r:=.vec 900 1 0 (l0.length+l1.length)) (post:=[(900,[.arr inRK 1 fun i=>bif Nat.blt i l0.length then rowI l0 i else rowI l1 (0+(i-l0.length))])]) ((AS.leX.rowF _ 0 900 (l0.length+l1.length) (agg:=inRK) (sz:=1) (f:=fun i=>bif Nat.blt i l0.length then rowI l0 i else rowI l1 (0+(i-l0.length))) (rowI (l0++l1)) (by kernel_rfl) (by kernel_rfl) rfl (by kernel_rfl) (fun i hi=>?_)).trans (.of_le ?_)) ?_
 ·unfold rowI
  rcases Nat.lt_or_ge i l0.length with h4|h4
  ·rw[show Nat.blt i l0.length=true from by rw[Nat.blt_eq];exact h4,getD_appL h4];rfl
  ·rw[show Nat.blt i l0.length=false from by rw[Bool.eq_false_iff,ne_eq,Nat.blt_eq];omega,getD_appR h4,Nat.zero_add];rfl
 ·refine AS.leZ [0] [] (b:=((((.vec 900 1 0 (l0.length+l1.length)):AV)=(.vec 900 1 0 (l0++l1).length)∧True)∧T0∧True)) (by kernel_rfl) (by kernel_rfl) ?_
  rw[List.length_append]
  exact⟨⟨rfl,trivial⟩,rfl,trivial⟩
 refine FnM.walk (orc:=orcRf F l ws m) (keep:=[]) [(70,900)] follows (by kernel_rfl) Tryz.func62 rfl Tryz.call62 ?_
 refine of_tr (fun _ _ _ ZK=>(fun Za Zb Zc Zd Ze Zf=>(ZK 103 [(ndX m x)] (db (spB (rdE (ndX m x))))∧(((!spB (rdE (ndX m x)))=true)→(((.vec 16 1 0 1):AV)=Ze∧(none:(Option (List AV)))=Zb∧True))∧(((!spB (rdE (ndX m x)))=false)→((((x.k==18)=true)→(((((0:Int)≤(0:Int))∧(0<(↑x.kids.length:Int)))∧FnM Tryz.prog G 62 [(.d Zd),(vi first),Zf] [] (.vec 900 1 0 (rsD F Za first).length) [(900,[(.arr ⟨false,3,false,none⟩ 1 (rowI (rsD F Za first)))])])∧((.vec 27900 1 0 (rsD F Za first).length):AV)=Ze∧(none:(Option (List AV)))=Zb∧True))∧(((x.k==18)=false)→(ZK 50 [(ndX m x),(.slc 6 Fl.length (ftF Fl))] (.tup [(.agg [(ds (kvR F l ws (rdE (ndX m x))).fst.nm),(di (kvR F l ws (rdE (ndX m x))).fst.kind),(di (kvR F l ws (rdE (ndX m x))).fst.n),(di (kvR F l ws (rdE (ndX m x))).fst.d),(db (kvR F l ws (rdE (ndX m x))).fst.tr),(ds (kvR F l ws (rdE (ndX m x))).fst.wd)]),(di (kvR F l ws (rdE (ndX m x))).snd)])∧((((0:Int)≤(0:Int))∧(0<(↑x.kids.length:Int)))∧ZK 50 [Zd,(.slc 6 Fl.length (ftF Fl))] (.tup [(.agg [(ds (kvR F l ws Za).fst.nm),(di (kvR F l ws Za).fst.kind),(di (kvR F l ws Za).fst.n),(di (kvR F l ws Za).fst.d),(db (kvR F l ws Za).fst.tr),(ds (kvR F l ws Za).fst.wd)]),(di (kvR F l ws Za).snd)]))∧((((0:Int)≤(0:Int))∧(0<(↑x.kids.length:Int)))∧ZK 57 [Zd] (.slc 6 (atE Za).length (exsF m (atE Za)))∧(I64 (first + ↑(atE Za).length)))∧((((kvR F l ws (rdE (ndX m x))).fst.tr==(x.k==19))=true)→(((((0:Int)≤(0:Int))∧(0<(↑x.kids.length:Int)))∧FnM Tryz.prog G 62 [(.d Zd),(vi first),Zf] [] (.vec 900 1 0 (rsD F Za first).length) [(900,[(.arr ⟨false,3,false,none⟩ 1 (rowI (rsD F Za first)))])]∧(((0:Int)≤(1:Int))∧(1<(↑x.kids.length:Int)))∧FnM Tryz.prog G 62 [(.d Zc),(vi (first + ↑(atE Za).length)),Zf] [] (.vec 900 1 0 (rsD F (rdE Zc) (first + ↑(atE Za).length)).length) [(900,[(.arr ⟨false,3,false,none⟩ 1 (rowI (rsD F (rdE Zc) (first + ↑(atE Za).length))))])]∧(((rsD F Za first).length+(rsD F (rdE Zc) (first + ↑(atE Za).length)).length)*8≤1099511627776)∧((rsD F Za first).length+(rsD F (rdE Zc) (first + ↑(atE Za).length)).length≤1099511627776))∧((.vec 900 1 0 ((rsD F Za first).length+(rsD F (rdE Zc) (first + ↑(atE Za).length)).length)):AV)=Ze∧((some [(.arr ⟨false,3,false,none⟩ 1 (fun i=>bif i.blt (rsD F Za first).length then rowI (rsD F Za first) i else rowI (rsD F (rdE Zc) (first + ↑(atE Za).length)) (0+(i-(rsD F Za first).length))))]):(Option (List AV)))=Zb∧True))∧((((kvR F l ws (rdE (ndX m x))).fst.tr==(x.k==19))=false)→(((((kvR F l ws Za).fst.tr==(kvR F l ws (rdE (ndX m x))).fst.tr)=true)→(((((0:Int)≤(0:Int))∧(0<(↑x.kids.length:Int)))∧FnM Tryz.prog G 62 [(.d Zd),(vi first),Zf] [] (.vec 900 1 0 (rsD F Za first).length) [(900,[(.arr ⟨false,3,false,none⟩ 1 (rowI (rsD F Za first)))])])∧((.vec 83900 1 0 (rsD F Za first).length):AV)=Ze∧(none:(Option (List AV)))=Zb∧True))∧((((kvR F l ws Za).fst.tr==(kvR F l ws (rdE (ndX m x))).fst.tr)=false)→(((((0:Int)≤(1:Int))∧(1<(↑x.kids.length:Int)))∧FnM Tryz.prog G 62 [(.d Zc),(vi (first + ↑(atE Za).length)),Zf] [] (.vec 900 1 0 (rsD F (rdE Zc) (first + ↑(atE Za).length)).length) [(900,[(.arr ⟨false,3,false,none⟩ 1 (rowI (rsD F (rdE Zc) (first + ↑(atE Za).length))))])])∧((.vec 90900 1 0 (rsD F (rdE Zc) (first + ↑(atE Za).length)).length):AV)=Ze∧(none:(Option (List AV)))=Zb∧True)))))))))) (rdE (ndA m (x.kids.getD (Int.toNat 0) ex0))) (some [(.arr ⟨false,3,false,none⟩ 1 (fun i=>bif i.blt l0.length then rowI l0 i else rowI l1 (0+(i-l0.length))))]) (ndA m (x.kids.getD (Int.toNat 1) ex0)) (ndA m (x.kids.getD (Int.toNat 0) ex0)) ((.vec 900 1 0 (l0.length+l1.length)):AV) ((.d (.slc 6 Fl.length (ftF Fl))):AV)) (by kernel_rfl) ?_
 simp only[er,Int.toNat_zero,t1,k0,k1,rsD_of e0,rsD_of e1,hv,hb]
 have hc:(v==(x.k==19))=true:=by
  revert hne
  rcases hk with h|h<;>rw[h]<;>cases v<;>decide
 refine⟨f103 m x,fun h2=>(by rw[hsp] at h2;cases h2),fun _=>⟨fun h2=>absurd (by simpa using h2:x.k=18) (by omega),fun _=>⟨hV,⟨⟨by omega,by omega⟩,hB⟩,⟨⟨by omega,by omega⟩,h57,by omega,by omega⟩,fun _=>⟨⟨⟨by omega,by omega⟩,h0,⟨by omega,by omega⟩,h1,by omega,by omega⟩,trivial,trivial,trivial⟩,fun h2=>(by rw[hc] at h2;cases h2)⟩⟩⟩
theorem rf_left (heq:v=(x.k==20)) (hbe:b=(x.k==20)) (l0:List Int) (e0:rsE F (x.kids.getD 0 ex0) first=some l0) (h0:RfOK G Fl (kidA m x 0) first l0):RfOK G Fl (exD m x) first l0:=by
 have _:=hs
 have er:rdE (ndX m x)=x:=rdE_eq hx
 have k0:rdE (kidA m x 0)=x.kids.getD 0 ex0:=kid_rd hx (by omega)
 have t1:Int.toNat 1=1:=rfl
 have hsp:spB x=true:=(spB_iff x).2 (by omega)
 have hn:=atE_nds (x.kids.getD 0 ex0)
 have hn2:=nds_kid (x:=x) (i:=0) (by omega)
 have hc:(v==(x.k==19))=false:=by
  revert heq
  rcases hk with h|h<;>rw[h]<;>cases v<;>decide
 have hd:(b==v)=true:=by rw[heq,hbe];exact beq_self_eq_true _
 refine FnM.walk (orc:=orcRf F l ws m) (keep:=[]) [(83900,900)] follows (by kernel_rfl) Tryz.func62 rfl Tryz.call62 ?_
 refine of_tr (fun _ _ _ ZK=>(fun Za Zb Zc Zd Ze=>(ZK 103 [(ndX m x)] (db (spB (rdE (ndX m x))))∧(((!spB (rdE (ndX m x)))=true)→(((.vec 16 1 0 1):AV)=(.vec 900 1 0 l0.length)∧(none:(Option (List AV)))=Zc∧True))∧(((!spB (rdE (ndX m x)))=false)→((((x.k==18)=true)→(((((0:Int)≤(0:Int))∧(0<(↑x.kids.length:Int)))∧FnM Tryz.prog G 62 [(.d Zd),(vi first),Ze] [] (.vec 900 1 0 (rsD F Za first).length) [(900,[(.arr ⟨false,3,false,none⟩ 1 (rowI (rsD F Za first)))])])∧((.vec 27900 1 0 (rsD F Za first).length):AV)=(.vec 900 1 0 l0.length)∧(none:(Option (List AV)))=Zc∧True))∧(((x.k==18)=false)→(ZK 50 [(ndX m x),(.slc 6 Fl.length (ftF Fl))] (.tup [(.agg [(ds (kvR F l ws (rdE (ndX m x))).fst.nm),(di (kvR F l ws (rdE (ndX m x))).fst.kind),(di (kvR F l ws (rdE (ndX m x))).fst.n),(di (kvR F l ws (rdE (ndX m x))).fst.d),(db (kvR F l ws (rdE (ndX m x))).fst.tr),(ds (kvR F l ws (rdE (ndX m x))).fst.wd)]),(di (kvR F l ws (rdE (ndX m x))).snd)])∧((((0:Int)≤(0:Int))∧(0<(↑x.kids.length:Int)))∧ZK 50 [Zd,(.slc 6 Fl.length (ftF Fl))] (.tup [(.agg [(ds (kvR F l ws Za).fst.nm),(di (kvR F l ws Za).fst.kind),(di (kvR F l ws Za).fst.n),(di (kvR F l ws Za).fst.d),(db (kvR F l ws Za).fst.tr),(ds (kvR F l ws Za).fst.wd)]),(di (kvR F l ws Za).snd)]))∧((((0:Int)≤(0:Int))∧(0<(↑x.kids.length:Int)))∧ZK 57 [Zd] (.slc 6 (atE Za).length (exsF m (atE Za)))∧(I64 (first + ↑(atE Za).length)))∧((((kvR F l ws (rdE (ndX m x))).fst.tr==(x.k==19))=true)→(((((0:Int)≤(0:Int))∧(0<(↑x.kids.length:Int)))∧FnM Tryz.prog G 62 [(.d Zd),(vi first),Ze] [] (.vec 900 1 0 (rsD F Za first).length) [(900,[(.arr ⟨false,3,false,none⟩ 1 (rowI (rsD F Za first)))])]∧(((0:Int)≤(1:Int))∧(1<(↑x.kids.length:Int)))∧FnM Tryz.prog G 62 [(.d Zb),(vi (first + ↑(atE Za).length)),Ze] [] (.vec 900 1 0 (rsD F (rdE Zb) (first + ↑(atE Za).length)).length) [(900,[(.arr ⟨false,3,false,none⟩ 1 (rowI (rsD F (rdE Zb) (first + ↑(atE Za).length))))])]∧(((rsD F Za first).length+(rsD F (rdE Zb) (first + ↑(atE Za).length)).length)*8≤1099511627776)∧((rsD F Za first).length+(rsD F (rdE Zb) (first + ↑(atE Za).length)).length≤1099511627776))∧((.vec 70 1 0 ((rsD F Za first).length+(rsD F (rdE Zb) (first + ↑(atE Za).length)).length)):AV)=(.vec 900 1 0 l0.length)∧(none:(Option (List AV)))=Zc∧True))∧((((kvR F l ws (rdE (ndX m x))).fst.tr==(x.k==19))=false)→(((((kvR F l ws Za).fst.tr==(kvR F l ws (rdE (ndX m x))).fst.tr)=true)→(((((0:Int)≤(0:Int))∧(0<(↑x.kids.length:Int)))∧FnM Tryz.prog G 62 [(.d Zd),(vi first),Ze] [] (.vec 900 1 0 (rsD F Za first).length) [(900,[(.arr ⟨false,3,false,none⟩ 1 (rowI (rsD F Za first)))])])∧((.vec 900 1 0 (rsD F Za first).length):AV)=(.vec 900 1 0 l0.length)∧((some [(.arr ⟨false,3,false,none⟩ 1 (rowI (rsD F Za first)))]):(Option (List AV)))=Zc∧True))∧((((kvR F l ws Za).fst.tr==(kvR F l ws (rdE (ndX m x))).fst.tr)=false)→(((((0:Int)≤(1:Int))∧(1<(↑x.kids.length:Int)))∧FnM Tryz.prog G 62 [(.d Zb),(vi (first + ↑(atE Za).length)),Ze] [] (.vec 900 1 0 (rsD F (rdE Zb) (first + ↑(atE Za).length)).length) [(900,[(.arr ⟨false,3,false,none⟩ 1 (rowI (rsD F (rdE Zb) (first + ↑(atE Za).length))))])])∧((.vec 90900 1 0 (rsD F (rdE Zb) (first + ↑(atE Za).length)).length):AV)=(.vec 900 1 0 l0.length)∧(none:(Option (List AV)))=Zc∧True)))))))))) (rdE (ndA m (x.kids.getD (Int.toNat 0) ex0))) (ndA m (x.kids.getD (Int.toNat 1) ex0)) (some [(.arr ⟨false,3,false,none⟩ 1 (rowI l0))]) (ndA m (x.kids.getD (Int.toNat 0) ex0)) ((.d (.slc 6 Fl.length (ftF Fl))):AV)) (by kernel_rfl) ?_
 simp only[er,Int.toNat_zero,t1,k0,rsD_of e0,hv,hb]
 refine⟨f103 m x,fun h2=>(by rw[hsp] at h2;cases h2),fun _=>⟨fun h2=>absurd (by simpa using h2:x.k=18) (by omega),fun _=>⟨hV,⟨⟨by omega,by omega⟩,hB⟩,⟨⟨by omega,by omega⟩,h57,by omega,by omega⟩,fun h2=>(by rw[hc] at h2;cases h2),fun _=>⟨fun _=>⟨⟨⟨by omega,by omega⟩,h0⟩,trivial,trivial,trivial⟩,fun h2=>(by rw[hd] at h2;cases h2)⟩⟩⟩⟩
theorem rf_right (heq:v=(x.k==20)) (hbe:b≠(x.k==20)) (l1:List Int) (e1:rsE F (x.kids.getD 1 ex0) (first+(atE (x.kids.getD 0 ex0)).length)=some l1) (h1:RfOK G Fl (kidA m x 1) (first+(atE (x.kids.getD 0 ex0)).length) l1):RfOK G Fl (exD m x) first l1:=by
 have _:=hs
 have er:rdE (ndX m x)=x:=rdE_eq hx
 have k0:rdE (kidA m x 0)=x.kids.getD 0 ex0:=kid_rd hx (by omega)
 have k1:rdE (kidA m x 1)=x.kids.getD 1 ex0:=kid_rd hx (by omega)
 have t1:Int.toNat 1=1:=rfl
 have hsp:spB x=true:=(spB_iff x).2 (by omega)
 have hn:=atE_nds (x.kids.getD 0 ex0)
 have hn2:=nds_kid (x:=x) (i:=0) (by omega)
 have hc:(v==(x.k==19))=false:=by
  revert heq
  rcases hk with h|h<;>rw[h]<;>cases v<;>decide
 have hd:(b==v)=false:=by rw[heq];exact beq_eq_false_iff_ne.2 hbe
 refine FnM.walk (orc:=orcRf F l ws m) (keep:=[]) [(90900,900)] follows (by kernel_rfl) Tryz.func62 rfl Tryz.call62 ?_
 refine of_tr (fun _ _ _ ZK=>(fun Za Zb Zc Zd Ze=>(ZK 103 [(ndX m x)] (db (spB (rdE (ndX m x))))∧(((!spB (rdE (ndX m x)))=true)→(((.vec 16 1 0 1):AV)=(.vec 900 1 0 l1.length)∧(none:(Option (List AV)))=Zc∧True))∧(((!spB (rdE (ndX m x)))=false)→((((x.k==18)=true)→(((((0:Int)≤(0:Int))∧(0<(↑x.kids.length:Int)))∧FnM Tryz.prog G 62 [(.d Zd),(vi first),Ze] [] (.vec 900 1 0 (rsD F Za first).length) [(900,[(.arr ⟨false,3,false,none⟩ 1 (rowI (rsD F Za first)))])])∧((.vec 27900 1 0 (rsD F Za first).length):AV)=(.vec 900 1 0 l1.length)∧(none:(Option (List AV)))=Zc∧True))∧(((x.k==18)=false)→(ZK 50 [(ndX m x),(.slc 6 Fl.length (ftF Fl))] (.tup [(.agg [(ds (kvR F l ws (rdE (ndX m x))).fst.nm),(di (kvR F l ws (rdE (ndX m x))).fst.kind),(di (kvR F l ws (rdE (ndX m x))).fst.n),(di (kvR F l ws (rdE (ndX m x))).fst.d),(db (kvR F l ws (rdE (ndX m x))).fst.tr),(ds (kvR F l ws (rdE (ndX m x))).fst.wd)]),(di (kvR F l ws (rdE (ndX m x))).snd)])∧((((0:Int)≤(0:Int))∧(0<(↑x.kids.length:Int)))∧ZK 50 [Zd,(.slc 6 Fl.length (ftF Fl))] (.tup [(.agg [(ds (kvR F l ws Za).fst.nm),(di (kvR F l ws Za).fst.kind),(di (kvR F l ws Za).fst.n),(di (kvR F l ws Za).fst.d),(db (kvR F l ws Za).fst.tr),(ds (kvR F l ws Za).fst.wd)]),(di (kvR F l ws Za).snd)]))∧((((0:Int)≤(0:Int))∧(0<(↑x.kids.length:Int)))∧ZK 57 [Zd] (.slc 6 (atE Za).length (exsF m (atE Za)))∧(I64 (first + ↑(atE Za).length)))∧((((kvR F l ws (rdE (ndX m x))).fst.tr==(x.k==19))=true)→(((((0:Int)≤(0:Int))∧(0<(↑x.kids.length:Int)))∧FnM Tryz.prog G 62 [(.d Zd),(vi first),Ze] [] (.vec 900 1 0 (rsD F Za first).length) [(900,[(.arr ⟨false,3,false,none⟩ 1 (rowI (rsD F Za first)))])]∧(((0:Int)≤(1:Int))∧(1<(↑x.kids.length:Int)))∧FnM Tryz.prog G 62 [(.d Zb),(vi (first + ↑(atE Za).length)),Ze] [] (.vec 900 1 0 (rsD F (rdE Zb) (first + ↑(atE Za).length)).length) [(900,[(.arr ⟨false,3,false,none⟩ 1 (rowI (rsD F (rdE Zb) (first + ↑(atE Za).length))))])]∧(((rsD F Za first).length+(rsD F (rdE Zb) (first + ↑(atE Za).length)).length)*8≤1099511627776)∧((rsD F Za first).length+(rsD F (rdE Zb) (first + ↑(atE Za).length)).length≤1099511627776))∧((.vec 70 1 0 ((rsD F Za first).length+(rsD F (rdE Zb) (first + ↑(atE Za).length)).length)):AV)=(.vec 900 1 0 l1.length)∧(none:(Option (List AV)))=Zc∧True))∧((((kvR F l ws (rdE (ndX m x))).fst.tr==(x.k==19))=false)→(((((kvR F l ws Za).fst.tr==(kvR F l ws (rdE (ndX m x))).fst.tr)=true)→(((((0:Int)≤(0:Int))∧(0<(↑x.kids.length:Int)))∧FnM Tryz.prog G 62 [(.d Zd),(vi first),Ze] [] (.vec 900 1 0 (rsD F Za first).length) [(900,[(.arr ⟨false,3,false,none⟩ 1 (rowI (rsD F Za first)))])])∧((.vec 83900 1 0 (rsD F Za first).length):AV)=(.vec 900 1 0 l1.length)∧(none:(Option (List AV)))=Zc∧True))∧((((kvR F l ws Za).fst.tr==(kvR F l ws (rdE (ndX m x))).fst.tr)=false)→(((((0:Int)≤(1:Int))∧(1<(↑x.kids.length:Int)))∧FnM Tryz.prog G 62 [(.d Zb),(vi (first + ↑(atE Za).length)),Ze] [] (.vec 900 1 0 (rsD F (rdE Zb) (first + ↑(atE Za).length)).length) [(900,[(.arr ⟨false,3,false,none⟩ 1 (rowI (rsD F (rdE Zb) (first + ↑(atE Za).length))))])])∧((.vec 900 1 0 (rsD F (rdE Zb) (first + ↑(atE Za).length)).length):AV)=(.vec 900 1 0 l1.length)∧((some [(.arr ⟨false,3,false,none⟩ 1 (rowI (rsD F (rdE Zb) (first + ↑(atE Za).length))))]):(Option (List AV)))=Zc∧True)))))))))) (rdE (ndA m (x.kids.getD (Int.toNat 0) ex0))) (ndA m (x.kids.getD (Int.toNat 1) ex0)) (some [(.arr ⟨false,3,false,none⟩ 1 (rowI l1))]) (ndA m (x.kids.getD (Int.toNat 0) ex0)) ((.d (.slc 6 Fl.length (ftF Fl))):AV)) (by kernel_rfl) ?_
 simp only[er,Int.toNat_zero,t1,k0,k1,rsD_of e1,hv,hb]
 refine⟨f103 m x,fun h2=>(by rw[hsp] at h2;cases h2),fun _=>⟨fun h2=>absurd (by simpa using h2:x.k=18) (by omega),fun _=>⟨hV,⟨⟨by omega,by omega⟩,hB⟩,⟨⟨by omega,by omega⟩,h57,by omega,by omega⟩,fun h2=>(by rw[hc] at h2;cases h2),fun _=>⟨fun h2=>(by rw[hd] at h2;cases h2),fun _=>⟨⟨⟨by omega,by omega⟩,h1⟩,trivial,trivial,trivial⟩⟩⟩⟩⟩
end
theorem f62 {Fl:List Ft} {L:List Fc} (hfit:FitF Fl L) (hFl:Fl.length≤100000) (ws:List ByteArray) (m:Nat):∀(x:Ex) (first:Int) (v:Bool) (r:List Int),ht x≤m→Sm x→sndE x=true→(tyE (revF L L.length) ws x).2.2=0→(tyE (revF L L.length) ws x).1=1→0≤first∧first+nds x≤100000→
  bvE (revT Fl Fl.length) x=some v→rsE (revT Fl Fl.length) x first=some r→RfOK G Fl (exD m x) first r:=by
 induction m using Nat.strongRecOn with
 | _ m ih=>
 intro x first v r hx hs hsn h2 h1 hf hv hr
 have hnd:=hs.nd
 cases hsp:spB x with
 | false=>
  rw[rsE_out hsp] at hr
  obtain rfl:=Option.some.inj hr
  exact rf_out Fl m x first hx hsp
 | true=>
  have hk18:18≤x.k:=by rcases (spB_iff x).1 hsp with h|h|h<;>omega
  have kid:∀i,i<x.kids.length→∀(n:Int) (v:Bool) (r:List Int),0≤n∧n+nds (x.kids.getD i ex0)≤100000→bvE (revT Fl Fl.length) (x.kids.getD i ex0)=some v→rsE (revT Fl Fl.length) (x.kids.getD i ex0) n=some r→RfOK G Fl (kidA m x i) n r:=fun i hi n v r hn hv hr=>
   kidOK (Q:=fun d=>RfOK G Fl d n r) hx hi fun m' h3 h4=>ih m' h3 _ n v r h4 (hs.kid hi) (snd_kid hsn hi) ((tyE_fine h2).1 i hi) ((ty_kids h2).2 hk18 i hi) hn hv hr
  have kidV:∀i,i<x.kids.length→FnOK Tryz.prog G 50 [kidA m x i,ftsD Fl] (.tup [ftD (kvR (revT Fl Fl.length) (revF L L.length) ws (x.kids.getD i ex0)).1,di (kvR (revT Fl Fl.length) (revF L L.length) ws (x.kids.getD i ex0)).2]):=fun i hi=>
   kidOK (Q:=fun d=>FnOK Tryz.prog G 50 [d,ftsD Fl] (.tup [ftD (kvR (revT Fl Fl.length) (revF L L.length) ws (x.kids.getD i ex0)).1,di (kvR (revT Fl Fl.length) (revF L L.length) ws (x.kids.getD i ex0)).2])) hx hi fun m' h3 h4=>f50 hfit hFl ws m' _ h4 (hs.kid hi) (snd_kid hsn hi) ((tyE_fine h2).1 i hi)
  have kidT:∀i,i<x.kids.length→FnOK Tryz.prog G 57 [kidA m x i] (exsD m (atE (x.kids.getD i ex0))):=fun i hi=>
   kidOK (Q:=fun d=>FnOK Tryz.prog G 57 [d] (exsD m (atE (x.kids.getD i ex0)))) hx hi fun m' h3 h4=>f57 m m' _ h4 (by have:=ht_kid hi;omega) (hs.kid hi)
  have kvT:∀(y:Ex) (b:Bool),(tyE (revF L L.length) ws y).1=1→bvE (revT Fl Fl.length) y=some b→kvR (revT Fl Fl.length) (revF L L.length) ws y=({ ftK 1 with tr:=b },0):=fun y b ht hb=>by
   unfold kvR;rw[ht,vlR_tr,hb]
  rcases (spB_iff x).1 hsp with h18|h1920
  ·have hl:=snd_one (x:=x) hsn (.inr h18)
   have hn:=nds_kid (x:=x) (i:=0) (by omega)
   rw[rsE_not h18 (by omega)] at hr
   exact rf_not Fl (revT Fl Fl.length) m x first hx h18 (by omega) r hr (kid 0 (by omega) first _ r (by omega) (bv_not h18 (by omega) hv) hr)
  ·have hl:=(snd_two (x:=x) hsn (by omega)).1
   have hn0:=nds_kid (x:=x) (i:=0) (by omega)
   have ha:=atE_nds (x.kids.getD 0 ex0)
   have hnn:nds (x.kids.getD 0 ex0)+nds (x.kids.getD 1 ex0)+1=nds x:=by
    have hn1:=nds_eq x
    match hkk:x.kids,hl with
    | [a,b],_=>rw[hn1,hkk];simp[ndsL];omega
   obtain ⟨b,hb,hc⟩:=bv_two h1920 (by omega) hv
   have hh0:=ht_kid (x:=x) (i:=0) (by omega)
   have hh1:=ht_kid (x:=x) (i:=1) (by omega)
   have t0:=(ty_kids h2).2 hk18 0 (by omega)
   have kx:=kvT x v h1 hv
   have kb:=kvT _ b t0 hb
   have hV:=f50 (G:=G) hfit hFl ws m x hx hs hsn h2
   rw[kx] at hV
   have hB:=kidV 0 (by omega)
   rw[kb] at hB
   have e0:∃l0,rsE (revT Fl Fl.length) (x.kids.getD 0 ex0) first=some l0:=by
    cases h:rsE (revT Fl Fl.length) (x.kids.getD 0 ex0) first with
    | none=>exact absurd h (rs_some m _ b first (by omega) (snd_kid hsn (by omega)) hb)
    | some l0=>exact⟨l0,rfl⟩
   obtain ⟨l0,e0⟩:=e0
   have c0:=rs_len m _ _ _ (by omega) (snd_kid hsn (by omega)) e0
   have r0:=kid 0 (by omega) first b l0 (by omega) hb e0
   have hE:=rsE_two (F:=revT Fl Fl.length) h1920 (by omega) first
   rw[hr,hv,hb] at hE
   unfold rsK at hE
   rw[if_neg (by omega)] at hE
   have hE:some r=if v≠(x.k==20) then apO (rsE (revT Fl Fl.length) (x.kids.getD 0 ex0) first) (rsE (revT Fl Fl.length) (x.kids.getD 1 ex0) (first+(atE (x.kids.getD 0 ex0)).length)) else if b=(x.k==20) then rsE (revT Fl Fl.length) (x.kids.getD 0 ex0) first else rsE (revT Fl Fl.length) (x.kids.getD 1 ex0) (first+(atE (x.kids.getD 0 ex0)).length):=hE
   have hv1:b≠(x.k==20)→bvE (revT Fl Fl.length) (x.kids.getD 1 ex0)=some v:=fun h=>by
    rcases hc with hc|hc
    ·exact absurd hc.1 h
    ·exact hc.2
   by_cases hne:v≠(x.k==20)
   ·have hbn:b≠(x.k==20):=fun h=>by
     rcases hc with hc|hc
     ·exact hne (hc.2.trans h)
     ·exact hc.1 h
    rw[if_pos hne,e0] at hE
    cases h:rsE (revT Fl Fl.length) (x.kids.getD 1 ex0) (first+(atE (x.kids.getD 0 ex0)).length) with
    | none=>rw[h] at hE;cases hE
    | some l1=>
     rw[h] at hE
     obtain rfl:=Option.some.inj hE
     have c1:=rs_len m _ _ _ (by omega) (snd_kid hsn (by omega)) h
     exact rf_both Fl (revT Fl Fl.length) (revF L L.length) ws m x first hx hs hl h1920 hf kx kb hV hB (kidT 0 (by omega)) hne l0 l1 e0 h (by omega) (by omega) r0 (kid 1 (by omega) _ v l1 (by omega) (hv1 hbn) h)
   ·rw[if_neg hne] at hE
    have heq:v=(x.k==20):=Classical.not_not.1 hne
    by_cases hbe:b=(x.k==20)
    ·rw[if_pos hbe,e0] at hE
     obtain rfl:=Option.some.inj hE
     exact rf_left Fl (revT Fl Fl.length) (revF L L.length) ws m x first hx hs hl h1920 hf kx kb hV hB (kidT 0 (by omega)) heq hbe _ e0 r0
    ·rw[if_neg hbe] at hE
     exact rf_right Fl (revT Fl Fl.length) (revF L L.length) ws m x first hx hs hl h1920 hf kx kb hV hB (kidT 0 (by omega)) heq hbe r hE.symm (kid 1 (by omega) _ v r (by omega) (hv1 hbe) hE.symm)
/-! Reasons,by the reference. -/
noncomputable def d20 (F:List Ft) (L:List Fc) (v:Ft×Int):Oracle:=fun f a=>match f,a with
 | 15,[_,_]=>some (db (vaF F L))
 | 49,[x,_]=>some (.tup [di (typR L (rdE x)).1,di (typR L (rdE x)).2.1,di (typR L (rdE x)).2.2])
 | 50,[_,_]=>some (.tup [ftD v.1,di v.2])
 | _,_=>none
def m20 (l:List Int):FuncId→List AV→List (Nat×List AV)→Option (AV×List (Nat×List AV)):=fun f _ _=>match f with
 | 62=>some (.vec 900 1 0 l.length,[rwI l])
 | _=>none
noncomputable def orc20 (F:List Ft) (L:List Fc) (v:Ft×Int) (l:List Int):Orc:={ d:=d20 F L v,m:=m20 l }
section
variable (hT:Tab G) (F:List Ft) (L:List Fc) (h:∀i,i<L.length→FcS (L.getD i fc0)) (hl:L.length≤1000) (hF:F.length≤100000) (m:Nat) (x:Ex) (hx:ht x≤m) (hs:Sm x)
include hT h hl hF hx hs
theorem f20_ok (h1:vaF F L=true) (h2:(typR L x).2.2=0) (h3:(typR L x).1=1) (v:Ft) (l:List Int) (h50:FnOK Tryz.prog G 50 [exD m x,ftsD F] (.tup [ftD v,di 0])) (h62:RfOK G F (exD m x) 0 l) :
  FnM Tryz.prog G 20 [.d (exD m x),.d (ftsD F),.d (fcsD L)] [] (.tup [.vec 900 1 0 l.length,vi 0]) [rwI l]:=by
 have er:rdE (ndX m x)=x:=rdE_eq hx
 refine FnM.walk (orc:=orc20 F L (v,0) l) (keep:=[]) [(41900,900)] follows (by kernel_rfl) Tryz.func20 rfl Tryz.call20 ?_
 refine of_tr (fun _ _ _ ZK=>(fun Za Zb=>(ZK 15 [(.slc 6 F.length (ftF F)),(.slc 7 L.length (fcF L))] (db (vaF F L))∧(((!vaF F L)=true)→(((.d (.tup [(.con (.slice none 0 0)),(di 1)])):AV)=Zb∧(none:(Option (List AV)))=Za∧True))∧(((!vaF F L)=false)→(ZK 49 [(ndX m x),(.slc 7 L.length (fcF L))] (.tup [(di (typR L (rdE (ndX m x))).fst),(di (typR L (rdE (ndX m x))).snd.fst),(di (typR L (rdE (ndX m x))).snd.snd)])∧((((typR L (rdE (ndX m x))).snd.snd != 0)=true)→(((.d (.tup [(.con (.slice none 0 0)),(di (typR L (rdE (ndX m x))).snd.snd)])):AV)=Zb∧(none:(Option (List AV)))=Za∧True))∧((((typR L (rdE (ndX m x))).snd.snd != 0)=false)→(((((typR L (rdE (ndX m x))).fst != 1)=true)→(((.d (.tup [(.con (.slice none 0 0)),(di 5)])):AV)=Zb∧(none:(Option (List AV)))=Za∧True))∧((((typR L (rdE (ndX m x))).fst != 1)=false)→(ZK 50 [(ndX m x),(.slc 6 F.length (ftF F))] (.tup [(.agg [(ds v.nm),(di v.kind),(di v.n),(di v.d),(db v.tr),(ds v.wd)]),(di 0)])∧((false=true)→(((.d (.tup [(.con (.slice none 0 0)),(di 0)])):AV)=Zb∧(none:(Option (List AV)))=Za∧True))∧((false=false)→(FnM Tryz.prog G 62 [(.d (ndX m x)),(vi 0),(.d (.slc 6 F.length (ftF F)))] [] (.vec 900 1 0 l.length) [(900,[(.arr ⟨false,3,false,none⟩ 1 (rowI l))])]∧(ZS (Zb:AV))∧(Za:(Option (List AV)))=Za∧True)))))))))) (some [(.arr ⟨false,3,false,none⟩ 1 (rowI l))]) ((.tup [(.vec 900 1 0 l.length),(vi 0)]):AV)) (by kernel_rfl) ?_
 simp only[er]
 refine⟨f15 hT F L h hl (by omega),fun c=>(by rw[h1] at c;cases c),fun _=>⟨f49 hT m x L hx hs h hl,fun c=>absurd h2 (by simpa using c),fun _=>⟨fun c=>absurd h3 (by simpa using c),fun _=>⟨h50,fun c=>Bool.noConfusion c,fun _=>⟨h62,trivial,trivial,trivial⟩⟩⟩⟩⟩
theorem f20_no (c:Int) (v:Ft×Int) (ha:vaF F L=false→c=1) (hb:vaF F L=true→(typR L x).2.2≠0→c=(typR L x).2.2) (hc:vaF F L=true→(typR L x).2.2=0→(typR L x).1≠1→c=5)
  (hd:vaF F L=true→(typR L x).2.2=0→(typR L x).1=1→v.2≠0∧c=v.2∧FnOK Tryz.prog G 50 [exD m x,ftsD F] (.tup [ftD v.1,di v.2])):FnOK Tryz.prog G 20 [exD m x,ftsD F,fcsD L] (.tup [.con (.slice none 0 0),di c]):=by
 have er:rdE (ndX m x)=x:=rdE_eq hx
 refine FnOK.walkK (orc:=orc20 F L v []) (keep:=[]) follows Tryz.func20 rfl Tryz.call20 ?_
 refine of_tr (fun _ _ _ ZK=>(fun Za=>(ZK 15 [(.slc 6 F.length (ftF F)),(.slc 7 L.length (fcF L))] (db (vaF F L))∧(((!vaF F L)=true)→(((.tup [(.con (.slice none 0 0)),(di 1)]):DV)=Za))∧(((!vaF F L)=false)→(ZK 49 [(ndX m x),(.slc 7 L.length (fcF L))] (.tup [(di (typR L (rdE (ndX m x))).fst),(di (typR L (rdE (ndX m x))).snd.fst),(di (typR L (rdE (ndX m x))).snd.snd)])∧((((typR L (rdE (ndX m x))).snd.snd != 0)=true)→(((.tup [(.con (.slice none 0 0)),(di (typR L (rdE (ndX m x))).snd.snd)]):DV)=Za))∧((((typR L (rdE (ndX m x))).snd.snd != 0)=false)→(((((typR L (rdE (ndX m x))).fst != 1)=true)→(((.tup [(.con (.slice none 0 0)),(di 5)]):DV)=Za))∧((((typR L (rdE (ndX m x))).fst != 1)=false)→(ZK 50 [(ndX m x),(.slc 6 F.length (ftF F))] (.tup [(.agg [(ds v.fst.nm),(di v.fst.kind),(di v.fst.n),(di v.fst.d),(db v.fst.tr),(ds v.fst.wd)]),(di v.snd)])∧(((v.snd != 0)=true)→(((.tup [(.con (.slice none 0 0)),(di v.snd)]):DV)=Za))∧(((v.snd != 0)=false)→(FnM Tryz.prog G 62 [(.d (ndX m x)),(vi 0),(.d (.slc 6 F.length (ftF F)))] [] (.vec 900 1 0 0) [(900,[(.arr ⟨false,3,false,none⟩ 1 (rowI []))])]∧((.tup [(.slc 1 0 (fun i=>rowI [] (0+i))),(di 0)]):DV)=Za)))))))))) ((.tup [(.con (.slice none 0 0)),(di c)]):DV)) (by kernel_rfl) ?_
 simp only[er]
 refine⟨f15 hT F L h hl (by omega),fun c1=>?_,fun c1=>⟨f49 hT m x L hx hs h hl,fun c2=>?_,fun c2=>⟨fun c3=>?_,fun c3=>?_⟩⟩⟩
 ·rw[ha (by simpa using c1)]
 ·rw[hb (by simpa using c1) (by simpa using c2)]
 ·rw[hc (by simpa using c1) (by simpa using c2) (by simpa using c3)]
 ·obtain ⟨e1,e2,e3⟩:=hd (by simpa using c1) (by simpa using c2) (by simpa using c3)
  refine⟨e3,fun _=>by rw[e2],fun c4=>absurd (by simpa using c4) e1⟩
theorem f20:((rnR F L x).2=0→FnM Tryz.prog G 20 [.d (exD m x),.d (ftsD F),.d (fcsD L)] [] (.tup [.vec 900 1 0 (rnR F L x).1.length,vi 0]) [rwI (rnR F L x).1])∧
  ((rnR F L x).2≠0→FnOK Tryz.prog G 20 [exD m x,ftsD F,fcsD L] (.tup [.con (.slice none 0 0),di (rnR F L x).2])):=by
 by_cases hg:vaF F L=true∧(typR L x).2.2=0∧(typR L x).1=1
 ·obtain ⟨h1,h2,h3⟩:=hg
  have hfit:=fit_of h1
  obtain ⟨_,hsn,hty,etyp⟩:=typ_sound h2
  have ek:(tyW L x).1=1:=by rw[etyp] at h3;exact h3
  have hnd:=hs.nd
  have h50:=f50_typ (G:=G) hF m x hx hs h1 h2
  rw[h3,vlR_tr] at h50
  have e:rnR F L x=match rzE (revT F F.length) x with|some l=>(l,0)|none=>([],2):=by
   unfold rnR;rw[if_pos h1,if_pos h2,if_pos h3];try rfl
  cases hv:bvE (revT F F.length) x with
  | some v=>
   rw[hv] at h50
   cases hl':rsE (revT F F.length) x 0 with
   | none=>exact absurd hl' (rs_some m x v 0 hx hsn hv)
   | some l=>
    have e2:rnR F L x=(l,0):=by rw[e];unfold rzE;rw[hv];simp only[hl']
    rw[e2]
    exact⟨fun _=>f20_ok hT F L h hl hF m x hx hs h1 h2 h3 _ l h50 (f62 hfit hF _ m x 0 v l hx hs hsn hty ek (by omega) hv hl'),fun c=>absurd rfl c⟩
  | none=>
   rw[hv] at h50
   have e2:rnR F L x=([],2):=by rw[e];unfold rzE;rw[hv]
   rw[e2]
   exact⟨fun c=>absurd c (by decide),fun _=>f20_no hT F L h hl hF m x hx hs 2 (ft0,2) (fun c=>by rw[h1] at c;cases c) (fun _ c=>absurd h2 c) (fun _ _ c=>absurd h3 c) fun _ _ _=>⟨by decide,rfl,h50⟩⟩
 ·have hne:(rnR F L x).2≠0:=by
   unfold rnR
   by_cases h1:vaF F L=true
   ·rw[if_pos h1]
    by_cases h2:(typR L x).2.2=0
    ·rw[if_pos h2,if_neg (fun h3=>hg ⟨h1,h2,h3⟩)];decide
    ·rw[if_neg h2];exact h2
   ·rw[if_neg h1];decide
  refine⟨fun c=>absurd c hne,fun _=>f20_no hT F L h hl hF m x hx hs _ (ft0,2) (fun h1=>?_) (fun h1 h2=>?_) (fun h1 h2 h3=>?_) fun h1 h2 h3=>absurd ⟨h1,h2,h3⟩ hg⟩
  ·unfold rnR;rw[if_neg (by rw[h1];decide)]
  ·unfold rnR;rw[if_pos h1,if_neg h2]
  ·unfold rnR;rw[if_pos h1,if_pos h2,if_neg h3]
end
/-! Atoms. -/
def atR (L:List Fc) (x:Ex):List Ex:=if (typR L x).2.2=0∧(typR L x).1=1 then atE x else []
noncomputable def d16 (L:List Fc) (M:Nat):Oracle:=fun f a=>match f,a with
 | 42,[x,_]=>some (.tup [di (typR L (rdE x)).1,di (typR L (rdE x)).2.1,di (typR L (rdE x)).2.2])
 | 49,[x,_]=>some (.tup [di (typR L (rdE x)).1,di (typR L (rdE x)).2.1,di (typR L (rdE x)).2.2])
 | 56,[x]=>some (exsD M (atE (rdE x)))
 | 57,[x]=>some (exsD M (atE (rdE x)))
 | _,_=>none
theorem f16 (hT:Tab G) (L:List Fc) (h:∀i,i<L.length→FcS (L.getD i fc0)) (hl:L.length≤1000) (m:Nat) (x:Ex) (hx:ht x≤m) (hs:Sm x):FnOK Tryz.prog G 16 [exD m x,fcsD L] (exsD m (atR L x)):=by
 have er:rdE (ndX m x)=x:=rdE_eq hx
 unfold atR
 by_cases hc:(typR L x).2.2=0∧(typR L x).1=1
 ·rw[if_pos hc]
  refine FnOK.walkK (orc:=d16 L m) (keep:=[]) follows Tryz.func16 rfl Tryz.call16 ?_
  refine of_tr (fun _ _ _ ZK=>(fun Za=>(ZK 42 [(ndX m x),(.slc 7 L.length (fcF L))] (.tup [(di (typR L (rdE (ndX m x))).fst),(di (typR L (rdE (ndX m x))).snd.fst),(di (typR L (rdE (ndX m x))).snd.snd)])∧((Za=true)→(((.con (.slice none 0 0)):DV)=(exsD m (atE x))))∧((Za=false)→(ZK 56 [(ndX m x)] (.slc 6 (atE (rdE (ndX m x))).length (exsF m (atE (rdE (ndX m x)))))∧((.slc 6 (atE (rdE (ndX m x))).length (exsF m (atE (rdE (ndX m x))))):DV)=(exsD m (atE x)))))) ((typR L (rdE (ndX m x))).snd.snd != 0||(typR L (rdE (ndX m x))).fst != 1)) (by kernel_rfl) ?_
  simp only[er]
  refine⟨f42 hT m x L hx hs h hl,fun c=>?_,fun _=>⟨f56 m m x hx hx hs,trivial⟩⟩
  rw[hc.1,hc.2] at c;cases c
 ·rw[if_neg hc]
  refine FnOK.res (r:=.con (.slice none 0 0)) ?_ fun k v hv=>nil_slc hv
  refine FnOK.walkK (orc:=d16 L m) (keep:=[]) follows Tryz.func16 rfl Tryz.call16 ?_
  refine of_tr (fun _ _ _ ZK=>(fun Za=>(ZK 42 [(ndX m x),(.slc 7 L.length (fcF L))] (.tup [(di (typR L (rdE (ndX m x))).fst),(di (typR L (rdE (ndX m x))).snd.fst),(di (typR L (rdE (ndX m x))).snd.snd)])∧((Za=true)→(ZS ((.con (.slice none 0 0)):DV)))∧((Za=false)→(ZK 56 [(ndX m x)] (.slc 6 (atE (rdE (ndX m x))).length (exsF m (atE (rdE (ndX m x)))))∧((.slc 6 (atE (rdE (ndX m x))).length (exsF m (atE (rdE (ndX m x))))):DV)=(.con (.slice none 0 0)))))) ((typR L (rdE (ndX m x))).snd.snd != 0||(typR L (rdE (ndX m x))).fst != 1)) (by kernel_rfl) ?_
  simp only[er]
  refine⟨f42 hT m x L hx hs h hl,fun _=>trivial,fun c=>?_⟩
  exact absurd (by simpa using c) hc
theorem f17 (hT:Tab G) (L:List Fc) (h:∀i,i<L.length→FcS (L.getD i fc0)) (hl:L.length≤1000) (m:Nat) (x:Ex) (hx:ht x≤m) (hs:Sm x):FnOK Tryz.prog G 17 [exD m x,fcsD L] (exsD m (atR L x)):=by
 have er:rdE (ndX m x)=x:=rdE_eq hx
 unfold atR
 by_cases hc:(typR L x).2.2=0∧(typR L x).1=1
 ·rw[if_pos hc]
  refine FnOK.walkK (orc:=d16 L m) (keep:=[]) follows Tryz.func17 rfl Tryz.call17 ?_
  refine of_tr (fun _ _ _ ZK=>(fun Za=>(ZK 49 [(ndX m x),(.slc 7 L.length (fcF L))] (.tup [(di (typR L (rdE (ndX m x))).fst),(di (typR L (rdE (ndX m x))).snd.fst),(di (typR L (rdE (ndX m x))).snd.snd)])∧((Za=true)→(((.con (.slice none 0 0)):DV)=(exsD m (atE x))))∧((Za=false)→(ZK 57 [(ndX m x)] (.slc 6 (atE (rdE (ndX m x))).length (exsF m (atE (rdE (ndX m x)))))∧((.slc 6 (atE (rdE (ndX m x))).length (exsF m (atE (rdE (ndX m x))))):DV)=(exsD m (atE x)))))) ((typR L (rdE (ndX m x))).snd.snd != 0||(typR L (rdE (ndX m x))).fst != 1)) (by kernel_rfl) ?_
  simp only[er]
  refine⟨f49 hT m x L hx hs h hl,fun c=>?_,fun _=>⟨f57 m m x hx hx hs,trivial⟩⟩
  rw[hc.1,hc.2] at c;cases c
 ·rw[if_neg hc]
  refine FnOK.res (r:=.con (.slice none 0 0)) ?_ fun k v hv=>nil_slc hv
  refine FnOK.walkK (orc:=d16 L m) (keep:=[]) follows Tryz.func17 rfl Tryz.call17 ?_
  refine of_tr (fun _ _ _ ZK=>(fun Za=>(ZK 49 [(ndX m x),(.slc 7 L.length (fcF L))] (.tup [(di (typR L (rdE (ndX m x))).fst),(di (typR L (rdE (ndX m x))).snd.fst),(di (typR L (rdE (ndX m x))).snd.snd)])∧((Za=true)→(ZS ((.con (.slice none 0 0)):DV)))∧((Za=false)→(ZK 57 [(ndX m x)] (.slc 6 (atE (rdE (ndX m x))).length (exsF m (atE (rdE (ndX m x)))))∧((.slc 6 (atE (rdE (ndX m x))).length (exsF m (atE (rdE (ndX m x))))):DV)=(.con (.slice none 0 0)))))) ((typR L (rdE (ndX m x))).snd.snd != 0||(typR L (rdE (ndX m x))).fst != 1)) (by kernel_rfl) ?_
  simp only[er]
  refine⟨f49 hT m x L hx hs h hl,fun _=>trivial,fun c=>?_⟩
  exact absurd (by simpa using c) hc
/-! An expression is itself;the law about atoms and reasons. -/
noncomputable def orcRfl:Oracle:=fun f _=>match f with
 | 58=>some (db true)
 | 18=>some (db true)
 | _=>none
noncomputable def S58 (m:Nat) (x:Ex) (k:Nat):AS:=⟨regs Tryz.f58.ntmps [(2,.box 2 0),(3,.box 3 0),(5,vi k)],[(2,exC m x),(3,exC m x)]⟩
theorem f58_refl (m:Nat):∀(x:Ex),ht x≤m→Sm x→FnOK Tryz.prog G 58 [exD m x,exD m x] (db true):=by
 induction m using Nat.strongRecOn with
 | _ m ih=>
 intro x hx hs
 have hlen:=hs.len.1
 refine FnOK.walkK (orc:=orcRfl) (keep:=[]) follows Tryz.func58 rfl Tryz.call58 ?_
 refine of_tr (fun ZT ZW ZQ _=>(fun Za=>(((Za=true)→(((db false):DV)=(db true)))∧((Za=false)→ZW [cd Tryz.f58 [1,1,0,1,0],(.blk 0),cd Tryz.f58 [1,1,1]] (stS ZT [1]) ZQ))) (x.k != x.k||!x.s.toList==x.s.toList||!Bool.rec false (x.d==x.d) (x.n==x.n)||(↑x.kids.length:Int) != ↑x.kids.length)) (by kernel_rfl) ?_
 have hz:(x.k != x.k||!x.s.toList==x.s.toList||!Bool.rec false (x.d==x.d) (x.n==x.n)||(x.kids.length:Int) != x.kids.length)=false:=by
  simp[brec]
 refine⟨fun h=>(by rw[hz] at h;cases h),fun _=>?_⟩
 refine AWP.loop (c:=cAt (bodyOf Tryz.f58) [1,1,0,1,0,0]) (by kernel_rfl) (S58 m x) (fun k=>k≤x.kids.length) (fun k=>x.kids.length-k) 0 ?_ (Nat.zero_le _) ?_
 ·exact AS.leA (by kernel_rfl)
 ·intro k hk
  by_cases hk2:k<x.kids.length
  ·have hkid:FnOK Tryz.prog G 58 [kidA m x k,kidA m x k] (db true):=kidOK (Q:=fun d=>FnOK Tryz.prog G 58 [d,d] (db true)) hx hk2 fun m' h3 h4=>ih m' h3 _ h4 (hs.kid hk2)
   refine walkK (orc:=orcRfl) (keep:=[]) (cuts:=[]) (n:=1000) follows ?_
   refine of_rd (fun ZT ZW ZQ ZK ZA _=>((((decide ((↑k:Int)<↑x.kids.length))=true)→((((0≤(↑k:Int))∧((↑k:Int)<↑x.kids.length))∧((0≤(↑k:Int))∧((↑k:Int)<↑x.kids.length))∧ZK 58 [(ndA m (x.kids.getD (↑k:Int).toNat ex0)),(ndA m (x.kids.getD (↑k:Int).toNat ex0))] (db true))∧((false=true)→(((db false):DV)=(db true)))∧((false=false)→((I64 (↑k+1))∧(ZA (stS ZT [0,1]))))))∧(((decide ((↑k:Int)<↑x.kids.length))=false)→ZW [cd Tryz.f58 [1,1,1]] (stS ZT [1]) ZQ))) (by kernel_rfl) ?_
   simp only[Int.toNat_natCast]
   refine⟨fun _=>⟨⟨⟨by omega,by omega⟩,⟨by omega,by omega⟩,hkid⟩,fun h=>Bool.noConfusion h,fun _=>⟨⟨by omega,by omega⟩,Again.mk (k+1) ?_ hk2 (by omega)⟩⟩,fun h=>absurd (of_decide_eq_false h) (by omega)⟩
   exact AS.leA (by kernel_rfl)
  ·obtain rfl:k=x.kids.length:=by omega
   refine walkK (orc:=orcRfl) (keep:=[]) (cuts:=[]) (n:=1000) follows ?_
   refine of_rd (fun ZT ZW ZQ ZK ZA _=>((((decide ((↑x.kids.length:Int)<↑x.kids.length))=true)→((((0≤(↑x.kids.length:Int))∧((↑x.kids.length:Int)<↑x.kids.length))∧((0≤(↑x.kids.length:Int))∧((↑x.kids.length:Int)<↑x.kids.length))∧ZK 58 [(ndA m (x.kids.getD (↑x.kids.length:Int).toNat ex0)),(ndA m (x.kids.getD (↑x.kids.length:Int).toNat ex0))] (db true))∧((false=true)→(((db false):DV)=(db true)))∧((false=false)→((I64 (↑x.kids.length+1))∧(ZA (stS ZT [0,1]))))))∧(((decide ((↑x.kids.length:Int)<↑x.kids.length))=false)→ZW [cd Tryz.f58 [1,1,1]] (stS ZT [1]) ZQ))) (by kernel_rfl) ?_
   refine⟨fun h=>absurd (of_decide_eq_true h) (by omega),fun _=>?_⟩
   refine walkK (orc:=orcRfl) (keep:=[]) (cuts:=[]) (n:=1000) follows ?_
   refine of_tr (fun _ _ _ _=>(ZS ((db true):DV))) (by kernel_rfl) ?_
   rfl
noncomputable def S18 (m:Nat) (x:Ex) (k:Nat):AS:=⟨regs Tryz.f18.ntmps [(2,.box 2 0),(3,.box 3 0),(5,vi k)],[(2,exC m x),(3,exC m x)]⟩
theorem f18_refl (m:Nat):∀(x:Ex),ht x≤m→Sm x→FnOK Tryz.prog G 18 [exD m x,exD m x] (db true):=by
 induction m using Nat.strongRecOn with
 | _ m ih=>
 intro x hx hs
 have hlen:=hs.len.1
 refine FnOK.walkK (orc:=orcRfl) (keep:=[]) follows Tryz.func18 rfl Tryz.call18 ?_
 refine of_tr (fun ZT ZW ZQ ZK=>(ZK 58 [(ndX m x),(ndX m x)] (db true)∧(((!true||x.pos != x.pos)=true)→(((db false):DV)=(db true)))∧(((!true||x.pos != x.pos)=false)→ZW [cd Tryz.f18 [1,1,0,1,0],(.blk 0),cd Tryz.f18 [1,1,1]] (stS ZT [1]) ZQ))) (by kernel_rfl) ?_
 refine⟨f58_refl m x hx hs,fun h=>(by simp at h),fun _=>?_⟩
 refine AWP.loop (c:=cAt (bodyOf Tryz.f18) [1,1,0,1,0,0]) (by kernel_rfl) (S18 m x) (fun k=>k≤x.kids.length) (fun k=>x.kids.length-k) 0 ?_ (Nat.zero_le _) ?_
 ·exact AS.leA (by kernel_rfl)
 ·intro k hk
  by_cases hk2:k<x.kids.length
  ·have hkid:FnOK Tryz.prog G 18 [kidA m x k,kidA m x k] (db true):=kidOK (Q:=fun d=>FnOK Tryz.prog G 18 [d,d] (db true)) hx hk2 fun m' h3 h4=>ih m' h3 _ h4 (hs.kid hk2)
   refine walkK (orc:=orcRfl) (keep:=[]) (cuts:=[]) (n:=1000) follows ?_
   refine of_rd (fun ZT ZW ZQ ZK ZA _=>((((decide ((↑k:Int)<↑x.kids.length))=true)→((((0≤(↑k:Int))∧((↑k:Int)<↑x.kids.length))∧((0≤(↑k:Int))∧((↑k:Int)<↑x.kids.length))∧ZK 18 [(ndA m (x.kids.getD (↑k:Int).toNat ex0)),(ndA m (x.kids.getD (↑k:Int).toNat ex0))] (db true))∧((false=true)→(((db false):DV)=(db true)))∧((false=false)→((I64 (↑k+1))∧(ZA (stS ZT [0,1]))))))∧(((decide ((↑k:Int)<↑x.kids.length))=false)→ZW [cd Tryz.f18 [1,1,1]] (stS ZT [1]) ZQ))) (by kernel_rfl) ?_
   simp only[Int.toNat_natCast]
   refine⟨fun _=>⟨⟨⟨by omega,by omega⟩,⟨by omega,by omega⟩,hkid⟩,fun h=>Bool.noConfusion h,fun _=>⟨⟨by omega,by omega⟩,Again.mk (k+1) ?_ hk2 (by omega)⟩⟩,fun h=>absurd (of_decide_eq_false h) (by omega)⟩
   exact AS.leA (by kernel_rfl)
  ·obtain rfl:k=x.kids.length:=by omega
   refine walkK (orc:=orcRfl) (keep:=[]) (cuts:=[]) (n:=1000) follows ?_
   refine of_rd (fun ZT ZW ZQ ZK ZA _=>((((decide ((↑x.kids.length:Int)<↑x.kids.length))=true)→((((0≤(↑x.kids.length:Int))∧((↑x.kids.length:Int)<↑x.kids.length))∧((0≤(↑x.kids.length:Int))∧((↑x.kids.length:Int)<↑x.kids.length))∧ZK 18 [(ndA m (x.kids.getD (↑x.kids.length:Int).toNat ex0)),(ndA m (x.kids.getD (↑x.kids.length:Int).toNat ex0))] (db true))∧((false=true)→(((db false):DV)=(db true)))∧((false=false)→((I64 (↑x.kids.length+1))∧(ZA (stS ZT [0,1]))))))∧(((decide ((↑x.kids.length:Int)<↑x.kids.length))=false)→ZW [cd Tryz.f18 [1,1,1]] (stS ZT [1]) ZQ))) (by kernel_rfl) ?_
   refine⟨fun h=>absurd (of_decide_eq_true h) (by omega),fun _=>?_⟩
   refine walkK (orc:=orcRfl) (keep:=[]) (cuts:=[]) (n:=1000) follows ?_
   refine of_tr (fun _ _ _ _=>(ZS ((db true):DV))) (by kernel_rfl) ?_
   rfl
noncomputable def d4 (x:Ex) (F:List Ft) (L:List Fc) (m:Nat) (e:Bool):Oracle:=fun f a=>match f,a with
 | 10,[]=>some (db true)
 | 11,[_,_,_]=>some (db (few3 x F L))
 | 16,[_,_]=>some (exsD m (atR L x))
 | 17,[_,_]=>some (exsD m (atR L x))
 | 18,[_,_]=>some (db true)
 | 19,[_,_,_]=>match e with|true=>some (.tup [.con (.slice none 0 0),di (rnR F L x).2])|false=>none
 | 20,[_,_,_]=>match e with|true=>some (.tup [.con (.slice none 0 0),di (rnR F L x).2])|false=>none
 | 21,[_,_]=>some (db true)
 | _,_=>none
noncomputable def m4 (l:List Int):FuncId→List AV→List (Nat×List AV)→Option (AV×List (Nat×List AV)):=fun f _ _=>match f with
 | 19=>some (.tup [.vec 900 1 0 l.length,vi 0],[rwI l])
 | 20=>some (.tup [.vec 900 1 0 l.length,vi 0],[rwI l])
 | _=>none
noncomputable def orc4t (x:Ex) (F:List Ft) (L:List Fc) (m:Nat):Orc:={ d:=d4 x F L m true,m:=fun _ _ _=>none }
noncomputable def orc4f (x:Ex) (F:List Ft) (L:List Fc) (m:Nat):Orc:={ d:=d4 x F L m false,m:=m4 (rnR F L x).1 }
mutual
theorem atE_tx:∀(x a:Ex),txE x→a∈atE x→txE a
 | .mk k s n d p kids,a,h,ha=>by
  rw[atE] at ha
  split at ha
  ·simp only[txE] at h
   exact atL_tx kids a h.2 ha
  ·rw[List.mem_singleton.1 ha];exact h
theorem atL_tx:∀(l:List Ex) (a:Ex),txL l→a∈atL l→txE a
 | [],a,_,ha=>by cases ha
 | x :: l,a,h,ha=>by
  simp only[txL] at h
  rw[atL,List.mem_append] at ha
  rcases ha with ha|ha
  ·exact atE_tx x a h.1 ha
  ·exact atL_tx l a h.2 ha
end
theorem atE_sm {x a:Ex} (h:Sm x) (ha:a∈atE x):Sm a:=⟨by have:=(atE_ht x a ha).2;have:=h.nd;omega,atE_tx x a h.tx ha⟩
theorem atR_mem {L:List Fc} {x a:Ex} (ha:a∈atR L x):a∈atE x:=by
 unfold atR at ha
 split at ha
 ·exact ha
 ·cases ha
theorem g21 (l:List Int) (hl:l.length≤100000):FnOK Tryz.prog G 21 [.slc 1 l.length (fun i=>rowI l (0+i)),.slc 1 l.length (fun i=>rowI l (0+i))] (db true):=by
 have h:=f21 (G:=G) l l hl
 rw[show eqI l l=true from decide_eq_true rfl] at h
 have e:(fun i=>rowI l (0+i))=inF l:=funext fun i=>by rw[Nat.zero_add];rfl
 rw[e];exact h
theorem g21n:FnOK Tryz.prog G 21 [.con (.slice none 0 0),.con (.slice none 0 0)] (db true):=by
 have h:=f21 (G:=G) [] [] (by show 0≤100000;decide)
 rw[show eqI [] []=true from decide_eq_true rfl] at h
 exact h.args fun k us h=>DV.rels_cons (fun v hv=>nil_slc hv) (DV.rels_cons (fun v hv=>nil_slc hv) fun _ h=>h) us h
theorem rn_len {F:List Ft} {L:List Fc} {x:Ex} (h:nds x≤1000):(rnR F L x).1.length≤100000:=by
 unfold rnR
 split
 ·split
  ·rename_i h2
   split
   ·unfold rzE
    cases bvE (revT F F.length) x with
    | none=>simp
    | some v=>
     cases hr:rsE (revT F F.length) x 0 with
     | none=>simp[hr]
     | some l=>
      have:=rs_len (ht x) x 0 l (Nat.le_refl _) (typ_sound h2).2.1 hr
      simp only[hr];omega
   ·simp
  ·simp
 ·simp
noncomputable def S4n (x:Ex) (F:List Ft) (L:List Fc) (m k:Nat):AS:=⟨regs Tryz.f4.ntmps [(1,.d (ftsD F)),(2,.d (fcsD L)),(3,.box 3 0),(7,.d (exsD m (atR L x))),(8,.d (exsD m (atR L x))),(33,vi (atR L x).length),(34,vi k)],[(3,exC m x)]⟩
theorem f4 (hT:Tab G) (m:Nat) (x:Ex) (F:List Ft) (L:List Fc) (hx:ht x≤m) (hw:wfE x) (hl:L.length≤9223372036854775807) (hlF:F.length≤9223372036854775807) (hw2:∀i,i<L.length→FcW (L.getD i fc0)) :
  FnOK Tryz.prog G 4 [exD m x,ftsD F,fcsD L] (db true):=by
 refine FnOK.walkK (orc:=orc4t x F L m) (keep:=[]) follows Tryz.func4 rfl Tryz.call4 ?_
 refine of_tr (fun ZT ZW ZQ ZK=>(ZK 10 [] (db true)∧((false=true)→(((db false):DV)=(db true)))∧((false=false)→(ZK 11 [(ndX m x),(.slc 6 F.length (ftF F)),(.slc 7 L.length (fcF L))] (db (few3 x F L))∧(((!few3 x F L)=true)→(ZS ((db true):DV)))∧(((!few3 x F L)=false)→((ZK 16 [(ndX m x),(.slc 7 L.length (fcF L))] (.slc 6 (atR L x).length (exsF m (atR L x)))∧ZK 17 [(ndX m x),(.slc 7 L.length (fcF L))] (.slc 6 (atR L x).length (exsF m (atR L x))))∧((((↑(atR L x).length:Int) != ↑(atR L x).length)=true)→(((db false):DV)=(db true)))∧((((↑(atR L x).length:Int) != ↑(atR L x).length)=false)→ZW [cd Tryz.f4 [1,1,1,1,1,0,1,0],(.blk 0),cd Tryz.f4 [1,1,1,1,1,1]] (stS ZT [1,1,1]) ZQ))))))) (by kernel_rfl) ?_
 refine⟨f10 hT,fun h=>Bool.noConfusion h,fun _=>⟨f11 m x F L hx hw hl hlF hw2,fun _=>rfl,fun h=>?_⟩⟩
 have h:=few3_of hw (by simpa using h)
 have hll:L.length≤1000:=by have:=h.ll;omega
 have hlf:F.length≤100000:=by have:=h.lf;omega
 have hat:(atR L x).length≤1000:=by
  unfold atR
  split
  ·have:=atE_nds x;have:=h.sm.nd;omega
  ·simp
 refine⟨⟨f16 hT L h.fc hll m x hx h.sm,f17 hT L h.fc hll m x hx h.sm⟩,fun c=>absurd rfl (bne_iff_ne.1 c),fun _=>?_⟩
 refine AWP.loop (c:=cAt (bodyOf Tryz.f4) [1,1,1,1,1,0,1,0,0]) (by kernel_rfl) (S4n x F L m) (fun k=>k≤(atR L x).length) (fun k=>(atR L x).length-k) 0 ?_ (Nat.zero_le _) ?_
 ·exact AS.leA (by kernel_rfl)
 ·intro k hk
  by_cases hk2:k<(atR L x).length
  ·refine walkK (orc:=orc4t x F L m) (keep:=[]) (cuts:=[]) (n:=1000) follows ?_
   refine of_rd (fun ZT ZW ZQ ZK ZA _=>((((decide ((↑k:Int)<↑(atR L x).length))=true)→((((0≤(↑k:Int))∧((↑k:Int)<↑(atR L x).length))∧((0≤(↑k:Int))∧((↑k:Int)<↑(atR L x).length))∧ZK 18 [(ndX m ((atR L x).getD (↑k:Int).toNat ex0)),(ndX m ((atR L x).getD (↑k:Int).toNat ex0))] (db true))∧((false=true)→(((db false):DV)=(db true)))∧((false=false)→((I64 (↑k+1))∧(ZA (stS ZT [0,1]))))))∧(((decide ((↑k:Int)<↑(atR L x).length))=false)→ZW [cd Tryz.f4 [1,1,1,1,1,1]] (stS ZT [1]) ZQ))) (by kernel_rfl) ?_
   simp only[Int.toNat_natCast]
   have ha:=atR_mem (getD_mem (x0:=ex0) hk2)
   refine⟨fun _=>⟨⟨⟨by omega,by omega⟩,⟨by omega,by omega⟩,f18_refl m _ (by have:=(atE_ht x _ ha).1;omega) (atE_sm h.sm ha)⟩,fun h=>Bool.noConfusion h,fun _=>⟨⟨by omega,by omega⟩,Again.mk (k+1) ?_ hk2 (by omega)⟩⟩,fun h=>absurd (of_decide_eq_false h) (by omega)⟩
   exact AS.leA (by kernel_rfl)
  ·obtain rfl:k=(atR L x).length:=by omega
   refine walkK (orc:=orc4t x F L m) (keep:=[]) (cuts:=[]) (n:=1000) follows ?_
   refine of_rd (fun ZT ZW ZQ ZK ZA _=>((((decide ((↑(atR L x).length:Int)<↑(atR L x).length))=true)→((((0≤(↑(atR L x).length:Int))∧((↑(atR L x).length:Int)<↑(atR L x).length))∧((0≤(↑(atR L x).length:Int))∧((↑(atR L x).length:Int)<↑(atR L x).length))∧ZK 18 [(ndX m ((atR L x).getD ((↑(atR L x).length:Int)).toNat ex0)),(ndX m ((atR L x).getD ((↑(atR L x).length:Int)).toNat ex0))] (db true))∧((false=true)→(((db false):DV)=(db true)))∧((false=false)→((I64 (↑(atR L x).length+1))∧(ZA (stS ZT [0,1]))))))∧(((decide ((↑(atR L x).length:Int)<↑(atR L x).length))=false)→ZW [cd Tryz.f4 [1,1,1,1,1,1]] (stS ZT [1]) ZQ))) (by kernel_rfl) ?_
   refine⟨fun h=>absurd (of_decide_eq_true h) (by omega),fun _=>?_⟩
   by_cases he:(rnR F L x).2=0
   ·refine walkK (orc:=orc4f x F L m) (keep:=[]) (cuts:=[]) (n:=1000) follows ?_
    refine of_tr (fun _ _ _ ZK=>(FnM Tryz.prog G 19 [(.d (ndX m x)),(.d (.slc 6 F.length (ftF F))),(.d (.slc 7 L.length (fcF L)))] [] (.tup [(.vec 900 1 0 (rnR F L x).fst.length),(vi 0)]) [(900,[(.arr ⟨false,3,false,none⟩ 1 (rowI (rnR F L x).fst))])]∧FnM Tryz.prog G 20 [(.d (ndX m x)),(.d (.slc 6 F.length (ftF F))),(.d (.slc 7 L.length (fcF L)))] [] (.tup [(.vec 900 1 0 (rnR F L x).fst.length),(vi 0)]) [(900,[(.arr ⟨false,3,false,none⟩ 1 (rowI (rnR F L x).fst))])]∧ZK 21 [(.slc 1 (rnR F L x).fst.length (fun i=>rowI (rnR F L x).fst (0+i))),(.slc 1 (rnR F L x).fst.length (fun i=>rowI (rnR F L x).fst (0+i)))] (db true)∧(ZS ((db true):DV)))) (by kernel_rfl) ?_
    have hll2:(rnR F L x).1.length≤100000:=rn_len h.sm.nd
    exact⟨(f19 hT F L h.fc hll hlf m x hx h.sm).1 he,(f20 hT F L h.fc hll hlf m x hx h.sm).1 he,g21 _ hll2,rfl⟩
   ·refine walkK (orc:=orc4t x F L m) (keep:=[]) (cuts:=[]) (n:=1000) follows ?_
    refine of_tr (fun _ _ _ ZK=>(ZK 19 [(ndX m x),(.slc 6 F.length (ftF F)),(.slc 7 L.length (fcF L))] (.tup [(.con (.slice none 0 0)),(di (rnR F L x).snd)])∧ZK 20 [(ndX m x),(.slc 6 F.length (ftF F)),(.slc 7 L.length (fcF L))] (.tup [(.con (.slice none 0 0)),(di (rnR F L x).snd)])∧ZK 21 [(.con (.slice none 0 0)),(.con (.slice none 0 0))] (db true)∧((db (true&&(rnR F L x).snd==(rnR F L x).snd)):DV)=(db true))) (by kernel_rfl) ?_
    exact⟨(f19 hT F L h.fc hll hlf m x hx h.sm).2 he,(f20 hT F L h.fc hll hlf m x hx h.sm).2 he,g21n,by rw[beq_self_eq_true];rfl⟩
end Go.Proofs
