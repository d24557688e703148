import Derived.Test.YtellpkieoccljaaGreatDoorAcC
import Derived.Carry
import Derived.ChangeShapes
import Derived.ChangeArms
import Derived.Deep.Slices
import Derived.LaidMore
set_option autoImplicit false
namespace Go.Ab
open Go Go.RowKit Go.ChangeShapes
inductive Sh where
 | int (k:IntKind)
 | bool
 | str
 | slc (agg:Bool) (l:List Sh)
mutual
def Sh.dv:Sh→DV→Prop
 | .int k,d=>∃n,(Lit.int k n).wf=true∧d=.con (.int k n)
 | .bool,d=>∃b,d=.con (.bool b)
 | .str,d=>∃s:ByteArray,s.size≤maxLen∧d=.con (.string s)
 | .slc agg l,d=>∃n f,n≤maxLen∧d=.slc l.length n f∧∀i,i<n→(match agg with|true=>∃es,f i=.agg es∧iU.dv l es|false=>iU.dv l [f i])
def iU.dv:List Sh→List DV→Prop
 | [],es=>es=[]
 | s :: l,es=>∃d es',es=d :: es'∧Sh.dv s d∧iU.dv l es'
end
def Vu (agg:Bool) (l:List Sh) (d:DV):Prop:=match agg with|true=>∃es,d=.agg es∧iU.dv l es|false=>iU.dv l [d]
def jh (P:Program) (r:TypeId→Option (List Sh)):List Field→Nat→Option (List Sh×Nat)
 | [],off=>some ([],off)
 | f :: fs,off=>match Nat.beq f.offset off,r f.type with
  | true,some l=>match Nat.beq l.length (P.cellsOf f.type),jh P r fs (off+P.cellsOf f.type) with
   | true,some (m,e)=>some (l++m,e)
   | _,_=>none
  | _,_=>none
def fP (P:Program):Nat→TypeId→Option (List Sh)
 | 0,_=>none
 | n+1,t=>match P.underlying t with
  | some .bool=>some [.bool]
  | some (.int k)=>some [.int k]
  | some .string=>some [.str]
  | some (.slice e)=>match fP P n e with
   | some l=>match Nat.beq l.length (P.cellsOf e)&&(Nat.blt 0 l.length&&(bK P e||Nat.beq l.length 1)) with
    | true=>some [.slc (bK P e) l]
    | false=>none
   | none=>none
  | some (.struct fs)=>match jh P (fP P n) fs.toList 0 with
   | some (l,e)=>match Nat.beq e (P.cellsOf t) with|true=>some l|false=>none
   | none=>none
  | _=>none
def allOf (W:World):IH:=⟨fun b o=>W.cell? ⟨b,o,none⟩,fun b=>W.heap[b]?⟩
theorem Fq (W:World):(allOf W).holds W:=⟨fun _ _ _ h=>h,fun _ _ h=>h⟩
theorem DV.aF.append {h:IH}:∀{a b:List DV} {u v:List Value},DV.aF h a u→DV.aF h b v→DV.aF h (a++b) (u++v)
 | [],_,u,_,ha,hb=>by simp only[DV.aF] at ha;subst ha;exact hb
 | _ :: a,_,_,_,⟨x,u',e,r,rs⟩,hb=>by subst e;exact⟨x,_,rfl,r,DV.aF.append rs hb⟩
theorem iU.append:∀{a b:List Sh} {u v:List DV},iU.dv a u→iU.dv b v→iU.dv (a++b) (u++v)
 | [],_,u,_,ha,hb=>by simp only[iU.dv] at ha;subst ha;exact hb
 | _ :: a,_,_,_,⟨x,u',e,r,rs⟩,hb=>by subst e;exact⟨x,_,rfl,r,iU.append rs hb⟩
theorem iU.length:∀{a:List Sh} {u:List DV},iU.dv a u→u.length=a.length
 | [],u,h=>by simp only[iU.dv] at h;subst h;rfl
 | _ :: a,_,⟨x,u',e,r,rs⟩=>by subst e;simp[iU.length rs]
theorem Sh.cells {s:Sh} {d:DV} {h:IH} {v:Value} (hs:s.dv d) (hv:d.rel h v):v.cells=#[v]:=by
 cases s with
 | int k=>obtain ⟨n,_,rfl⟩:=hs;simp only[DV.rel] at hv;subst hv;rfl
 | bool=>obtain ⟨n,rfl⟩:=hs;simp only[DV.rel] at hv;subst hv;rfl
 | str=>obtain ⟨n,_,rfl⟩:=hs;simp only[DV.rel] at hv;subst hv;rfl
 | slc agg l=>obtain ⟨n,f,_,rfl,_⟩:=hs;obtain ⟨p,cap,e,_⟩:=hv;subst e;rfl
section
variable {H:Type} {enc:TypeId×Value→H} {P:Program} {W:World} {base:Nat} {sp:Nat→Bool} {held:Bool}
theorem qP {r:TypeId→Option (List Sh)}:∀{fs:List Field} {off e:Nat} {l:List Sh},jh P r fs off=some (l,e)→off≤e
 | [],off,e,l,h=>by simp only[jh,aH,aX] at h;omega
 | f :: fs,off,e,l,h=>by
  simp only[jh] at h
  split at h
  ·split at h
   ·rename_i m e' _ h2
    simp only[aH,aX] at h
    have:=qP h2
    omega
   ·cases h
  ·cases h
theorem qV {r:TypeId→Option (List Sh)} {cs:List Value}
  (hr:∀(t:TypeId) (l:List Sh) (m:Nat) (cs':List Value) (x:DataW H×List MemPlace),r t=some l→DataW.trod enc P W base sp held m t cs'=some x→∃es,iU.dv l es∧DV.aF (allOf W) es cs') :
  ∀{fs:List Field} {off e:Nat} {l:List Sh},jh P r fs off=some (l,e)→(∀f∈fs,∃m y,DataW.trod enc P W base sp held m f.type ((cs.drop f.offset).take (P.cellsOf f.type))=some y)→
   ∃es,iU.dv l es∧DV.aF (allOf W) es ((cs.drop off).take (e-off))
 | [],off,e,l,h,_=>by
  simp only[jh,aH,aX] at h
  obtain ⟨rfl,rfl⟩:=h
  exact⟨[],rfl,by simp[DV.aF]⟩
 | f :: fs,off,e,l,h,hf=>by
  simp only[jh] at h
  split at h
  ·rename_i l0 ho hr0
   split at h
   ·rename_i m e' hc h2
    simp only[aH,aX] at h
    obtain ⟨rfl,rfl⟩:=h
    have ho:=Nat.eq_of_beq_eq_true ho
    obtain ⟨k,y,hy⟩:=hf f (List.mem_cons_self ..)
    obtain ⟨d1,a1,b1⟩:=hr _ _ _ _ _ hr0 hy
    obtain ⟨d2,a2,b2⟩:=qV hr h2 fun g hg=>hf g (List.mem_cons_of_mem _ hg)
    have hle:=qP h2
    refine⟨d1++d2,iU.append a1 a2,?_⟩
    have:=DV.aF.append b1 b2
    rw[ho] at this
    rw[show (cs.drop off).take (e' - off)=(cs.drop off).take (P.cellsOf f.type)++(cs.drop (off+P.cellsOf f.type)).take (e' - (off+P.cellsOf f.type)) from by
     rw[show e' - off=P.cellsOf f.type+(e' - (off+P.cellsOf f.type)) by omega,List.take_add,List.drop_drop]]
    exact this
   ·cases h
  ·cases h
theorem oL:∀{n:Nat} {t:TypeId} {l:List Sh} {m:Nat} {cs:List Value} {x:DataW H×List MemPlace},fP P n t=some l→DataW.trod enc P W base sp held m t cs=some x→
  ∃es,iU.dv l es∧DV.aF (allOf W) es cs
 | 0,_,_,_,_,_,h,_=>by simp[fP] at h
 | n+1,t,l,m,cs,x,h,hx=>by
  simp only[fP] at h
  split at h
  ·rename_i ht
   obtain ⟨b,rfl,rfl⟩:=DataW.trod_bool ht hx
   simp only[aH] at h;subst h
   exact⟨[.con (.bool b)],⟨_,_,rfl,⟨b,rfl⟩,rfl⟩,⟨_,_,rfl,rfl,rfl⟩⟩
  ·rename_i k ht
   obtain ⟨b,rfl,rfl,hw⟩:=DataW.trod_int ht hx
   simp only[aH] at h;subst h
   exact⟨[.con (.int k b)],⟨_,_,rfl,⟨b,hw,rfl⟩,rfl⟩,⟨_,_,rfl,rfl,rfl⟩⟩
  ·rename_i ht
   obtain ⟨b,rfl,rfl,hw⟩:=DataW.trod_string ht hx
   simp only[aH] at h;subst h
   exact⟨[.con (.string b)],⟨_,_,rfl,⟨b,hw,rfl⟩,rfl⟩,⟨_,_,rfl,rfl,rfl⟩⟩
  ·rename_i e ht
   split at h
   ·rename_i l' hl'
    split at h
    ·rename_i hc
     simp only[aT,Nat.beq_eq,Bool.or_eq_true,Nat.blt_eq] at hc
     simp only[aH] at h;subst h
     rcases Go.Deep.open_slice ht hx with ⟨rfl,rfl⟩|⟨a,len,cap,mm,n',D,Pl,rfl,hb,hlc,hcap,hmm,rfl,hel⟩
     ·refine⟨[.slc l'.length 0 fun _=>.con undef],⟨_,_,rfl,⟨0,_,Nat.zero_le _,rfl,fun i hi=>absurd hi (by omega)⟩,rfl⟩,⟨_,_,rfl,⟨none,0,rfl,Nat.le_refl _,.inl rfl⟩,rfl⟩⟩
     ·have hlm:len≤mm:=by rw[hmm];split<;>omega
      have hspot:0<len→a.spot=none:=by
       intro hpos
       obtain ⟨cs',h1,_⟩:=hel 0 (by omega)
       obtain ⟨_,h5,h6⟩:=World.cells?_some h1
       have:=h6 0 (by omega)
       rw[Nat.zero_mul,bQ (by omega)] at this
       simp only[World.cell?,Addr.add,if_true] at this
       split at this
       ·split at this
        ·cases this
        ·rename_i hsp;simpa using hsp
       ·cases this
      have hadd:0<len→∀k,a.add k=⟨a.block,a.off+k,none⟩:=by
       intro hpos k
       have:=hspot hpos
       unfold Addr.add
       split
       ·rename_i hk;subst hk;cases a;simp_all
       ·rfl
      have each:∀i,i<len→∃d:DV,(match bK P e with|true=>∃es,d=.agg es∧iU.dv l' es|false=>iU.dv l' [d])∧∃v,DV.rel (allOf W) d v∧v.cells.size=l'.length∧∀j,j<l'.length→W.cell? ⟨a.block,a.off+i*l'.length+j,none⟩=v.cells[j]?:=by
       intro i hi
       obtain ⟨cs',h1,h2⟩:=hel i (by omega)
       obtain ⟨es,h3,h4⟩:=oL hl' h2
       obtain ⟨_,h5,h6⟩:=World.cells?_some h1
       have hsz:cs'.length=l'.length:=by rw[h5,hc.1]
       have hat:∀j,j<l'.length→W.cell? ⟨a.block,a.off+i*l'.length+j,none⟩=cs'[j]?:=by
        intro j hj
        rw[←h6 j (by omega),hadd (by omega),hc.1]
        congr 1
        unfold Addr.add
        split
        ·rename_i hk;subst hk;rfl
        ·rfl
       cases hag:bK P e with
       | true=>exact⟨.agg es,⟨es,rfl,h3⟩,.agg cs'.toArray,⟨cs',rfl,h4⟩,by simp[Value.cells,hsz],fun j hj=>by rw[hat j hj];simp[Value.cells]⟩
       | false=>
        have h1':l'.length=1:=by rcases hc.2.2 with h|h
                                 ·rw[hag] at h;cases h
                                 ·exact h
        match l',cs',es,h1',hsz,h3,h4,hat with
        | [s],[c],es,_,_,h3,h4,hat=>
         obtain ⟨d,es',e1,h3,e2⟩:=h3
         simp only[iU.dv] at e2;subst e2;subst e1
         obtain ⟨v,vs',e3,h4,e4⟩:=h4
         injection e3 with e3 _;subst e3
         have hcell:=Sh.cells h3 h4
         refine⟨d,⟨_,_,rfl,h3,rfl⟩,c,h4,by rw[hcell];rfl,fun j hj=>?_⟩
         rw[hat j hj,hcell];simp
      refine⟨[.slc l'.length len fun i=>if h:i<len then Classical.choose (each i h) else .con undef],⟨_,_,rfl,⟨len,_,Nat.le_trans hlc hcap,rfl,fun i hi=>?_⟩,rfl⟩,⟨_,_,rfl,⟨some a,cap,rfl,hlc,?_⟩,rfl⟩⟩
      ·simp only[dif_pos hi]
       exact(Classical.choose_spec (each i hi)).1
      ·by_cases hz:len=0
       ·exact .inl hz
       right
       refine⟨a.block,a.off,by have:=hspot (by omega);cases a;simp_all,fun i hi=>?_⟩
       simp only[dif_pos hi]
       obtain ⟨_,v,hv,hsz,hcl⟩:=Classical.choose_spec (each i hi)
       exact⟨v,hv,hsz,fun j hj=>hcl j hj⟩
    ·cases h
   ·cases h
  ·rename_i fs ht
   split at h
   ·rename_i l' e hl'
    split at h
    ·rename_i he
     simp only[aH] at h;subst h
     have he:=Nat.eq_of_beq_eq_true he
     obtain ⟨xs,n',rfl,rfl,hlen,hxl,hf⟩:=DataW.trod_struct ht hx
     obtain ⟨es,h1,h2⟩:=qV (cs:=cs) (fun t l m cs' x h1 h2=>oL h1 h2) hl' fun f hf'=>by
      obtain ⟨i,hi⟩:=List.mem_iff_getElem?.1 hf'
      have hi':fs[i]?=some f:=by simpa using hi
      have:=hf i f hi'
      have hlt:i<xs.length:=by
       rw[hxl];exact(Array.getElem?_eq_some_iff.1 hi').1
      exact⟨n',xs[i],by rw[this];simp[hlt]⟩
     refine⟨es,h1,?_⟩
     rw[List.drop_zero,Nat.sub_zero,he,←hlen,List.take_length] at h2
     exact h2
    ·cases h
   ·cases h
  ·cases h
theorem F7 {n:Nat} {t:TypeId} {l:List Sh} {b0:Nat} {v:Value} {d:DataW H} {p:List MemPlace} (hs:fP P n t=some l) (hl:(bK P t||Nat.beq l.length 1)=true)
  (hv:Value.okWide P W .any b0 t v) (h:DataW.Trod enc P W base sp held t v d p):∃x:DV,Vu (bK P t) l x∧x.rel (allOf W) v:=by
 obtain ⟨m,hm⟩:=h
 obtain ⟨es,h1,h2⟩:=oL hs hm
 cases ha:bK P t with
 | true=>
  have:∃cs,v=.agg cs:=by
   unfold bK at ha
   unfold Value.okWide at hv
   split at ha
   ·rename_i fs hu;rw[hu] at hv;obtain ⟨cs,e,_⟩:=hv;exact⟨cs,e⟩
   ·rename_i k e hu;rw[hu] at hv;obtain ⟨cs,e,_⟩:=hv;exact⟨cs,e⟩
   ·cases ha
  obtain ⟨cs,rfl⟩:=this
  exact⟨.agg es,⟨es,rfl,h1⟩,⟨cs.toList,by simp,by simpa [Value.cells] using h2⟩⟩
 | false=>
  rw[ha] at hl
  simp only[Bool.false_or,Nat.beq_eq] at hl
  match l,hl,h1 with
  | [s],_,h1=>
   obtain ⟨x,es',e1,k1,e2⟩:=h1
   simp only[iU.dv] at e2;subst e2;subst e1
   obtain ⟨u,vs',e3,h3,e4⟩:=h2
   simp only[DV.aF] at e4;subst e4
   have hu:u=v:=by
    have hcell:=Sh.cells k1 h3
    have:v.cells=#[u]:=by rw[←Array.toArray_toList (xs:=v.cells),e3]
    unfold Value.okWide at hv
    cases n with
    | zero=>simp[fP] at hs
    | succ n=>
     have hna:∀cs,v≠.agg cs:=by
      rintro cs rfl
      unfold bK at ha
      simp only[fP] at hs
      split at hv
      ·rename_i hu2;rw[hu2] at ha;simp at ha
      ·rename_i hu2;rw[hu2] at ha;simp at ha
      ·unfold Cell.okWide Cell.ok at hv
       split at hs<;>rename_i ht<;>simp_all
     cases v<;>first|(simp[Value.cells] at this;exact this.symm)|exact absurd rfl (hna _)
   subst hu
   exact⟨x,⟨x,[],rfl,k1,rfl⟩,h3⟩
def jf (P:Program):List TypeId→Option (List (Bool×List Sh))
 | []=>some []
 | t :: ts=>match fP P 8 t,jf P ts with
  | some l,some r=>match (bK P t||Nat.beq l.length 1)&&(P.readableRec t&&Nat.blt t P.types.size) with
   | true=>some ((bK P t,l) :: r)
   | false=>none
  | _,_=>none
def F5:List (Bool×List Sh)→List DV→Prop
 | [],xs=>xs=[]
 | s :: l,xs=>∃x xs',xs=x :: xs'∧Vu s.1 s.2 x∧F5 l xs'
theorem xR:∀{ts:List TypeId} {pI:List (Bool×List Sh)} {us:List Value} {es:List (DataW H)} {ps:List MemPlace},jf P ts=some pI→(∀(j:Nat) t v,ts[j]?=some t→us[j]?=some v→Value.okWide P W .any base t v)→
  DataW.TrodAll enc P W 0 sp held ts us es ps→∃xs:List DV,F5 pI xs∧DV.aF (allOf W) xs us
 | [],pI,us,es,ps,h,_,ht=>by
  simp only[jf,aH] at h;subst h
  obtain ⟨rfl,_,_⟩:=trodAll_nil ht
  exact⟨[],rfl,rfl⟩
 | t :: ts,pI,us,es,ps,h,hv,ht=>by
  match us,es,ht with
  | v :: us,e :: es,⟨p,q,h1,h2,_⟩=>
   simp only[jf] at h
   split at h
   ·rename_i l r hl hr
    split at h
    ·rename_i hc
     simp only[aT] at hc
     simp only[aH] at h;subst h
     obtain ⟨x,a1,a2⟩:=F7 hl hc.1 (hv 0 t v rfl rfl) h1
     obtain ⟨xs,b1,b2⟩:=xR hr (fun j t' v' h3 h4=>hv (j+1) t' v' (by simpa using h3) (by simpa using h4)) h2
     exact⟨x :: xs,⟨_,_,rfl,a1,b1⟩,⟨_,_,rfl,a2,b2⟩⟩
    ·cases h
   ·cases h
theorem uY (hl:laidOutB P=true) {W':World} (hb:Below W.heap.size W W'):∀{ts:List TypeId} {pI:List (Bool×List Sh)} {us:List Value} {es:List (DataW H)} {ps:List MemPlace},jf P ts=some pI→
  (∀x∈ps,x.block<W.heap.size)→DataW.TrodAll enc P W 0 (fun _=>true) true ts us es ps→DataW.TrodAll enc P W' 0 (fun b=>decide (b<W.heap.size)) true ts us es ps
 | [],pI,us,es,ps,_,_,ht=>by obtain ⟨rfl,rfl,rfl⟩:=trodAll_nil ht;exact trodAll_mk0
 | t :: ts,pI,us,es,ps,h,hlt,ht=>by
  match us,es,ht with
  | v :: us,e :: es,⟨p,q,h1,h2,hp⟩=>
   simp only[jf] at h
   split at h
   ·rename_i l r hl' hr
    split at h
    ·rename_i hc
     simp only[aT,Nat.blt_eq] at hc
     subst hp
     exact⟨p,q,Below.trod hl hc.2.1 hc.2.2 h1 hb (fun x hx=>hlt x (List.mem_append_left _ hx)),uY hl hb hr (fun x hx=>hlt x (List.mem_append_right _ hx)) h2,rfl⟩
    ·cases h
   ·cases h
theorem trodAll_length:∀{ts:List TypeId} {us:List Value} {es:List (DataW H)} {ps:List MemPlace},DataW.TrodAll enc P W base sp held ts us es ps→es.length=ts.length
 | [],us,es,ps,ht=>by obtain ⟨_,rfl,_⟩:=trodAll_nil ht;rfl
 | t :: ts,us,es,ps,ht=>by
  match us,es,ht with
  | v :: us,e :: es,⟨p,q,h1,h2,hp⟩=>simp[trodAll_length h2]
theorem Qo {f:FuncId} {fn:Func} {spec:ChangeSpec} {laid:List (String×DataW Unit)} {tb:TypeId} {pI:List (Bool×List Sh)} (hlo:laidOutB P=true) (hr:fn.resultTypes=#[tb]) (htb:P.underlying tb=some .bool) (hvars:spec.vars=[])
  (hfn:∀es:List (DataW H),es.length=fn.params.toList.length→spec.fn H es={ results:=[.lit (.bool true)],args:=es }) (hsh:jf P fn.params.toList=some pI)
  (WB:∀(W:World),laidMetH P laid W→∀xs,F5 pI xs→aj P (allOf W) f xs (.con (.bool true))) :
  ∀(W:World) (base:Nat) (args:Array Value) (es gs:List (DataW H)) (before:List MemPlace),
   (∀(j:Nat) t v,fn.params[j]?=some t→args[j]?=some v→Value.okWide P W .any base t v)→
   DataW.Whole enc P fn.params.toList spec.vars false W args.toList es gs before→laidMetH P laid W→
   Calls P f args W fun e W'=>∃v,e=.returned v∧spec.post enc P fn false true false false W args v W':=by
 intro W base args es gs before hval hW hL
 have hW':=hW
 obtain ⟨p,q,hA,hV,rfl,hfz,hnd⟩:=hW
 rw[hvars] at hV
 obtain ⟨rfl,rfl⟩:=trodVars_none hV
 obtain ⟨xs,hx,hrel⟩:=xR hsh (fun j t v h1 h2=>hval j t v (by simpa using h1) (by simpa using h2)) hA
 have hlt:∀x∈p,x.block<W.heap.size:=fun x hx=>by simpa using hW'.lt x (by simpa using hx)
 have hc:=(WB W hL xs hx).2 W (allOf W) args.toList (IH.le.refl _) (Fq W) hrel
 simp only[Array.toArray_toList] at hc
 refine Calls.mono hc ?_
 rintro e W' ⟨v,h',he,hv,-,-,hk,-⟩
 simp only[DV.rel] at hv
 subst hv;subst he
 have hbelow:Below W.heap.size W W':=⟨hk.os,hk.tape,hk.output,hk.size,fun k hk'=>hk.block k hk' (fun h=>h)⟩
 have hlen:=trodAll_length hA
 refine⟨_,rfl,es,[],p++[],[],p,[],by rw[hvars];simpa [hvars] using hW',?_,?_,?_,hbelow.frame _,fun h=>by cases h⟩
 ·rw[List.append_nil,hfn es hlen,hr];exact trodAll_mk1 (shut_bool htb true)
 ·rw[List.append_nil,hfn es hlen];exact uY hlo hbelow hsh hlt hA
 ·rw[List.append_nil,hfn es hlen,hvars];rfl
end
end Go.Ab
namespace Go.Ab
open Go Go.RowKit
theorem DV.dJ {h:IH} {sz n:Nat} {f g:Nat→DV} (hfg:∀i,i<n→f i=g i) {v:Value} (hr:DV.rel h (.slc sz n f) v):DV.rel h (.slc sz n g) v:=by
 obtain ⟨p,cap,e,hc,r⟩:=hr
 refine⟨p,cap,e,hc,r.imp id ?_⟩
 rintro ⟨b,off,hp,r⟩
 exact⟨b,off,hp,fun i hi=>by rw[←hfg i hi];exact r i hi⟩
theorem aj.args {P:Program} {G:IH} {f:FuncId} {xs ys:List DV} {r:DV} (h:aj P G f ys r) (hxy:∀k us,DV.aF k xs us→DV.aF k ys us):aj P G f xs r:=
 ⟨h.1,fun w k us hG hw hu=>h.2 w k us hG hw (hxy k us hu)⟩
theorem DV.fK {h:IH} {x y:DV} {xs ys:List DV} (h1:∀v,x.rel h v→y.rel h v) (h2:∀us,DV.aF h xs us→DV.aF h ys us):∀us,DV.aF h (x :: xs) us→DV.aF h (y :: ys) us:=by
 rintro us ⟨v,us',e,r,rs⟩
 exact⟨v,us',e,h1 v r,h2 us' rs⟩
theorem GH {α:Type} {n:Nat} {p:Nat→α→Prop} (d:α) (h:∀i,i<n→∃x,p i x):∃L:List α,L.length=n∧∀i,i<n→p i (L.getD i d):=by
 classical
 refine⟨(List.range n).map fun i=>if hi:i<n then Classical.choose (h i hi) else d,by simp,fun i hi=>?_⟩
 simp only[List.getD,List.getElem?_map,List.getElem?_range hi,Option.map_some,Option.getD_some,dif_pos hi]
 exact Classical.choose_spec (h i hi)
theorem DV.LM {h:IH} {kd:Option IntKind} {f g:Value→DV} {has has':Value→Bool} (hf:∀k,MapKept.IsKey (o9 kd) k→has k=true→f k=g k) (hh:∀k,MapKept.IsKey (o9 kd) k→has k=has' k) {v:Value} (hr:DV.rel h (.mp kd f has) v):DV.rel h (.mp kd g has') v:=by
 obtain ⟨b,es,c,e,ho,h1,h2⟩:=hr
 exact⟨b,es,c,e,ho,fun x hx=>by
  obtain ⟨a1,a2,a3⟩:=h1 x hx
  exact⟨a1,by rw[←hh _ a1];exact a2,by rw[←hf _ a1 a2];exact a3⟩,fun k hk hk2=>h2 k hk (by rw[hh k hk];exact hk2)⟩
end Go.Ab
namespace Go.Ab
open Go Go.RowKit
variable {P:Program} {G:IH} {Q:Exit→AS→Prop}
def oZ (s sz:Nat) (f:Nat→DV) (x:AV):AV:=match x with
 | .vec t sz' lo n=>match Nat.beq t s&&Nat.beq sz' sz with|true=>.d (.slc sz n fun i=>f (lo+i))|false=>iQ s (.vec t sz' lo n)
 | x=>iQ s x
def AS.freeze (st:AS) (s sz:Nat) (f:Nat→DV):AS:=⟨st.regs.map (oZ s sz f),(st.boxes.filter fun b=>!(Nat.beq b.1 s)).map fun b=>(b.1,b.2.map (oZ s sz f))⟩
theorem ES (s sz:Nat) (f:Nat→DV) (t:Nat):∀b:List (Nat×List AV),look ((b.filter fun b=>!(Nat.beq b.1 s)).map fun b=>(b.1,b.2.map (oZ s sz f))) t=if t=s then none else (look b t).map (·.map (oZ s sz f))
 | []=>by simp[look]
 | (k,c) :: b=>by
  have ih:=ES s sz f t b
  by_cases hk:k=s
  ·subst hk
   simp only[List.filter_cons,jd,Bool.not_true,Bool.false_eq_true,if_false,ih]
   by_cases ht:t=k
   ·rw[if_pos ht,if_pos ht]
   ·rw[if_neg ht,if_neg ht];simp only[look,dH (Ne.symm ht),cond_false]
  ·simp only[List.filter_cons,dH hk,Bool.not_false,if_true,List.map_cons,look]
   by_cases ht:k=t
   ·subst ht;simp[hk]
   ·simp only[dH ht,cond_false,ih]
theorem Dw {s sz:Nat} {f:Nat→DV} {l:List AV} (h:cO l=false):l.map (oZ s sz f)=l:=by
 rcases dN h with ⟨a,b,c,rfl⟩|rfl|⟨a,b,c,rfl⟩<;>rfl
theorem aC.freeze {k:List It} {st:AS} (s:Nat) {agg:RK} {sz:Nat} {f:Nat→DV} (hb:st.box s=some [.arr agg sz f]) (hw:aC P G k (st.freeze s sz f) Q):aC P G k st Q:=by
 intro F w0 h0 β h a w g hd
 classical
 let K:IH:=⟨fun b o=>if 0<room β s∧b=blk β s then w.cell? ⟨b,o,none⟩ else h.cell b o,h.obj⟩
 have hk:h.le K:=by
  refine⟨fun b o v e=>?_,fun b o e=>e⟩
  simp only[K]
  split
  ·exact g.holds.1 b o v e
  ·exact e
 have hkh:K.holds w:=by
  refine⟨fun b o v e=>?_,g.holds.2⟩
  simp only[K] at e
  split at e
  ·exact e
  ·exact g.holds.1 b o v e
 have hold:∀b,b<w0.heap.size→¬F.on b→(∀o,K.cell b o=h0.cell b o)∧K.obj b=h0.obj b:=by
  intro b hb1 hb2
  have h1:=g.old b hb1 hb2
  refine⟨fun o=>?_,h1.2⟩
  simp only[K]
  rw[if_neg]
  ·exact h1.1 o
  ·rintro ⟨hl,rfl⟩
   obtain ⟨h2,_⟩:=(g.box s _ hb).1 hl
   rcases h2 with h2|h2
   ·exact hb2 h2
   ·omega
 have hrel:∀(x:AV) (v:Value),x.rel β h v→(oZ s sz f x).rel β K v:=by
  intro x v hx
  unfold oZ
  split
  ·rename_i t sz' lo n
   split
   ·rename_i hc
    simp only[aT,Nat.beq_eq] at hc
    obtain ⟨rfl,rfl⟩:=hc
    obtain ⟨k1,k2,p,rfl,hp⟩:=hx
    refine⟨p,_,rfl,by omega,?_⟩
    by_cases hn:n=0
    ·exact .inl hn
    ·right
     have hp:=hp.resolve_right (by omega)
     refine⟨blk β t,lo*sz',hp,fun i hi=>?_⟩
     obtain ⟨v,a1,a2,a3,a4,a5⟩:=g.elemAt hb (i:=lo+i) (by omega)
     refine⟨v,DV.rel.mono hk _ _ a1,a3,fun j hj=>?_⟩
     simp only[K]
     rw[if_pos ⟨by omega,trivial⟩,←a5 j hj,Nat.add_mul,Nat.add_assoc]
   ·exact AV.rel.mono hk _ _ (ng hx)
  ·exact AV.rel.mono hk _ _ (ng hx)
 have rC:∀{l:List AV} {vs:List Value},AV.aF β h l vs→AV.aF β K (l.map (oZ s sz f)) vs:=by
  intro l
  induction l with
  | nil=>intro vs r;exact r
  | cons x l ih=>rintro _ ⟨v,vs',e,r,rs⟩;exact⟨v,vs',e,hrel x v r,ih rs⟩
 have hbox:∀t l,(st.freeze s sz f).box t=some l→t≠s∧∃l0,st.box t=some l0∧l=l0.map (oZ s sz f):=by
  intro t l hl
  simp only[AS.freeze,AS.box,ES] at hl
  split at hl
  ·cases hl
  ·rename_i hts
   cases hh:look st.boxes t with
   | none=>simp[hh] at hl
   | some l0=>simp[hh] at hl;exact⟨hts,l0,hh,hl.symm⟩
 have hlive:∀t l,Live β t (l.map (oZ s sz f))→Live β t l:=by
  intro t l hl
  cases hp:cO l with
  | true=>exact Live.plain hp
  | false=>rw[Dw hp] at hl;exact hl
 refine hw F w0 h0 β K a w ⟨g.glob.trans hk,hkh,g.ext.trans hk,hold,g.kept,g.fix,by simpa [AS.freeze] using g.size,fun t x hx=>?_,fun t l hl=>?_,fun t t' l l' hl hl' k1 k2 he=>?_⟩ hd
 ·simp only[AS.freeze,List.getElem?_map] at hx
  cases hr:st.regs[t]? with
  | none=>simp[hr] at hx
  | some y=>
   simp only[hr,Option.map_some,aH] at hx
   subst hx
   obtain ⟨v,hv,hy⟩:=g.regs t y hr
   exact⟨v,hv,hrel y v hy⟩
 ·obtain ⟨hts,l0,hl0,rfl⟩:=hbox t l hl
  obtain ⟨h1,h2⟩:=g.box t l0 hl0
  refine⟨fun kk=>?_,?_⟩
  ·have kl:=hlive t l0 kk
   obtain ⟨u1,u2,u3⟩:=h1 kl
   refine⟨u1,fun o=>?_,u3⟩
   simp only[K]
   rw[if_neg]
   ·exact u2 o
   ·rintro ⟨hl1,he⟩
    exact hts (g.inj t s l0 _ hl0 hb kl hl1 he)
  ·cases hp:cO l0 with
   | true=>
    rw[Own.plain hp] at h2
    obtain ⟨T,vs,e,r⟩:=h2
    exact Own.of (T:=T.1) T.2 e (rC r)
   | false=>rw[Dw hp];exact Own.mono hk h2
 ·obtain ⟨_,l0,hl0,rfl⟩:=hbox t l hl
  obtain ⟨_,l1,hl1,rfl⟩:=hbox t' l' hl'
  exact g.inj t t' l0 l1 hl0 hl1 (hlive t l0 k1) (hlive t' l1 k2) he
end Go.Ab
namespace Go.Ab
open Go Go.RowKit
theorem AS.jq.reg (st:AS) (t:Nat) (y:AV) (hxy:∀(β:Nat→Nat) (h:IH) (v:Value),(st.reg t).rel β h v→y.rel β h v):st.jq ⟨st.regs.set t y,st.boxes⟩:=by
 intro G F w0 h0 β h tm w g
 refine⟨β,g.glob,g.holds,g.ext,g.old,g.kept,g.fix,by simpa using g.size,fun u x hx=>?_,g.box,g.inj⟩
 simp only at hx
 by_cases hu:t=u
 ·subst hu
  have hlt:t<st.regs.length:=by
   have:=(List.getElem?_eq_some_iff.1 hx).1
   simpa using this
  rw[List.getElem?_set_self hlt,aH] at hx
  subst hx
  obtain ⟨v,hv,hr⟩:=g.regs t st.regs[t] (by simp[hlt])
  refine⟨v,hv,hxy β h v ?_⟩
  have:st.reg t=st.regs[t]:=by simp[AS.reg,hlt]
  rw[this];exact hr
 ·rw[List.getElem?_set_ne hu] at hx
  exact g.regs u x hx
end Go.Ab
namespace Go.Ab
open Go Go.RowKit
variable {P:Program} {G:IH} {Q:Exit→AS→Prop}
def nC (s:Nat) (dl:List DV) (x:AV):AV:=match x with
 | .box t off=>match Nat.beq t s with|true=>.d (.ptr (dl.drop off))|false=>iQ s (.box t off)
 | x=>iQ s x
def AS.qZ (st:AS) (s:Nat) (dl:List DV):AS:=⟨st.regs.map (nC s dl),(st.boxes.filter fun b=>!(Nat.beq b.1 s)).map fun b=>(b.1,b.2.map (nC s dl))⟩
theorem Dk (s:Nat) (dl:List DV) (t:Nat):∀b:List (Nat×List AV),look ((b.filter fun b=>!(Nat.beq b.1 s)).map fun b=>(b.1,b.2.map (nC s dl))) t=if t=s then none else (look b t).map (·.map (nC s dl))
 | []=>by simp[look]
 | (k,c) :: b=>by
  have ih:=Dk s dl t b
  by_cases hk:k=s
  ·subst hk
   simp only[List.filter_cons,jd,Bool.not_true,Bool.false_eq_true,if_false,ih]
   by_cases ht:t=k
   ·rw[if_pos ht,if_pos ht]
   ·rw[if_neg ht,if_neg ht];simp only[look,dH (Ne.symm ht),cond_false]
  ·simp only[List.filter_cons,dH hk,Bool.not_false,if_true,List.map_cons,look]
   by_cases ht:k=t
   ·subst ht;simp[hk]
   ·simp only[dH ht,cond_false,ih]
theorem BI {s:Nat} {dl:List DV} {l:List AV} (h:cO l=false):l.map (nC s dl)=l:=by
 rcases dN h with ⟨a,b,c,rfl⟩|rfl|⟨a,b,c,rfl⟩<;>rfl
theorem aC.qZ {k:List It} {st:AS} (s:Nat) {dl:List DV} (hb:st.box s=some (dl.map .d)) (hp:cO (dl.map AV.d)=true) (hw:aC P G k (st.qZ s dl) Q):aC P G k st Q:=by
 intro F w0 h0 β h a w g hd
 classical
 obtain ⟨hl1,hl2,hl3,T,vs,hh,hrs⟩:=g.Jw hb hp
 let K:IH:=⟨fun b o=>if b=blk β s then w.cell? ⟨b,o,none⟩ else h.cell b o,h.obj⟩
 have hk:h.le K:=by
  refine⟨fun b o v e=>?_,fun b o e=>e⟩
  simp only[K]
  split
  ·exact g.holds.1 b o v e
  ·exact e
 have hkh:K.holds w:=by
  refine⟨fun b o v e=>?_,g.holds.2⟩
  simp only[K] at e
  split at e
  ·exact e
  ·exact g.holds.1 b o v e
 have hold:∀b,b<w0.heap.size→¬F.on b→(∀o,K.cell b o=h0.cell b o)∧K.obj b=h0.obj b:=by
  intro b hb1 hb2
  have h1:=g.old b hb1 hb2
  refine⟨fun o=>?_,h1.2⟩
  simp only[K]
  rw[if_neg]
  ·exact h1.1 o
  ·rintro rfl
   obtain ⟨h2,_⟩:=(g.box s _ hb).1 (Live.plain hp)
   rcases h2 with h2|h2
   ·exact hb2 h2
   ·omega
 have hcell:∀i,i<vs.length→K.cell (blk β s) i=vs[i]?:=by
  intro i hi
  simp only[K,if_true]
  simp[World.cell?,hh]
 have hrel:∀(x:AV) (v:Value),x.rel β h v→(nC s dl x).rel β K v:=by
  intro x v hx
  unfold nC
  split
  ·rename_i t off
   split
   ·rename_i hc
    obtain rfl:t=s:=Nat.eq_of_beq_eq_true hc
    have hd2:DV.aF h (dl.drop off) (vs.drop off):=by
     have h1:=AV.aF.drop off hrs
     rw[←List.map_drop] at h1
     exact AV.gZ.1 h1
    refine⟨blk β t,off,hx,vs.drop off,DV.aF.mono hk _ _ hd2,fun i hi=>?_⟩
    simp only[List.length_drop] at hi
    rw[hcell _ (by omega)];simp
   ·exact AV.rel.mono hk _ _ (ng hx)
  ·exact AV.rel.mono hk _ _ (ng hx)
 have rC:∀{l:List AV} {vs:List Value},AV.aF β h l vs→AV.aF β K (l.map (nC s dl)) vs:=by
  intro l
  induction l with
  | nil=>intro vs r;exact r
  | cons x l ih=>rintro _ ⟨v,vs',e,r,rs⟩;exact⟨v,vs',e,hrel x v r,ih rs⟩
 have hbox:∀t l,(st.qZ s dl).box t=some l→t≠s∧∃l0,st.box t=some l0∧l=l0.map (nC s dl):=by
  intro t l hl
  simp only[AS.qZ,AS.box,Dk] at hl
  split at hl
  ·cases hl
  ·rename_i hts
   cases hh:look st.boxes t with
   | none=>simp[hh] at hl
   | some l0=>simp[hh] at hl;exact⟨hts,l0,hh,hl.symm⟩
 have hlive:∀t l,Live β t (l.map (nC s dl))→Live β t l:=by
  intro t l hl
  cases hp:cO l with
  | true=>exact Live.plain hp
  | false=>rw[BI hp] at hl;exact hl
 refine hw F w0 h0 β K a w ⟨g.glob.trans hk,hkh,g.ext.trans hk,hold,g.kept,g.fix,by simpa [AS.qZ] using g.size,fun t x hx=>?_,fun t l hl=>?_,fun t t' l l' hl hl' k1 k2 he=>?_⟩ hd
 ·simp only[AS.qZ,List.getElem?_map] at hx
  cases hr:st.regs[t]? with
  | none=>simp[hr] at hx
  | some y=>
   simp only[hr,Option.map_some,aH] at hx
   subst hx
   obtain ⟨v,hv,hy⟩:=g.regs t y hr
   exact⟨v,hv,hrel y v hy⟩
 ·obtain ⟨hts,l0,hl0,rfl⟩:=hbox t l hl
  obtain ⟨h1,h2⟩:=g.box t l0 hl0
  refine⟨fun kk=>?_,?_⟩
  ·have kl:=hlive t l0 kk
   obtain ⟨u1,u2,u3⟩:=h1 kl
   refine⟨u1,fun o=>?_,u3⟩
   simp only[K]
   rw[if_neg]
   ·exact u2 o
   ·intro he
    exact hts (g.inj t s l0 _ hl0 hb kl (Live.plain hp) he)
  ·cases hp:cO l0 with
   | true=>
    rw[Own.plain hp] at h2
    obtain ⟨T,vs,e,r⟩:=h2
    exact Own.of (T:=T.1) T.2 e (rC r)
   | false=>rw[BI hp];exact Own.mono hk h2
 ·obtain ⟨_,l0,hl0,rfl⟩:=hbox t l hl
  obtain ⟨_,l1,hl1,rfl⟩:=hbox t' l' hl'
  exact g.inj t t' l0 l1 hl0 hl1 (hlive t l0 k1) (hlive t' l1 k2) he
theorem AS.jq.VL (st:AS) (s:Nat) {kd:Option IntKind} {f:Value→DV} {has:Value→Bool} (f':Value→DV) (hb:st.box s=some [.mp kd f has]) (YA:∀k,has k=true→f k=f' k):st.jq ⟨st.regs,setCells s 0 (.mp kd f' has) st.boxes⟩:=by
 intro G F w0 h0 β h tm w g
 refine⟨β,g.glob,g.holds,g.ext,g.old,g.kept,g.fix,g.size,g.regs,fun t l hl=>?_,fun t t' l l' hl hl' k1 k2 he=>?_⟩
 ·rcases eU hb t l hl with ⟨rfl,rfl⟩|⟨hne,hl'⟩
  ·obtain ⟨h1,h2⟩:=g.box t _ hb
   refine⟨h1,?_⟩
   obtain ⟨es,c,e,hs,m1,m2⟩:=h2
   exact⟨es,c,e,hs,fun x hx=>⟨(m1 x hx).1,(m1 x hx).2.1,YA _ (m1 x hx).2.1▸(m1 x hx).2.2⟩,m2⟩
  ·exact g.box t l hl'
 ·have key:∀t l,look (setCells s 0 (.mp kd f' has) st.boxes) t=some l→Live β t l→∃l0,st.box t=some l0∧Live β t l0:=by
   intro t l hl kl
   rcases eU hb t l hl with ⟨rfl,rfl⟩|⟨hne,hl'⟩
   ·exact⟨_,hb,kl⟩
   ·exact⟨l,hl',kl⟩
  obtain ⟨l0,a0,b0⟩:=key t l hl k1
  obtain ⟨l1,a1,b1⟩:=key t' l' hl' k2
  exact g.inj t t' l0 l1 a0 a1 b0 b1 he
end Go.Ab
namespace Go.Ab
open Go Go.RowKit
/-! A walk that remembers which way a condition went,until its temporary is written again. -/
def forget (ops:List Oper) (kn:List Nat):List Nat:=kn.filter fun t=>ops.all fun o=>match o.dst with|some d=>!(Nat.beq d t)|none=>true
def AS.told (st:AS) (x:Operand) (b:Bool):AS:=match x with | .tmp t=>⟨st.regs.set t (.d (.con (.bool b))),st.boxes⟩|_=>st
def learn (x:Operand) (kn:List Nat):List Nat:=match x with | .tmp t=>t :: kn|_=>kn
def knows (x:Operand) (kn:List Nat):Bool:=match x with | .tmp t=>kn.any (Nat.beq t)|_=>false
def lV (P:Program) (G:IH) (ay:iq) (keep cuts:List Nat):List Nat→Nat→List It→AS→Tree
 | _,0,k,st=>.stop k st
 | kn,n+1,k,st=>match cutAt cuts k with
  | true=>.stop k st
  | false=>match k with
   | []=>.leaf .normal st
   | .blk _ :: k=>lV P G ay keep cuts kn n k st
   | .scp :: k=>lV P G ay keep cuts kn n k st
   | .code (.scope c) :: k=>lV P G ay keep cuts kn n (.code c :: .scp :: k) st
   | .code .skip :: k=>lV P G ay keep cuts kn n k st
   | .code (.label _) :: k=>lV P G ay keep cuts kn n k st
   | .code (.seq a b) :: k=>lV P G ay keep cuts kn n (.code a :: .code b :: k) st
   | .code (.block id c) :: k=>lV P G ay keep cuts kn n (.code c :: .blk id :: k) st
   | .code (.region id ops draw) :: k=>match wz P G ay draw ops.toList st with
    | some (cs,st')=>needs cs (lV P G ay keep cuts (forget ops.toList kn) n k (st'.keep keep))
    | none=>.bad id
   | .code (.cond x a b) :: k=>match qY (st.ev x) with
    | .d (.con (.bool y))=>match uZ (st.ev x) with
     | true=>.bad 0
     | false=>match knows x kn with
      | true=>match y with
       | true=>lV P G ay keep cuts kn n (.code a :: k) st
       | false=>lV P G ay keep cuts kn n (.code b :: k) st
      | false=>.br y (lV P G ay keep cuts (learn x kn) n (.code a :: k) (st.told x true)) (lV P G ay keep cuts (learn x kn) n (.code b :: k) (st.told x false))
    | _=>.bad 1
   | .code (.exit id) :: k=>match yC id k with
    | some k'=>lV P G ay keep cuts kn n k' st
    | none=>.leaf (.exit id) st
   | .code .ret :: _=>.leaf .ret st
   | .code c :: k=>.stop (.code c :: k) st
theorem AS.Ql {st:AS} {x:Operand} {b:Bool} (h:st.ev x=.d (.con (.bool b))):st.told x b=st:=by
 cases x with
 | tmp t=>
  simp only[AS.told]
  cases st with
  | mk regs boxes=>
   simp only[AS.ev,AS.reg] at h
   congr 1
   apply List.ext_getElem?
   intro i
   rw[List.getElem?_set]
   split
   ·rename_i hit
    subst hit
    split
    ·rename_i hlt
     rw[bQ hlt] at h⊢
     simp only[Option.getD_some] at h
     rw[h]
    ·rename_i hge
     have hge:regs.length≤t:=by simpa using hge
     rw[List.getElem?_eq_none hge]
   ·rfl
 | _=>rfl
section
variable {P:Program} {G:IH} {ay:iq} {Q:Exit→AS→Prop}
theorem jF (hm:P.follows .mixedOrders=true) {keep cuts:List Nat}:∀(kn:List Nat) (n:Nat) (k:List It) (st:AS),(lV P G ay keep cuts kn n k st).ok P G Q→aC P G k st Q
 | _,0,_,_,h=>h
 | kn,n+1,k,st,h=>by
  unfold lV at h
  split at h
  ·exact h
  ·rename_i hcut
   clear hcut
   split at h
   ·exact fun F w0 h0 β h1 a w g hd=>⟨st,β,h1,h,g,hd⟩
   ·exact fun F w0 h0 β h1 a w g hd=>jF hm kn n _ st h F w0 h0 β h1 a w g hd
   ·exact fun F w0 h0 β h1 a w g hd=>jF hm kn n _ st h F w0 h0 β h1 a w g hd
   ·intro F w0 h0 β h1 a w g hd
    refine wp_scope_straight (nK (jF hm kn n _ st h F w0 h0 β h1 a w g hd) fun e a w he=>?_)
    cases e<;>exact he
   ·exact fun F w0 h0 β h1 a w g hd=>wp_skip (jF hm kn n _ st h F w0 h0 β h1 a w g hd)
   ·exact fun F w0 h0 β h1 a w g hd=>wp_label (jF hm kn n _ st h F w0 h0 β h1 a w g hd)
   ·intro F w0 h0 β h1 a w g hd
    refine wp_seq (nK (jF hm kn n _ st h F w0 h0 β h1 a w g hd) fun e a w he=>?_)
    cases e<;>exact he
   ·intro F w0 h0 β h1 a w g hd
    refine wp_block (nK (jF hm kn n _ st h F w0 h0 β h1 a w g hd) fun e a w he=>?_)
    cases e<;>exact he
   ·rename_i id ops draw k'
    split at h
    ·rename_i cs st' hr
     have hcs:(∀c∈cs,c)∧(lV P G ay keep cuts (forget ops.toList kn) n k' (st'.keep keep)).ok P G Q:=by
      unfold needs at h
      split at h
      ·exact⟨by simp,h⟩
      ·exact⟨Ba h.1,h.2⟩
     intro F w0 h0 β h1 a w g hd
     have:=BH (id:=id) (Q:=wpS P k' (Ends G F w0 h0 Q)) hm hr hcs.1 g hd fun a' w' β' h' hd' g'=>jF hm _ n k' (st'.keep keep) hcs.2 F w0 h0 β' h' a' w' (bF.keep g' keep) hd'
     simpa [wpS] using this
    ·exact h.elim
   ·rename_i x c1 c2 k'
    split at h
    ·rename_i y hy
     split at h
     ·exact h.elim
     ·rename_i U7
      intro F w0 h0 β h1 a w g hd
      have hx:=g.ev x
      have hy':st.ev x=.d (.con (.bool y)):=by
       cases hs:st.ev x with
       | gate s w b z=>rw[hs] at U7;simp[uZ] at U7
       | _=>rw[hs] at hy;exact hy
      rw[hy'] at hx
      refine wp_cond_split (t:=y) hx (fun ht=>?_) fun hf=>?_
      ·subst ht
       split at h
       ·exact jF hm kn n _ st h F w0 h0 β h1 a w g hd
       ·have h2:=h.1 rfl
        rw[AS.Ql hy'] at h2
        exact jF hm _ n _ st h2 F w0 h0 β h1 a w g hd
      ·subst hf
       split at h
       ·exact jF hm kn n _ st h F w0 h0 β h1 a w g hd
       ·have h2:=h.2 rfl
        rw[AS.Ql hy'] at h2
        exact jF hm _ n _ st h2 F w0 h0 β h1 a w g hd
    ·exact h.elim
   ·rename_i id k'
    intro F w0 h0 β h1 a w g hd
    refine wp_exit (uK ?_)
    split at h
    ·rename_i k2 hk;rw[hk];exact jF hm kn n k2 st h F w0 h0 β h1 a w g hd
    ·rename_i hk;rw[hk];exact⟨st,β,h1,h,g,hd⟩
   ·intro F w0 h0 β h1 a w g hd
    exact wp_ret (D7 ⟨by simp,by simp,by simp⟩ ⟨st,β,h1,h,g,hd⟩)
   ·exact h
theorem aK (hm:P.follows .mixedOrders=true) {keep cuts:List Nat} {n:Nat} {k:List It} {st:AS} (h:Holds ((lV P G ay keep cuts [] n k st).ok P G Q)):aC P G k st Q:=
 jF hm [] n k st h.h
theorem aj.aK {ay:iq} {keep:List Nat} {f:FuncId} {fn:Func} {args:List DV} {r:DV} (hm:P.follows .mixedOrders=true) (hf:P.funcs[f]?=some fn) (hb:fn.body.isSome=true) (hcall:∀(vs:Array Value) (w:World),(callFunc f vs).run P w=.ok (.enter f vs) w)
  (h:Holds ((lV P G ay keep [] [] 1000 [.code (aQ fn)] (entry args fn.ntmps)).ok P G (fF P fn r))):aj P G f args r:=
 aj.iE hf hb hcall (jF hm _ _ _ _ h.h)
end
end Go.Ab
namespace Go.Ab
open Go Go.RowKit
/-! What a walk comes to,its states named by their places. -/
abbrev ZS {α:Type} (x:α):Prop:=x=x
abbrev T0:Prop:=(0:Nat)=0
abbrev cd (f:Func) (p:List Nat):It:=.code (dR (aQ f) p)
def aI:Tree→List Nat→AS
 | .leaf _ st,_=>st
 | .stop _ st,_=>st
 | .need _ t,p=>aI t p
 | .br _ t _,0 :: p=>aI t p
 | .br _ _ t,_ :: p=>aI t p
 | _,_=>⟨[],[]⟩
section
variable {P:Program} {G:IH} {Q:Exit→AS→Prop} {t:Tree}
theorem aA (f:Tree→(List It→AS→(Exit→AS→Prop)→Prop)→(Exit→AS→Prop)→(FuncId→List DV→DV→Prop)→Prop) (h:t.ok P G Q=f t (aC P G) Q (aj P G)) (hb:f t (aC P G) Q (aj P G)):Holds (t.ok P G Q):=⟨h▸hb⟩
theorem bW {σ:Type} {K:List It} {S:σ→AS} {I:σ→Prop} {μ:σ→Nat} {x:σ} (f:Tree→(List It→AS→(Exit→AS→Prop)→Prop)→(Exit→AS→Prop)→(FuncId→List DV→DV→Prop)→(AS→Prop)→(Exit→AS→Prop)→Prop)
  (h:t.ok P G (nR P G K Q S I μ x)=f t (aC P G) Q (aj P G) (Again S I μ x) (nR P G K Q S I μ x)) (hb:f t (aC P G) Q (aj P G) (Again S I μ x) (nR P G K Q S I μ x)):Holds (t.ok P G (nR P G K Q S I μ x)):=⟨h▸hb⟩
end
/-! A state that says no more: what is the same by reckoning is left away. -/
def Gg (ix:List Nat):Nat→List AV→List AV→List AV
 | n,x :: l,y :: m=>(match y with | .any=>Gg ix n l m|_=>bif ix.any (Nat.beq n) then Gg ix (n+1) l m else x :: Gg ix (n+1) l m)
 | _,_,_=>[]
def Gl (ix:List Nat):Nat→List AV→List AV→List AV
 | n,_ :: l,y :: m=>(match y with | .any=>Gl ix n l m|y=>bif ix.any (Nat.beq n) then Gl ix (n+1) l m else y :: Gl ix (n+1) l m)
 | _,_,_=>[]
def Dq (ix:List Nat):Nat→List AV→List AV→Prop
 | _,[],[]=>True
 | n,x :: l,y :: m=>(match y with | .any=>Dq ix n l m|y=>bif ix.any (Nat.beq n) then x=y∧Dq ix (n+1) l m else T0∧Dq ix (n+1) l m)
 | _,_,_=>False
theorem zI {ix:List Nat}:∀{n:Nat} {l m:List AV},Gg ix n l m=Gl ix n l m→Dq ix n l m→vG l m
 | _,[],[],_,_=>trivial
 | n,x :: l,y :: m,he,hz=>by
  unfold vG
  cases y<;>(
   simp only[Gg,Gl,Dq] at he hz⊢
   first
    | exact zI he hz
    | (cases hc:ix.any (Nat.beq n)<;>rw[hc] at he hz
       ·simp only[cond_false,List.cons.injEq] at he hz
        exact⟨he.1,zI he.2 hz.2⟩
       ·simp only[cond_true] at he hz
        exact⟨hz.1,zI he hz.2⟩))
 | _,[],_ :: _,_,hz=>hz.elim
 | _,_ :: _,[],_,hz=>hz.elim
def Jr (ix:List Nat) (b:List (Nat×List AV)):Nat→List (Nat×List AV)→List (Option (List AV))
 | _,[]=>[]
 | n,(s,_) :: r=>bif ix.any (Nat.beq n) then Jr ix b (n+1) r else look b s :: Jr ix b (n+1) r
def I9 (ix:List Nat):Nat→List (Nat×List AV)→List (Option (List AV))
 | _,[]=>[]
 | n,(_,l) :: r=>bif ix.any (Nat.beq n) then I9 ix (n+1) r else some l :: I9 ix (n+1) r
def Gh (ix:List Nat) (b:List (Nat×List AV)):Nat→List (Nat×List AV)→Prop
 | _,[]=>True
 | n,(s,l) :: r=>bif ix.any (Nat.beq n) then look b s=some l∧Gh ix b (n+1) r else T0∧Gh ix b (n+1) r
theorem Ec {ix:List Nat} {b:List (Nat×List AV)}:∀{n:Nat} {c:List (Nat×List AV)},Jr ix b n c=I9 ix n c→Gh ix b n c→uN b c
 | _,[],_,_=>trivial
 | n,(s,l) :: r,he,hz=>by
  simp only[Jr,I9,Gh] at he hz
  cases hc:ix.any (Nat.beq n)<;>rw[hc] at he hz
  ·simp only[cond_false,List.cons.injEq] at he hz
   exact⟨he.1,Ec he.2 hz.2⟩
  ·simp only[cond_true] at he hz
   exact⟨hz.1,Ec he hz.2⟩
theorem Ai:∀{n:Nat} {l m:List AV},l.length=m.length→Dq [] n l m
 | _,[],[],_=>trivial
 | n,x :: l,y :: m,he=>by
  have h2:l.length=m.length:=by simpa using he
  clear he
  cases y<;>(unfold Dq;simp only[List.any_nil,cond_false];first|exact Ai h2|exact⟨rfl,Ai h2⟩|exact⟨trivial,Ai h2⟩)
 | _,[],_ :: _,h=>by simp at h
 | _,_ :: _,[],h=>by simp at h
theorem FM {b:List (Nat×List AV)}:∀{n:Nat} {c:List (Nat×List AV)},Gh [] b n c
 | _,[]=>trivial
 | n,(s,l) :: r=>by
  unfold Gh
  simp only[List.any_nil,cond_false]
  first|exact⟨rfl,FM⟩|exact⟨trivial,FM⟩
theorem AS.dB {st st':AS} (h:(st.regs.length,Gg [] 0 st.regs st'.regs,Jr [] st.boxes 0 st'.boxes)=(st'.regs.length,Gl [] 0 st.regs st'.regs,I9 [] 0 st'.boxes)):st.le st':=by
 simp only[aX] at h
 exact⟨zI h.2.1 (Ai h.1),Ec h.2.2 FM⟩
theorem AS.leZ {st st':AS} {b:Prop} (ix jx:List Nat) (h:(Gg ix 0 st.regs st'.regs,Jr jx st.boxes 0 st'.boxes)=(Gl ix 0 st.regs st'.regs,I9 jx 0 st'.boxes)) (hz:(Dq ix 0 st.regs st'.regs∧Gh jx st.boxes 0 st'.boxes)=b) (hb:b):st.le st':=by
 simp only[aX] at h
 subst hz
 exact⟨zI h.1 hb.1,Ec h.2 hb.2⟩
theorem AS.jq.adL (st:AS) (t:Nat) (d d':DV) (e:st.reg t=.d d) (hd:∀(h:IH) (v:Value),d.rel h v→d'.rel h v):st.jq ⟨st.regs.set t (.d d'),st.boxes⟩:=
 AS.jq.reg st t (.d d') fun β h v hv=>by rw[e] at hv;exact hd h v hv
end Go.Ab
namespace Go.Ab
open Go Go.RowKit
/-! Panics. -/
abbrev oC (v:Value):List PanicEntry:=[{ v:=v,recovered:=false }]
def jy (P:Program) (G:IH) (f:FuncId) (args:List DV) (pv:Value):Prop:=
 (∀(vs:Array Value) (w:World),(callFunc f vs).run P w=.ok (.enter f vs) w)∧
 ∀(w:World) (h:IH) (vs:List Value),G.le h→h.holds w→DV.aF h args vs→
  Calls P f vs.toArray w fun e w'=>e=.panicked (oC pv)∧∃h',h.le h'∧h'.holds w'∧Kept (fun _=>False) w w'∧
   ∀b,b<w.heap.size→(∀o,h'.cell b o=h.cell b o)∧h'.obj b=h.obj b
def BP (P:Program) (G:IH) (f:FuncId) (args:List AV) (pre:List (Nat×List AV)) (pv:Value):Prop:=
 (∀(us:Array Value) (w:World),(callFunc f us).run P w=.ok (.enter f us) w)∧
 ∀(F:Fr) (w:World) (h:IH) (β:Nat→Nat) (us:Array Value),bF G F w h ⟨args,pre⟩ β h us w→
  Calls P f us w fun e w'=>e=.panicked (oC pv)∧∃β' h',bF G F w h ⟨[],pre⟩ β' h' #[] w'
def LK (P:Program) (G:IH) (ops:List Oper) (o:Oper) (st:AS) (e:Ev) (pv:Value):Prop:=
 ∀(F:Fr) (w0:World) (h0:IH) (st':AS) (β:Nat→Nat) (h:IH) (a:Act) (w:World) (K:Act→World→Prop) (Q:Exit→Act→World→Prop),
  (∀p,touches ops o e p=true→st'.at_ p=st.at_ p)→bF G F w0 h0 st' β h a.tmps w→a.defers=[]→
  (∀(w':World) (β':Nat→Nat) (h':IH),bF G F w0 h0 st' β' h' a.tmps w'→Q (.panic (oC pv)) a w')→
  if Region.wanted o (yielded ops.toArray a.tmps) then o.wp P a w K Q else K (a.put o.dst undef) w
def CU (draw:Bool) (ops:List Oper) (i:Nat) (j:Nat):Bool:=match draw with
 | true=>Nat.beq j i||((Ky ops []).getD j 0).testBit i
 | false=>Nat.ble i j
def dummy (o:Oper):Ev:={ dst:=o.dst,val:=.any }
def EG (P:Program) (G:IH) (ay:iq) (all:List Oper) (dep:Nat→Bool):Nat→List Oper→AS→Option (List Prop×List Ev)
 | _,[],_=>some ([],[])
 | j,o :: os,st=>match dep j with
  | true=>match uH o.dst st.regs,EG P G ay all dep (j+1) os ((dummy o).app st) with
   | true,some (cs,es)=>some (cs,dummy o :: es)
   | _,_=>none
  | false=>match Eu P G ay all o st with
   | some (c,e)=>match e.jC,e.nw,EG P G ay all dep (j+1) os (e.app st) with
    | [],[],some (cs,es)=>some (c++cs,e :: es)
    | _,_,_=>none
   | none=>none
def qm:Code→Option (Array Oper×Bool)
 | .region _ ops d=>some (ops,d)
 | .seq a _=>qm a
 | .block _ c=>qm c
 | .scope c=>qm c
 | _=>none
def lead:List It→Option (Array Oper×Bool)
 | .code c :: _=>qm c
 | .blk _ :: k=>lead k
 | .scp :: k=>lead k
 | []=>none
def RY (G:IH) (ay:iq) (all:List Oper) (o:Oper) (st:AS):Option (List Prop×FuncId×List DV):=
 match guardOf all o st with
 | none=>none
 | some γ=>match o.op with
  | .call c=>match c.callee with
   | .value x=>match ny (wC ay x (qY (st.ev x))) with
    | some (g,a1,a2)=>match oD (a1++(c.args.toList.map (fun x=>wC ay x (qY (st.ev x)))++a2)) with
     | some xs=>some ((match γ with|none=>[] | some (_,_,b)=>[b=true])++(ou (keyOf γ) (o.op.operands.toList.map st.ev)++wH G ay o.op.operands.toList),g,xs)
     | none=>none
    | none=>none
   | _=>none
  | _=>none
def aaA (draw:Bool) (ops:List Oper) (es:List Ev):Bool:=match draw with|true=>oW ops es|false=>true
def aaF (P:Program) (G:IH) (ay:iq) (i:Nat) (k:List It) (st:AS) (pv:Value):Tree:=
 match lead k with
 | none=>.bad 0
 | some (ops,draw)=>match EG P G ay ops.toList (CU draw ops.toList i) 0 ops.toList st.clear with
  | none=>.bad 1
  | some (cs,es)=>match aaA draw ops.toList es,ops.toList[i]? with
   | true,some o=>match RY G ay ops.toList o (jg (es.take i) st.clear) with
    | none=>.bad 2
    | some (qs,g,args)=>.need (cs++(qs++[jy P G g args pv])) (.leaf .normal st)
   | _,_=>.bad 3
section
variable {P:Program} {G:IH} {ay:iq}
theorem QH {o:Oper} {st:AS} (hg:Good st) (hk:uH o.dst st.regs=true):Good ((dummy o).app st):=by
 intro t s w b x ht
 have h0:(ku st.regs o.dst .any)[t]?=some (.gate s w b x):=ht
 cases hd:o.dst with
 | none=>
  rw[hd] at h0
  have:=hg t s w b x h0
  simp only[AS.reg,Ev.app,dummy,hd] at this⊢
  exact this
 | some d=>
  rw[hd] at hk
  rw[hd,iY] at h0
  split at h0
  ·cases hr:st.regs[t]? with
   | none=>simp[hr] at h0
   | some y=>simp[hr] at h0
  ·have h1:=hg t s w b x h0
   simp only[uH,List.all_eq_true] at hk
   have:=hk _ (List.mem_of_getElem? h0)
   simp only[Bool.not_eq_true'] at this
   have hne:d≠s:=fun e=>by subst e;rw[Nat.beq_refl] at this;cases this
   simp only[AS.reg,Ev.app,dummy,hd] at h1⊢
   rw[yH (by simpa using hne)]
   exact h1
theorem CQ {all:List Oper} {dep:Nat→Bool}:∀{os:List Oper} {j:Nat} {st:AS} {cs:List Prop} {es:List Ev},EG P G ay all dep j os st=some (cs,es)→Good st→(∀c∈cs,c)→
  es.length=os.length∧(∀e∈es,e.jC=[]∧e.nw=[])∧∀(k:Nat) (o:Oper) (e:Ev),os[k]?=some o→es[k]?=some e→Good (jg (es.take k) st)∧(dep (j+k)=true→e=dummy o)∧(dep (j+k)=false→y5 P G all o (jg (es.take k) st) e)
 | [],_,_,_,_,h,_,_=>by
  simp only[EG,aH,aX] at h;obtain ⟨_,rfl⟩:=h
  exact⟨rfl,fun _ he=>(by simp at he),fun k o e ho _=>by simp at ho⟩
 | o :: os,j,st,cs,es,h,hg,hc=>by
  simp only[EG] at h
  split at h
  ·rename_i Gp
   split at h
   ·rename_i hkf he
    simp only[aH,aX] at h;obtain ⟨rfl,rfl⟩:=h
    obtain ⟨h1,h2,h3⟩:=CQ he (QH hg hkf) hc
    refine⟨by simp[h1],fun e he'=>?_,fun k o' e ho' he'=>?_⟩
    ·rcases List.mem_cons.1 he' with rfl|he'
     ·exact⟨rfl,rfl⟩
     ·exact h2 e he'
    ·cases k with
     | zero=>
      simp only[List.getElem?_cons_zero,aH] at ho' he'
      subst ho';subst he'
      exact⟨hg,fun _=>rfl,fun hf=>by rw[Nat.add_zero,Gp] at hf;cases hf⟩
     | succ k=>
      have:=h3 k o' e (by simpa using ho') (by simpa using he')
      rw[show j+1+k=j+(k+1) from by omega] at this
      simpa [jg] using this
   ·cases h
  ·rename_i Gp
   split at h
   ·rename_i c e0 hev
    split at h
    ·rename_i hw hn he
     simp only[aH,aX] at h;obtain ⟨rfl,rfl⟩:=h
     obtain ⟨h1,h2,h3⟩:=CQ he (Ih hev hg) fun q hq=>hc q (List.mem_append_right _ hq)
     refine⟨by simp[h1],fun e he'=>?_,fun k o' e ho' he'=>?_⟩
     ·rcases List.mem_cons.1 he' with rfl|he'
      ·exact⟨hw,hn⟩
      ·exact h2 e he'
     ·cases k with
      | zero=>
       simp only[List.getElem?_cons_zero,aH] at ho' he'
       subst ho';subst he'
       refine⟨hg,fun hf=>(by rw[Nat.add_zero,Gp] at hf;cases hf),fun _=>?_⟩
       exact Nk hg hev fun q hq=>hc q (List.mem_append_left _ hq)
      | succ k=>
       have:=h3 k o' e (by simpa using ho') (by simpa using he')
       rw[show j+1+k=j+(k+1) from by omega] at this
       simpa [jg] using this
    ·cases h
   ·cases h
theorem AP {D:Nat→Bool}:∀(i:Nat) (es:List Ev) (st:AS),(∀e∈es,e.jC=[]∧e.nw=[])→(fold D i es st).boxes=st.boxes
 | _,[],_,_=>rfl
 | i,e :: es,st,h=>by
  simp only[fold]
  rw[AP (i+1) es _ fun e' he'=>h e' (List.mem_cons_of_mem _ he')]
  obtain ⟨h1,h2⟩:=h e (List.mem_cons_self ..)
  cases D i
  ·rfl
  ·simp[Ev.app,h1,h2,fQ]
theorem bF.left {F:Fr} {w0:World} {h0:IH} {st:AS} {β:Nat→Nat} {h:IH} {tm:Array Value} {w:World} (g:bF G F w0 h0 st β h tm w) {bx:List (Nat×List AV)} (hb:st.boxes=bx) (n:Nat) (hn:st.regs.length=n):bF G F w0 h0 ⟨List.replicate n .any,bx⟩ β h tm w:=by
 subst hb
 refine⟨g.glob,g.holds,g.ext,g.old,g.kept,g.fix,by rw[g.size,hn];simp,fun t x hx=>?_,g.box,g.inj⟩
 rw[List.getElem?_replicate] at hx
 split at hx
 ·rename_i ht
  simp only[aH] at hx;subst hx
  have:t<tm.size:=by rw[g.size];omega
  exact⟨tm[t],by simp[this],trivial⟩
 ·cases hx
section
variable {ops:List Oper} {es:List Ev} {st:AS} {i:Nat} {o:Oper} {pv:Value}
theorem XY (hlen:es.length=ops.length) (hpl:∀e∈es,e.jC=[]∧e.nw=[]) (hord:oW ops es=true) (ho:ops[i]?=some o)
  (hop:∀(k:Nat) (o:Oper) (e:Ev),ops[k]?=some o→es[k]?=some e→CU true ops i k=false→y5 P G ops o (jg (es.take k) st) e)
  (hp:∀e,es[i]?=some e→LK P G ops o (jg (es.take i) st) e pv)
  {F:Fr} {w0:World} {h0:IH} {Q:Exit→Act→World→Prop}
  (hQ:∀(a':Act) (w':World) (β':Nat→Nat) (h':IH),a'.defers=[]→bF G F w0 h0 ⟨List.replicate st.regs.length .any,st.boxes⟩ β' h' a'.tmps w'→Q (.panic (oC pv)) a' w') :
  ∀(fuel:Nat) (listed:Array Bool) (β:Nat→Nat) (h:IH) (a:Act) (w:World),listed.size=ops.length→listed.getD i false=false→Closed ops (fun j=>listed.getD j false)→
   ((List.range ops.length).filter fun k=>!listed.getD k true).length≤fuel→
   bF G F w0 h0 (fold (fun j=>listed.getD j false) 0 es st) β h a.tmps w→a.defers=[]→wpAny P .any ops.toArray Q fuel listed a w:=by
 have hback:wY 0 ops=true:=by simp only[oW,aT] at hord;exact hord.1
 have hfr:uq st es=true:=by
  simp only[uq,List.all_eq_true]
  intro e he b hb
  rw[(hpl e he).2] at hb;simp at hb
 have hi:i<ops.length:=(List.getElem?_eq_some_iff.1 ho).1
 have hno:∀(listed:Array Bool),listed.size=ops.length→listed.getD i false=false→Region.ready .any ops.toArray listed≠[]:=by
  intro listed hsz xO hr
  have:=ready_nil hback hr i hi
  have hi':i<listed.size:=by omega
  simp only[Array.getD_eq_getD_getElem?,Array.getElem?_eq_getElem hi',Option.getD_some] at this xO
  rw[this] at xO;cases xO
 intro fuel
 induction fuel with
 | zero=>
  intro listed β h a w hsz xO hc hcount g hd
  exfalso
  have hnil:((List.range ops.length).filter fun k=>!listed.getD k true)=[]:=List.eq_nil_of_length_eq_zero (by omega)
  have:=List.filter_eq_nil_iff.1 hnil i (by simpa using hi)
  have hi':i<listed.size:=by omega
  simp only[Array.getD_eq_getD_getElem?,Array.getElem?_eq_getElem hi',Option.getD_some] at this xO
  rw[xO] at this;simp at this
 | succ fuel ih=>
  intro listed β h a w hsz xO hc hcount g hd
  refine⟨fun hr=>absurd hr (hno listed hsz xO),fun k hk=>?_⟩
  obtain ⟨hlt,hlk,ok,hok,hpre⟩:=J6 hk
  obtain ⟨e,he⟩:∃e,es[k]?=some e:=⟨es[k]'(by omega),by simp⟩
  have hk':k<listed.size:=by omega
  have hD:(fun j=>listed.getD j false) k=false:=by
   simpa [Array.getD_eq_getD_getElem?,Array.getElem?_eq_getElem hk'] using hlk
  have hset:(fun j=>(listed.setIfInBounds k true).getD j false)=fun j=>listed.getD j false||Nat.beq j k:=by
   funext j
   by_cases hj:j=k
   ·subst hj;simp[Array.getD_eq_getD_getElem?,hk']
   ·rw[dH hj];simp[Array.getD_eq_getD_getElem?,Array.getElem?_setIfInBounds_ne (Ne.symm hj)]
  have hc':Closed ops (fun j=>listed.getD j false||Nat.beq j k):=by
   intro j o' ho' hj e' he' hb
   simp only[Bool.or_eq_true] at hj⊢
   rcases hj with hj|hj
   ·exact .inl (hc j o' ho' hj e' he' hb)
   ·have:j=k:=Nat.eq_of_beq_eq_true hj
    subst this
    rw[hok] at ho';injection ho' with ho';subst ho'
    exact .inl (hpre e' he' hb)
  have hoq:ops.toArray[k]?=some ok:=by simpa using hok
  simp only[wpOp,hoq]
  by_cases hki:k=i
  ·subst hki
   rw[ho] at hok;injection hok with hok;subst hok
   refine Ed (hp e he F w0 h0 _ β h a w _ Q ?_ g hd fun w' β' h' g'=>?_)
   ·rw[←xJ]
    exact DL hlen hc hord ho he hD hpre
   ·exact hQ a w' β' h' hd (g'.left (AP 0 es st hpl) _ (o8 _ 0 es st))
  ·have Gp:CU true ops i k=false:=by
    unfold CU
    simp only[dH hki,Bool.false_or]
    cases hb:((Ky ops []).getD k 0).testBit i with
    | false=>rfl
    | true=>
     have:=oU hc' hb (by simp)
     simp only[dH (Ne.symm hki),Bool.or_false] at this
     rw[xO] at this;cases this
   refine Ed (FB hlen hc hord hfr (by rw[xJ];exact hop k ok e hok he Gp) hok he hD hpre g hd ?_)
   intro a' w' β' h' hd' g'
   refine ih (listed.setIfInBounds k true) β' h' a' w' (by simpa using hsz) ?_ ?_ ?_ (by rw[hset];exact g') hd'
   ·simp only[Array.getD_eq_getD_getElem?] at xO⊢
    rw[Array.getElem?_setIfInBounds_ne hki];exact xO
   ·rw[hset];exact hc'
   ·have:((List.range ops.length).filter fun j=>!(listed.setIfInBounds k true).getD j true).length<((List.range ops.length).filter fun j=>!listed.getD j true).length:=by
     refine filter_lt (i:=k) ?_ (by simpa using hlt) (by simp[hlk]) (by simp[Array.getD_eq_getD_getElem?,hk'])
     intro j hj
     by_cases hjk:j=k
     ·subst hjk;simp[hlk]
     ·simpa [Array.getD_eq_getD_getElem?,Array.getElem?_setIfInBounds_ne (Ne.symm hjk)] using hj
    omega
theorem Pz (ho:ops[i]?=some o) {F:Fr} {w0:World} {h0:IH} {Q:Exit→Act→World→Prop} (hlen:es.length=ops.length) (hpl:∀e∈es,e.jC=[]∧e.nw=[])
  (hop:∀(k:Nat) (o:Oper) (e:Ev),ops[k]?=some o→es[k]?=some e→CU false ops i k=false→y5 P G ops o (jg (es.take k) st) e)
  (hp:∀e,es[i]?=some e→LK P G ops o (jg (es.take i) st) e pv)
  (hQ:∀(a':Act) (w':World) (β':Nat→Nat) (h':IH),a'.defers=[]→bF G F w0 h0 ⟨List.replicate st.regs.length .any,st.boxes⟩ β' h' a'.tmps w'→Q (.panic (oC pv)) a' w') :
  ∀(m k:Nat),k+m=ops.length→k≤i→∀(β:Nat→Nat) (h:IH) (a:Act) (w:World),bF G F w0 h0 (jg (es.take k) st) β h a.tmps w→a.defers=[]→wpOps P ops.toArray Q (List.range' k m) a w
 | 0,k,hm,hki,β,h,a,w,g,hd=>by
  have:=(List.getElem?_eq_some_iff.1 ho).1
  omega
 | m+1,k,hm,hki,β,h,a,w,g,hd=>by
  have hk:k<ops.length:=by omega
  have hok:ops[k]?=some ops[k]:=by simp[hk]
  obtain ⟨e,he⟩:∃e,es[k]?=some e:=⟨es[k]'(by omega),by simp⟩
  have hrl:∀n,(jg (es.take n) st).regs.length=st.regs.length∧(jg (es.take n) st).boxes=st.boxes:=fun n=>by
   rw[←xJ]
   exact⟨o8 _ 0 es st,AP 0 es st hpl⟩
  simp only[List.range'_succ]
  rw[wpOps_cons]
  have hoq:ops.toArray[k]?=some ops[k]:=by simp
  simp only[wpOp,hoq]
  by_cases h1:k=i
  ·subst h1
   rw[ho] at hok;injection hok with hok
   rw[←hok]
   exact Ed (hp e he F w0 h0 _ β h a w _ Q (fun _ _=>rfl) g hd fun w' β' h' g'=>hQ a w' β' h' hd (g'.left (hrl k).2 _ (hrl k).1))
  ·have Gp:CU false ops i k=false:=by
    unfold CU
    cases hb:Nat.ble i k with
    | false=>rfl
    | true=>rw[Nat.ble_eq] at hb;omega
   refine Ed (hop k _ e hok he Gp F w0 h0 _ β h a w _ Q rfl (fun _ _=>rfl) (fun b hb=>(by rw[(hpl e (List.mem_of_getElem? he)).2] at hb;simp at hb)) g hd ?_)
   intro a' w' β' h' hd' g'
   refine Pz ho hlen hpl hop hp hQ m (k+1) (by omega) (by omega) β' h' a' w' ?_ hd'
   have:es.take (k+1)=es.take k++[e]:=by
    rw[List.take_add_one,he];rfl
   rw[this]
   have hr:∀(l:List Ev) (s:AS),jg (l++[e]) s=e.app (jg l s):=by
    intro l
    induction l with
    | nil=>intro s;rfl
    | cons x l ih=>intro s;simp[jg,ih]
   rw[hr];exact g'
end
theorem SS {x:AV} {want b:Bool} {β:Nat→Nat} {h:IH} {v:Value} {y:Option Bool} (hb:mV x want=some b) (hv:x.rel β h v) (h1:∀c:Bool,v=.bool c→y=some c) (h2:v=undef→y=none):(y==some want)=b:=by
 unfold mV at hb
 split at hb
 ·rename_i c
  rw[h1 c hv]
  simp only[aH] at hb
  rw[←hb]
  cases want<;>cases c<;>rfl
 ·rename_i g' c
  simp only[aH] at hb
  cases hg':g' with
  | false=>
   rw[h2 (hv.2 hg')];rw[←hb,hg']
   cases want<;>rfl
  | true=>
   rw[h1 c (hv.1 hg')]
   rw[←hb,hg']
   cases want<;>cases c<;>rfl
 ·cases hb
theorem RN {all:List Oper} {o:Oper} {st st':AS} {e:Ev} {γ:Option (Nat×Bool×Bool)} (hγ:guardOf all o st=some γ) {F:Fr} {w0:World} {h0:IH} {β:Nat→Nat} {h:IH} {a:Act} {w:World} (hag:∀p,touches all o e p=true→st'.at_ p=st.at_ p) (g:bF G F w0 h0 st' β h a.tmps w) (ht:∀s w b,γ=some (s,w,b)→b=true) :
  Region.wanted o (yielded all.toArray a.tmps)=true∧(∀s v,keyOf γ=some (s,v)→mV (st.reg s) v=some true):=by
 unfold guardOf at hγ
 cases hgd:o.guard with
 | none=>
  simp only[hgd,aH] at hγ
  subst hγ
  exact⟨by simp[Region.wanted,hgd],fun s v hk=>by simp[keyOf] at hk⟩
 | some jw=>
  obtain ⟨j,want⟩:=jw
  simp only[hgd] at hγ
  split at hγ
  case h_2=>cases hγ
  rename_i q hq
  split at hγ
  case h_2=>cases hγ
  rename_i s hs
  split at hγ
  case h_2=>cases hγ
  rename_i b hb
  simp only[aH] at hγ
  subst hγ
  have hbt:=ht s want b rfl
  subst hbt
  have xE:st'.reg s=st.reg s:=by
   have:=hag (.reg s) (by
    simp only[touches,looks,List.any_append,Bool.or_eq_true,hgd,hq,Option.bind_some,hs]
    exact .inr (.inl (by simp[Loc.hits])))
   simp only[AS.at_,aX,and_true] at this
   simp[AS.reg,this]
  have hrel:(st.reg s).rel β h (a.tmps.getD s undef):=by rw[←xE];exact g.ev (.tmp s)
  have hlt:∃v,a.tmps[s]?=some v:=by
   cases hr:st'.regs[s]? with
   | none=>
    exfalso
    have:st'.reg s=.any:=by simp[AS.reg,hr]
    rw[←xE,this] at hb
    simp[mV] at hb
   | some y=>obtain ⟨v,hv,_⟩:=g.regs s y hr;exact⟨v,hv⟩
  obtain ⟨v,hv⟩:=hlt
  have hgv:a.tmps.getD s undef=v:=by simp[Array.getD_eq_getD_getElem?,hv]
  rw[hgv] at hrel
  refine⟨?_,fun s' v' hk=>?_⟩
  ·have adF:=SS (y:=yielded all.toArray a.tmps j) hb hrel (fun c hc=>by simp[yielded,hq,hs,hv,hc]) (fun hu=>by simp[yielded,hq,hs,hv,hu,undef])
   simp only[Region.wanted,hgd]
   exact adF
  ·simp only[keyOf,aH,aX] at hk
   obtain ⟨rfl,rfl⟩:=hk
   exact hb
theorem V9 {all:List Oper} {o:Oper} {st:AS} {qs:List Prop} {g:FuncId} {xs:List DV} {e:Ev} {pv:Value} (hgood:Good st) (h:RY G ay all o st=some (qs,g,xs)) (hq:∀c∈qs,c) (hf:jy P G g xs pv):LK P G all o st e pv:=by
 intro F w0 h0 st' β h1 a w K Q hag g1 hd hQ
 unfold RY at h
 split at h
 ·cases h
 ·rename_i γ hγ
  split at h
  case h_2=>cases h
  rename_i c ho
  split at h
  case h_2=>cases h
  rename_i x oM
  split at h
  case h_2=>cases h
  rename_i g' a1 a2 hx
  split at h
  case h_2=>cases h
  rename_i xs' hxs
  simp only[aH,aX] at h
  obtain ⟨rfl,rfl,rfl⟩:=h
  have hrel:∀x∈o.op.operands,(st.ev x).rel β h1 (a.eval x):=fun x hx=>by rw[←FY hag hx];exact g1.ev x
  -- the guard says that it is made
  have hgd:Region.wanted o (yielded all.toArray a.tmps)=true∧(∀s v,keyOf γ=some (s,v)→mV (st.reg s) v=some true):=RN hγ hag g1 fun s w b e=>hq _ (by rw[e];simp)
  obtain ⟨hw,hkey⟩:=hgd
  rw[if_pos hw]
  have hop:∀x∈o.op.operands,(wC ay x (qY (st.ev x))).rel β h1 (a.eval x):=fun x hx=>by
   refine Dt (fun c hc'=>hq c (List.mem_append_right _ (List.mem_append_right _ hc'))) (by simpa using hx) g1.glob (H7 (hrel x hx) fun s v b y tX=>?_)
   rcases oP (fun c hc'=>hq c (List.mem_append_right _ (List.mem_append_left _ hc'))) (s:=s) (w:=v) (g:=b) (x:=y) (by rw[←tX];exact List.mem_map.2 ⟨x,by simpa using hx,rfl⟩) with h2|h2
   ·have h3:=hkey s v (sameKey_eq h2)
    cases x with
    | tmp t=>
     simp only[AS.ev,AS.reg] at tX
     cases hr:st.regs[t]? with
     | none=>simp[hr] at tX
     | some z=>
      simp only[hr,Option.getD_some] at tX;subst tX
      rw[hgood t s v b y hr] at h3;exact Option.some.inj h3
    | const u=>simp only[AS.ev] at tX;cases u<;>simp[yS] at tX
    | func f=>simp[AS.ev] at tX
    | global f=>simp[AS.ev] at tX
   ·exact h2
  have hxv:=hop x (by simp[ho,Op.operands,Call.operands,oM])
  obtain ⟨va,vc,hv,ha,hcv⟩:=qh hx hxv
  have hargs:AV.aF β h1 (c.args.toList.map (fun x=>wC ay x (qY (st.ev x)))) (c.args.toList.map a.eval):=qc fun y hy=>hop y (by simp[ho,Op.operands,Call.operands,Array.mem_toList_iff.1 hy])
  have hall:=ha.append (hargs.append hcv)
  rw[mF hxs,AV.gZ] at hall
  have hm:c.args.map a.eval=(c.args.toList.map a.eval).toArray:=by apply Array.ext';simp
  have lU:(execOp a.eval o).run P w=(callFunc g' (va++(c.args.toList.map a.eval++vc)).toArray).run P w:=by
   simp only[execOp,ho,resolve,oM,hv,hm,Deferred.ofValue,Sem.run_bind,Sem.run_pure,Result.andThen_ok,invoke,List.append_toArray,List.append_assoc]
  unfold Oper.wp
  rw[lU,hf.1,Oper.upon_enter]
  refine(hf.2 w h1 _ g1.glob g1.holds hall).mono ?_
  rintro e' w' ⟨rfl,h',hh,hw',hk,hold⟩
  exact hQ w' β h' (g1.grow hh hw' hk hold)
theorem Ei {ops:Array Oper} {draw:Bool} {pv:Value} {a:Act} {w:World} (E:Act→World→Prop)
  (hr:∀(id:Nat) (Q:Exit→Act→World→Prop),(∀a' w',E a' w'→Q (.panic (oC pv)) a' w')→(Code.region id ops draw).wp P Q a w):∀(c:Code) (Q:Exit→Act→World→Prop),qm c=some (ops,draw)→(∀a' w',E a' w'→Q (.panic (oC pv)) a' w')→c.wp P Q a w
 | .region id ops' d,Q,h,hQ=>by
  simp only[qm,aH,aX] at h
  obtain ⟨rfl,rfl⟩:=h
  exact hr id Q hQ
 | .seq x y,Q,h,hQ=>wp_seq (Ei E hr x _ h fun a' w' he=>hQ a' w' he)
 | .block id x,Q,h,hQ=>wp_block (Ei E hr x _ h fun a' w' he=>hQ a' w' he)
 | .scope x,Q,h,hQ=>wp_scope_straight (Ei E hr x _ h fun a' w' he=>hQ a' w' he)
 | .skip,_,h,_=>by simp[qm] at h
 | .cond ..,_,h,_=>by simp[qm] at h
 | .loop ..,_,h,_=>by simp[qm] at h
 | .exit ..,_,h,_=>by simp[qm] at h
 | .ret,_,h,_=>by simp[qm] at h
 | .label ..,_,h,_=>by simp[qm] at h
 | .goto ..,_,h,_=>by simp[qm] at h
theorem Ad {ops:Array Oper} {draw:Bool} {pv:Value} {a:Act} {w:World} (E:Act→World→Prop)
  (hr:∀(id:Nat) (Q:Exit→Act→World→Prop),(∀a' w',E a' w'→Q (.panic (oC pv)) a' w')→(Code.region id ops draw).wp P Q a w) {R:Exit→Act→World→Prop} (hR:∀a' w',E a' w'→R (.panic (oC pv)) a' w'):∀(k:List It),lead k=some (ops,draw)→wpS P k R .normal a w
 | [],h=>by simp[lead] at h
 | .code c :: k,h=>Ei E hr c (wpS P k R) h fun a' w' he=>D7 ⟨by simp,by simp,by simp⟩ (hR a' w' he)
 | .blk _ :: k,h=>Ad E hr hR k h
 | .scp :: k,h=>Ad E hr hR k h
theorem aC.panic (hm:P.follows .mixedOrders=true) (ay:iq) (i:Nat) {k:List It} {st:AS} {pv:Value} {Q:Exit→AS→Prop} (h:Holds ((aaF P G ay i k st pv).ok P G fun _ _=>True)) (hQ:Q (.panic (oC pv)) ⟨List.replicate st.regs.length .any,st.boxes⟩):aC P G k st Q:=by
 have h:=h.h
 unfold aaF at h
 split at h
 ·exact h.elim
 ·rename_i ops draw hl
  split at h
  ·exact h.elim
  ·rename_i cs es hev
   split at h
   case h_2=>exact h.elim
   rename_i o hord ho
   split at h
   ·exact h.elim
   ·rename_i qs g xs hat
    have hall:=h.1
    have hall:=Ba hall
    obtain ⟨hlen,hpl,hget⟩:=CQ hev (He st) fun c hc=>hall c (List.mem_append_left _ hc)
    have hi:i<ops.toList.length:=(List.getElem?_eq_some_iff.1 ho).1
    have hgi:Good (jg (es.take i) st.clear):=(hget i o (es[i]'(by omega)) ho (by simp)).1
    have hp:∀e,es[i]?=some e→LK P G ops.toList o (jg (es.take i) st.clear) e pv:=fun e _=>V9 hgi hat (fun c hc=>hall c (List.mem_append_right _ (List.mem_append_left _ hc))) (hall _ (List.mem_append_right _ (List.mem_append_right _ (List.mem_singleton.2 rfl))))
    have hop:∀(k:Nat) (o:Oper) (e:Ev),ops.toList[k]?=some o→es[k]?=some e→CU draw ops.toList i k=false→y5 P G ops.toList o (jg (es.take k) st.clear) e:=fun k o e h1 h2 h3=>(hget k o e h1 h2).2.2 (by rw[Nat.zero_add];exact h3)
    intro F w0 h0 β h1 a w g1 hd
    have hcl:st.clear.regs.length=st.regs.length:=by simp[AS.clear]
    refine Ad (fun a' w'=>∃β' h',a'.defers=[]∧bF G F w0 h0 ⟨List.replicate st.regs.length .any,st.boxes⟩ β' h' a'.tmps w') (fun id Q hQ=>?_) (fun a' w' ⟨β',h',hd',g'⟩=>⟨_,β',h',hQ,g',hd'⟩) k hl
    have hQ':∀(a':Act) (w':World) (β':Nat→Nat) (h':IH),a'.defers=[]→bF G F w0 h0 ⟨List.replicate st.clear.regs.length .any,st.clear.boxes⟩ β' h' a'.tmps w'→Q (.panic (oC pv)) a' w':=fun a' w' β' h' hd' g'=>hQ a' w' ⟨β',h',hd',by rw[hcl] at g';exact g'⟩
    cases draw with
    | true=>
     have:=XY (Q:=Q) hlen hpl hord ho hop hp hQ' ops.toList.length (Array.replicate ops.size false) β h1 a { w with drawn:=w.drawn+1 } (by simp) ?_ ?_ ?_ ?_ hd
     ·refine wp_region_any hm ?_
      simpa using this
     ·simp[Array.getD_eq_getD_getElem?,Array.getElem?_replicate]
      split<;>rfl
     ·intro j o _ hj
      simp[Array.getD_eq_getD_getElem?,Array.getElem?_replicate] at hj
      split at hj<;>simp at hj
     ·exact Nat.le_trans (List.length_filter_le _ _) (by simp)
     ·rw[yJ]
      ·exact(bF.clear g1).drew _
      ·intro j _
       simp[Array.getD_eq_getD_getElem?,Array.getElem?_replicate]
       split<;>rfl
    | false=>
     refine wp_region ?_
     have:=Pz ho hlen hpl hop hp hQ' ops.toList.length 0 (by omega) (Nat.zero_le _) β h1 a w (by simpa [jg] using bF.clear g1) hd
     simpa [List.range_eq_range'] using this
theorem jy.iE {f:FuncId} {fn:Func} {args:List DV} {pv:Value} (hf:P.funcs[f]?=some fn) (hb:fn.body.isSome=true) (hcall:∀(vs:Array Value) (w:World),(callFunc f vs).run P w=.ok (.enter f vs) w)
  (h:aC P G [.code (aQ fn)] (entry args fn.ntmps) (fun e _=>e=.panic (oC pv))):jy P G f args pv:=by
 have hb':fn.body=some (aQ fn):=by
  unfold aQ
  cases hh:fn.body with
  | none=>simp[hh] at hb
  | some c=>rfl
 refine⟨hcall,fun w h0 vs hG hw hvs=>calls_of_wp hf hb' ?_⟩
 have hvl:=hvs.length
 have g0:bF G ⟨fun _=>False,fun _=>0⟩ w h0 (entry args fn.ntmps) (fun _=>0) h0 (vs.toArray++Array.replicate (fn.ntmps-vs.toArray.size) undef) w:=by
  refine⟨hG,hw,IH.le.refl _,fun _ _ _=>⟨fun _=>rfl,rfl⟩,Kept.refl _ _,fun _ _=>⟨rfl,rfl,rfl⟩,by simp[entry,hvl],fun t x hx=>?_,fun s l hb=>by simp[entry,AS.box,look] at hb,fun s s' l l' hb=>by simp[entry,AS.box,look] at hb⟩
  simp only[entry,List.getElem?_append,List.length_map] at hx
  split at hx
  ·rename_i ht
   obtain ⟨v,hv,hr⟩:=((AV.gZ (β:=fun _=>0)).2 hvs).get hx
   exact⟨v,by rw[Array.getElem?_append_left (by simpa [hvl] using ht)];simpa using hv,hr⟩
  ·rename_i ht
   rw[List.getElem?_replicate] at hx
   split at hx
   ·rename_i ht'
    simp only[aH] at hx;subst hx
    exact⟨undef,by rw[Array.getElem?_append_right (by simp[hvl];omega)];simp[hvl,ht'],trivial⟩
   ·cases hx
 refine nK (h ⟨fun _=>False,fun _=>0⟩ w h0 (fun _=>0) h0 ⟨_,[]⟩ w g0 rfl) fun e a w' he=>?_
 obtain ⟨st,β,h',rfl,g,hd⟩:=he
 exact⟨hd,rfl,h',g.ext,g.holds,g.kept.mono fun _ h=>h,fun b hb=>g.old b hb id⟩
theorem BP.iE {f:FuncId} {fn:Func} {args:List AV} {pre:List (Nat×List AV)} {pv:Value} (hf:P.funcs[f]?=some fn) (hb:fn.body.isSome=true) (hcall:∀(vs:Array Value) (w:World),(callFunc f vs).run P w=.ok (.enter f vs) w)
  (h:aC P G [.code (aQ fn)] (tu args pre fn.ntmps) (fun e st=>e=.panic (oC pv)∧uN st.boxes pre)):BP P G f args pre pv:=by
 have hb':fn.body=some (aQ fn):=by
  unfold aQ
  cases hh:fn.body with
  | none=>simp[hh] at hb
  | some c=>rfl
 refine⟨hcall,fun F w h0 β us g=>calls_of_wp hf hb' ?_⟩
 have g0:bF G F w h0 (tu args pre fn.ntmps) β h0 (us++Array.replicate (fn.ntmps-us.size) undef) w:=by
  refine⟨g.glob,g.holds,g.ext,g.old,g.kept,g.fix,?_,fun t x hx=>?_,g.box,g.inj⟩
  ·have:=g.size
   simp[tu,this]
  ·simp only[tu,List.getElem?_append] at hx
   have hs:us.size=args.length:=g.size
   split at hx
   ·rename_i ht
    obtain ⟨v,hv,hr⟩:=g.regs t x hx
    exact⟨v,by rw[Array.getElem?_append_left (by omega)];exact hv,hr⟩
   ·rename_i ht
    rw[List.getElem?_replicate] at hx
    split at hx
    ·rename_i ht'
     simp only[aH] at hx;subst hx
     exact⟨undef,by rw[Array.getElem?_append_right (by omega),Array.getElem?_replicate,if_pos (by omega)],trivial⟩
    ·cases hx
 refine nK (h F w h0 β h0 ⟨_,[]⟩ w g0 rfl) fun e a w' he=>?_
 obtain ⟨st,β',h',⟨rfl,hle⟩,g1,hd⟩:=he
 have h3:=sF hle
 exact⟨hd,rfl,β',h',g1.glob,g1.holds,g1.ext,g1.old,g1.kept,g1.fix,rfl,fun t x hx=>(by simp at hx),fun s l hb=>g1.box s l (h3 s l hb),fun s s' l l' hb hb'=>g1.inj s s' l l' (h3 s l hb) (h3 s' l' hb')⟩
end
end Go.Ab
