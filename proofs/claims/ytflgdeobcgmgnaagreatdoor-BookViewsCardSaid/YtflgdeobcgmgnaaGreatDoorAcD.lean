import Derived.Test.YtflgdeobcgmgnaaGreatDoorAcC
import Derived.Carry
import Derived.ChangeShapes
import Derived.ChangeArms
import Derived.Deep.Slices
import Derived.LaidMore
set_option autoImplicit false
namespace Go.Ab
open Go Go.RowKit Go.ChangeShapes
inductive Sh where
 | int (k:IntKind)
 | bool
 | str
 | slc (agg:Bool) (l:List Sh)
mutual
def Sh.dv:Sh→DV→Prop
 | .int k,d=>∃n,(Lit.int k n).wf=true∧d=.con (.int k n)
 | .bool,d=>∃b,d=.con (.bool b)
 | .str,d=>∃s:ByteArray,s.size≤maxLen∧d=.con (.string s)
 | .slc agg l,d=>∃n f,n≤maxLen∧d=.slc l.length n f∧∀i,i<n→(match agg with|true=>∃es,f i=.agg es∧pW.dv l es|false=>pW.dv l [f i])
def pW.dv:List Sh→List DV→Prop
 | [],es=>es=[]
 | s :: l,es=>∃d es',es=d :: es'∧Sh.dv s d∧pW.dv l es'
end
def vdv (agg:Bool) (l:List Sh) (d:DV):Prop:=match agg with|true=>∃es,d=.agg es∧pW.dv l es|false=>pW.dv l [d]
def qc (P:Program) (r:TypeId→Option (List Sh)):List Field→Nat→Option (List Sh×Nat)
 | [],off=>some ([],off)
 | f :: fs,off=>match Nat.beq f.offset off,r f.type with
  | true,some l=>match Nat.beq l.length (P.cellsOf f.type),qc P r fs (off+P.cellsOf f.type) with
   | true,some (m,e)=>some (l++m,e)
   | _,_=>none
  | _,_=>none
def lW (P:Program):Nat→TypeId→Option (List Sh)
 | 0,_=>none
 | n+1,t=>match P.underlying t with
  | some .bool=>some [.bool]
  | some (.int k)=>some [.int k]
  | some .string=>some [.str]
  | some (.slice e)=>match lW P n e with
   | some l=>match Nat.beq l.length (P.cellsOf e)&&(Nat.blt 0 l.length&&(dH P e||Nat.beq l.length 1)) with
    | true=>some [.slc (dH P e) l]
    | false=>none
   | none=>none
  | some (.struct fs)=>match qc P (lW P n) fs.toList 0 with
   | some (l,e)=>match Nat.beq e (P.cellsOf t) with|true=>some l|false=>none
   | none=>none
  | _=>none
def allOf (W:World):IH:=⟨fun b o=>W.cell? ⟨b,o,none⟩,fun b=>W.heap[b]?⟩
theorem Ql (W:World):(allOf W).holds W:=⟨fun _ _ _ h=>h,fun _ _ h=>h⟩
theorem DV.aF.append {h:IH}:∀{a b:List DV} {u v:List Value},DV.aF h a u→DV.aF h b v→DV.aF h (a++b) (u++v)
 | [],_,u,_,ha,hb=>by simp only[DV.aF] at ha;subst ha;exact hb
 | _ :: a,_,_,_,⟨x,u',e,r,rs⟩,hb=>by subst e;exact⟨x,_,rfl,r,DV.aF.append rs hb⟩
theorem pW.append:∀{a b:List Sh} {u v:List DV},pW.dv a u→pW.dv b v→pW.dv (a++b) (u++v)
 | [],_,u,_,ha,hb=>by simp only[pW.dv] at ha;subst ha;exact hb
 | _ :: a,_,_,_,⟨x,u',e,r,rs⟩,hb=>by subst e;exact⟨x,_,rfl,r,pW.append rs hb⟩
theorem Sh.cells {s:Sh} {d:DV} {h:IH} {v:Value} (hs:s.dv d) (hv:d.rel h v):v.cells=#[v]:=by
 cases s with
 | int k=>obtain ⟨n,_,rfl⟩:=hs;simp only[DV.rel] at hv;subst hv;rfl
 | bool=>obtain ⟨n,rfl⟩:=hs;simp only[DV.rel] at hv;subst hv;rfl
 | str=>obtain ⟨n,_,rfl⟩:=hs;simp only[DV.rel] at hv;subst hv;rfl
 | slc agg l=>obtain ⟨n,f,_,rfl,_⟩:=hs;obtain ⟨p,cap,e,_⟩:=hv;subst e;rfl
section
variable {H:Type} {enc:TypeId×Value→H} {P:Program} {W:World} {base:Nat} {sp:Nat→Bool} {held:Bool}
theorem Gy {r:TypeId→Option (List Sh)}:∀{fs:List Field} {off e:Nat} {l:List Sh},qc P r fs off=some (l,e)→off≤e
 | [],off,e,l,h=>by simp only[qc,aI,bg] at h;omega
 | f :: fs,off,e,l,h=>by
  simp only[qc] at h
  split at h
  ·split at h
   ·rename_i m e' _ h2
    simp only[aI,bg] at h
    have:=Gy h2
    omega
   ·cases h
  ·cases h
theorem Gp {r:TypeId→Option (List Sh)} {cs:List Value}
  (hr:∀(t:TypeId) (l:List Sh) (m:Nat) (cs':List Value) (x:DataW H×List MemPlace),r t=some l→DataW.trod enc P W base sp held m t cs'=some x→∃es,pW.dv l es∧DV.aF (allOf W) es cs') :
  ∀{fs:List Field} {off e:Nat} {l:List Sh},qc P r fs off=some (l,e)→(∀f∈fs,∃m y,DataW.trod enc P W base sp held m f.type ((cs.drop f.offset).take (P.cellsOf f.type))=some y)→
   ∃es,pW.dv l es∧DV.aF (allOf W) es ((cs.drop off).take (e-off))
 | [],off,e,l,h,_=>by
  simp only[qc,aI,bg] at h
  obtain ⟨rfl,rfl⟩:=h
  exact⟨[],rfl,by simp[DV.aF]⟩
 | f :: fs,off,e,l,h,hf=>by
  simp only[qc] at h
  split at h
  ·rename_i l0 ho hr0
   split at h
   ·rename_i m e' hc h2
    simp only[aI,bg] at h
    obtain ⟨rfl,rfl⟩:=h
    have ho:=Nat.eq_of_beq_eq_true ho
    obtain ⟨k,y,hy⟩:=hf f (List.mem_cons_self ..)
    obtain ⟨d1,a1,b1⟩:=hr _ _ _ _ _ hr0 hy
    obtain ⟨d2,a2,b2⟩:=Gp hr h2 fun g hg=>hf g (List.mem_cons_of_mem _ hg)
    have hle:=Gy h2
    refine⟨d1++d2,pW.append a1 a2,?_⟩
    have:=DV.aF.append b1 b2
    rw[ho] at this
    rw[show (cs.drop off).take (e' - off)=(cs.drop off).take (P.cellsOf f.type)++(cs.drop (off+P.cellsOf f.type)).take (e' - (off+P.cellsOf f.type)) from by
     rw[show e' - off=P.cellsOf f.type+(e' - (off+P.cellsOf f.type)) by omega,List.take_add,List.drop_drop]]
    exact this
   ·cases h
  ·cases h
theorem BQ:∀{n:Nat} {t:TypeId} {l:List Sh} {m:Nat} {cs:List Value} {x:DataW H×List MemPlace},lW P n t=some l→DataW.trod enc P W base sp held m t cs=some x→
  ∃es,pW.dv l es∧DV.aF (allOf W) es cs
 | 0,_,_,_,_,_,h,_=>by simp[lW] at h
 | n+1,t,l,m,cs,x,h,hx=>by
  simp only[lW] at h
  split at h
  ·rename_i ht
   obtain ⟨b,rfl,rfl⟩:=DataW.trod_bool ht hx
   simp only[aI] at h;subst h
   exact⟨[.con (.bool b)],⟨_,_,rfl,⟨b,rfl⟩,rfl⟩,⟨_,_,rfl,rfl,rfl⟩⟩
  ·rename_i k ht
   obtain ⟨b,rfl,rfl,hw⟩:=DataW.trod_int ht hx
   simp only[aI] at h;subst h
   exact⟨[.con (.int k b)],⟨_,_,rfl,⟨b,hw,rfl⟩,rfl⟩,⟨_,_,rfl,rfl,rfl⟩⟩
  ·rename_i ht
   obtain ⟨b,rfl,rfl,hw⟩:=DataW.trod_string ht hx
   simp only[aI] at h;subst h
   exact⟨[.con (.string b)],⟨_,_,rfl,⟨b,hw,rfl⟩,rfl⟩,⟨_,_,rfl,rfl,rfl⟩⟩
  ·rename_i e ht
   split at h
   ·rename_i l' hl'
    split at h
    ·rename_i hc
     simp only[aY,Nat.beq_eq,Bool.or_eq_true,Nat.blt_eq] at hc
     simp only[aI] at h;subst h
     rcases Go.Deep.open_slice ht hx with ⟨rfl,rfl⟩|⟨a,len,cap,mm,n',D,Pl,rfl,hb,hlc,hcap,hmm,rfl,hel⟩
     ·refine⟨[.slc l'.length 0 fun _=>.con undef],⟨_,_,rfl,⟨0,_,Nat.zero_le _,rfl,fun i hi=>absurd hi (by omega)⟩,rfl⟩,⟨_,_,rfl,⟨none,0,rfl,Nat.le_refl _,.inl rfl⟩,rfl⟩⟩
     ·have hlm:len≤mm:=by rw[hmm];split<;>omega
      have hspot:0<len→a.spot=none:=by
       intro hpos
       obtain ⟨cs',h1,_⟩:=hel 0 (by omega)
       obtain ⟨_,h5,h6⟩:=World.cells?_some h1
       have:=h6 0 (by omega)
       rw[Nat.zero_mul,gy (by omega)] at this
       simp only[World.cell?,Addr.add,if_true] at this
       split at this
       ·split at this
        ·cases this
        ·rename_i hsp;simpa using hsp
       ·cases this
      have hadd:0<len→∀k,a.add k=⟨a.block,a.off+k,none⟩:=by
       intro hpos k
       have:=hspot hpos
       unfold Addr.add
       split
       ·rename_i hk;subst hk;cases a;simp_all
       ·rfl
      have each:∀i,i<len→∃d:DV,(match dH P e with|true=>∃es,d=.agg es∧pW.dv l' es|false=>pW.dv l' [d])∧∃v,DV.rel (allOf W) d v∧v.cells.size=l'.length∧∀j,j<l'.length→W.cell? ⟨a.block,a.off+i*l'.length+j,none⟩=v.cells[j]?:=by
       intro i hi
       obtain ⟨cs',h1,h2⟩:=hel i (by omega)
       obtain ⟨es,h3,h4⟩:=BQ hl' h2
       obtain ⟨_,h5,h6⟩:=World.cells?_some h1
       have hsz:cs'.length=l'.length:=by rw[h5,hc.1]
       have hat:∀j,j<l'.length→W.cell? ⟨a.block,a.off+i*l'.length+j,none⟩=cs'[j]?:=by
        intro j hj
        rw[←h6 j (by omega),hadd (by omega),hc.1]
        congr 1
        unfold Addr.add
        split
        ·rename_i hk;subst hk;rfl
        ·rfl
       cases hag:dH P e with
       | true=>exact⟨.agg es,⟨es,rfl,h3⟩,.agg cs'.toArray,⟨cs',rfl,h4⟩,by simp[Value.cells,hsz],fun j hj=>by rw[hat j hj];simp[Value.cells]⟩
       | false=>
        have h1':l'.length=1:=by rcases hc.2.2 with h|h
                                 ·rw[hag] at h;cases h
                                 ·exact h
        match l',cs',es,h1',hsz,h3,h4,hat with
        | [s],[c],es,_,_,h3,h4,hat=>
         obtain ⟨d,es',e1,h3,e2⟩:=h3
         simp only[pW.dv] at e2;subst e2;subst e1
         obtain ⟨v,vs',e3,h4,e4⟩:=h4
         injection e3 with e3 _;subst e3
         have hcell:=Sh.cells h3 h4
         refine⟨d,⟨_,_,rfl,h3,rfl⟩,c,h4,by rw[hcell];rfl,fun j hj=>?_⟩
         rw[hat j hj,hcell];simp
      refine⟨[.slc l'.length len fun i=>if h:i<len then Classical.choose (each i h) else .con undef],⟨_,_,rfl,⟨len,_,Nat.le_trans hlc hcap,rfl,fun i hi=>?_⟩,rfl⟩,⟨_,_,rfl,⟨some a,cap,rfl,hlc,?_⟩,rfl⟩⟩
      ·simp only[dif_pos hi]
       exact(Classical.choose_spec (each i hi)).1
      ·by_cases hz:len=0
       ·exact .inl hz
       right
       refine⟨a.block,a.off,by have:=hspot (by omega);cases a;simp_all,fun i hi=>?_⟩
       simp only[dif_pos hi]
       obtain ⟨_,v,hv,hsz,hcl⟩:=Classical.choose_spec (each i hi)
       exact⟨v,hv,hsz,fun j hj=>hcl j hj⟩
    ·cases h
   ·cases h
  ·rename_i fs ht
   split at h
   ·rename_i l' e hl'
    split at h
    ·rename_i he
     simp only[aI] at h;subst h
     have he:=Nat.eq_of_beq_eq_true he
     obtain ⟨xs,n',rfl,rfl,hlen,hxl,hf⟩:=DataW.trod_struct ht hx
     obtain ⟨es,h1,h2⟩:=Gp (cs:=cs) (fun t l m cs' x h1 h2=>BQ h1 h2) hl' fun f hf'=>by
      obtain ⟨i,hi⟩:=List.mem_iff_getElem?.1 hf'
      have hi':fs[i]?=some f:=by simpa using hi
      have:=hf i f hi'
      have hlt:i<xs.length:=by
       rw[hxl];exact(Array.getElem?_eq_some_iff.1 hi').1
      exact⟨n',xs[i],by rw[this];simp[hlt]⟩
     refine⟨es,h1,?_⟩
     rw[List.drop_zero,Nat.sub_zero,he,←hlen,List.take_length] at h2
     exact h2
    ·cases h
   ·cases h
  ·cases h
theorem Xb {n:Nat} {t:TypeId} {l:List Sh} {b0:Nat} {v:Value} {d:DataW H} {p:List MemPlace} (hs:lW P n t=some l) (hl:(dH P t||Nat.beq l.length 1)=true)
  (hv:Value.okWide P W .any b0 t v) (h:DataW.Trod enc P W base sp held t v d p):∃x:DV,vdv (dH P t) l x∧x.rel (allOf W) v:=by
 obtain ⟨m,hm⟩:=h
 obtain ⟨es,h1,h2⟩:=BQ hs hm
 cases ha:dH P t with
 | true=>
  have:∃cs,v=.agg cs:=by
   unfold dH at ha
   unfold Value.okWide at hv
   split at ha
   ·rename_i fs hu;rw[hu] at hv;obtain ⟨cs,e,_⟩:=hv;exact⟨cs,e⟩
   ·rename_i k e hu;rw[hu] at hv;obtain ⟨cs,e,_⟩:=hv;exact⟨cs,e⟩
   ·cases ha
  obtain ⟨cs,rfl⟩:=this
  exact⟨.agg es,⟨es,rfl,h1⟩,⟨cs.toList,by simp,by simpa [Value.cells] using h2⟩⟩
 | false=>
  rw[ha] at hl
  simp only[Bool.false_or,Nat.beq_eq] at hl
  match l,hl,h1 with
  | [s],_,h1=>
   obtain ⟨x,es',e1,k1,e2⟩:=h1
   simp only[pW.dv] at e2;subst e2;subst e1
   obtain ⟨u,vs',e3,h3,e4⟩:=h2
   simp only[DV.aF] at e4;subst e4
   have hu:u=v:=by
    have hcell:=Sh.cells k1 h3
    have:v.cells=#[u]:=by rw[←Array.toArray_toList (xs:=v.cells),e3]
    unfold Value.okWide at hv
    cases n with
    | zero=>simp[lW] at hs
    | succ n=>
     have hna:∀cs,v≠.agg cs:=by
      rintro cs rfl
      unfold dH at ha
      simp only[lW] at hs
      split at hv
      ·rename_i hu2;rw[hu2] at ha;simp at ha
      ·rename_i hu2;rw[hu2] at ha;simp at ha
      ·unfold Cell.okWide Cell.ok at hv
       split at hs<;>rename_i ht<;>simp_all
     cases v<;>first|(simp[Value.cells] at this;exact this.symm)|exact absurd rfl (hna _)
   subst hu
   exact⟨x,⟨x,[],rfl,k1,rfl⟩,h3⟩
def ql (P:Program):List TypeId→Option (List (Bool×List Sh))
 | []=>some []
 | t :: ts=>match lW P 8 t,ql P ts with
  | some l,some r=>match (dH P t||Nat.beq l.length 1)&&(P.readableRec t&&Nat.blt t P.types.size) with
   | true=>some ((dH P t,l) :: r)
   | false=>none
  | _,_=>none
def V6:List (Bool×List Sh)→List DV→Prop
 | [],xs=>xs=[]
 | s :: l,xs=>∃x xs',xs=x :: xs'∧vdv s.1 s.2 x∧V6 l xs'
theorem Qd:∀{ts:List TypeId} {CZ:List (Bool×List Sh)} {us:List Value} {es:List (DataW H)} {ps:List MemPlace},ql P ts=some CZ→(∀(j:Nat) t v,ts[j]?=some t→us[j]?=some v→Value.okWide P W .any base t v)→
  DataW.TrodAll enc P W 0 sp held ts us es ps→∃xs:List DV,V6 CZ xs∧DV.aF (allOf W) xs us
 | [],CZ,us,es,ps,h,_,ht=>by
  simp only[ql,aI] at h;subst h
  obtain ⟨rfl,_,_⟩:=trodAll_nil ht
  exact⟨[],rfl,rfl⟩
 | t :: ts,CZ,us,es,ps,h,hv,ht=>by
  match us,es,ht with
  | v :: us,e :: es,⟨p,q,h1,h2,_⟩=>
   simp only[ql] at h
   split at h
   ·rename_i l r hl hr
    split at h
    ·rename_i hc
     simp only[aY] at hc
     simp only[aI] at h;subst h
     obtain ⟨x,a1,a2⟩:=Xb hl hc.1 (hv 0 t v rfl rfl) h1
     obtain ⟨xs,b1,b2⟩:=Qd hr (fun j t' v' h3 h4=>hv (j+1) t' v' (by simpa using h3) (by simpa using h4)) h2
     exact⟨x :: xs,⟨_,_,rfl,a1,b1⟩,⟨_,_,rfl,a2,b2⟩⟩
    ·cases h
   ·cases h
theorem LY (hl:laidOutB P=true) {W':World} (hb:Below W.heap.size W W'):∀{ts:List TypeId} {CZ:List (Bool×List Sh)} {us:List Value} {es:List (DataW H)} {ps:List MemPlace},ql P ts=some CZ→
  (∀x∈ps,x.block<W.heap.size)→DataW.TrodAll enc P W 0 (fun _=>true) true ts us es ps→DataW.TrodAll enc P W' 0 (fun b=>decide (b<W.heap.size)) true ts us es ps
 | [],CZ,us,es,ps,_,_,ht=>by obtain ⟨rfl,rfl,rfl⟩:=trodAll_nil ht;exact trodAll_mk0
 | t :: ts,CZ,us,es,ps,h,hlt,ht=>by
  match us,es,ht with
  | v :: us,e :: es,⟨p,q,h1,h2,hp⟩=>
   simp only[ql] at h
   split at h
   ·rename_i l r hl' hr
    split at h
    ·rename_i hc
     simp only[aY,Nat.blt_eq] at hc
     subst hp
     exact⟨p,q,Below.trod hl hc.2.1 hc.2.2 h1 hb (fun x hx=>hlt x (List.mem_append_left _ hx)),LY hl hb hr (fun x hx=>hlt x (List.mem_append_right _ hx)) h2,rfl⟩
    ·cases h
   ·cases h
theorem trodAll_length:∀{ts:List TypeId} {us:List Value} {es:List (DataW H)} {ps:List MemPlace},DataW.TrodAll enc P W base sp held ts us es ps→es.length=ts.length
 | [],us,es,ps,ht=>by obtain ⟨_,rfl,_⟩:=trodAll_nil ht;rfl
 | t :: ts,us,es,ps,ht=>by
  match us,es,ht with
  | v :: us,e :: es,⟨p,q,h1,h2,hp⟩=>simp[trodAll_length h2]
theorem Yu {f:FuncId} {fn:Func} {spec:ChangeSpec} {laid:List (String×DataW Unit)} {tb:TypeId} {CZ:List (Bool×List Sh)} (hlo:laidOutB P=true) (hr:fn.resultTypes=#[tb]) (htb:P.underlying tb=some .bool) (hvars:spec.vars=[])
  (hfn:∀es:List (DataW H),es.length=fn.params.toList.length→spec.fn H es={ results:=[.lit (.bool true)],args:=es }) (hsh:ql P fn.params.toList=some CZ)
  (ad2:∀(W:World),laidMetH P laid W→∀xs,V6 CZ xs→aA P (allOf W) f xs (.con (.bool true))) :
  ∀(W:World) (base:Nat) (args:Array Value) (es gs:List (DataW H)) (before:List MemPlace),
   (∀(j:Nat) t v,fn.params[j]?=some t→args[j]?=some v→Value.okWide P W .any base t v)→
   DataW.Whole enc P fn.params.toList spec.vars false W args.toList es gs before→laidMetH P laid W→
   Calls P f args W fun e W'=>∃v,e=.returned v∧spec.post enc P fn false true false false W args v W':=by
 intro W base args es gs before hval hW hL
 have hW':=hW
 obtain ⟨p,q,hA,hV,rfl,hfz,hnd⟩:=hW
 rw[hvars] at hV
 obtain ⟨rfl,rfl⟩:=trodVars_none hV
 obtain ⟨xs,hx,hrel⟩:=Qd hsh (fun j t v h1 h2=>hval j t v (by simpa using h1) (by simpa using h2)) hA
 have hlt:∀x∈p,x.block<W.heap.size:=fun x hx=>by simpa using hW'.lt x (by simpa using hx)
 have hc:=(ad2 W hL xs hx).2 W (allOf W) args.toList (IH.le.refl _) (Ql W) hrel
 simp only[Array.toArray_toList] at hc
 refine Calls.mono hc ?_
 rintro e W' ⟨v,h',he,hv,-,-,hk,-⟩
 simp only[DV.rel] at hv
 subst hv;subst he
 have hbelow:Below W.heap.size W W':=⟨hk.os,hk.tape,hk.output,hk.size,fun k hk'=>hk.block k hk' (fun h=>h)⟩
 have hlen:=trodAll_length hA
 refine⟨_,rfl,es,[],p++[],[],p,[],by rw[hvars];simpa [hvars] using hW',?_,?_,?_,hbelow.frame _,fun h=>by cases h⟩
 ·rw[List.append_nil,hfn es hlen,hr];exact trodAll_mk1 (shut_bool htb true)
 ·rw[List.append_nil,hfn es hlen];exact LY hlo hbelow hsh hlt hA
 ·rw[List.append_nil,hfn es hlen,hvars];rfl
end
end Go.Ab
namespace Go.Ab
open Go Go.RowKit
theorem DV.fE {h:IH} {sz n:Nat} {f g:Nat→DV} (hfg:∀i,i<n→f i=g i) {v:Value} (hr:DV.rel h (.slc sz n f) v):DV.rel h (.slc sz n g) v:=by
 obtain ⟨p,cap,e,hc,r⟩:=hr
 refine⟨p,cap,e,hc,r.imp id ?_⟩
 rintro ⟨b,off,hp,r⟩
 exact⟨b,off,hp,fun i hi=>by rw[←hfg i hi];exact r i hi⟩
theorem aA.args {P:Program} {G:IH} {f:FuncId} {xs ys:List DV} {r:DV} (h:aA P G f ys r) (hxy:∀k us,DV.aF k xs us→DV.aF k ys us):aA P G f xs r:=
 ⟨h.1,fun w k us hG hw hu=>h.2 w k us hG hw (hxy k us hu)⟩
theorem DV.gU {h:IH} {x y:DV} {xs ys:List DV} (h1:∀v,x.rel h v→y.rel h v) (h2:∀us,DV.aF h xs us→DV.aF h ys us):∀us,DV.aF h (x :: xs) us→DV.aF h (y :: ys) us:=by
 rintro us ⟨v,us',e,r,rs⟩
 exact⟨v,us',e,h1 v r,h2 us' rs⟩
theorem KX {α:Type} {n:Nat} {p:Nat→α→Prop} (d:α) (h:∀i,i<n→∃x,p i x):∃L:List α,L.length=n∧∀i,i<n→p i (L.getD i d):=by
 classical
 refine⟨(List.range n).map fun i=>if hi:i<n then Classical.choose (h i hi) else d,by simp,fun i hi=>?_⟩
 simp only[List.getD,List.getElem?_map,List.getElem?_range hi,Option.map_some,Option.getD_some,dif_pos hi]
 exact Classical.choose_spec (h i hi)
end Go.Ab
namespace Go.Ab
open Go Go.RowKit
variable {P:Program} {G:IH} {Q:Exit→AS→Prop}
def o9 (s sz:Nat) (f:Nat→DV) (x:AV):AV:=match x with
 | .vec t sz' lo n=>match Nat.beq t s&&Nat.beq sz' sz with|true=>.d (.slc sz n fun i=>f (lo+i))|false=>fU s (.vec t sz' lo n)
 | x=>fU s x
def AS.freeze (st:AS) (s sz:Nat) (f:Nat→DV):AS:=⟨st.regs.map (o9 s sz f),(st.boxes.filter fun b=>!(Nat.beq b.1 s)).map fun b=>(b.1,b.2.map (o9 s sz f))⟩
theorem Gz (s sz:Nat) (f:Nat→DV) (t:Nat):∀b:List (Nat×List AV),look ((b.filter fun b=>!(Nat.beq b.1 s)).map fun b=>(b.1,b.2.map (o9 s sz f))) t=if t=s then none else (look b t).map (·.map (o9 s sz f))
 | []=>by simp[look]
 | (k,c) :: b=>by
  have ih:=Gz s sz f t b
  by_cases hk:k=s
  ·subst hk
   simp only[List.filter_cons,fP,Bool.not_true,Bool.false_eq_true,if_false,ih]
   by_cases ht:t=k
   ·rw[if_pos ht,if_pos ht]
   ·rw[if_neg ht,if_neg ht];simp only[look,aQ (Ne.symm ht),cond_false]
  ·simp only[List.filter_cons,aQ hk,Bool.not_false,if_true,List.map_cons,look]
   by_cases ht:k=t
   ·subst ht;simp[hk]
   ·simp only[aQ ht,cond_false,ih]
theorem Ep {s sz:Nat} {f:Nat→DV} {l:List AV} (h:bU l=false):l.map (o9 s sz f)=l:=by
 rcases dN h with ⟨a,b,c,rfl⟩|rfl|⟨a,b,c,rfl⟩<;>rfl
theorem aO.freeze {st:AS} (s:Nat) {agg:RK} {sz:Nat} {f:Nat→DV} (hb:st.box s=some [.arr agg sz f]) {F:Fr} {w0 w:World} {h0 h:IH} {β:Nat→Nat} {tm:Array Value} (g:aO G F w0 h0 st β h tm w):∃K:IH,aO G F w0 h0 (st.freeze s sz f) β K tm w:=by
 classical
 let K:IH:=⟨fun b o=>if 0<room β s∧b=blk β s then w.cell? ⟨b,o,none⟩ else h.cell b o,h.obj⟩
 have hk:h.le K:=by
  refine⟨fun b o v e=>?_,fun b o e=>e⟩
  simp only[K]
  split
  ·exact g.holds.1 b o v e
  ·exact e
 have hkh:K.holds w:=by
  refine⟨fun b o v e=>?_,g.holds.2⟩
  simp only[K] at e
  split at e
  ·exact e
  ·exact g.holds.1 b o v e
 have hold:∀b,b<w0.heap.size→¬F.on b→(∀o,K.cell b o=h0.cell b o)∧K.obj b=h0.obj b:=by
  intro b hb1 hb2
  have h1:=g.old b hb1 hb2
  refine⟨fun o=>?_,h1.2⟩
  simp only[K]
  rw[if_neg]
  ·exact h1.1 o
  ·rintro ⟨hl,rfl⟩
   obtain ⟨h2,_⟩:=(g.box s _ hb).1 hl
   rcases h2 with h2|h2
   ·exact hb2 h2
   ·omega
 have hrel:∀(x:AV) (v:Value),x.rel β h v→(o9 s sz f x).rel β K v:=by
  intro x v hx
  unfold o9
  split
  ·rename_i t sz' lo n
   split
   ·rename_i hc
    simp only[aY,Nat.beq_eq] at hc
    obtain ⟨rfl,rfl⟩:=hc
    obtain ⟨k1,k2,p,rfl,hp⟩:=hx
    refine⟨p,_,rfl,by omega,?_⟩
    by_cases hn:n=0
    ·exact .inl hn
    ·right
     have hp:=hp.resolve_right (by omega)
     refine⟨blk β t,lo*sz',hp,fun i hi=>?_⟩
     obtain ⟨v,a1,a2,a3,a4,a5⟩:=g.elemAt hb (i:=lo+i) (by omega)
     refine⟨v,DV.rel.mono hk _ _ a1,a3,fun j hj=>?_⟩
     simp only[K]
     rw[if_pos ⟨by omega,trivial⟩,←a5 j hj,Nat.add_mul,Nat.add_assoc]
   ·exact AV.rel.mono hk _ _ (nU hx)
  ·exact AV.rel.mono hk _ _ (nU hx)
 have vT:∀{l:List AV} {vs:List Value},AV.aF β h l vs→AV.aF β K (l.map (o9 s sz f)) vs:=by
  intro l
  induction l with
  | nil=>intro vs r;exact r
  | cons x l ih=>rintro _ ⟨v,vs',e,r,rs⟩;exact⟨v,vs',e,hrel x v r,ih rs⟩
 have hbox:∀t l,(st.freeze s sz f).box t=some l→t≠s∧∃l0,st.box t=some l0∧l=l0.map (o9 s sz f):=by
  intro t l hl
  simp only[AS.freeze,AS.box,Gz] at hl
  split at hl
  ·cases hl
  ·rename_i hts
   cases hh:look st.boxes t with
   | none=>simp[hh] at hl
   | some l0=>simp[hh] at hl;exact⟨hts,l0,hh,hl.symm⟩
 have hlive:∀t l,Live β t (l.map (o9 s sz f))→Live β t l:=by
  intro t l hl
  cases hp:bU l with
  | true=>exact Live.plain hp
  | false=>rw[Ep hp] at hl;exact hl
 refine⟨K,g.glob.trans hk,hkh,g.ext.trans hk,hold,g.kept,g.fix,by simpa [AS.freeze] using g.size,fun t x hx=>?_,fun t l hl=>?_,fun t t' l l' hl hl' k1 k2 he=>?_⟩
 ·simp only[AS.freeze,List.getElem?_map] at hx
  cases hr:st.regs[t]? with
  | none=>simp[hr] at hx
  | some y=>
   simp only[hr,Option.map_some,aI] at hx
   subst hx
   obtain ⟨v,hv,hy⟩:=g.regs t y hr
   exact⟨v,hv,hrel y v hy⟩
 ·obtain ⟨hts,l0,hl0,rfl⟩:=hbox t l hl
  obtain ⟨h1,h2⟩:=g.box t l0 hl0
  refine⟨fun kk=>?_,?_⟩
  ·have kl:=hlive t l0 kk
   obtain ⟨u1,u2,u3⟩:=h1 kl
   refine⟨u1,fun o=>?_,u3⟩
   simp only[K]
   rw[if_neg]
   ·exact u2 o
   ·rintro ⟨hl1,he⟩
    exact hts (g.inj t s l0 _ hl0 hb kl hl1 he)
  ·cases hp:bU l0 with
   | true=>
    rw[Own.plain hp] at h2
    obtain ⟨T,vs,e,r⟩:=h2
    exact Own.of (T:=T.1) T.2 e (vT r)
   | false=>rw[Ep hp];exact Own.mono hk h2
 ·obtain ⟨_,l0,hl0,rfl⟩:=hbox t l hl
  obtain ⟨_,l1,hl1,rfl⟩:=hbox t' l' hl'
  exact g.inj t t' l0 l1 hl0 hl1 (hlive t l0 k1) (hlive t' l1 k2) he
theorem aX.freeze {k:List It} {st:AS} (s:Nat) {agg:RK} {sz:Nat} {f:Nat→DV} (hb:st.box s=some [.arr agg sz f]) (hw:aX P G k (st.freeze s sz f) Q):aX P G k st Q:=fun F w0 h0 β _ a w g hd=>
 let ⟨K,g1⟩:=aO.freeze s hb g
 hw F w0 h0 β K a w g1 hd
theorem dD.each {f:FuncId} {x:AV} {args:List AV} {pre post:List (Nat×List AV)} {r:AV} (v0:Value) (h0:dD P G f (.d (.con v0) :: args) pre r post) (hv:∀β h v,x.rel β h v→dD P G f (.d (.con v) :: args) pre r post):dD P G f (x :: args) pre r post:=by
 refine⟨h0.1,fun F w h0 β us g=>?_⟩
 obtain ⟨v,e,hr⟩:=g.regs 0 x rfl
 refine(hv β h0 v hr).2 F w h0 β us ⟨g.glob,g.holds,g.ext,g.old,g.kept,g.fix,g.size,fun u y hy=>?_,g.box,g.inj⟩
 cases u with
 | zero=>
  obtain rfl:AV.d (.con v)=y:=by simpa using hy
  exact⟨v,e,rfl⟩
 | succ u=>exact g.regs (u+1) y hy
end Go.Ab
namespace Go.Ab
open Go Go.RowKit
end Go.Ab
namespace Go.Ab
open Go Go.RowKit
variable {P:Program} {G:IH} {Q:Exit→AS→Prop}
def nR (s:Nat) (dl:List DV) (x:AV):AV:=match x with
 | .box t off=>match Nat.beq t s with|true=>.d (.ptr (dl.drop off))|false=>fU s (.box t off)
 | x=>fU s x
def AS.vM (st:AS) (s:Nat) (dl:List DV):AS:=⟨st.regs.map (nR s dl),(st.boxes.filter fun b=>!(Nat.beq b.1 s)).map fun b=>(b.1,b.2.map (nR s dl))⟩
theorem Ew (s:Nat) (dl:List DV) (t:Nat):∀b:List (Nat×List AV),look ((b.filter fun b=>!(Nat.beq b.1 s)).map fun b=>(b.1,b.2.map (nR s dl))) t=if t=s then none else (look b t).map (·.map (nR s dl))
 | []=>by simp[look]
 | (k,c) :: b=>by
  have ih:=Ew s dl t b
  by_cases hk:k=s
  ·subst hk
   simp only[List.filter_cons,fP,Bool.not_true,Bool.false_eq_true,if_false,ih]
   by_cases ht:t=k
   ·rw[if_pos ht,if_pos ht]
   ·rw[if_neg ht,if_neg ht];simp only[look,aQ (Ne.symm ht),cond_false]
  ·simp only[List.filter_cons,aQ hk,Bool.not_false,if_true,List.map_cons,look]
   by_cases ht:k=t
   ·subst ht;simp[hk]
   ·simp only[aQ ht,cond_false,ih]
theorem CO {s:Nat} {dl:List DV} {l:List AV} (h:bU l=false):l.map (nR s dl)=l:=by
 rcases dN h with ⟨a,b,c,rfl⟩|rfl|⟨a,b,c,rfl⟩<;>rfl
theorem aX.vM {k:List It} {st:AS} (s:Nat) {dl:List DV} (hb:st.box s=some (dl.map .d)) (hp:bU (dl.map AV.d)=true) (hw:aX P G k (st.vM s dl) Q):aX P G k st Q:=by
 intro F w0 h0 β h a w g hd
 classical
 obtain ⟨hl1,hl2,hl3,T,vs,hh,hrs⟩:=g.zJ hb hp
 let K:IH:=⟨fun b o=>if b=blk β s then w.cell? ⟨b,o,none⟩ else h.cell b o,h.obj⟩
 have hk:h.le K:=by
  refine⟨fun b o v e=>?_,fun b o e=>e⟩
  simp only[K]
  split
  ·exact g.holds.1 b o v e
  ·exact e
 have hkh:K.holds w:=by
  refine⟨fun b o v e=>?_,g.holds.2⟩
  simp only[K] at e
  split at e
  ·exact e
  ·exact g.holds.1 b o v e
 have hold:∀b,b<w0.heap.size→¬F.on b→(∀o,K.cell b o=h0.cell b o)∧K.obj b=h0.obj b:=by
  intro b hb1 hb2
  have h1:=g.old b hb1 hb2
  refine⟨fun o=>?_,h1.2⟩
  simp only[K]
  rw[if_neg]
  ·exact h1.1 o
  ·rintro rfl
   obtain ⟨h2,_⟩:=(g.box s _ hb).1 (Live.plain hp)
   rcases h2 with h2|h2
   ·exact hb2 h2
   ·omega
 have hcell:∀i,i<vs.length→K.cell (blk β s) i=vs[i]?:=by
  intro i hi
  simp only[K,if_true]
  simp[World.cell?,hh]
 have hrel:∀(x:AV) (v:Value),x.rel β h v→(nR s dl x).rel β K v:=by
  intro x v hx
  unfold nR
  split
  ·rename_i t off
   split
   ·rename_i hc
    obtain rfl:t=s:=Nat.eq_of_beq_eq_true hc
    have hd2:DV.aF h (dl.drop off) (vs.drop off):=by
     have h1:=AV.aF.drop off hrs
     rw[←List.map_drop] at h1
     exact AV.gZ.1 h1
    refine⟨blk β t,off,hx,vs.drop off,DV.aF.mono hk _ _ hd2,fun i hi=>?_⟩
    simp only[List.length_drop] at hi
    rw[hcell _ (by omega)];simp
   ·exact AV.rel.mono hk _ _ (nU hx)
  ·exact AV.rel.mono hk _ _ (nU hx)
 have vT:∀{l:List AV} {vs:List Value},AV.aF β h l vs→AV.aF β K (l.map (nR s dl)) vs:=by
  intro l
  induction l with
  | nil=>intro vs r;exact r
  | cons x l ih=>rintro _ ⟨v,vs',e,r,rs⟩;exact⟨v,vs',e,hrel x v r,ih rs⟩
 have hbox:∀t l,(st.vM s dl).box t=some l→t≠s∧∃l0,st.box t=some l0∧l=l0.map (nR s dl):=by
  intro t l hl
  simp only[AS.vM,AS.box,Ew] at hl
  split at hl
  ·cases hl
  ·rename_i hts
   cases hh:look st.boxes t with
   | none=>simp[hh] at hl
   | some l0=>simp[hh] at hl;exact⟨hts,l0,hh,hl.symm⟩
 have hlive:∀t l,Live β t (l.map (nR s dl))→Live β t l:=by
  intro t l hl
  cases hp:bU l with
  | true=>exact Live.plain hp
  | false=>rw[CO hp] at hl;exact hl
 refine hw F w0 h0 β K a w ⟨g.glob.trans hk,hkh,g.ext.trans hk,hold,g.kept,g.fix,by simpa [AS.vM] using g.size,fun t x hx=>?_,fun t l hl=>?_,fun t t' l l' hl hl' k1 k2 he=>?_⟩ hd
 ·simp only[AS.vM,List.getElem?_map] at hx
  cases hr:st.regs[t]? with
  | none=>simp[hr] at hx
  | some y=>
   simp only[hr,Option.map_some,aI] at hx
   subst hx
   obtain ⟨v,hv,hy⟩:=g.regs t y hr
   exact⟨v,hv,hrel y v hy⟩
 ·obtain ⟨hts,l0,hl0,rfl⟩:=hbox t l hl
  obtain ⟨h1,h2⟩:=g.box t l0 hl0
  refine⟨fun kk=>?_,?_⟩
  ·have kl:=hlive t l0 kk
   obtain ⟨u1,u2,u3⟩:=h1 kl
   refine⟨u1,fun o=>?_,u3⟩
   simp only[K]
   rw[if_neg]
   ·exact u2 o
   ·intro he
    exact hts (g.inj t s l0 _ hl0 hb kl (Live.plain hp) he)
  ·cases hp:bU l0 with
   | true=>
    rw[Own.plain hp] at h2
    obtain ⟨T,vs,e,r⟩:=h2
    exact Own.of (T:=T.1) T.2 e (vT r)
   | false=>rw[CO hp];exact Own.mono hk h2
 ·obtain ⟨_,l0,hl0,rfl⟩:=hbox t l hl
  obtain ⟨_,l1,hl1,rfl⟩:=hbox t' l' hl'
  exact g.inj t t' l0 l1 hl0 hl1 (hlive t l0 k1) (hlive t' l1 k2) he
end Go.Ab
namespace Go.Ab
open Go Go.RowKit
def forget (ops:List Oper) (kn:List Nat):List Nat:=kn.filter fun t=>ops.all fun o=>match o.dst with|some d=>!(Nat.beq d t)|none=>true
def AS.told (st:AS) (x:Operand) (b:Bool):AS:=match x with | .tmp t=>⟨st.regs.set t (.d (.con (.bool b))),st.boxes⟩|_=>st
def learn (x:Operand) (kn:List Nat):List Nat:=match x with | .tmp t=>t :: kn|_=>kn
def knows (x:Operand) (kn:List Nat):Bool:=match x with | .tmp t=>kn.any (Nat.beq t)|_=>false
def lu (P:Program) (G:IH) (aj:dU) (keep cuts:List Nat):List Nat→Nat→List It→AS→Tree
 | _,0,k,st=>.stop k st
 | kn,n+1,k,st=>match cutAt cuts k with
  | true=>.stop k st
  | false=>match k with
   | []=>.leaf .normal st
   | .blk _ :: k=>lu P G aj keep cuts kn n k st
   | .scp :: k=>lu P G aj keep cuts kn n k st
   | .code (.scope c) :: k=>lu P G aj keep cuts kn n (.code c :: .scp :: k) st
   | .code .skip :: k=>lu P G aj keep cuts kn n k st
   | .code (.label _) :: k=>lu P G aj keep cuts kn n k st
   | .code (.seq a b) :: k=>lu P G aj keep cuts kn n (.code a :: .code b :: k) st
   | .code (.block id c) :: k=>lu P G aj keep cuts kn n (.code c :: .blk id :: k) st
   | .code (.region id ops draw) :: k=>match wW P G aj draw ops.toList st with
    | some (cs,st')=>needs cs (lu P G aj keep cuts (forget ops.toList kn) n k (st'.keep keep))
    | none=>.bad id
   | .code (.cond x a b) :: k=>match yt (st.ev x) with
    | .d (.con (.bool y))=>match oW (st.ev x) with
     | true=>.bad 0
     | false=>match knows x kn with
      | true=>match y with
       | true=>lu P G aj keep cuts kn n (.code a :: k) st
       | false=>lu P G aj keep cuts kn n (.code b :: k) st
      | false=>.br y (lu P G aj keep cuts (learn x kn) n (.code a :: k) (st.told x true)) (lu P G aj keep cuts (learn x kn) n (.code b :: k) (st.told x false))
    | _=>.bad 1
   | .code (.exit id) :: k=>match wX id k with
    | some k'=>lu P G aj keep cuts kn n k' st
    | none=>.leaf (.exit id) st
   | .code .ret :: _=>.leaf .ret st
   | .code c :: k=>.stop (.code c :: k) st
theorem AS.QB {st:AS} {x:Operand} {b:Bool} (h:st.ev x=.d (.con (.bool b))):st.told x b=st:=by
 cases x with
 | tmp t=>
  simp only[AS.told]
  cases st with
  | mk regs boxes=>
   simp only[AS.ev,AS.reg] at h
   congr 1
   apply List.ext_getElem?
   intro i
   rw[List.getElem?_set]
   split
   ·rename_i hit
    subst hit
    split
    ·rename_i hlt
     rw[gy hlt] at h⊢
     simp only[Option.getD_some] at h
     rw[h]
    ·rename_i hge
     have hge:regs.length≤t:=by simpa using hge
     rw[List.getElem?_eq_none hge]
   ·rfl
 | _=>rfl
section
variable {P:Program} {G:IH} {aj:dU} {Q:Exit→AS→Prop}
theorem jy (hm:P.follows .mixedOrders=true) {keep cuts:List Nat}:∀(kn:List Nat) (n:Nat) (k:List It) (st:AS),(lu P G aj keep cuts kn n k st).ok P G Q→aX P G k st Q
 | _,0,_,_,h=>h
 | kn,n+1,k,st,h=>by
  unfold lu at h
  split at h
  ·exact h
  ·rename_i hcut
   clear hcut
   split at h
   ·exact fun F w0 h0 β h1 a w g hd=>⟨st,β,h1,h,g,hd⟩
   ·exact fun F w0 h0 β h1 a w g hd=>jy hm kn n _ st h F w0 h0 β h1 a w g hd
   ·exact fun F w0 h0 β h1 a w g hd=>jy hm kn n _ st h F w0 h0 β h1 a w g hd
   ·intro F w0 h0 β h1 a w g hd
    refine wp_scope_straight (kQ (jy hm kn n _ st h F w0 h0 β h1 a w g hd) fun e a w he=>?_)
    cases e<;>exact he
   ·exact fun F w0 h0 β h1 a w g hd=>wp_skip (jy hm kn n _ st h F w0 h0 β h1 a w g hd)
   ·exact fun F w0 h0 β h1 a w g hd=>wp_label (jy hm kn n _ st h F w0 h0 β h1 a w g hd)
   ·intro F w0 h0 β h1 a w g hd
    refine wp_seq (kQ (jy hm kn n _ st h F w0 h0 β h1 a w g hd) fun e a w he=>?_)
    cases e<;>exact he
   ·intro F w0 h0 β h1 a w g hd
    refine wp_block (kQ (jy hm kn n _ st h F w0 h0 β h1 a w g hd) fun e a w he=>?_)
    cases e<;>exact he
   ·rename_i id ops draw k'
    split at h
    ·rename_i cs st' hr
     have hcs:(∀c∈cs,c)∧(lu P G aj keep cuts (forget ops.toList kn) n k' (st'.keep keep)).ok P G Q:=by
      unfold needs at h
      split at h
      ·exact⟨by simp,h⟩
      ·exact⟨vG h.1,h.2⟩
     intro F w0 h0 β h1 a w g hd
     have:=CV (id:=id) (Q:=wpS P k' (Ends G F w0 h0 Q)) hm hr hcs.1 g hd fun a' w' β' h' hd' g'=>jy hm _ n k' (st'.keep keep) hcs.2 F w0 h0 β' h' a' w' (aO.keep g' keep) hd'
     simpa [wpS] using this
    ·exact h.elim
   ·rename_i x c1 c2 k'
    split at h
    ·rename_i y hy
     split at h
     ·exact h.elim
     ·rename_i Ad
      intro F w0 h0 β h1 a w g hd
      have hx:=g.ev x
      have hy':st.ev x=.d (.con (.bool y)):=by
       cases hs:st.ev x with
       | gate s w b z=>rw[hs] at Ad;simp[oW] at Ad
       | _=>rw[hs] at hy;exact hy
      rw[hy'] at hx
      refine wp_cond_split (t:=y) hx (fun ht=>?_) fun hf=>?_
      ·subst ht
       split at h
       ·exact jy hm kn n _ st h F w0 h0 β h1 a w g hd
       ·have h2:=h.1 rfl
        rw[AS.QB hy'] at h2
        exact jy hm _ n _ st h2 F w0 h0 β h1 a w g hd
      ·subst hf
       split at h
       ·exact jy hm kn n _ st h F w0 h0 β h1 a w g hd
       ·have h2:=h.2 rfl
        rw[AS.QB hy'] at h2
        exact jy hm _ n _ st h2 F w0 h0 β h1 a w g hd
    ·exact h.elim
   ·rename_i id k'
    intro F w0 h0 β h1 a w g hd
    refine wp_exit (nV ?_)
    split at h
    ·rename_i k2 hk;rw[hk];exact jy hm kn n k2 st h F w0 h0 β h1 a w g hd
    ·rename_i hk;rw[hk];exact⟨st,β,h1,h,g,hd⟩
   ·intro F w0 h0 β h1 a w g hd
    exact wp_ret (FB ⟨by simp,by simp,by simp⟩ ⟨st,β,h1,h,g,hd⟩)
   ·exact h
theorem qQ (hm:P.follows .mixedOrders=true) {keep cuts:List Nat} {n:Nat} {k:List It} {st:AS} (h:Holds ((lu P G aj keep cuts [] n k st).ok P G Q)):aX P G k st Q:=
 jy hm [] n k st h.h
theorem aA.qQ {aj:dU} {keep:List Nat} {f:FuncId} {fn:Func} {args:List DV} {r:DV} (hm:P.follows .mixedOrders=true) (hf:P.funcs[f]?=some fn) (hb:fn.body.isSome=true) (hcall:∀(vs:Array Value) (w:World),(callFunc f vs).run P w=.ok (.enter f vs) w)
  (h:Holds ((lu P G aj keep [] [] 1000 [.code (au fn)] (entry args fn.ntmps)).ok P G (JK P fn r))):aA P G f args r:=
 aA.dA hf hb hcall (jy hm _ _ _ _ h.h)
end
end Go.Ab
namespace Go.Ab
open Go Go.RowKit
abbrev ZS {α:Type} (x:α):Prop:=x=x
abbrev T0:Prop:=(0:Nat)=0
abbrev cd (f:Func) (p:List Nat):It:=.code (aU (au f) p)
def aB:Tree→List Nat→AS
 | .leaf _ st,_=>st
 | .stop _ st,_=>st
 | .need _ t,p=>aB t p
 | .br _ t _,0 :: p=>aB t p
 | .br _ _ t,_ :: p=>aB t p
 | _,_=>⟨[],[]⟩
section
variable {P:Program} {G:IH} {Q:Exit→AS→Prop} {t:Tree}
theorem aC (f:Tree→(List It→AS→(Exit→AS→Prop)→Prop)→(Exit→AS→Prop)→(FuncId→List DV→DV→Prop)→Prop) (h:t.ok P G Q=f t (aX P G) Q (aA P G)) (hb:f t (aX P G) Q (aA P G)):Holds (t.ok P G Q):=⟨h▸hb⟩
theorem aV {σ:Type} {K:List It} {S:σ→AS} {I:σ→Prop} {μ:σ→Nat} {x:σ} (f:Tree→(List It→AS→(Exit→AS→Prop)→Prop)→(Exit→AS→Prop)→(FuncId→List DV→DV→Prop)→(AS→Prop)→(Exit→AS→Prop)→Prop)
  (h:t.ok P G (yg P G K Q S I μ x)=f t (aX P G) Q (aA P G) (Again S I μ x) (yg P G K Q S I μ x)) (hb:f t (aX P G) Q (aA P G) (Again S I μ x) (yg P G K Q S I μ x)):Holds (t.ok P G (yg P G K Q S I μ x)):=⟨h▸hb⟩
end
def Il (ix:List Nat):Nat→List AV→List AV→List AV
 | n,x :: l,y :: m=>(match y with | .any=>Il ix n l m|_=>bif ix.any (Nat.beq n) then Il ix (n+1) l m else x :: Il ix (n+1) l m)
 | _,_,_=>[]
def GZ (ix:List Nat):Nat→List AV→List AV→List AV
 | n,_ :: l,y :: m=>(match y with | .any=>GZ ix n l m|y=>bif ix.any (Nat.beq n) then GZ ix (n+1) l m else y :: GZ ix (n+1) l m)
 | _,_,_=>[]
def Ez (ix:List Nat):Nat→List AV→List AV→Prop
 | _,[],[]=>True
 | n,x :: l,y :: m=>(match y with | .any=>Ez ix n l m|y=>bif ix.any (Nat.beq n) then x=y∧Ez ix (n+1) l m else T0∧Ez ix (n+1) l m)
 | _,_,_=>False
theorem AO {ix:List Nat}:∀{n:Nat} {l m:List AV},Il ix n l m=GZ ix n l m→Ez ix n l m→wC l m
 | _,[],[],_,_=>trivial
 | n,x :: l,y :: m,he,hz=>by
  unfold wC
  cases y<;>(
   simp only[Il,GZ,Ez] at he hz⊢
   first
    | exact AO he hz
    | (cases hc:ix.any (Nat.beq n)<;>rw[hc] at he hz
       ·simp only[cond_false,List.cons.injEq] at he hz
        exact⟨he.1,AO he.2 hz.2⟩
       ·simp only[cond_true] at he hz
        exact⟨hz.1,AO he hz.2⟩))
 | _,[],_ :: _,_,hz=>hz.elim
 | _,_ :: _,[],_,hz=>hz.elim
def La (ix:List Nat) (b:List (Nat×List AV)):Nat→List (Nat×List AV)→List (Option (List AV))
 | _,[]=>[]
 | n,(s,_) :: r=>bif ix.any (Nat.beq n) then La ix b (n+1) r else look b s :: La ix b (n+1) r
def KU (ix:List Nat):Nat→List (Nat×List AV)→List (Option (List AV))
 | _,[]=>[]
 | n,(_,l) :: r=>bif ix.any (Nat.beq n) then KU ix (n+1) r else some l :: KU ix (n+1) r
def HY (ix:List Nat) (b:List (Nat×List AV)):Nat→List (Nat×List AV)→Prop
 | _,[]=>True
 | n,(s,l) :: r=>bif ix.any (Nat.beq n) then look b s=some l∧HY ix b (n+1) r else T0∧HY ix b (n+1) r
theorem Fq {ix:List Nat} {b:List (Nat×List AV)}:∀{n:Nat} {c:List (Nat×List AV)},La ix b n c=KU ix n c→HY ix b n c→xH b c
 | _,[],_,_=>trivial
 | n,(s,l) :: r,he,hz=>by
  simp only[La,KU,HY] at he hz
  cases hc:ix.any (Nat.beq n)<;>rw[hc] at he hz
  ·simp only[cond_false,List.cons.injEq] at he hz
   exact⟨he.1,Fq he.2 hz.2⟩
  ·simp only[cond_true] at he hz
   exact⟨hz.1,Fq he hz.2⟩
theorem AY:∀{n:Nat} {l m:List AV},l.length=m.length→Ez [] n l m
 | _,[],[],_=>trivial
 | n,x :: l,y :: m,he=>by
  have h2:l.length=m.length:=by simpa using he
  clear he
  cases y<;>(unfold Ez;simp only[List.any_nil,cond_false];first|exact AY h2|exact⟨rfl,AY h2⟩|exact⟨trivial,AY h2⟩)
 | _,[],_ :: _,h=>by simp at h
 | _,_ :: _,[],h=>by simp at h
theorem H9 {b:List (Nat×List AV)}:∀{n:Nat} {c:List (Nat×List AV)},HY [] b n c
 | _,[]=>trivial
 | n,(s,l) :: r=>by
  unfold HY
  simp only[List.any_nil,cond_false]
  first|exact⟨rfl,H9⟩|exact⟨trivial,H9⟩
theorem AS.bD {st st':AS} (h:(st.regs.length,Il [] 0 st.regs st'.regs,La [] st.boxes 0 st'.boxes)=(st'.regs.length,GZ [] 0 st.regs st'.regs,KU [] 0 st'.boxes)):st.le st':=by
 simp only[bg] at h
 exact⟨AO h.2.1 (AY h.1),Fq h.2.2 H9⟩
theorem AS.leZ {st st':AS} {b:Prop} (ix jx:List Nat) (h:(Il ix 0 st.regs st'.regs,La jx st.boxes 0 st'.boxes)=(GZ ix 0 st.regs st'.regs,KU jx 0 st'.boxes)) (hz:(Ez ix 0 st.regs st'.regs∧HY jx st.boxes 0 st'.boxes)=b) (hb:b):st.le st':=by
 simp only[bg] at h
 subst hz
 exact⟨AO h.1 hb.1,Fq h.2 hb.2⟩
end Go.Ab
namespace Go.Ab
open Go Go.RowKit
section
variable {P:Program} {G:IH} {aj:dU}
section
variable {ops:List Oper} {es:List Ev} {st:AS} {i:Nat} {o:Oper} {pv:Value} {T:List (Nat×List AV)→List (Nat×List AV)}
end
theorem TN {x:AV} {want b:Bool} {β:Nat→Nat} {h:IH} {v:Value} {y:Option Bool} (hb:lN x want=some b) (hv:x.rel β h v) (h1:∀c:Bool,v=.bool c→y=some c) (h2:v=undef→y=none):(y==some want)=b:=by
 unfold lN at hb
 split at hb
 ·rename_i c
  rw[h1 c hv]
  simp only[aI] at hb
  rw[←hb]
  cases want<;>cases c<;>rfl
 ·rename_i g' c
  simp only[aI] at hb
  cases hg':g' with
  | false=>
   rw[h2 (hv.2 hg')];rw[←hb,hg']
   cases want<;>rfl
  | true=>
   rw[h1 c (hv.1 hg')]
   rw[←hb,hg']
   cases want<;>cases c<;>rfl
 ·cases hb
theorem Ui {all:List Oper} {o:Oper} {st st':AS} {e:Ev} {γ:Option (Nat×Bool×Bool)} (hγ:guardOf all o st=some γ) {F:Fr} {w0:World} {h0:IH} {β:Nat→Nat} {h:IH} {a:Act} {w:World} (hag:∀p,touches all o e p=true→st'.at_ p=st.at_ p) (g:aO G F w0 h0 st' β h a.tmps w) (ht:∀s w b,γ=some (s,w,b)→b=true) :
  Region.wanted o (yielded all.toArray a.tmps)=true∧(∀s v,keyOf γ=some (s,v)→lN (st.reg s) v=some true):=by
 unfold guardOf at hγ
 cases hgd:o.guard with
 | none=>
  simp only[hgd,aI] at hγ
  subst hγ
  exact⟨by simp[Region.wanted,hgd],fun s v hk=>by simp[keyOf] at hk⟩
 | some jw=>
  obtain ⟨j,want⟩:=jw
  simp only[hgd] at hγ
  split at hγ
  case h_2=>cases hγ
  rename_i q hq
  split at hγ
  case h_2=>cases hγ
  rename_i s hs
  split at hγ
  case h_2=>cases hγ
  rename_i b hb
  simp only[aI] at hγ
  subst hγ
  have hbt:=ht s want b rfl
  subst hbt
  have uh:st'.reg s=st.reg s:=by
   have:=hag (.reg s) (by
    simp only[touches,looks,List.any_append,Bool.or_eq_true,hgd,hq,Option.bind_some,hs]
    exact .inr (.inl (by simp[Loc.hits])))
   simp only[AS.at_,bg,and_true] at this
   simp[AS.reg,this]
  have hrel:(st.reg s).rel β h (a.tmps.getD s undef):=by rw[←uh];exact g.ev (.tmp s)
  have hlt:∃v,a.tmps[s]?=some v:=by
   cases hr:st'.regs[s]? with
   | none=>
    exfalso
    have:st'.reg s=.any:=by simp[AS.reg,hr]
    rw[←uh,this] at hb
    simp[lN] at hb
   | some y=>obtain ⟨v,hv,_⟩:=g.regs s y hr;exact⟨v,hv⟩
  obtain ⟨v,hv⟩:=hlt
  have hgv:a.tmps.getD s undef=v:=by simp[Array.getD_eq_getD_getElem?,hv]
  rw[hgv] at hrel
  refine⟨?_,fun s' v' hk=>?_⟩
  ·have adC:=TN (y:=yielded all.toArray a.tmps j) hb hrel (fun c hc=>by simp[yielded,hq,hs,hv,hc]) (fun hu=>by simp[yielded,hq,hs,hv,hu,undef])
   simp only[Region.wanted,hgd]
   exact adC
  ·simp only[keyOf,aI,bg] at hk
   obtain ⟨rfl,rfl⟩:=hk
   exact hb
end
end Go.Ab
namespace Go.Ab
open Go Go.RowKit
theorem qI {st:AS} {s t:Nat} {l:List AV} (hl:(st.forget s).box t=some l):t≠s∧∃l0,st.box t=some l0∧l=l0.map (fU s):=by
 simp only[AS.forget,AS.box,rO] at hl
 split at hl
 ·cases hl
 ·rename_i hne
  cases hh:look st.boxes t with
  | none=>simp[hh] at hl
  | some l0=>simp[hh] at hl;exact⟨hne,l0,hh,hl.symm⟩
theorem o7 {β:Nat→Nat} {s t:Nat} {l:List AV} (hl:Live β t (l.map (fU s))):Live β t l:=by
 cases hp:bU l with
 | true=>exact Live.plain hp
 | false=>rw[qC hp] at hl;exact hl
theorem aO.forget {G:IH} {F:Fr} {w0:World} {h0:IH} {st:AS} {β:Nat→Nat} {h:IH} {tm:Array Value} {w:World} (g:aO G F w0 h0 st β h tm w) (s:Nat):aO G F w0 h0 (st.forget s) β h tm w:=by
 refine⟨g.glob,g.holds,g.ext,g.old,g.kept,g.fix,by simpa [AS.forget] using g.size,fun t x hx=>?_,fun t l hl=>?_,fun t t' l l' hl hl' k1 k2 he=>?_⟩
 ·simp only[AS.forget,List.getElem?_map] at hx
  cases hr:st.regs[t]? with
  | none=>simp[hr] at hx
  | some y=>
   simp only[hr,Option.map_some,aI] at hx
   subst hx
   obtain ⟨v,hv,hy⟩:=g.regs t y hr
   exact⟨v,hv,nU hy⟩
 ·obtain ⟨_,l0,hl0,rfl⟩:=qI hl
  obtain ⟨h1,h2⟩:=g.box t l0 hl0
  refine⟨fun k=>h1 (o7 k),?_⟩
  cases hp:bU l0 with
  | true=>
   rw[Own.plain hp] at h2
   obtain ⟨T,vs,e,r⟩:=h2
   exact Own.of (T:=T.1) T.2 e (xM r)
  | false=>rw[qC hp];exact h2
 ·obtain ⟨_,l0,hl0,rfl⟩:=qI hl
  obtain ⟨_,l1,hl1,rfl⟩:=qI hl'
  exact g.inj t t' l0 l1 hl0 hl1 (o7 k1) (o7 k2) he
def AS.l9 (st:AS) (t s sz n:Nat) (agg:RK) (f:Nat→DV):AS:=⟨(st.forget s).regs.set t (.vec s sz 0 n),(s,[.arr agg sz f]) :: (st.forget s).boxes⟩
theorem AS.cO.l9 (st:AS) (t s n:Nat) {agg:RK} {sz:Nat} {f:Nat→DV} (f':Nat→DV) (ht:st.regs[t]?=some (.vec s sz 0 n)) (hb:st.box s=some [.arr agg sz f]) (hmn:agg.mn=none) (hf:(st.forget s).free s=true) (Ov:∀i,i<n→f i=f' i):st.cO (st.l9 t s sz n agg f'):=by
 intro G F w0 h0 β h tm w g
 have gf:=g.forget s
 obtain ⟨v,hv,k1,k2,p,rfl,hp⟩:=g.regs t _ ht
 obtain ⟨b1,b2⟩:=g.box s _ hb
 obtain ⟨⟨r1,r2⟩,r3⟩:=b2
 rw[Nat.zero_add] at k1
 have g1:=gf.adopt (d:=s) (b:=blk β s) (c:=room β s) (m:=n) (l:=[.arr agg sz f']) hf
  (by
   simp only[Own,aH,bH]
   refine⟨⟨by omega,by rw[hmn];exact fun _ h=>by cases h⟩,r3.imp id ?_⟩
   rintro ⟨fr,us,e,hz,hl,ho,hel⟩
   exact⟨fr,us,e,hz,hl,ho,fun i hi=>Ov i hi▸hel i (by omega)⟩)
  (fun hl=>by
   simp only[Live,aH] at hl
   have hl':Live β s [.arr agg sz f]:=hl
   obtain ⟨a1,a2,a3⟩:=b1 hl'
   refine⟨a1,a2,a3,fun t' k hk kl he=>?_⟩
   obtain ⟨hne,l0,hl0,rfl⟩:=qI hk
   exact hne (g.inj t' s l0 _ hl0 hb (o7 kl) hl' he))
 refine⟨_,g1.glob,g1.holds,g1.ext,g1.old,g1.kept,g1.fix,by simpa [AS.l9] using g1.size,fun t' x hx=>?_,g1.box,g1.inj⟩
 simp only[AS.l9] at hx
 by_cases htt:t=t'
 ·subst htt
  have hlt:t<(st.forget s).regs.length:=by
   have:=(List.getElem?_eq_some_iff.1 hx).1
   simpa using this
  rw[List.getElem?_set_self hlt,aI] at hx
  subst hx
  refine⟨_,hv,?_⟩
  simp only[AV.rel,aH,bH,aT]
  exact⟨by omega,by omega,p,rfl,hp⟩
 ·rw[List.getElem?_set_ne htt] at hx
  exact g1.regs t' x hx
def AS.rowB (st:AS) (b i s sz n:Nat) (agg:RK) (f:Nat→DV):AS:=⟨(st.forget s).regs,(s,[.arr agg sz f]) :: setCells b i (.vec s sz 0 n) (st.forget s).boxes⟩
theorem AS.cO.rowB (st:AS) (b i s n:Nat) {agg:RK} {sz:Nat} {f:Nat→DV} (f':Nat→DV) {l:List AV} (hl:st.box b=some l) (hx:l[i]?=some (.vec s sz 0 n)) (hpl:bU (l.map (fU s))=true) (_:bU ((l.map (fU s)).set i (.vec s sz 0 n))=true) (hbs:Nat.beq b s=false) (hb:st.box s=some [.arr agg sz f]) (hmn:agg.mn=none) (hf:(st.forget s).free s=true) (Ov:∀i,i<n→f i=f' i):st.cO (st.rowB b i s sz n agg f'):=by
 have hne:s≠b:=by
  rintro rfl
  simp at hbs
 intro G F w0 h0 β h tm w g
 have gf:=g.forget s
 obtain ⟨_,c2⟩:=g.box b l hl
 have hpl0:bU l=true:=by
  cases hp:bU l with
  | true=>rfl
  | false=>rw[qC hp,hp] at hpl;cases hpl
 rw[Own.plain hpl0] at c2
 obtain ⟨T0,vs0,e0,r0⟩:=c2
 obtain ⟨v,hv,hr⟩:=r0.get hx
 obtain ⟨k1,k2,p,rfl,hp⟩:=hr
 obtain ⟨b1,b2⟩:=g.box s _ hb
 obtain ⟨⟨r1,r2⟩,r3⟩:=b2
 rw[Nat.zero_add] at k1
 have g1:=gf.adopt (d:=s) (b:=blk β s) (c:=room β s) (m:=n) (l:=[.arr agg sz f']) hf
  (by
   simp only[Own,aH,bH]
   refine⟨⟨by omega,by rw[hmn];exact fun _ h=>by cases h⟩,r3.imp id ?_⟩
   rintro ⟨fr,us,e,hz,hl,ho,hel⟩
   exact⟨fr,us,e,hz,hl,ho,fun i hi=>Ov i hi▸hel i (by omega)⟩)
  (fun hl=>by
   simp only[Live,aH] at hl
   have hl':Live β s [.arr agg sz f]:=hl
   obtain ⟨a1,a2,a3⟩:=b1 hl'
   refine⟨a1,a2,a3,fun t' k hk kl he=>?_⟩
   obtain ⟨hne,l0,hl0,rfl⟩:=qI hk
   exact hne (g.inj t' s l0 _ hl0 hb (o7 kl) hl' he))
 have hlf:(st.forget s).box b=some (l.map (fU s)):=by
  simp only[AS.forget,AS.box,rO]
  rw[if_neg (Ne.symm hne)]
  have:look st.boxes b=some l:=hl
  rw[this];rfl
 have hb1:look ((s,[AV.arr agg sz f']) :: (st.forget s).boxes) b=some (l.map (fU s)):=by
  simp only[look]
  rw[aQ hne,cond_false];exact hlf
 obtain ⟨p1,p2⟩:=g1.box b _ hb1
 rw[Own.plain hpl] at p2
 obtain ⟨T,vs,e1,e2⟩:=p2
 have hblk:blk (upd β s (blk β s) (room β s) n) b=blk β b:=aZ (Ne.symm hne)
 have hvs:vs=vs0:=by
  rw[hblk,e0] at e1
  have:=Option.some.inj e1
  injection this with h1 h2
  have h3:=congrArg Array.toList h1
  simp at h3
  exact h3.symm
 subst hvs
 have hset:AV.aF (upd β s (blk β s) (room β s) n) h ((l.map (fU s)).set i (.vec s sz 0 n)) vs:=by
  have h1:=Ba (i:=i) e2 (x:=.vec s sz 0 n) (v:=vs[i]'(List.getElem?_eq_some_iff.1 hv).1) (by
   rw[(List.getElem?_eq_some_iff.1 hv).2]
   simp only[AV.rel,aH,bH,aT]
   exact⟨by omega,by omega,p,rfl,hp⟩)
  rwa [List.set_getElem_self] at h1
 have key:∀t m,look ((s,[AV.arr agg sz f']) :: setCells b i (.vec s sz 0 n) (st.forget s).boxes) t=some m→(t=b∧m=(l.map (fU s)).set i (.vec s sz 0 n))∨(t≠b∧look ((s,[AV.arr agg sz f']) :: (st.forget s).boxes) t=some m):=by
  intro t m hm
  by_cases hts:s=t
  ·subst hts
   simp only[look,fP,cond_true] at hm⊢
   exact .inr ⟨hne,hm⟩
  ·simp only[look] at hm⊢
   rw[aQ hts,cond_false] at hm⊢
   exact eG hlf t m hm
 refine⟨_,g1.glob,g1.holds,g1.ext,g1.old,g1.kept,g1.fix,g1.size,g1.regs,fun t m hm=>?_,fun t t' m m' hm hm' hl hl' he=>?_⟩
 ·rcases key t m hm with ⟨rfl,rfl⟩|⟨_,hm⟩
  ·exact⟨fun _=>p1 (Live.plain hpl),Own.of T.2 e1 hset⟩
  ·exact g1.box t m hm
 ·have conv:∀t m,look ((s,[AV.arr agg sz f']) :: setCells b i (.vec s sz 0 n) (st.forget s).boxes) t=some m→Live (upd β s (blk β s) (room β s) n) t m→∃m2,look ((s,[AV.arr agg sz f']) :: (st.forget s).boxes) t=some m2∧Live (upd β s (blk β s) (room β s) n) t m2:=by
   intro t m hm hl
   rcases key t m hm with ⟨rfl,rfl⟩|⟨_,hm⟩
   ·exact⟨_,hb1,Live.plain hpl⟩
   ·exact⟨m,hm,hl⟩
  obtain ⟨m1,a1,a2⟩:=conv t m hm hl
  obtain ⟨m2,b1,b2⟩:=conv t' m' hm' hl'
  exact g1.inj t t' m1 m2 a1 b1 a2 b2 he
theorem AS.cO.TQ (st:AS) (t s n:Nat) {agg:RK} {sz:Nat} {f:Nat→DV} (f':Nat→DV) (ht:st.regs[t]?=some (.vec s sz 0 n)) (hb:st.box s=some [.arr agg sz f]) (hf:(st.forget s).free s=true) (Ov:∀i,i<n→f i=f' i):st.cO (st.l9 t s sz n ⟨agg.agg,agg.ty,agg.fz,none⟩ f'):=by
 intro G F w0 h0 β h tm w g
 have gf:=g.forget s
 obtain ⟨v,hv,k1,k2,p,rfl,hp⟩:=g.regs t _ ht
 obtain ⟨b1,b2⟩:=g.box s _ hb
 obtain ⟨⟨r1,r2⟩,r3⟩:=b2
 rw[Nat.zero_add] at k1
 have g1:=gf.adopt (d:=s) (b:=blk β s) (c:=room β s) (m:=n) (l:=[.arr ⟨agg.agg,agg.ty,agg.fz,none⟩ sz f']) hf
  (by
   simp only[Own,aH,bH]
   refine⟨⟨by omega,fun _ h=>by cases h⟩,r3.imp id ?_⟩
   rintro ⟨fr,us,e,hz,hl,ho,hel⟩
   exact⟨fr,us,e,hz,hl,ho,fun i hi=>Ov i hi▸hel i (by omega)⟩)
  (fun hl=>by
   simp only[Live,aH] at hl
   have hl':Live β s [.arr agg sz f]:=hl
   obtain ⟨a1,a2,a3⟩:=b1 hl'
   refine⟨a1,a2,a3,fun t' k hk kl he=>?_⟩
   obtain ⟨hne,l0,hl0,rfl⟩:=qI hk
   exact hne (g.inj t' s l0 _ hl0 hb (o7 kl) hl' he))
 refine⟨_,g1.glob,g1.holds,g1.ext,g1.old,g1.kept,g1.fix,by simpa [AS.l9] using g1.size,fun t' x hx=>?_,g1.box,g1.inj⟩
 simp only[AS.l9] at hx
 by_cases htt:t=t'
 ·subst htt
  have hlt:t<(st.forget s).regs.length:=by
   have:=(List.getElem?_eq_some_iff.1 hx).1
   simpa using this
  rw[List.getElem?_set_self hlt,aI] at hx
  subst hx
  refine⟨_,hv,?_⟩
  simp only[AV.rel,aH,bH,aT]
  exact⟨by omega,by omega,p,rfl,hp⟩
 ·rw[List.getElem?_set_ne htt] at hx
  exact g1.regs t' x hx
end Go.Ab
namespace Go.Ab
open Go Go.RowKit
section
variable {P:Program} {G:IH} {aj:dU}
end
end Go.Ab
namespace Go.Ab
open Go Go.RowKit
section
variable {P:Program} {G:IH} {aj:dU}
section
variable {ops:List Oper} {es:List Ev} {st:AS} {i:Nat} {o:Oper} {pv:Value} {W:List (Nat×Nat×AV)}
end
end
end Go.Ab
