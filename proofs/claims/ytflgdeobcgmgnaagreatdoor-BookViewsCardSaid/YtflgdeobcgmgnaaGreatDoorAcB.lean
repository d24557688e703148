import Derived.Test.YtflgdeobcgmgnaaGreatDoorAcA
import Derived.Deep.AppendSrc
import Derived.Laws.MakeOwn
import Derived.Laws.IdiomStrings
import Derived.Laws.AppendOwn
import Derived.Lib.AppendZerosOnto
import Derived.Carry
import Derived.Lib.Overlaps
set_option autoImplicit false
namespace Go.Ab
open Go Go.RowKit
section ops
variable {P:Program} {G:IH} {o:Oper} {ρ:Operand→AV} {st:AS}
theorem aO.kZ {F:Fr} {w0:World} {h0:IH} {β:Nat→Nat} {h:IH} {tm:Array Value} {w:World} (g:aO G F w0 h0 st β h tm w) {s:Nat} {agg:RK} {sz:Nat} {f:Nat→DV}
  (hb:(st.box s).bind (·[0]?)=some (.arr agg sz f)):st.box s=some [.arr agg sz f]:=by
 cases hs:st.box s with
 | none=>simp[hs] at hb
 | some l=>
  simp only[hs,Option.bind_some] at hb
  have ho:=(g.box s l hs).2
  cases hp:bU l with
  | true=>
   rw[Own.plain hp] at ho
   obtain ⟨T,vs,_,r⟩:=ho
   obtain ⟨v,_,hv⟩:=r.get hb
   exact hv.elim
  | false=>
   rcases dN hp with ⟨a,b,c,rfl⟩|rfl|⟨kd,f,has,rfl⟩
   ·simp at hb;obtain ⟨rfl,rfl,rfl⟩:=hb;rfl
   ·simp at hb
   ·simp at hb
theorem nN {st':AS} {e:Ev} {s:Nat} {agg:RK} {sz:Nat} {f:Nat→DV} (hag:∀p,((e.iV.map (fun x=>Loc.cell x.1 x.2)++e.writes).any (·.hits p))=true→st'.at_ p=st.at_ p)
  (hr:(s,0)∈e.iV∨∃x,(s,0,x)∈e.jE) (hb:st.box s=some [.arr agg sz f]):(st'.box s).bind (·[0]?)=some (.arr agg sz f):=by
 have h1:=hag (.cell s 0) (by
  simp only[List.any_append,List.any_map,Bool.or_eq_true,List.any_eq_true,Ev.writes,Function.comp]
  rcases hr with hr|⟨x,hr⟩
  ·exact .inl ⟨_,hr,by simp[Loc.hits]⟩
  ·exact .inr (.inr (.inl ⟨_,hr,by simp[Loc.hits]⟩)))
 simp only[AS.at_,hb,Option.bind_some,bg,and_true] at h1
 rw[h1];rfl
theorem aO.elemAt {F:Fr} {w0:World} {h0:IH} {β:Nat→Nat} {h:IH} {tm:Array Value} {w:World} (g:aO G F w0 h0 st β h tm w) {s:Nat} {agg:RK} {sz:Nat} {f:Nat→DV}
  (hb:st.box s=some [.arr agg sz f]) {i:Nat} (hi:i<many β s) :
  ∃v,(f i).rel h v∧mD agg.agg v∧v.cells.size=sz∧(∀u∈v.cells.toList,u.oneCell'=true)∧∀j,j<sz→w.cell? ⟨blk β s,i*sz+j,none⟩=v.cells[j]?:=by
 obtain ⟨h1,h2⟩:=(g.box s _ hb).2
 rcases h2 with h2|⟨fr,vs,hh,hfr,hl,ho,hel⟩
 ·omega
 ·obtain ⟨v,a1,a2,a3,a4⟩:=hel i hi
  have hc:∀j,j<sz→w.cell? ⟨blk β s,i*sz+j,none⟩=v.cells[j]?:=fun j hj=>by
   rw[←a4 j hj];simp[World.cell?,hh]
  refine⟨v,a1,a2,a3,fun u hu=>?_,hc⟩
  obtain ⟨j,hj⟩:=List.mem_iff_getElem?.1 hu
  have hj':v.cells[j]?=some u:=by simpa using hj
  have hlt:j<sz:=by rw[←a3];exact(Array.getElem?_eq_some_iff.1 hj').1
  have:=a4 j hlt
  rw[hj'] at this
  exact ho u (List.mem_of_getElem? this)
theorem DY {T E:TypeId} {x i:Operand} (ho:o.op=.indexAddr T x i) (hT:bF P T=some E) {s sz lo n:Nat} (hx:ρ x=.vec s sz lo n) (hsz:sizeT P E=some sz) {k:IntKind} {m:Int} (hi:ρ i=.d (.con (.int k m)))
  (h0:0≤m∧m<n):Core P G o ρ st { dst:=o.dst,val:=.elem s sz (lo+m.toNat) 0 }:=
 bP fun β h a w _ _ hop=>by
  have hxv:=hop x (by simp[ho,Op.operands])
  have hiv:=hop i (by simp[ho,Op.operands])
  rw[hx] at hxv;rw[hi] at hiv
  simp only[AV.rel,DV.rel] at hiv
  obtain ⟨h1,h2,p,hv,hp⟩:=hxv
  rcases hp with rfl|hp
  ·refine⟨.pointer (some ⟨blk β s,lo*sz+m.toNat*sz,none⟩),?_,by omega,h2,by rw[Nat.add_mul];rfl⟩
   simp only[execOp,ho,hv,hiv]
   have:=run_indexAt_slice (P:=P) w T ⟨blk β s,lo*sz,none⟩ n (room β s-lo) k m (by simp[Program.elem,bC hT])
   simp only[Program.elem,bC hT,fK hsz,Result.andThen_ok,kT] at this
   simp only[Sem.run_bind,this,if_pos h0,Result.andThen_ok,Sem.run_pure]
  ·omega
theorem wJ {β:Nat→Nat} {h:IH} {w:World} {T:TypeId} {n b at_ off sz:Nat} (hu:oQ P T=true) (hz:sizeT P T=some n) {v:Value} (hsz:v.cells.size=sz) (hc:∀j,j<sz→w.cell? ⟨b,at_+j,none⟩=v.cells[j]?)
  {l:List AV} (hl:AV.aF β h l v.cells.toList) (hn:((l.drop off).take n).length=n) {x:AV} (hx:oh (dH P T) ((l.drop off).take n)=some x) :
  ∃u,(loadVar T ⟨b,at_+off,none⟩).run P w=.ok u w∧x.rel β h u:=by
 refine lS hu hz (vs:=(v.cells.toList.drop off).take n) hn ((hl.drop off).take n) (fun j u hj=>?_) hx
 have hj':v.cells.toList[off+j]?=some u:=by
  rw[List.getElem?_take] at hj
  split at hj
  ·simpa using hj
  ·cases hj
 have hlt:off+j<sz:=by
  rw[←hsz]
  have:=(List.getElem?_eq_some_iff.1 hj').1
  simpa using this
 rw[Nat.add_assoc,hc _ hlt]
 simpa using hj'
theorem JX {T:TypeId} {p:Operand} (ho:o.op=.load T p) {s sz i:Nat} (hp:ρ p=.elem s sz i 0) {agg:RK} {f:Nat→DV} (hb:st.box s=some [.arr agg sz f]) (hu:oQ P T=true) (hz:sizeT P T=some sz)
  (ha:dH P T=agg.agg):Core P G o ρ st { dst:=o.dst,val:=.d (f i),iV:=[(s,0)] }:=by
 intro F w0 h0 st' β h a w K Q hlen hag hfr g hd hop hK
 have hpv:=hop p (by simp[ho,Op.operands])
 rw[hp] at hpv
 obtain ⟨hi,hir,hpv⟩:=hpv
 have hb':=g.kZ (nN hag (.inl (by simp)) hb)
 obtain ⟨v,hv,hform,hsz,h1,hc⟩:=g.elemAt hb' hi
 have vT:AV.aF β h (v.cells.toList.map fun u=>AV.d (.con u)) v.cells.toList:=oJ β h _
 have hlen2:(((v.cells.toList.map fun u=>AV.d (.con u)).drop 0).take sz).length=sz:=by simp[hsz]
 have htk:((v.cells.toList.map fun u=>AV.d (.con u)).drop 0).take sz=v.cells.toList.map fun u=>AV.d (.con u):=by
  rw[List.drop_zero,List.take_of_length_le (by simp[hsz])]
 have hrun:(loadVar T ⟨blk β s,i*sz+0,none⟩).run P w=.ok v w:=by
  cases Sz:agg.agg with
  | true=>
   rw[Sz] at hform ha
   obtain ⟨cs,rfl⟩:=hform
   obtain ⟨u,h2,h3⟩:=wJ (P:=P) (T:=T) (off:=0) hu hz hsz hc vT hlen2 (x:=wV (cs.toList.map fun u=>AV.d (.con u))) (by rw[htk,ha];rfl)
   rw[sU] at h3
   obtain ⟨vs,rfl,h4⟩:=h3
   have:vs=cs.toList:=by
    have e:∀(l:List Value) (vs:List Value),AV.aF β h (l.map fun u=>AV.d (.con u)) vs→vs=l:=by
     intro l
     induction l with
     | nil=>intro vs h;exact h
     | cons y l ih=>rintro _ ⟨v,vs',rfl,r,rs⟩;simp only[AV.rel,DV.rel] at r;rw[r,ih vs' rs]
    exact e _ _ h4
   subst this
   simpa using h2
  | false=>
   rw[Sz] at hform ha
   have hcell:=oneCell_cells hform
   obtain ⟨u,h2,h3⟩:=wJ (P:=P) (T:=T) (off:=0) hu hz hsz hc vT hlen2 (x:=.d (.con v)) (by rw[htk,ha,hcell];rfl)
   simp only[AV.rel,DV.rel] at h3
   subst h3;exact h2
 unfold Oper.wp
 have:(execOp a.eval o).run P w=.ok (.value v) w:=by
  simp only[execOp,ho,Instr.loadAt,hpv,Instr.sureAddr,Sem.run_bind,Sem.run_pure,Result.andThen_ok,hrun]
 rw[this,Oper.upon_value]
 refine hK _ _ β h (by rw[put_defers];exact hd) ?_
 rw[dK]
 exact g.put (x:=.d (f i)) hv
theorem KQ {T:TypeId} {p:Operand} (ho:o.op=.load T p) {s sz i off:Nat} (hp:ρ p=.elem s sz i off) {agg:RK} {f:Nat→DV} (hb:st.box s=some [.arr agg sz f]) {n:Nat} (hu:oQ P T=true) (hz:sizeT P T=some n)
  {l:List DV} (hl:zG (f i)=some l) (hn:(((l.map AV.d).drop off).take n).length=n) {x:AV} (hx:oh (dH P T) (((l.map AV.d).drop off).take n)=some x):Core P G o ρ st { dst:=o.dst,val:=x,iV:=[(s,0)] }:=by
 intro F w0 h0 st' β h a w K Q hlen hag hfr g hd hop hK
 have hpv:=hop p (by simp[ho,Op.operands])
 rw[hp] at hpv
 obtain ⟨hi,hir,hpv⟩:=hpv
 have hb':=g.kZ (nN hag (.inl (by simp)) hb)
 obtain ⟨v,hv,hform,hsz,h1,hc⟩:=g.elemAt hb' hi
 obtain ⟨vs,zA,hrs⟩:=DZ hl hv
 obtain ⟨u,hrun,hur⟩:=wJ (P:=P) (β:=β) (T:=T) (off:=off) hu hz hsz hc (by rw[zA];simpa using (AV.gZ (β:=β)).2 hrs) hn hx
 unfold Oper.wp
 have:(execOp a.eval o).run P w=.ok (.value u) w:=by
  simp only[execOp,ho,Instr.loadAt,hpv,Instr.sureAddr,Sem.run_bind,Sem.run_pure,Result.andThen_ok,hrun]
 rw[this,Oper.upon_value]
 refine hK _ _ β h (by rw[put_defers];exact hd) ?_
 rw[dK]
 exact g.put hur
def kY:List Value→Nat→List Value→List Value
 | vs,_,[]=>vs
 | vs,o,u :: us=>kY (vs.set o u) (o+1) us
theorem ni:∀(us vs:List Value) (o:Nat),(kY vs o us).length=vs.length
 | [],_,_=>rfl
 | u :: us,vs,o=>by simp[kY,ni us]
theorem kW:∀(us vs:List Value) (o k:Nat),o+us.length≤vs.length→(kY vs o us)[k]?=if o≤k∧k<o+us.length then us[k-o]? else vs[k]?
 | [],vs,o,k,_=>by simp only[kY,List.length_nil,Nat.add_zero];rw[if_neg (by omega)]
 | u :: us,vs,o,k,h=>by
  simp only[List.length_cons] at h
  simp only[kY]
  rw[kW us (vs.set o u) (o+1) k (by simp;omega)]
  by_cases hk:k=o
  ·subst hk
   have hlt:k<vs.length:=by omega
   rw[if_neg (by omega),if_pos ⟨by omega,by simp⟩]
   simp[hlt]
  ·rw[List.getElem?_set_ne (Ne.symm hk)]
   by_cases h2:o+1≤k∧k<o+1+us.length
   ·rw[if_pos h2,if_pos ⟨by omega,by simp;omega⟩,show k-o=(k-(o+1))+1 by omega];simp
   ·rw[if_neg h2,if_neg (by simp;omega)]
theorem jA {b:Nat} {T:TypeId} {fr:Nat×Nat}:∀(us vs:List Value) (o:Nat) (w:World),w.heap[b]?=some (.cells vs.toArray T fr)→(w.setCells b o us).heap[b]?=some (.cells (kY vs o us).toArray T fr)
 | [],vs,o,w,h=>h
 | u :: us,vs,o,w,h=>by
  simp only[World.setCells,kY]
  refine jA us _ _ _ ?_
  simp[World.setCell,Array.getElem?_modify,h]
theorem kJ {b:Nat}:∀(us:List Value) (o:Nat) (w:World),uM b w (w.setCells b o us)
 | [],_,w=>⟨rfl,rfl,rfl,rfl,fun _ _=>rfl⟩
 | u :: us,o,w=>by
  have h1:uM b w (w.setCell ⟨b,o,none⟩ u):=yX
  have h2:=kJ (b:=b) us (o+1) (w.setCell ⟨b,o,none⟩ u)
  exact⟨h2.os.trans h1.os,h2.tape.trans h1.tape,h2.output.trans h1.output,h2.size.trans h1.size,fun k hk=>(h2.block k hk).trans (h1.block k hk)⟩
theorem dw.patch {h:IH} {agg:RK} {sz c m i off:Nat} {f:Nat→DV} {y:DV} {fr:Nat×Nat} {vs us:List Value} (afx:agg.fz=false) (hR:dw h agg sz f c m (some (.cells vs.toArray agg.ty fr))) (hi:i<m) (hin:off+us.length≤sz) (hus:∀u∈us,u.oneCell'=true)
  (hy:∀v,(f i).rel h v→v.cells.size=sz→mD agg.agg v→∃v',y.rel h v'∧mD agg.agg v'∧v'.cells.toList=kY v.cells.toList off us) :
  dw h agg sz (fun j=>bif Nat.beq j i then y else f j) c m (some (.cells (kY vs (i*sz+off) us).toArray agg.ty fr)):=by
 obtain ⟨h1,h2⟩:=hR
 refine⟨h1,?_⟩
 rcases h2 with h2|⟨fr',vs',e,hfr,hl,ho,hel⟩
 ·exact .inl h2
 right
 simp only[aI,Obj.cells.injEq] at e
 obtain ⟨e1,_,rfl⟩:=e
 have:vs=vs':=by simpa using e1
 subst this
 have hle:(i+1)*sz≤c*sz:=Nat.mul_le_mul_right _ (by omega)
 rw[Nat.add_mul,Nat.one_mul] at hle
 have hfit:i*sz+off+us.length≤vs.length:=by omega
 refine⟨fr,_,rfl,by rw[ni];exact hfr,by rw[ni];exact hl,fun u hu=>?_,fun k hk=>?_⟩
 ·obtain ⟨j,hj⟩:=List.mem_iff_getElem?.1 hu
  rw[kW _ _ _ _ hfit] at hj
  split at hj
  ·exact hus u (List.mem_of_getElem? hj)
  ·exact ho u (List.mem_of_getElem? hj)
 ·obtain ⟨v,a1,a2,a3,a4⟩:=hel k hk
  by_cases hki:k=i
  ·subst hki
   obtain ⟨v',b1,b2,b3⟩:=hy v a1 a3 a2
   have hlen:v'.cells.toList.length=sz:=by rw[b3,ni];simpa using a3
   refine⟨v',by simp only[fP];exact b1,b2,by simpa using hlen,fun j hj=>?_⟩
   rw[kW _ _ _ _ hfit]
   have:v'.cells[j]?=v'.cells.toList[j]?:=by simp
   rw[this,b3,kW _ _ _ _ (by simp[a3];exact hin)]
   by_cases hr:off≤j∧j<off+us.length
   ·rw[if_pos hr,if_pos ⟨by omega,by omega⟩];congr 1;omega
   ·rw[if_neg hr,if_neg (by omega),a4 j hj];simp
  ·refine⟨v,by simp only[aQ hki];exact a1,a2,a3,fun j hj=>?_⟩
   rw[kW _ _ _ _ hfit,if_neg,a4 j hj]
   rcases Nat.lt_or_gt_of_ne hki with hlt|hgt
   ·have:=Nat.mul_le_mul_right sz (show k+1≤i by omega)
    rw[Nat.add_mul,Nat.one_mul] at this;omega
   ·have:=Nat.mul_le_mul_right sz (show i+1≤k by omega)
    rw[Nat.add_mul,Nat.one_mul] at this;omega
theorem SV (vs us:List Value) (h:vs.length=us.length):kY vs 0 us=us:=by
 apply List.ext_getElem?
 intro k
 rw[kW _ _ _ _ (by omega)]
 split
 ·simp
 ·rename_i hk;rw[List.getElem?_eq_none (by omega),List.getElem?_eq_none (by omega)]
theorem uN {T:TypeId} {p x:Operand} (ho:o.op=.store T p x) (hdst:o.dst=none) {s sz i off:Nat} (hp:ρ p=.elem s sz i off) {agg:RK} {f:Nat→DV} (hb:st.box s=some [.arr agg sz f]) (hfz:agg.fz=false)
  {n:Nat} (hz:sizeT P T=some n) {l:List AV} (hcx:cellsOf (ρ x)=some l) (hl:l.length=n) (hin:off+n≤sz) {y:DV}
  (hy:∀(β:Nat→Nat) (h:IH) (v xv:Value) (us:List Value),(f i).rel h v→v.cells.size=sz→mD agg.agg v→(ρ x).rel β h xv→xv.cells=us.toArray→AV.aF β h l us→
   ∃v',y.rel h v'∧mD agg.agg v'∧v'.cells.toList=kY v.cells.toList off us) :
  Core P G o ρ st { dst:=none,val:=.any,jE:=[(s,0,.arr agg sz fun j=>bif Nat.beq j i then y else f j)] }:=by
 intro F w0 h0 st' β h a w K Q hlen hag hfr g hd hop hK
 have hpv:=hop p (by simp[ho,Op.operands])
 rw[hp] at hpv
 obtain ⟨hi,hir,hpv⟩:=hpv
 have hxr:=hop x (by simp[ho,Op.operands])
 obtain ⟨us,hcv,hr,hall⟩:=rG hcx hxr
 have hb':=g.kZ (nN hag (.inr ⟨_,List.mem_singleton.2 rfl⟩) hb)
 have hlive:Live β s [.arr agg sz f]:=by show 0<room β s;omega
 obtain ⟨hR1,hR2⟩:=(g.box s _ hb').2
 have DF:us.length=n:=by rw[hr.length,hl]
 have hone:∀u∈us,u.oneCell'=true:=by
  intro u hu
  obtain ⟨j,hj⟩:=List.mem_iff_getElem?.1 hu
  have hlt:j<l.length:=by rw[←hr.length];exact(List.getElem?_eq_some_iff.1 hj).1
  obtain ⟨v,hv,lC⟩:=hr.get (i:=j) (x:=l[j]) (by simp[hlt])
  rw[hj] at hv;injection hv with hv;subst hv
  exact nI (List.all_eq_true.1 hall _ (List.getElem_mem hlt)) lC
 rcases hR2 with h2|⟨fr,vs,hh,nS,hvl,LP,hel⟩
 ·simp only[Live] at hlive;omega
 have hle:(i+1)*sz≤room β s*sz:=Nat.mul_le_mul_right _ (by omega)
 rw[Nat.add_mul,Nat.one_mul] at hle
 have hfit:i*sz+off+us.length≤vs.length:=by omega
 have hst:=run_storeCells_cells (P:=P) (blk β s) (i*sz+off) us 0 w (fun j hj=>by
   have:i*sz+off+j<vs.length:=by omega
   simp[World.cell?,hh,this]) (fun j hj=>by
   have:=nS hfz (i*sz+off+0+j) (by omega)
   simp only[World.frozen?,hh]
   simpa using this) hone
 simp only[Nat.add_zero] at hst
 unfold Oper.wp
 have:(execOp a.eval o).run P w=.ok .skip (w.setCells (blk β s) (i*sz+off) us):=by
  simp only[execOp,ho,Instr.storeAt,hpv,Instr.sureAddr,Sem.run_bind,Sem.run_pure,Result.andThen_ok,storeVar,fK hz,hcv,Sem.run_ite]
  rw[if_neg (by simp[DF])]
  simp[hst]
 rw[this,Oper.upon_skip]
 refine hK _ _ β h (by rw[put_defers];exact hd) ?_
 rw[dK,hdst]
 have hRow:dw h agg sz f (room β s) (many β s) (some (.cells vs.toArray agg.ty fr)):=⟨hR1,.inr ⟨fr,vs,rfl,nS,hvl,LP,hel⟩⟩
 have ab2:=hRow.patch (y:=y) hfz hi (by omega) hone (fun v k1 k2 k3=>hy β h v _ us k1 k2 k3 hxr hcv hr)
 have g':=g.write (l':=[.arr agg sz fun j=>bif Nat.beq j i then y else f j]) hb' hlive (kJ us (i*sz+off) w) (by
  rw[jA us vs _ w hh];exact ab2) (eG (i:=0) (x:=.arr agg sz fun j=>bif Nat.beq j i then y else f j) hb')
 simpa [Ev.app,kF,Ce,fF] using g'
end ops
end Go.Ab
namespace Go.Ab
open Go Go.RowKit
section ops
variable {P:Program} {G:IH} {o:Oper} {ρ:Operand→AV} {st:AS}
def ug (agg:Bool) (z:List Value):DV:=match agg with|true=>.agg (z.map .con)|false=>.con (z.getD 0 undef)
def zeroV (agg:Bool) (z:List Value):Value:=match agg with|true=>.agg z.toArray|false=>z.getD 0 undef
theorem LG (h:IH) (agg:Bool) (z:List Value):(ug agg z).rel h (zeroV agg z):=by
 cases agg with
 | true=>exact⟨z,rfl,yO z⟩
 | false=>rfl
theorem PN {agg:Bool} {z:List Value} (hz:z.all (·.oneCell')=true) (hsz:(agg||Nat.beq z.length 1)=true):mD agg (zeroV agg z)∧(zeroV agg z).cells.toList=z:=by
 cases agg with
 | true=>exact⟨⟨_,rfl⟩,by simp[zeroV,Value.cells]⟩
 | false=>
  simp only[Bool.false_or,Nat.beq_eq] at hsz
  match z,hsz,hz with
  | [u],_,hz=>
   have h1:u.oneCell'=true:=by simpa using hz
   exact⟨h1,by show u.cells.toList=[u];rw[oneCell_cells h1]⟩
theorem Df {z:Array Value} {n k:Nat} (hk:k<n):(madeCells z n)[k]?=some z[k % z.size]!:=by
 simp[madeCells,hk]
theorem CP {z:List Value} {c i j:Nat} (hi:i<c) (hj:j<z.length):(madeCells z.toArray (c*z.length))[i*z.length+j]?=z[j]?:=by
 have hlt:i*z.length+j<c*z.length:=by
  have:=Nat.mul_le_mul_right z.length (show i+1≤c by omega)
  rw[Nat.add_mul,Nat.one_mul] at this;omega
 rw[Df hlt]
 have:(i*z.length+j) % z.toArray.size=j:=by
  simp only[List.size_toArray]
  rw[Nat.mul_comm,Nat.mul_add_mod,Nat.mod_eq_of_lt hj]
 rw[this]
 simp[hj]
theorem tq {E:TypeId} {z:List Value} (hz:zeroOf P E=some z):∃i zv,P.info? E=some i∧i.zero=some zv∧zv.cells.toList=z:=by
 unfold zeroOf at hz
 cases hi:P.info? E with
 | none=>simp[hi] at hz
 | some i=>cases hzz:i.zero with
  | none=>simp[hi,hzz] at hz
  | some zv=>simp only[hi,hzz,aI] at hz;exact⟨i,zv,rfl,hzz,hz⟩
def jF (P:Program) (T:TypeId):Nat:=match P.info? T with|some i=>i.bytes|none=>0
theorem Ko {T E:TypeId} {lx cx:Operand} (ho:o.op=.makeSlice T lx cx) {d:Nat} (hd:o.dst=some d) (hT:bF P T=some E) {sz:Nat} (hsz:sizeT P E=some sz) {z:List Value} (hz:zeroOf P E=some z) (hzl:z.length=sz) (hpos:0<sz)
  (hone:z.all (·.oneCell')=true) (hform:(dH P E||Nat.beq z.length 1)=true) {k k':IntKind} {n c:Int} (hl:ρ lx=.d (.con (.int k n))) (hc:ρ cx=.d (.con (.int k' c))) (hnc:n=c∧0≤c∧(jF P E:Int)*c≤281474976710656∧c≤9223372036854775807) :
  Core P G o ρ st { dst:=some d,val:=.vec d sz 0 c.toNat,nw:=[(d,[.arr ⟨dH P E,E,false,none⟩ sz fun _=>ug (dH P E) z])] }:=by
 intro F w0 h0 st' β h a w K Q hlen hag hfr g hdf hop hK
 obtain ⟨rfl,hc0,hby,h63⟩:=hnc
 obtain ⟨i,zv,hi,hzz,hzc⟩:=tq hz
 have hlv:=hop lx (by simp[ho,Op.operands])
 have hcv:=hop cx (by simp[ho,Op.operands])
 rw[hl] at hlv;rw[hc] at hcv
 simp only[AV.rel,DV.rel] at hlv hcv
 have hisz:i.size=sz:=by unfold sizeT at hsz;rw[hi] at hsz;exact Option.some.inj hsz
 have ad7:(i.bytes:Int)*n≤281474976710656:=by unfold jF at hby;rw[hi] at hby;exact hby
 have hrun:=run_make (P:=P) w T E i zv (bC hT) hi hzz k k' n n hc0 (Int.le_refl _) ad7 h63
 unfold Oper.wp
 have:(execOp a.eval o).run P w=.ok (.value (.slice (some ⟨w.heap.size,0,none⟩) n.toNat n.toNat)) (w.alloc (.cells (madeCells zv.cells (n.toNat*i.size)) E)):=by
  simp only[execOp,ho,hlv,hcv,Sem.run_bind,hrun,Result.andThen_ok,Sem.run_pure]
 rw[this,Oper.upon_value]
 refine hK _ _ (upd β d w.heap.size n.toNat n.toNat) h (by rw[put_defers];exact hdf) ?_
 rw[dK,hd]
 have hzv:zv.cells=z.toArray:=by rw[←hzc]
 obtain ⟨z1,z2⟩:=PN (agg:=dH P E) hone hform
 refine(g.tV (s:=d) (c:=n.toNat) (m:=n.toNat) (l:=[.arr ⟨dH P E,E,false,none⟩ sz fun _=>ug (dH P E) z]) (hfr (d,[.arr ⟨dH P E,E,false,none⟩ sz fun _=>ug (dH P E) z]) (by simp)) ?_).put (t:=some d) (x:=.vec d sz 0 n.toNat) (v:=.slice (some ⟨w.heap.size,0,none⟩) n.toNat n.toNat) ?_
 ·simp only[Own,aH,bH]
  refine⟨⟨Nat.le_refl _,fun _ h=>by cases h⟩,?_⟩
  by_cases hn0:n.toNat=0
  ·exact .inl hn0
  refine .inr ⟨(0,0),(madeCells zv.cells (n.toNat*i.size)).toList,by simp,fun _ j _=>by simp,by simp[size_madeCells,hisz],fun u hu=>?_,fun k hk=>⟨zeroV (dH P E) z,LG h _ z,z1,?_,fun j hj=>?_⟩⟩
  ·obtain ⟨j,hj⟩:=List.mem_iff_getElem?.1 hu
   have hj':(madeCells zv.cells (n.toNat*i.size))[j]?=some u:=by simpa using hj
   have hlt:j<n.toNat*i.size:=by
    have:=(Array.getElem?_eq_some_iff.1 hj').1
    rwa [size_madeCells] at this
   rw[Df hlt,aI] at hj'
   subst hj'
   have hm:j % zv.cells.size<zv.cells.size:=Nat.mod_lt _ (by rw[hzv];simpa [hzl] using hpos)
   rw[getElem!_pos zv.cells _ hm]
   refine List.all_eq_true.1 hone _ ?_
   have:zv.cells[j % zv.cells.size]∈zv.cells.toList:=by simp
   rwa [hzc] at this
  ·have:(zeroV (dH P E) z).cells.toList.length=sz:=by rw[z2,hzl]
   simpa using this
  ·rw[hzv,hisz,←hzl]
   have:=CP (z:=z) (c:=n.toNat) (i:=k) (j:=j) hk (by omega)
   simp only[Array.getElem?_toList]
   rw[this]
   have e:z[j]?=(zeroV (dH P E) z).cells.toList[j]?:=by rw[z2]
   rw[e];simp
 ·simp only[AV.rel,aH,bH,aT]
  exact⟨by omega,Nat.le_refl _,_,by rw[Nat.sub_zero],.inl (by simp)⟩
theorem Oe {c:Call} (ho:o.op=.call c) {T E:TypeId} {x:Operand} (hc:c.callee=.builtin .len) (ha:c.args=#[x]) (ht:c.argTypes=#[T]) (hT:bF P T=some E) {s sz lo n:Nat} (hx:ρ x=.vec s sz lo n) :
  Core P G o ρ st { dst:=o.dst,val:=.d (.con (.int .i64 n)) }:=
 bP fun β h a w _ _ hop=>by
  have hxv:=hop x (by simp[ho,Op.operands,Call.operands,ha])
  rw[hx] at hxv
  obtain ⟨_,_,p,hv,_⟩:=hxv
  refine⟨_,?_,rfl⟩
  simp only[execOp,ho,resolve,hc,ha,ht,Sem.run_bind,Sem.run_pure,Result.andThen_ok,invoke,builtin,List.map_toArray,List.map_cons,List.map_nil,hv]
  rw[run_len_slice w T _ p n _ (by simp[Program.elem,bC hT])]
  simp[goInt]
theorem KP {T E:TypeId} {x:Operand} {lo hi:Option Operand} (ho:o.op=.slice T x lo hi none) (hT:bF P T=some E) {s sz pR n:Nat} (hx:ρ x=.vec s sz pR n) (hsz:sizeT P E=some sz) {l m:Int} (hl:gV ρ lo 0=some l) (hm:gV ρ hi n=some m)
  (h0:0≤l∧l≤m∧m≤n):Core P G o ρ st { dst:=o.dst,val:=.vec s sz (pR+l.toNat) (m-l).toNat }:=
 bP fun β h a w _ _ hop=>by
  have hxv:=hop x (by simp[ho,Op.operands])
  rw[hx] at hxv
  obtain ⟨k1,k2,p,hv,hp⟩:=hxv
  have hcap:n≤room β s-pR:=by omega
  have hb:=tN (P:=P) (isS:=true) hl hm h0 hcap (a:=a) (β:=β) (h:=h) (fun z hz=>hop z (by
   rcases hz with hz|hz<;>simp[ho,Op.operands,hz])) w
  refine⟨.slice (if room β s-pR=l.toNat then p else p.map (·.add (l.toNat*sz))) (m.toNat-l.toNat) (room β s-pR-l.toNat),?_,?_⟩
  ·simp only[execOp,ho,hv,Instr.sliceAt,Instr.slice,Sem.run_bind,run_underlying (bC hT),Result.andThen_ok,Option.map_none,hb,fK hsz,Sem.run_pure]
  ·refine⟨by omega,k2,_,by rw[show (m-l).toNat=m.toNat-l.toNat from by omega,Nat.sub_sub],?_⟩
   by_cases hr:room β s≤pR+l.toNat
   ·exact .inr hr
   ·left
    rw[if_neg (by omega)]
    rcases hp with rfl|hp
    ·simp[kT,Nat.add_mul]
    ·omega
def qm (agg:Bool) (sz:Nat) (d:DV):Bool:=match d with
 | .agg l=>agg&&(Nat.beq l.length sz&&l.all mW)
 | d=>!agg&&(Nat.beq sz 1&&mW d)
theorem Qv {agg:Bool} {sz:Nat} {d:DV} (hd:qm agg sz d=true) {h:IH} {v:Value} (hv:d.rel h v):mD agg v∧v.cells.size=sz∧∀u∈v.cells.toList,u.oneCell'=true:=by
 have one:(!agg&&(Nat.beq sz 1&&mW d))=true→(agg=false∧sz=1∧mW d=true):=by
  intro h;simp only[aY,Bool.not_eq_true',Nat.beq_eq] at h;exact⟨h.1,h.2.1,h.2.2⟩
 have fin:agg=false∧sz=1∧mW d=true→mD agg v∧v.cells.size=sz∧∀u∈v.cells.toList,u.oneCell'=true:=by
  rintro ⟨rfl,rfl,h3⟩
  have h4:=nI (β:=fun _=>0) (x:=.d d) h3 hv
  rw[oneCell_cells h4]
  exact⟨h4,rfl,fun u hu=>by simp at hu;subst hu;exact h4⟩
 cases d with
 | agg l=>
  simp only[qm,aY,Nat.beq_eq] at hd
  obtain ⟨rfl,h1,h2⟩:=hd
  obtain ⟨vs,rfl,hr⟩:=hv
  refine⟨⟨_,rfl⟩,by simp[Value.cells,hr.length,h1],fun u hu=>?_⟩
  have hu:u∈vs:=by simpa [Value.cells] using hu
  obtain ⟨j,hj⟩:=List.mem_iff_getElem?.1 hu
  have hlt:j<l.length:=by rw[←hr.length];exact(List.getElem?_eq_some_iff.1 hj).1
  obtain ⟨u',hu',hr'⟩:=hr.get (i:=j) (x:=l[j]) (by simp[hlt])
  rw[hj] at hu';injection hu' with hu';subst hu'
  exact nI (β:=fun _=>0) (x:=.d l[j]) (List.all_eq_true.1 h2 _ (List.getElem_mem hlt)) hr'
 | _=>exact fin (one hd)
structure Cells (h:IH) (agg:Bool) (sz n:Nat) (g:Nat→DV) (us:List Value):Prop where
 len:us.length=n*sz
 one:∀u∈us,u.oneCell'=true
 el:∀i,i<n→∃v,(g i).rel h v∧mD agg v∧v.cells.size=sz∧∀j,j<sz→us[i*sz+j]?=v.cells[j]?
theorem Cells.append {h:IH} {agg:Bool} {sz n m:Nat} {f g:Nat→DV} {us vs:List Value} (hu:Cells h agg sz n f us) (hv:Cells h agg sz m g vs):Cells h agg sz (n+m) (fun i=>bif Nat.blt i n then f i else g (i-n)) (us++vs) where
 len:=by rw[List.length_append,hu.len,hv.len,Nat.add_mul]
 one u hm:=(List.mem_append.1 hm).elim (hu.one u) (hv.one u)
 el i hi:=by
  by_cases h1:i<n
  ·obtain ⟨v,a1,a2,a3,a4⟩:=hu.el i h1
   have hb:Nat.blt i n=true:=by rw[Nat.blt_eq];exact h1
   refine⟨v,by simp only[hb];exact a1,a2,a3,fun j hj=>?_⟩
   have:=Nat.mul_le_mul_right sz (show i+1≤n by omega)
   rw[Nat.add_mul,Nat.one_mul] at this
   rw[List.getElem?_append_left (by rw[hu.len];omega)];exact a4 j hj
  ·obtain ⟨v,a1,a2,a3,a4⟩:=hv.el (i-n) (by omega)
   have hb:Nat.blt i n=false:=by
    cases hh:Nat.blt i n with
    | false=>rfl
    | true=>rw[Nat.blt_eq] at hh;omega
   refine⟨v,by simp only[hb];exact a1,a2,a3,fun j hj=>?_⟩
   have:i*sz=n*sz+(i-n)*sz:=by rw[←Nat.add_mul];congr 1;omega
   rw[List.getElem?_append_right (by rw[hu.len];omega),hu.len,←a4 j hj];congr 1;omega
theorem rQ {z:Array Value} (hz:∀u∈z.toList,u.oneCell'=true) (n:Nat):∀u∈(Builtin.zeroCells z n).toList,u.oneCell'=true:=by
 intro u hu
 simp only[Builtin.zeroCells,Array.toList_map,List.mem_map] at hu
 obtain ⟨i,hi,rfl⟩:=hu
 have hi':i<n*z.size:=by simpa using hi
 have hpos:0<z.size:=by
  rcases Nat.eq_zero_or_pos z.size with h|h
  ·rw[h,Nat.mul_zero] at hi';omega
  ·exact h
 have hm:=Nat.mod_lt i hpos
 rw[getElem!_pos z (i % z.size) hm]
 exact hz _ (by simp)
theorem BO (need old:Nat) (h:old<need):Builtin.nextslicecap need old≤2*need+512:=by
 unfold Builtin.nextslicecap
 split
 ·omega
 ·split
  ·omega
  ·have:∀(r c:Nat),c≤2*need+512→Builtin.growBy need r c≤2*need+512:=by
    intro r
    induction r with
    | zero=>intro c hc;exact hc
    | succ r ih=>
     intro c hc
     simp only[Builtin.growBy]
     split
     ·exact hc
     ·exact ih _ (by omega)
   exact this 4 old (by omega)
theorem aO.adopt {F:Fr} {w0:World} {h0:IH} {β:Nat→Nat} {h:IH} {tm:Array Value} {w:World} (g:aO G F w0 h0 st β h tm w) {d b c m:Nat} {l:List AV} (hf:st.free d=true)
  (hO:Own (upd β d b c m) h d l w.heap[b]?) (hown:Live (upd β d b c m) d l→(F.on b∨w0.heap.size≤b)∧(∀o,h.cell b o=none)∧h.obj b=none∧∀t k,st.box t=some k→Live β t k→blk β t≠b) :
  aO G F w0 h0 ⟨st.regs,(d,l) :: st.boxes⟩ (upd β d b c m) h tm w where
 glob:=g.glob
 holds:=g.holds
 ext:=g.ext
 old:=g.old
 kept:=g.kept
 fix:=g.W9 hf
 size:=g.size
 regs t x hx:=by
  obtain ⟨v,hv,hr⟩:=g.regs t x hx
  exact⟨v,hv,AV.rel.upd x v (BG hf hx) hr⟩
 box t k ht:=by
  simp only[AS.box,look] at ht
  by_cases hs:d=t
  ·subst hs
   simp only[fP,cond_true,aI] at ht
   subst ht
   rw[aT]
   exact⟨fun hl=>⟨(hown hl).1,(hown hl).2.1,(hown hl).2.2.1⟩,hO⟩
  ·rw[aQ hs,cond_false] at ht
   obtain ⟨h1,h2⟩:=g.box t k ht
   rw[aZ (Ne.symm hs),Live.upd (Ne.symm hs)]
   exact⟨h1,Own.upd (Ne.symm hs) (AX hf ht) h2⟩
 inj x y l1 l2 hx hy lx ly hxy:=by
  simp only[AS.box,look] at hx hy
  by_cases h1:d=x<;>by_cases h2:d=y
  ·exact h1.symm.trans h2
  ·subst h1
   simp only[fP,cond_true,aI] at hx
   subst hx
   rw[aQ h2,cond_false] at hy
   rw[Live.upd (Ne.symm h2)] at ly
   rw[aT,aZ (Ne.symm h2)] at hxy
   exact absurd hxy.symm ((hown lx).2.2.2 _ _ hy ly)
  ·subst h2
   simp only[fP,cond_true,aI] at hy
   subst hy
   rw[aQ h1,cond_false] at hx
   rw[Live.upd (Ne.symm h1)] at lx
   rw[aT,aZ (Ne.symm h1)] at hxy
   exact absurd hxy ((hown ly).2.2.2 _ _ hx lx)
  ·rw[aQ h1,cond_false] at hx
   rw[aQ h2,cond_false] at hy
   rw[Live.upd (Ne.symm h1)] at lx
   rw[Live.upd (Ne.symm h2)] at ly
   rw[aZ (Ne.symm h1),aZ (Ne.symm h2)] at hxy
   exact g.inj _ _ _ _ hx hy lx ly hxy
theorem Ho {T E:TypeId} {parts:Array (Nat×Operand)} (ho:o.op=.buildSlice T 0 parts) (hp:parts.toList=[]) (hT:bF P T=some E) {sz:Nat} (hsz:sizeT P E=some sz) {d:Nat} (hdst:o.dst=some d) :
  Core P G o ρ st { dst:=some d,val:=.vec d sz 0 0,nw:=[(d,[.arr ⟨dH P E,E,false,none⟩ sz fun _=>.con undef])] }:=by
 intro F w0 h0 st' β h a w K Q hlen' hag' hfr g hdf hop hK
 have hp':parts=#[]:=by rw[←Array.toArray_toList (xs:=parts),hp]
 subst hp'
 obtain ⟨os,hrun⟩:∃os:Array Value,(execOp a.eval o).run P w=.ok (.value (.slice (some ⟨w.heap.size,0,none⟩) 0 0)) (w.alloc (.cells os E)):=by
  obtain ⟨h1,h2⟩:=qp (ρ:=ρ) (a:=a) (β:=β) (h:=h) (parts:=[]) (m:=[]) rfl (by simp)
  obtain ⟨os,rU,_⟩:=sK (β:=β) (h:=h) (place:=fun i=>some (i*sz,sz)) [] _ [] ((Array.range 0).map ((#[]:Array Value)[· % (#[]:Array Value).size]!)) [] h1 h2 (by simp[AV.aF]) rfl
  have hparts:((#[]:Array (Nat×Operand)).map fun (i,x)=>(i,a.eval x)).toList=([]:List (Nat×Operand)).map fun p=>(p.1,a.eval p.2):=by simp
  refine⟨os,?_⟩
  have hbig:¬(0:Nat)>2 ^ 24:=by decide
  simp only[execOp,ho,Instr.buildSlice,Sem.run_bind,run_underlying (bC hT),Result.andThen_ok,fK hsz,Nat.zero_mul,if_neg hbig,if_true,Sem.run_pure,hparts,rU,Go.newRow,run_newObj]
  rfl
 unfold Oper.wp
 rw[hrun,Oper.upon_value]
 refine hK _ _ (upd β d w.heap.size 0 0) h (by rw[put_defers];exact hdf) ?_
 rw[dK,hdst]
 refine(g.tV (s:=d) (c:=0) (m:=0) (l:=[.arr ⟨dH P E,E,false,none⟩ sz fun _=>.con undef]) (hfr (d,[.arr ⟨dH P E,E,false,none⟩ sz fun _=>.con undef]) (by simp)) ?_).put (t:=some d) (x:=.vec d sz 0 0) (v:=.slice (some ⟨w.heap.size,0,none⟩) 0 0) ?_
 ·simp only[Own,aH,bH]
  exact⟨⟨Nat.le_refl _,fun _ h=>by cases h⟩,.inl rfl⟩
 ·simp only[AV.rel,aH,bH,aT]
  exact⟨Nat.le_refl _,Nat.le_refl _,_,rfl,.inl (by simp)⟩
theorem Eu {s d:Nat} (hf:st.free d=true):(AS.mk st.regs (setCells s 0 .dead st.boxes)).free d=true:=by
 simp only[AS.free,aY] at hf⊢
 refine⟨hf.1,hf.2.1,?_⟩
 have:∀b:List (Nat×List AV),(b.all fun b=>AV.frees d b.2)=true→((setCells s 0 .dead b).all fun b=>AV.frees d b.2)=true:=by
  intro b
  induction b with
  | nil=>intro _;rfl
  | cons y b ih=>
   intro hb
   simp only[List.all_cons,aY] at hb
   simp only[setCells]
   cases Nat.beq y.1 s with
   | true=>
    simp only[cond_true,List.all_cons,aY]
    refine⟨?_,hb.2⟩
    cases hy:y.2 with
    | nil=>rfl
    | cons z l=>
     rw[hy] at hb
     simp only[AV.frees,aY] at hb
     simp[AV.frees,AV.free,hb.1.2]
   | false=>simp only[cond_false,List.all_cons,aY];exact⟨hb.1,ih hb.2⟩
 exact this _ hf.2.2
theorem dw.cells {h:IH} {agg:RK} {sz c m n:Nat} {f:Nat→DV} {T:TypeId} {fr:Nat×Nat} {vs:List Value} (hR:dw h agg sz f c m (some (.cells vs.toArray T fr))) (hc:0<c) (hn:n≤m):Cells h agg.agg sz n f (vs.take (n*sz))∧vs.length=c*sz∧(∀u∈vs,u.oneCell'=true)∧(agg.fz=false→∀j,j<vs.length+agg.agg.toNat→¬(fr.1≤j∧j<fr.2)):=by
 obtain ⟨h1,h2⟩:=hR
 rcases h2 with h2|⟨fr',vs',e,hfr,hl,ho,hel⟩
 ·omega
 simp only[aI,Obj.cells.injEq] at e
 obtain ⟨e1,_,rfl⟩:=e
 have:vs=vs':=by simpa using e1
 subst this
 have hle:n*sz≤vs.length:=by rw[hl];exact Nat.mul_le_mul_right _ (by omega)
 refine⟨⟨by simp[hle],fun u hu=>ho u (List.mem_of_mem_take hu),fun i hi=>?_⟩,hl,ho,hfr⟩
 obtain ⟨v,a1,a2,a3,a4⟩:=hel i (by omega)
 refine⟨v,a1,a2,a3,fun j hj=>?_⟩
 have:=Nat.mul_le_mul_right sz (show i+1≤n by omega)
 rw[Nat.add_mul,Nat.one_mul] at this
 rw[List.getElem?_take,if_pos (by omega)];exact a4 j hj
theorem dw.of_cells {h:IH} {agg:RK} {sz c m:Nat} {f:Nat→DV} {fr:Nat×Nat} {us rest:List Value} (hu:Cells h agg.agg sz m f us) (hm:m≤c) (hmn:∀N,agg.mn=some N→c=N∧m=N) (hl:(us++rest).length=c*sz) (ho:∀u∈rest,u.oneCell'=true) (hfr:∀j,j<(us++rest).length+agg.agg.toNat→¬(fr.1≤j∧j<fr.2)) :
  dw h agg sz f c m (some (.cells (us++rest).toArray agg.ty fr)):=by
 refine⟨⟨hm,hmn⟩,.inr ⟨fr,_,rfl,fun _=>hfr,hl,fun u hx=>(List.mem_append.1 hx).elim (hu.one u) (ho u),fun i hi=>?_⟩⟩
 obtain ⟨v,a1,a2,a3,a4⟩:=hu.el i hi
 refine⟨v,a1,a2,a3,fun j hj=>?_⟩
 have:=Nat.mul_le_mul_right sz (show i+1≤m by omega)
 rw[Nat.add_mul,Nat.one_mul] at this
 rw[List.getElem?_append_left (by rw[hu.len];omega)];exact a4 j hj
theorem DN {vs us:List Value} {n:Nat} (h:n+us.length≤vs.length):kY vs n us=(vs.take n++us)++vs.drop (n+us.length):=by
 apply List.ext_getElem?
 intro k
 rw[kW _ _ _ _ h]
 have hl:(vs.take n).length=n:=by simp;omega
 by_cases h1:k<n
 ·rw[if_neg (by omega),List.getElem?_append_left (by simp;omega),List.getElem?_append_left (by omega)];simp[h1]
 ·by_cases h2:k<n+us.length
  ·rw[if_pos ⟨by omega,h2⟩,List.getElem?_append_left (by simp;omega),List.getElem?_append_right (by omega),hl]
  ·rw[if_neg (by omega),List.getElem?_append_right (by simp;omega)]
   simp only[List.getElem?_drop,List.length_append,hl];congr 1;omega
theorem MZ {h:IH} {agg:Bool} {sz n:Nat} {ds:List DV} {us:List Value} (hr:DV.aF h ds us) (hl:ds.length=n*sz) (ho:ds.all mW=true) (hag:agg=true∨sz=1):Cells h agg sz n (aW agg sz ds) us:=by
 have hone:∀u∈us,u.oneCell'=true:=by
  intro u hu
  obtain ⟨j,hj⟩:=List.mem_iff_getElem?.1 hu
  have hlt:j<ds.length:=by rw[←hr.length];exact(List.getElem?_eq_some_iff.1 hj).1
  obtain ⟨u',hu',hr'⟩:=hr.get (i:=j) (x:=ds[j]) (by simp[hlt])
  rw[hj] at hu';injection hu' with hu';subst hu'
  exact nI (β:=fun _=>0) (x:=.d ds[j]) (List.all_eq_true.1 ho _ (List.getElem_mem hlt)) hr'
 have DF:us.length=n*sz:=by rw[hr.length,hl]
 refine⟨DF,hone,fun i hi=>?_⟩
 have hm:=Nat.mul_le_mul_right sz (show i+1≤n by omega)
 rw[Nat.add_mul,Nat.one_mul] at hm
 cases agg with
 | true=>
  refine⟨.agg ((us.drop (i*sz)).take sz).toArray,⟨_,rfl,(hr.drop _).take _⟩,⟨_,rfl⟩,by simp[Value.cells,DF];omega,fun j hj=>?_⟩
  simp[Value.cells,hj]
 | false=>
  have h1:sz=1:=by rcases hag with h|h;cases h;exact h
  subst h1
  have hlt:i<us.length:=by omega
  have hld:i<ds.length:=by omega
  obtain ⟨u,hu,hr'⟩:=hr.get (i:=i) (x:=ds[i]) (by simp[hld])
  have ho1:=hone u (List.mem_of_getElem? hu)
  have e:aW false 1 ds i=ds[i]:=by simp[aW,hld]
  refine⟨u,by rw[e];exact hr',ho1,by rw[oneCell_cells ho1];rfl,fun j hj=>?_⟩
  have:j=0:=by omega
  subst this
  rw[Nat.mul_one,Nat.add_zero,hu,oneCell_cells ho1];rfl
theorem MS {T E:TypeId} {n:Nat} {parts:Array (Nat×Operand)} (ho:o.op=.buildSlice T n parts) (hT:bF P T=some E) {sz:Nat} (hsz:sizeT P E=some sz) (hsmall:Nat.ble (n*sz) 16777216=true) {z:List Value} (hz:zeroOf P E=some z)
  {m:List (Nat×List AV)} (hm:partsOf ρ parts.toList=some m) {l:List AV} (hl:wS (fun i=>some (i*sz,sz)) ((oI (n*sz) z).map fun v=>.d (.con v)) m=some l) {ds:List DV} (hd:pK l=some ds) (hlen:ds.length=n*sz)
  (hag:dH P E=true∨sz=1) (hone:ds.all mW=true) {d:Nat} (hdst:o.dst=some d):Core P G o ρ st { dst:=some d,val:=.vec d sz 0 n,nw:=[(d,[.arr ⟨dH P E,E,false,none⟩ sz (aW (dH P E) sz ds)])] }:=by
 intro F w0 h0 st' β h a w K Q hlen' hag' hfr g hdf hop hK
 obtain ⟨zv,hzv,hzc⟩:=yI hz w
 obtain ⟨h1,h2⟩:=qp (a:=a) (β:=β) (h:=h) hm fun p hp=>hop p.2 (by simp only[ho,Op.operands];simpa using ⟨p.1,by simpa using hp⟩)
 have hparts:(parts.map fun (i,x)=>(i,a.eval x)).toList=parts.toList.map fun p=>(p.1,a.eval p.2):=by simp
 obtain ⟨os,hor,hrun⟩:∃os:Array Value,AV.aF β h l os.toList∧(execOp a.eval o).run P w=.ok (.value (.slice (some ⟨w.heap.size,0,none⟩) n n)) (w.alloc (.cells os E)):=by
  have hbig:¬n*sz>2 ^ 24:=by rw[Nat.ble_eq] at hsmall;show ¬n*sz>16777216;omega
  by_cases h0:n*sz=0
  ·obtain ⟨os,rU,hor⟩:=sK m _ ((oI (n*sz) z).map fun v=>.d (.con v)) ((Array.range (n*sz)).map ((#[]:Array Value)[· % (#[]:Array Value).size]!)) l h1 h2 (by simp[h0,oI,AV.aF]) hl
   refine⟨os,hor,?_⟩
   simp only[execOp,ho,Instr.buildSlice,Sem.run_bind,run_underlying (bC hT),Result.andThen_ok,fK hsz,Sem.run_ite,if_neg hbig,if_pos h0,Sem.run_pure,hparts,rU,Go.newRow,run_newObj]
   rfl
  ·obtain ⟨os,rU,hor⟩:=sK m _ ((oI (n*sz) z).map fun v=>.d (.con v)) ((Array.range (n*sz)).map (zv.cells[· % zv.cells.size]!)) l h1 h2 (by rw[I8 _ zv z hzc];exact oJ β h _) hl
   refine⟨os,hor,?_⟩
   simp only[execOp,ho,Instr.buildSlice,Sem.run_bind,run_underlying (bC hT),Result.andThen_ok,fK hsz,Sem.run_ite,if_neg hbig,if_neg h0,Sem.run_pure,hzv,hparts,rU,Go.newRow,run_newObj]
   rfl
 rw[ou hd,AV.gZ] at hor
 unfold Oper.wp
 rw[hrun,Oper.upon_value]
 refine hK _ _ (upd β d w.heap.size n n) h (by rw[put_defers];exact hdf) ?_
 rw[dK,hdst]
 refine(g.tV (s:=d) (c:=n) (m:=n) (l:=[.arr ⟨dH P E,E,false,none⟩ sz (aW (dH P E) sz ds)]) (hfr (d,[.arr ⟨dH P E,E,false,none⟩ sz (aW (dH P E) sz ds)]) (by simp)) ?_).put (t:=some d) (x:=.vec d sz 0 n) (v:=.slice (some ⟨w.heap.size,0,none⟩) n n) ?_
 ·simp only[Own,aH,bH]
  have hc:=MZ hor hlen hone hag
  have:=dw.of_cells (agg:=⟨dH P E,E,false,none⟩) (c:=n) (fr:=(0,0)) (rest:=[]) hc (Nat.le_refl _) (fun _ h=>by cases h) (by rw[List.append_nil];exact hc.len) (by simp) (fun j _=>by simp)
  simpa using this
 ·simp only[AV.rel,aH,bH,aT]
  exact⟨by omega,Nat.le_refl _,_,by rw[Nat.sub_zero],.inl (by simp)⟩
def KI (P:Program) (E:TypeId) (size:Nat) (tx:TypeId) (x:Value) (n:Nat) (news:List Value) (w:World):Prop:=
 Src P size tx x n news w∨(0<n∧0<size∧∃kq kn i z,P.underlying tx=some (.int kn)∧x=.int kq (n:Int)∧P.info? E=some i∧i.zero=some z∧z.cells.size=size∧news=(Builtin.zeroCells z.cells n).toList∧∀u∈news,u.oneCell'=true)
theorem KI.nil {E:TypeId} {size:Nat} {tx T:TypeId} {x:Value} {w:World} {i:TypeInfo} (h:KI P E size tx x 0 [] w) (hT:P.underlying T=some (.slice E)) (hi:P.info? E=some i) (hs:i.size=size) (ty:TypeId) (p:Option Addr):(Builtin.append_ #[T,tx] ty #[.slice p 0 0,x]).run P w=.ok (.slice p 0 0) w:=by
 rcases h with h|⟨h,_⟩
 ·rcases h.kind with ⟨e',hk⟩|hk<;>cases p<;>simp[Builtin.append_,run_underlying hT,run_underlying hk,sizeOf,typeInfo,hi,h.len,hs,h.cells,storeCells]
 ·omega
theorem FX (w:World) (t tx ty e:TypeId) (i:TypeInfo) (ht:P.underlying t=some (.slice e)) (hi:P.info? e=some i) (b off sLen sCap:Nat) (x:Value) (n:Nat) (news:List Value) (hs:KI P e i.size tx x n news w)
  (hb:n*i.bytes≤281474976710656) (h63:(n:Int)≤9223372036854775807) (hroom:sLen+n≤sCap) (hc:∀j,j<news.length→(w.cell? ⟨b,off+sLen*i.size+j,none⟩).isSome=true) (hf:∀j,j<news.length→w.frozen? ⟨b,off+sLen*i.size+j,none⟩=false) :
  (Builtin.append_ #[t,tx] ty #[.slice (some ⟨b,off,none⟩) sLen sCap,x]).run P w=.ok (.slice (some ⟨b,off,none⟩) (sLen+n) sCap) (w.setCells b (off+sLen*i.size) news):=by
 rcases hs with hs|⟨h0,hp,kq,kn,i',z,hk,rfl,hi',hz,hzs,rfl,hone⟩
 ·exact run_append_room_src w t tx ty e i ht hi b off sLen sCap x n news hs hroom hc hf
 ·obtain rfl:i=i':=Option.some.inj (hi.symm.trans hi')
  have hst:=run_storeCells_cells (P:=P) b (off+sLen*i.size) (Builtin.zeroCells z.cells n).toList 0 w (by simpa using hc) (by simpa using hf) hone
  simp only[Nat.add_zero] at hst
  have hw:IntKind.i64.wrap (n:Int)=n:=by rw[IntKind.wrap_i64];omega
  have h48i:¬(281474976710656<(n:Int)*(i.bytes:Int)):=by
   rw[←Int.natCast_mul]
   omega
  have hneg:¬((n:Int)<0):=by omega
  have hn:n≠0:=by omega
  have hns:¬(n*i.size=0):=Nat.mul_ne_zero hn (by omega)
  simp[Builtin.append_,run_underlying ht,run_underlying hk,sizeOf,typeInfo,zeroValue,hi,hz,asInt,asIntOf,hw,hneg,hns,h48i,hroom,Addr.add_lit,hst]
theorem qX (w:World) (t tx ty e:TypeId) (i:TypeInfo) (z:Value) (ht:P.underlying t=some (.slice e)) (hi:P.info? e=some i) (hz:i.zero=some z) (base:Option Addr) (sLen sCap:Nat) (olds:List Value)
  (hold:(Builtin.firstCells i.size sLen (.slice base sLen sCap)).run P w.drew=.ok olds.toArray w.drew) (x:Value) (n:Nat) (news:List Value) (hs:KI P e i.size tx x n news w) (hb:n*i.bytes≤281474976710656)
  (hg:sCap<sLen+n) (h63:((sLen+n:Nat):Int)≤9223372036854775807) (hfit:Builtin.nextslicecap (sLen+n) sCap*i.bytes≤281474976710656) :
  (Builtin.append_ #[t,tx] ty #[.slice base sLen sCap,x]).run P w =
   .ok (.slice (some ⟨w.heap.size,0,none⟩) (sLen+n) (grownCap w (sLen+n) sCap e))
    (w.drew.alloc (.cells ((olds++news).toArray++Builtin.zeroCells z.cells (grownCap w (sLen+n) sCap e-(sLen+n))) e)):=by
 rcases hs with hs|⟨h0,hp,kq,kn,i',z',hk,rfl,hi',hz',hzs,rfl,hone⟩
 ·exact run_append_grow_src w t tx ty e i z ht hi hz base sLen sCap olds hold x n news hs hg h63 hfit
 ·obtain rfl:i=i':=Option.some.inj (hi.symm.trans hi')
  obtain rfl:z=z':=Option.some.inj (hz.symm.trans hz')
  have h1:=Lib.run_append_grow_zeros (P:=P) w t tx ty e i z kq kn ht hk hi hz base sLen sCap olds hold n h0 hp hg h63 hb hfit
  have h2:(olds++(Builtin.zeroCells z.cells n).toList).toArray=olds.toArray++Builtin.zeroCells z.cells n:=by
   apply Array.ext';simp
  rw[h2];exact h1
theorem Qu {c:Call} (ho:o.op=.call c) (lg:c.callee=.builtin .append) {sx x:Operand} (ha:c.args=#[sx,x]) {T tx E:TypeId} (ht:c.argTypes=#[T,tx]) (hT:bF P T=some E) {d:Nat} (hdst:o.dst=some d)
  {sz:Nat} (hsz:sizeT P E=some sz) {z:List Value} (hz:zeroOf P E=some z) (hzl:z.length=sz) (hone:z.all (·.oneCell')=true) {agg:RK} (hfz:agg.fz=false) (hmn:agg.mn=none) (hty:agg.ty=E)
  {s n:Nat} {f:Nat→DV} (hs:ρ sx=.vec s sz 0 n) (hb:st.box s=some [.arr agg sz f]) {k:Nat} {gs:Nat→DV} {rd:List (Nat×Nat)} (hds:d≠s)
  (hbytes:jF P E≤4294967296) (hroom:(n+k)*jF P E≤1099511627776∧n+k≤1099511627776)
  (hsrc:∀(F:Fr) (w0:World) (h0:IH) (st':AS) (β:Nat→Nat) (h:IH) (tm:Array Value) (w:World) (xv:Value),aO G F w0 h0 st' β h tm w→(∀r∈rd,st'.at_ (.cell r.1 r.2)=st.at_ (.cell r.1 r.2))→(ρ x).rel β h xv→
   ∃news,KI P E sz tx xv k news w∧Cells h agg.agg sz k gs news) :
  Core P G o ρ st { dst:=some d,val:=.vec d sz 0 (n+k),iV:=rd,jE:=[(s,0,.dead)],nw:=[(d,[.arr agg sz fun i=>bif Nat.blt i n then f i else gs (i-n)])] }:=by
 subst hty
 intro F w0 h0 st' β h a w K Q hlen hag hfr g hdf hop hK
 obtain ⟨i,zv,hi,hzz,hzc⟩:=tq hz
 have hisz:i.size=sz:=by unfold sizeT at hsz;rw[hi] at hsz;exact Option.some.inj hsz
 have BH:jF P agg.ty=i.bytes:=by unfold jF;rw[hi]
 have hsv:=hop sx (by simp[ho,Op.operands,Call.operands,ha])
 have hxv:=hop x (by simp[ho,Op.operands,Call.operands,ha])
 rw[hs] at hsv
 obtain ⟨k1,k2,p,hv,hp⟩:=hsv
 simp only[Nat.zero_mul,Nat.sub_zero,Nat.zero_add] at k1 hv hp
 have hb':=g.kZ (nN hag (.inr ⟨_,List.mem_singleton.2 rfl⟩) hb)
 have hfd:st'.free d=true:=hfr (d,_) (List.mem_singleton.2 rfl)
 obtain ⟨news,hsrc1,hcl⟩:=hsrc F w0 h0 st' β h a.tmps w _ g (fun r hr=>hag _ (by
  simp only[List.any_append,List.any_map,Bool.or_eq_true,List.any_eq_true,Function.comp]
  exact .inl ⟨r,hr,by simp[Loc.hits]⟩)) hxv
 have jq:∀v w',(Builtin.append_ #[T,tx] o.type #[a.eval sx,a.eval x]).run P w=.ok v w'→(execOp a.eval o).run P w=.ok (.value v) w':=by
  intro v w' hr
  simp only[execOp,ho,resolve,lg,ha,ht,Sem.run_bind,Sem.run_pure,Result.andThen_ok,invoke,builtin,List.map_toArray,List.map_cons,List.map_nil,hr]
 have afu:=fun (w1:World) (g1:aO G F w0 h0 ⟨st'.regs,setCells s 0 .dead st'.boxes⟩ β h a.tmps w1)=>g1
 have hown:∀t k,(AS.mk st'.regs (setCells s 0 .dead st'.boxes)).box t=some k→Live β t k→Live β s [.arr agg sz f]→blk β t≠blk β s:=by
  intro t k ht hl hls he
  rcases eG hb' t k ht with ⟨rfl,rfl⟩|⟨hne,ht'⟩
  ·exact hl.elim
  ·exact hne (g.inj _ _ _ _ ht' hb' hl hls he)
 have hR:=(g.box s _ hb').2
 simp only[Own] at hR
 have fin:∀(w':World) (b cc:Nat) (v:Value),(execOp a.eval o).run P w=.ok (.value v) w'→
   aO G F w0 h0 ⟨st'.regs,(d,[.arr agg sz fun i=>bif Nat.blt i n then f i else gs (i-n)]) :: setCells s 0 .dead st'.boxes⟩ (upd β d b cc (n+k)) h a.tmps w'→
   (n+k≤cc∧∃p,v=.slice p (n+k) cc∧(p=some ⟨b,0,none⟩∨cc=0))→o.wp P a w K Q:=by
  rintro w' b cc v hrun g' ⟨hle,p,rfl,hpp⟩
  unfold Oper.wp
  rw[hrun,Oper.upon_value]
  refine hK _ _ (upd β d b cc (n+k)) h (by rw[put_defers];exact hdf) ?_
  rw[dK,hdst]
  refine g'.put (t:=some d) (x:=.vec d sz 0 (n+k)) (v:=.slice p (n+k) cc) ?_
  simp only[AV.rel,aH,bH,aT,Nat.zero_mul,Nat.zero_add,Nat.sub_zero]
  exact⟨Nat.le_refl _,hle,p,rfl,hpp.imp id (fun h=>by omega)⟩
 by_cases hfit:n+k≤room β s
 ·by_cases hz0:room β s=0
  ·-- nothing,onto nothing
   have hn0:n=0:=by omega
   have hk0:k=0:=by omega
   subst hn0;subst hk0
   have hnews:news=[]:=List.eq_nil_of_length_eq_zero (by rw[hcl.len];simp)
   subst hnews
   refine fin w 0 0 (a.eval sx) (jq _ _ ?_) ?_ ⟨Nat.le_refl _,p,by rw[hv,hz0],.inr rfl⟩
   ·rw[hv,hz0]
    exact hsrc1.nil (bC hT) hi hisz _ _
   ·refine(g.kill hb').adopt (Eu hfd) ?_ (fun hl=>?_)
    ·simp only[Own,aH,bH]
     exact⟨⟨Nat.le_refl _,by rw[hmn];exact fun _ h=>by cases h⟩,.inl rfl⟩
    ·simp only[Live,aH] at hl;omega
  ·-- there is room
   have hls:Live β s [.arr agg sz f]:=by show 0<room β s;omega
   obtain ⟨u1,u2,u3⟩:=(g.box s _ hb').1 hls
   have hpp:p=some ⟨blk β s,0,none⟩:=hp.resolve_right (by omega)
   subst hpp
   have hR':=hR
   obtain ⟨_,hR2⟩:=hR'
   rcases hR2 with h2|⟨fr,vs,hh,nS,hvl,LP,hel⟩
   ·omega
   have nS:=nS hfz
   rw[hh] at hR
   obtain ⟨c1,_,_,_⟩:=hR.cells (n:=n) (by omega) k1
   have hle:(n+k)*sz≤room β s*sz:=Nat.mul_le_mul_right _ hfit
   rw[Nat.add_mul] at hle
   have hnl:=hcl.len
   have hkb:k*i.bytes≤281474976710656:=by
    rw[BH] at hroom
    have h1:=hroom.1
    rw[Nat.add_mul] at h1
    omega
   have hrun:=FX (P:=P) w T tx o.type agg.ty i (bC hT) hi (blk β s) 0 n (room β s) _ k news (by rw[hisz];exact hsrc1) hkb (by omega) hfit (fun j hj=>by
     rw[hisz]
     have:0+n*sz+j<vs.length:=by omega
     simp only[World.cell?,hh]
     simp;omega) (fun j hj=>by
     rw[hisz]
     have:=nS (0+n*sz+j) (by omega)
     simp only[World.frozen?,hh]
     simpa using this)
   rw[hisz,Nat.zero_add] at hrun
   refine fin _ (blk β s) (room β s) _ (jq _ _ (by rw[hv];exact hrun)) ?_ ⟨hfit,_,rfl,.inl rfl⟩
   have gk:=g.write (l':=[.dead]) hb' hls (kJ news (n*sz) w) trivial (eG (i:=0) (x:=.dead) hb')
   refine gk.adopt (Eu hfd) ?_ (fun _=>⟨u1,u2,u3,fun t k ht hl=>hown t k ht hl hls⟩)
   simp only[Own,aH,bH]
   rw[jA news vs _ w hh,DN (by omega)]
   refine dw.of_cells (c1.append hcl) hfit (by rw[hmn];exact fun _ h=>by cases h) (by simp;omega) (fun u hu=>LP u (List.mem_of_mem_drop hu)) (fun j hj=>nS j (by simp at hj;omega))
 ·-- a new row
  have hgrow:room β s<n+k:=by omega
  have hcap:=grownCap_ge w (n+k) (room β s) agg.ty
  have hold:∃olds:List Value,(Builtin.firstCells i.size n (.slice p n (room β s))).run P w.drew=.ok olds.toArray w.drew∧Cells h agg.agg sz n f olds:=by
   by_cases hz0:room β s=0
   ·have hn0:n=0:=by omega
    subst hn0
    refine⟨[],?_,⟨by simp,by simp,fun i hi=>by omega⟩⟩
    cases p with
    | none=>exact run_firstCells_none w.drew _ 0 0 _
    | some ad=>exact run_firstCells_some w.drew _ 0 ad 0 _ [] (by simp) (by simp)
   ·have hpp:p=some ⟨blk β s,0,none⟩:=hp.resolve_right (by omega)
    subst hpp
    have hR':=hR
    obtain ⟨_,hR2⟩:=hR'
    rcases hR2 with h2|⟨fr,vs,hh,nS,hvl,LP,hel⟩
    ·omega
    rw[hh] at hR
    obtain ⟨c1,_,_,_⟩:=hR.cells (n:=n) (by omega) k1
    refine⟨vs.take (n*sz),?_,c1⟩
    refine run_firstCells_some w.drew _ n _ n _ _ (by rw[hisz];exact c1.len) (fun j u hj=>?_)
    have hj':vs[j]?=some u:=by
     rw[List.getElem?_take] at hj
     split at hj
     ·exact hj
     ·cases hj
    rw[kT,Nat.zero_add]
    show w.cell? ⟨blk β s,j,none⟩=_
    simp[World.cell?,hh,hj']
  obtain ⟨olds,hfc,c1⟩:=hold
  have hnc:=BO (n+k) (room β s) hgrow
  have hby:Builtin.nextslicecap (n+k) (room β s)*i.bytes≤281474976710656:=by
   rw[BH] at hbytes hroom
   have h1:=Nat.mul_le_mul_right i.bytes hnc
   rw[Nat.add_mul,Nat.mul_assoc] at h1
   omega
  have hkb:k*i.bytes≤281474976710656:=by
   rw[BH] at hroom
   have h1:=hroom.1
   rw[Nat.add_mul] at h1
   omega
  have hrun:=qX (P:=P) w T tx o.type agg.ty i zv (bC hT) hi hzz p n (room β s) olds hfc _ k news (by rw[hisz];exact hsrc1) hkb hgrow (by omega) hby
  refine fin _ w.heap.size (grownCap w (n+k) (room β s) agg.ty) _ (jq _ _ (by rw[hv];exact hrun)) ?_ ⟨hcap,_,rfl,.inl rfl⟩
  have gd:=(g.drew (w.drawn+1)).kill hb'
  refine gd.tV (Eu hfd) ?_
  simp only[Own,aH,bH]
  have O7:(olds++news).toArray++Builtin.zeroCells zv.cells (grownCap w (n+k) (room β s) agg.ty-(n+k))=(olds++news++(Builtin.zeroCells zv.cells (grownCap w (n+k) (room β s) agg.ty-(n+k))).toList).toArray:=by
   apply Array.ext';simp
  rw[O7]
  have hzs:zv.cells.size=sz:=by rw[←hzl,←hzc];simp
  refine dw.of_cells (c1.append hcl) hcap (by rw[hmn];exact fun _ h=>by cases h) ?_ (rQ (by
   intro u hu
   rw[hzc] at hu
   exact List.all_eq_true.1 hone u hu) _) (fun j _=>by simp)
  have hz1:(Builtin.zeroCells zv.cells (grownCap w (n+k) (room β s) agg.ty-(n+k))).toList.length=(grownCap w (n+k) (room β s) agg.ty-(n+k))*sz:=by
   simp[Builtin.zeroCells,hzs]
  rw[List.length_append,List.length_append,c1.len,hcl.len,hz1,←Nat.add_mul,←Nat.add_mul]
  congr 1;omega
end ops
end Go.Ab
namespace Go.Ab
open Go Go.RowKit
section ops
variable {P:Program} {G:IH} {o:Oper} {ρ:Operand→AV} {st:AS}
theorem JR {w:World} {h:IH} {agg:Bool} {sz n b off:Nat} {g:Nat→DV}
  (hel:∀i,i<n→∃v,(g i).rel h v∧mD agg v∧v.cells.size=sz∧(∀u∈v.cells.toList,u.oneCell'=true)∧∀j,j<sz→w.cell? ⟨b,off+(i*sz+j),none⟩=v.cells[j]?) :
  ∃news:List Value,Cells h agg sz n g news∧∀j u,news[j]?=some u→w.cell? ⟨b,off+j,none⟩=some u:=by
 have hall:∀q,q<n*sz→∃u,w.cell? ⟨b,off+q,none⟩=some u∧u.oneCell'=true:=by
  intro q hq
  have hpos:0<sz:=by
   rcases Nat.eq_zero_or_pos sz with h|h
   ·rw[h,Nat.mul_zero] at hq;omega
   ·exact h
  have hi:q / sz<n:=by rw[Nat.div_lt_iff_lt_mul hpos];exact hq
  obtain ⟨v,_,_,a3,a4,a5⟩:=hel (q / sz) hi
  have hm:=Nat.mod_lt q hpos
  have:=a5 (q % sz) hm
  rw[show q / sz*sz+q % sz=q by rw[Nat.mul_comm];exact Nat.div_add_mod q sz] at this
  rw[this,Array.getElem?_eq_getElem (by omega)]
  exact⟨_,rfl,a4 _ (by simp)⟩
 refine⟨(List.range (n*sz)).map fun q=>(w.cell? ⟨b,off+q,none⟩).getD undef,⟨by simp,fun u hu=>?_,fun i hi=>?_⟩,fun j u hj=>?_⟩
 ·simp only[List.mem_map,List.mem_range] at hu
  obtain ⟨q,hq,rfl⟩:=hu
  obtain ⟨u,h1,h2⟩:=hall q hq
  rw[h1];exact h2
 ·obtain ⟨v,a1,a2,a3,_,a5⟩:=hel i hi
  refine⟨v,a1,a2,a3,fun j hj=>?_⟩
  have hlt:i*sz+j<n*sz:=by
   have:=Nat.mul_le_mul_right sz (show i+1≤n by omega)
   rw[Nat.add_mul,Nat.one_mul] at this;omega
  rw[List.getElem?_map,List.getElem?_range hlt,Option.map_some,a5 j hj,Array.getElem?_eq_getElem (by omega)];rfl
 ·by_cases hq:j<n*sz
  ·rw[List.getElem?_map,List.getElem?_range hq] at hj
   obtain ⟨u',h1,_⟩:=hall j hq
   rw[h1]
   simp only[Option.map_some,h1,Option.getD_some] at hj
   exact hj
  ·rw[List.getElem?_eq_none (by simp;omega)] at hj;cases hj
theorem yN {tx E':TypeId} (hk:bF P tx=some E') {w:World} {h:IH} {agg:Bool} {sz n c:Nat} {g:Nat→DV} {p:Option Addr}
  (hp:n=0∨∃b off,p=some ⟨b,off,none⟩∧∀i,i<n→∃v,(g i).rel h v∧mD agg v∧v.cells.size=sz∧(∀u∈v.cells.toList,u.oneCell'=true)∧∀j,j<sz→w.cell? ⟨b,off+(i*sz+j),none⟩=v.cells[j]?) :
  ∃news,Src P sz tx (.slice p n c) n news w∧Cells h agg sz n g news:=by
 rcases hp with rfl|⟨b,off,rfl,hel⟩
 ·refine⟨[],?_,⟨by simp,by simp,fun i hi=>by omega⟩⟩
  cases p with
  | none=>exact Src.ofNil w (bC hk) c
  | some a=>exact Src.ofSlice w (bC hk) a 0 c [] (by simp) (by simp) (by simp)
 ·obtain ⟨news,h1,h2⟩:=JR hel
  exact⟨news,Src.ofSlice w (bC hk) ⟨b,off,none⟩ n c news h1.len (fun j u hj=>by rw[kT];exact h2 j u hj) h1.one,h1⟩
abbrev tH (P:Program) (G:IH) (st:AS) (rd:List (Nat×Nat)) (sz:Nat) (tx:TypeId) (agg:Bool) (x:AV) (k:Nat) (gs:Nat→DV):Prop:=
 ∀(F:Fr) (w0:World) (h0:IH) (st':AS) (β:Nat→Nat) (h:IH) (tm:Array Value) (w:World) (xv:Value),aO G F w0 h0 st' β h tm w→(∀r∈rd,st'.at_ (.cell r.1 r.2)=st.at_ (.cell r.1 r.2))→x.rel β h xv→
   ∃news,Src P sz tx xv k news w∧Cells h agg sz k gs news
abbrev Fg (P:Program) (G:IH) (st:AS) (rd:List (Nat×Nat)) (E:TypeId) (sz:Nat) (tx:TypeId) (agg:Bool) (x:AV) (k:Nat) (gs:Nat→DV):Prop:=
 ∀(F:Fr) (w0:World) (h0:IH) (st':AS) (β:Nat→Nat) (h:IH) (tm:Array Value) (w:World) (xv:Value),aO G F w0 h0 st' β h tm w→(∀r∈rd,st'.at_ (.cell r.1 r.2)=st.at_ (.cell r.1 r.2))→x.rel β h xv→
   ∃news,KI P E sz tx xv k news w∧Cells h agg sz k gs news
theorem tH.z {rd:List (Nat×Nat)} {E:TypeId} {sz:Nat} {tx:TypeId} {agg:Bool} {x:AV} {k:Nat} {gs:Nat→DV} (h:tH P G st rd sz tx agg x k gs):Fg P G st rd E sz tx agg x k gs:=fun F w0 h0 st' β k tm w xv g a b=>let ⟨n,h1,h2⟩:=h F w0 h0 st' β k tm w xv g a b;⟨n,.inl h1,h2⟩
theorem RX {tx E':TypeId} (hk:bF P tx=some E') {agg:Bool} {sz k:Nat} {gs:Nat→DV} (hok:∀i,i<k→qm agg sz (gs i)=true):tH P G st [] sz tx agg (.d (.slc sz k gs)) k gs:=by
 intro F w0 h0 st' β h tm w xv g _ hx
 obtain ⟨p,cap,rfl,_,hr⟩:=hx
 refine yN hk (hr.imp id ?_)
 rintro ⟨b,off,hp,hel⟩
 refine⟨b,off,hp,fun i hi=>?_⟩
 obtain ⟨v,a1,a2,a3⟩:=hel i hi
 obtain ⟨b1,b2,b3⟩:=Qv (hok i hi) a1
 refine⟨v,a1,b1,b2,b3,fun j hj=>?_⟩
 have:=a3 j hj
 rw[Array.getElem?_eq_getElem (by omega)] at this⊢
 rw[←Nat.add_assoc]
 exact g.holds.1 _ _ _ this
theorem KG {tx E':TypeId} (hk:bF P tx=some E') {s:Nat} {agg:RK} {sz lo k:Nat} {f:Nat→DV} (hb:st.box s=some [.arr agg sz f]):tH P G st [(s,0)] sz tx agg.agg (.vec s sz lo k) k (fun i=>f (lo+i)):=by
 intro F w0 h0 st' β h tm w xv g hag hx
 obtain ⟨k1,k2,p,rfl,hp⟩:=hx
 have h1:=hag (s,0) (by simp)
 simp only[AS.at_,hb,Option.bind_some,bg,and_true] at h1
 have hb':=g.kZ (s:=s) (agg:=agg) (sz:=sz) (f:=f) (by rw[h1];rfl)
 refine yN hk ?_
 rcases hp with rfl|hp
 ·refine .inr ⟨blk β s,lo*sz,rfl,fun i hi=>?_⟩
  obtain ⟨v,a1,a2,a3,a4,a5⟩:=g.elemAt hb' (i:=lo+i) (by omega)
  refine⟨v,a1,a2,a3,a4,fun j hj=>?_⟩
  rw[←a5 j hj,Nat.add_mul,Nat.add_assoc]
 ·exact .inl (by omega)
theorem Y4 {tx E':TypeId} (hk:bF P tx=some E') {agg:Bool} {p:Option Addr} {sz c:Nat} {gs:Nat→DV}:tH P G st [] sz tx agg (.d (.con (.slice p 0 c))) 0 gs:=by
 intro F w0 h0 st' β h tm w xv g _ hx
 simp only[AV.rel,DV.rel] at hx
 subst hx
 exact yN hk (.inl rfl)
def uw (s:ByteArray) (i:Nat):DV:=.con (.int .u8 (byteAt s i))
theorem Nj {s:ByteArray} {i:Nat} (hi:i<s.size):(byteCells s)[i]?=some (.int .u8 (byteAt s i)):=by
 have hi':i<s.data.size:=hi
 have e:s.data[i]?=some s.data[i]:=Array.getElem?_eq_getElem hi'
 simp only[byteCells,List.getElem?_map,Array.getElem?_toList,byteAt,e,Option.map_some,Option.getD_some]
theorem Gm (h:IH) (s:ByteArray):Cells h false 1 s.size (uw s) (byteCells s) where
 len:=by rw[byteCells_length,Nat.mul_one]
 one u hu:=by
  simp only[byteCells,List.mem_map] at hu
  obtain ⟨_,_,rfl⟩:=hu
  rfl
 el i hi:=⟨.int .u8 (byteAt s i),rfl,rfl,rfl,fun j hj=>by
  have:j=0:=by omega
  subst this
  rw[Nat.mul_one,Nat.add_zero,Nj hi];rfl⟩
theorem YI {tx:TypeId} (hk:isStr P tx=true) {s:ByteArray}:tH P G st [] 1 tx false (.d (.con (.string s))) s.size (uw s):=by
 intro F w0 h0 st' β h tm w xv g _ hx
 simp only[AV.rel,DV.rel] at hx
 subst hx
 exact⟨byteCells s,Src.ofString w (qM hk) s,Gm h s⟩
theorem Qr {src dst:TypeId} {x:Operand} (ho:o.op=.convert src dst x) (hs:isBytes P src=true) (hd:isStr P dst=true) {s lo n:Nat} {agg:RK} {f:Nat→DV} (hx:ρ x=.vec s 1 lo n) (hb:st.box s=some [.arr agg 1 f])
  (hf:BytesAt n (fun i=>f (lo+i))):Core P G o ρ st { dst:=o.dst,val:=.d (.con (.string ⟨(bytesOf n (fun i=>f (lo+i))).toArray⟩)),iV:=[(s,0)] }:=by
 intro F w0 h0 st' β h a w K Q hlen hag hfr g hdf hop hK
 have hxv:=hop x (by simp[ho,Op.operands])
 rw[hx] at hxv
 obtain ⟨k1,k2,p,hv,hp⟩:=hxv
 have hb':=g.kZ (nN hag (.inl (by simp)) hb)
 obtain ⟨E,h1,h2⟩:=yC hs
 have hconv:(Conv.bytesToString (.slice p n (room β s-lo))).run P w=.ok (.string ⟨(bytesOf n (fun i=>f (lo+i))).toArray⟩) w:=by
  cases p with
  | none=>
   rcases hp with hp|hp
   ·cases hp
   ·have:n=0:=by omega
    subst this;rfl
  | some ad=>
   have hload:(loadCells ad n).run P w=.ok (((List.range n).map fun i=>byteOfD (f (lo+i))).map (Value.int .u8)).toArray w:=by
    rw[run_loadCells w ad n (fun j=>.int .u8 (byteOfD (f (lo+j)))) (fun j hj=>?_)]
    ·simp[List.map_map,Function.comp_def]
    ·rcases hp with hp|hp
     ·injection hp with hp;subst hp
      obtain ⟨v,lC,_,_,_,hc⟩:=g.elemAt hb' (i:=lo+j) (by omega)
      have hfj:=hf j hj
      simp only at hfj
      rw[hfj] at lC
      simp only[DV.rel] at lC
      subst lC
      rw[kT]
      have:=hc 0 (by omega)
      rw[Nat.add_mul,Nat.mul_one,Nat.mul_one,Nat.add_zero] at this
      rw[Nat.mul_one,this];rfl
     ·omega
   rw[run_bytesToString w ad n _ _ hload]
   have:=foldl_push (fun i=>UInt8.ofNat (byteOfD (f (lo+i))).toNat) (List.range n) ByteArray.empty
   rw[List.foldl_map,this]
   simp[bytesOf]
 unfold Oper.wp
 have:(execOp a.eval o).run P w=.ok (.value (.string ⟨(bytesOf n (fun i=>f (lo+i))).toArray⟩)) w:=by
  simp only[execOp,ho,hv,Sem.run_bind,run_convert_bytes_string w src dst E p n _ h1 h2 (qM hd),hconv,Result.andThen_ok,Sem.run_pure]
 rw[this,Oper.upon_value]
 refine hK _ _ β h (by rw[put_defers];exact hdf) ?_
 rw[dK]
 exact g.put (x:=.d (.con _)) rfl
theorem Qi {src dst:TypeId} {x:Operand} (ho:o.op=.convert src dst x) (hs:isStr P src=true) (hd:isBytes P dst=true) {E0:TypeId} (hE0:bF P dst=some E0) {d:Nat} (hdst:o.dst=some d) {s:ByteArray} (hx:ρ x=.d (.con (.string s))) :
  Core P G o ρ st { dst:=some d,val:=.vec d 1 0 s.size,nw:=[(d,[.arr ⟨false,E0,false,none⟩ 1 (uw s)])] }:=by
 intro F w0 h0 st' β h a w K Q hlen hag hfr g hdf hop hK
 have hxv:=hop x (by simp[ho,Op.operands])
 rw[hx] at hxv
 simp only[AV.rel,DV.rel] at hxv
 obtain ⟨E,h1,h2⟩:=yC hd
 obtain rfl:E0=E:=by
  have:=bC hE0
  rw[h1] at this
  simp only[aI,TypeDesc.slice.injEq] at this
  exact this.symm
 have hrun:=run_bytes_of_string (P:=P) w src dst E0 s (qM hs) h1 h2
 have hcap:=grownCap_ge w s.size 0 E0
 unfold Oper.wp
 have:(execOp a.eval o).run P w=.ok (.value (.slice (some ⟨w.heap.size,0,none⟩) s.size (grownCap w s.size 0 E0))) (w.drew.alloc (.cells (bytesRow s (grownCap w s.size 0 E0)) E0 ((bytesRow s (grownCap w s.size 0 E0)).size,(bytesRow s (grownCap w s.size 0 E0)).size+1))):=by
  simp only[execOp,ho,hxv,Sem.run_bind,hrun,Result.andThen_ok,Sem.run_pure]
 rw[this,Oper.upon_value]
 refine hK _ _ (upd β d w.heap.size (grownCap w s.size 0 E0) s.size) h (by rw[put_defers];exact hdf) ?_
 rw[dK,hdst]
 have e:bytesRow s (grownCap w s.size 0 E0)=(byteCells s++List.replicate (grownCap w s.size 0 E0-s.size) (Value.int .u8 0)).toArray:=by
  apply Array.ext';simp[bytesRow,byteCells]
 refine((g.drew (w.drawn+1)).tV (s:=d) (c:=grownCap w s.size 0 E0) (m:=s.size) (l:=[.arr ⟨false,E0,false,none⟩ 1 (uw s)]) (hfr (d,[.arr ⟨false,E0,false,none⟩ 1 (uw s)]) (by simp)) ?_).put (t:=some d) (x:=.vec d 1 0 s.size) (v:=.slice (some ⟨w.heap.size,0,none⟩) s.size (grownCap w s.size 0 E0)) ?_
 ·simp only[Own,aH,bH]
  rw[e]
  refine dw.of_cells (agg:=⟨false,E0,false,none⟩) (Gm h s) hcap (fun _ h=>by cases h) (by rw[List.length_append,byteCells_length];simp;omega) (fun u hu=>by rw[(List.mem_replicate.1 hu).2];rfl) (fun j hj=>?_)
  simp only[List.size_toArray]
  have hj:j<_+0:=hj
  omega
 ·simp only[AV.rel,aH,bH,aT]
  exact⟨by omega,hcap,_,by rw[Nat.sub_zero],.inl (by simp)⟩
mutual
def zF:DV→Bool
 | .con _=>true
 | .agg l | .aN l=>IW l
 | _=>false
def IW:List DV→Bool
 | []=>true
 | d :: l=>zF d&&IW l
end
mutual
theorem LX {h k:IH}:∀(d:DV) (v:Value),zF d=true→d.rel h v→d.rel k v
 | .con _,_,_,e=>e
 | .agg l,_,hf,⟨us,e,r⟩=>⟨us,e,Bh l us hf r⟩
 | .aN l,_,hf,⟨us,e,r⟩=>⟨us,e,Bh l us hf r⟩
 | .ptr _,_,hf,_=>by simp[zF] at hf
 | .slc _ _ _,_,hf,_=>by simp[zF] at hf
 | .clo _ _ _,_,hf,_=>by simp[zF] at hf
 | .NY _,_,hf,_=>by simp[zF] at hf
theorem Bh {h k:IH}:∀(l:List DV) (us:List Value),IW l=true→DV.aF h l us→DV.aF k l us
 | [],_,_,e=>e
 | d :: l,_,hf,⟨v,us',e,r,rs⟩=>by
  simp only[IW,aY] at hf
  exact⟨v,us',e,LX d v hf.1 r,Bh l us' hf.2 rs⟩
end
def vO (st:AS):AV→Option (DV×List Nat)
 | .d x=>some (x,[])
 | .vec s sz lo n=>match st.box s with
  | some [.arr _ sz' f]=>match Nat.beq sz sz' with|true=>some (.slc sz n (fun i=>f (lo+i)),[s])|false=>none
  | _=>none
 | _=>none
def lZ (st:AS):List AV→Option (List DV×List Nat)
 | []=>some ([],[])
 | x :: l=>match vO st x,lZ st l with|some (d,a),some (m,b)=>some (d :: m,a++b)|_,_=>none
noncomputable def IH.lend (h:IH) (w:World) (B:Nat→Prop):IH:=by
 classical
 exact⟨fun b o=>if B b then w.cell? ⟨b,o,none⟩ else h.cell b o,h.obj⟩
theorem zK {F:Fr} {w0:World} {h0:IH} {st':AS} {β:Nat→Nat} {h:IH} {tm:Array Value} {w:World} (g:aO G F w0 h0 st' β h tm w) {B:Nat→Prop} :
  ∀{l:List AV} {m:List DV} {ss:List Nat} {us:List Value},lZ st l=some (m,ss)→(∀s∈ss,st'.at_ (.cell s 0)=st.at_ (.cell s 0))→(∀s∈ss,0<room β s→B (blk β s))→h.le (h.lend w B)→AV.aF β h l us→DV.aF (h.lend w B) m us
 | [],m,ss,us,hl,_,_,_,hr=>by
  simp only[lZ,aI,bg] at hl
  obtain ⟨rfl,rfl⟩:=hl
  exact hr
 | x :: l,m,ss,us,hl,hag,hB,hle,⟨v,us',e,hx,hr⟩=>by
  simp only[lZ] at hl
  split at hl
  ·rename_i d a m' b hd hm
   simp only[aI,bg] at hl
   obtain ⟨rfl,rfl⟩:=hl
   refine⟨v,us',e,?_,zK g hm (fun s hs=>hag s (List.mem_append_right _ hs)) (fun s hs=>hB s (List.mem_append_right _ hs)) hle hr⟩
   cases x with
   | d y=>
    simp only[vO,aI,bg] at hd
    obtain ⟨rfl,rfl⟩:=hd
    exact DV.rel.mono hle _ _ hx
   | vec s sz lo n=>
    simp only[vO] at hd
    split at hd
    ·rename_i agg sz' f hb
     split at hd
     ·rename_i hs
      simp only[Nat.beq_eq] at hs;subst hs
      simp only[aI,bg] at hd
      obtain ⟨rfl,rfl⟩:=hd
      have h1:=hag s (by simp)
      simp only[AS.at_,hb,Option.bind_some,bg,and_true] at h1
      have hb':=g.kZ (s:=s) (agg:=agg) (sz:=sz) (f:=f) (by rw[h1];rfl)
      obtain ⟨k1,k2,p,rfl,hp⟩:=hx
      refine⟨p,room β s-lo,rfl,by omega,?_⟩
      rcases hp with rfl|hp
      ·by_cases hz:n=0
       ·exact .inl hz
       refine .inr ⟨blk β s,lo*sz,rfl,fun i hi=>?_⟩
       obtain ⟨v,a1,_,a3,_,a5⟩:=g.elemAt hb' (i:=lo+i) (by omega)
       refine⟨v,DV.rel.mono hle _ _ a1,a3,fun j hj=>?_⟩
       simp only[IH.lend,if_pos (hB s (by simp) (by omega))]
       rw[←a5 j hj,Nat.add_mul]
      ·exact .inl (by omega)
     ·cases hd
    ·cases hd
   | _=>simp[vO] at hd
  ·cases hl
theorem Np {c:Call} (ho:o.op=.call c) {x:Operand} (hc:c.callee=.value x) {f:FuncId} {a1 a2:List AV} (hx:kG (ρ x)=some (f,a1,a2)) {xs:List DV} {ss:List Nat} (hd:lZ st (a1++(c.args.toList.map ρ++a2))=some (xs,ss)) {r:DV} (hf:aA P G f xs r) (hr:zF r=true) :
  Core P G o ρ st { dst:=o.dst,val:=.d r,iV:=ss.map fun s=>(s,0) }:=by
 classical
 intro F w0 h0 st' β h a w K Q hlen hag hfr g hdf hop hK
 have hxv:=hop x (by simp[ho,Op.operands,Call.operands,hc])
 obtain ⟨va,vc,hv,ha,hcv⟩:=oD hx hxv
 have hargs:AV.aF β h (c.args.toList.map ρ) (c.args.toList.map a.eval):=qA fun y hy=>hop y (by simp[ho,Op.operands,Call.operands,Array.mem_toList_iff.1 hy])
 have hall:=ha.append (hargs.append hcv)
 let B:Nat→Prop:=fun b=>∃s∈ss,0<room β s∧blk β s=b
 have hat:∀s∈ss,st'.at_ (.cell s 0)=st.at_ (.cell s 0):=fun s hs=>hag _ (by
  simp only[List.any_append,List.any_map,Bool.or_eq_true,List.any_eq_true,Function.comp]
  exact .inl ⟨s,hs,by simp[Loc.hits]⟩)
 -- the rows are the walk's own
 have hrow:∀s∈ss,∃agg sz fr,st'.box s=some [.arr agg sz fr]:=by
  have key:∀(l:List AV) (m:List DV) (ss':List Nat),lZ st l=some (m,ss')→∀s∈ss',∃agg sz fr,st.box s=some [.arr agg sz fr]:=by
   intro l
   induction l with
   | nil=>intro m ss' hl s hs;simp only[lZ,aI,bg] at hl;obtain ⟨_,rfl⟩:=hl;simp at hs
   | cons y l ih=>
    intro m ss' hl s hs
    simp only[lZ] at hl
    split at hl
    ·rename_i d a m' b hd' hm
     simp only[aI,bg] at hl
     obtain ⟨_,rfl⟩:=hl
     rcases List.mem_append.1 hs with hs|hs
     ·cases y with
      | d y=>simp only[vO,aI,bg] at hd';obtain ⟨_,rfl⟩:=hd';simp at hs
      | vec t sz lo n=>
       simp only[vO] at hd'
       split at hd'
       ·rename_i agg sz' fr hb
        split at hd'
        ·simp only[aI,bg] at hd'
         obtain ⟨_,rfl⟩:=hd'
         simp at hs;subst hs
         exact⟨_,_,_,hb⟩
        ·cases hd'
       ·cases hd'
      | _=>simp[vO] at hd'
     ·exact ih _ _ hm s hs
    ·cases hl
  intro s hs
  obtain ⟨agg,sz,fr,hb⟩:=key _ _ _ hd s hs
  have h1:=hat s hs
  simp only[AS.at_,hb,Option.bind_some,bg,and_true] at h1
  exact⟨agg,sz,fr,g.kZ (by rw[h1];rfl)⟩
 have hnone:∀b,B b→(∀o,h.cell b o=none)∧h.obj b=none:=by
  rintro b ⟨s,hs,hpos,rfl⟩
  obtain ⟨agg,sz,fr,hb⟩:=hrow s hs
  exact((g.box s _ hb).1 (show 0<room β s from hpos)).2
 have hle:h.le (h.lend w B):=by
  refine⟨fun b o v e=>?_,fun b o e=>e⟩
  simp only[IH.lend]
  split
  ·rename_i hb;rw[(hnone b hb).1] at e;cases e
  ·exact e
 have hholds:(h.lend w B).holds w:=by
  refine⟨fun b o v e=>?_,g.holds.2⟩
  simp only[IH.lend] at e
  split at e
  ·exact e
  ·exact g.holds.1 b o v e
 have vT:=zK g hd hat (B:=B) (fun s hs hpos=>⟨s,hs,hpos,rfl⟩) hle hall
 have jq:(execOp a.eval o).run P w=(callFunc f (va++(c.args.toList.map a.eval++vc)).toArray).run P w:=by
  have hm:c.args.map a.eval=(c.args.toList.map a.eval).toArray:=by apply Array.ext';simp
  simp only[execOp,ho,resolve,hc,hv,hm,Deferred.ofValue,Sem.run_bind,Sem.run_pure,Result.andThen_ok,invoke,List.append_toArray,List.append_assoc]
 unfold Oper.wp
 rw[jq,hf.1,Oper.upon_enter]
 refine(hf.2 w _ _ (g.glob.trans hle) hholds vT).mono ?_
 rintro e w' ⟨v,h',rfl,hrel,hh,hw,hk,hold⟩
 let h2:IH:=⟨fun b o=>if B b then none else h'.cell b o,fun b=>if B b then none else h'.obj b⟩
 have hlt:∀b,B b→b<w.heap.size:=by
  rintro b ⟨s,hs,hpos,rfl⟩
  obtain ⟨agg,sz,fr,hb⟩:=hrow s hs
  exact Own.lt (show Live β s [.arr agg sz fr] from hpos) (g.box s _ hb).2
 have hle2:h.le h2:=by
  refine⟨fun b o v e=>?_,fun b o e=>?_⟩
  ·simp only[h2]
   split
   ·rename_i hb;rw[(hnone b hb).1] at e;cases e
   ·exact hh.1 _ _ _ (hle.1 _ _ _ e)
  ·simp only[h2]
   split
   ·rename_i hb;rw[(hnone b hb).2] at e;cases e
   ·exact hh.2 _ _ (hle.2 _ _ e)
 have hw2:h2.holds w':=by
  refine⟨fun b o v e=>?_,fun b o e=>?_⟩
  ·simp only[h2] at e
   split at e
   ·cases e
   ·exact hw.1 b o v e
  ·simp only[h2] at e
   split at e
   ·cases e
   ·exact hw.2 b o e
 have ho2:∀b,b<w.heap.size→(∀o,h2.cell b o=h.cell b o)∧h2.obj b=h.obj b:=by
  intro b hb
  by_cases hB:B b
  ·refine⟨fun o=>?_,?_⟩
   ·simp only[h2,if_pos hB];exact((hnone b hB).1 o).symm
   ·simp only[h2,if_pos hB];exact(hnone b hB).2.symm
  ·obtain ⟨a1,a2⟩:=hold b hb
   refine⟨fun o=>?_,?_⟩
   ·simp only[h2,if_neg hB,a1 o,IH.lend]
   ·simp only[h2,if_neg hB,a2,IH.lend]
 refine hK _ _ β h2 (by rw[put_defers];exact hdf) ?_
 rw[dK]
 exact(g.grow hle2 hw2 hk ho2).put (x:=.d r) (LX r v hr hrel)
end ops
end Go.Ab
namespace Go.Ab
open Go Go.RowKit
section ops
variable {P:Program} {G:IH} {o:Oper} {ρ:Operand→AV} {st:AS}
theorem I5 {c:Call} (ho:o.op=.call c) (lg:c.callee=.builtin .append) {sx x:Operand} (ha:c.args=#[sx,x]) {T tx E:TypeId} (ht:c.argTypes=#[T,tx]) (hT:bF P T=some E) {d:Nat} (hdst:o.dst=some d)
  {sz:Nat} (hsz:sizeT P E=some sz) {z:List Value} (hz:zeroOf P E=some z) (hzl:z.length=sz) (hone:z.all (·.oneCell')=true) {agg:Bool}
  (hs:ρ sx=.d (.con (.slice none 0 0))) {k:Nat} {gs:Nat→DV} {rd:List (Nat×Nat)}
  (hbytes:jF P E≤4294967296) (hroom:k*jF P E≤1099511627776∧k≤1099511627776) (hsrc:Fg P G st rd E sz tx agg (ρ x) k gs) :
  Core P G o ρ st { dst:=some d,val:=.vec d sz 0 k,iV:=rd,nw:=[(d,[.arr ⟨agg,E,false,none⟩ sz gs])] }:=by
 intro F w0 h0 st' β h a w K Q hlen hag hfr g hdf hop hK
 obtain ⟨i,zv,hi,hzz,hzc⟩:=tq hz
 have hisz:i.size=sz:=by unfold sizeT at hsz;rw[hi] at hsz;exact Option.some.inj hsz
 have BH:jF P E=i.bytes:=by unfold jF;rw[hi]
 have hv:=hop sx (by simp[ho,Op.operands,Call.operands,ha])
 have hxv:=hop x (by simp[ho,Op.operands,Call.operands,ha])
 rw[hs] at hv
 simp only[AV.rel,DV.rel] at hv
 have hfd:st'.free d=true:=hfr (d,[.arr ⟨agg,E,false,none⟩ sz gs]) (List.mem_singleton.2 rfl)
 obtain ⟨news,hsrc1,hcl⟩:=hsrc F w0 h0 st' β h a.tmps w _ g (fun r hr=>hag _ (by
  simp only[List.any_append,List.any_map,Bool.or_eq_true,List.any_eq_true,Function.comp]
  exact .inl ⟨r,hr,by simp[Loc.hits]⟩)) hxv
 have jq:∀v w',(Builtin.append_ #[T,tx] o.type #[a.eval sx,a.eval x]).run P w=.ok v w'→(execOp a.eval o).run P w=.ok (.value v) w':=by
  intro v w' hr
  simp only[execOp,ho,resolve,lg,ha,ht,Sem.run_bind,Sem.run_pure,Result.andThen_ok,invoke,builtin,List.map_toArray,List.map_cons,List.map_nil,hr]
 have fin:∀(w':World) (b cc:Nat) (v:Value),(execOp a.eval o).run P w=.ok (.value v) w'→
   aO G F w0 h0 ⟨st'.regs,(d,[.arr ⟨agg,E,false,none⟩ sz gs]) :: st'.boxes⟩ (upd β d b cc k) h a.tmps w'→
   (k≤cc∧∃p,v=.slice p k cc∧(p=some ⟨b,0,none⟩∨cc=0))→o.wp P a w K Q:=by
  rintro w' b cc v hrun g' ⟨hle,p,rfl,hpp⟩
  unfold Oper.wp
  rw[hrun,Oper.upon_value]
  refine hK _ _ (upd β d b cc k) h (by rw[put_defers];exact hdf) ?_
  rw[dK,hdst]
  refine g'.put (t:=some d) (x:=.vec d sz 0 k) (v:=.slice p k cc) ?_
  simp only[AV.rel,aH,bH,aT,Nat.zero_mul,Nat.zero_add,Nat.sub_zero]
  exact⟨Nat.le_refl _,hle,p,rfl,hpp.imp id (fun h=>by omega)⟩
 by_cases hk0:k=0
 ·subst hk0
  have hnews:news=[]:=List.eq_nil_of_length_eq_zero (by rw[hcl.len];simp)
  subst hnews
  refine fin w 0 0 (a.eval sx) (jq _ _ ?_) ?_ ⟨Nat.le_refl _,none,hv,.inr rfl⟩
  ·rw[hv]
   exact hsrc1.nil (bC hT) hi hisz _ _
  ·refine g.adopt hfd ?_ (fun hl=>?_)
   ·simp only[Own,aH,bH]
    exact⟨⟨Nat.le_refl _,fun _ h=>by cases h⟩,.inl rfl⟩
   ·simp only[Live,aH] at hl;omega
 ·have hcap:=grownCap_ge w (0+k) 0 E
  rw[Nat.zero_add] at hcap
  have hnc:=BO k 0 (by omega)
  have hby:Builtin.nextslicecap (0+k) 0*i.bytes≤281474976710656:=by
   rw[BH] at hbytes hroom
   have h1:=Nat.mul_le_mul_right i.bytes hnc
   rw[Nat.add_mul,Nat.mul_assoc] at h1
   rw[Nat.zero_add];omega
  have hkb:k*i.bytes≤281474976710656:=by
   rw[BH] at hroom
   omega
  have hrun:=qX (P:=P) w T tx o.type E i zv (bC hT) hi hzz none 0 0 [] (run_firstCells_none w.drew _ 0 0 _) _ k news (by rw[hisz];exact hsrc1) hkb (by omega) (by omega) hby
  rw[Nat.zero_add,List.nil_append] at hrun
  refine fin _ w.heap.size (grownCap w k 0 E) _ (jq _ _ (by rw[hv];exact hrun)) ?_ ⟨hcap,_,rfl,.inl rfl⟩
  refine(g.drew (w.drawn+1)).tV hfd ?_
  simp only[Own,aH,bH]
  have O7:news.toArray++Builtin.zeroCells zv.cells (grownCap w k 0 E-k)=(news++(Builtin.zeroCells zv.cells (grownCap w k 0 E-k)).toList).toArray:=by
   apply Array.ext';simp
  rw[O7]
  have hzs:zv.cells.size=sz:=by rw[←hzl,←hzc];simp
  refine dw.of_cells (agg:=⟨agg,E,false,none⟩) hcl hcap (fun _ h=>by cases h) ?_ (rQ (by
   intro u hu
   rw[hzc] at hu
   exact List.all_eq_true.1 hone u hu) _) (fun j _=>by simp)
  have hz1:(Builtin.zeroCells zv.cells (grownCap w k 0 E-k)).toList.length=(grownCap w k 0 E-k)*sz:=by
   simp[Builtin.zeroCells,hzs]
  rw[List.length_append,hcl.len,hz1,←Nat.add_mul]
  congr 1;omega
theorem Gf {h:IH} {β:Nat→Nat} {agg:Bool} {sz:Nat} {_fi:DV} {x:AV} {l:List AV} {xs:List DV} {y:DV} (hcx:cellsOf x=some l) (hd:pK l=some xs) (hl:l.length=sz) (hy:(match agg with|true=>y=.agg xs|false=>xs=[y])) {v xv:Value} {us:List Value}
  (hsz:v.cells.size=sz) (hxr:x.rel β h xv) (hcv:xv.cells=us.toArray) (hr:AV.aF β h l us) :
  ∃v',y.rel h v'∧mD agg v'∧v'.cells.toList=kY v.cells.toList 0 us:=by
 have DF:us.length=sz:=by rw[hr.length,hl]
 rw[SV _ _ (by rw[DF,←hsz];simp)]
 have hr':=hr
 rw[ou hd,AV.gZ] at hr'
 cases agg with
 | true=>simp only at hy;subst hy;exact⟨.agg us.toArray,⟨us,rfl,hr'⟩,⟨_,rfl⟩,by simp[Value.cells]⟩
 | false=>
  simp only at hy;subst hy
  obtain ⟨u,us',rfl,hu,hu'⟩:=hr'
  simp only[DV.aF] at hu';subst hu'
  obtain ⟨XO,hcv2,hr2,hall⟩:=rG hcx hxr
  have h1:u.oneCell'=true:=by
   have hlx:=ou hd
   subst hlx
   have h2:qH (.d y)=true:=by simpa using hall
   exact nI (β:=β) h2 hu
  exact⟨u,hu,h1,by rw[oneCell_cells h1]⟩
theorem DV.aF.app {h:IH}:∀{a b:List DV} {u v:List Value},DV.aF h a u→DV.aF h b v→DV.aF h (a++b) (u++v)
 | [],_,u,_,ha,hb=>by simp only[DV.aF] at ha;subst ha;exact hb
 | _ :: a,_,_,_,⟨x,u',e,r,rs⟩,hb=>by subst e;exact⟨x,_,rfl,r,DV.aF.app rs hb⟩
theorem SY {h:IH} {β:Nat→Nat} {sz off n:Nat} {fi:DV} {fl:List DV} {l:List AV} {xs:List DV} (hf:zG fi=some fl) (hd:pK l=some xs) (hl:l.length=n) (hin:off+n≤sz) {v:Value} {us:List Value}
  (hv:fi.rel h v) (hsz:v.cells.size=sz) (hr:AV.aF β h l us) :
  ∃v',(DV.agg (fl.take off++xs++fl.drop (off+n))).rel h v'∧mD true v'∧v'.cells.toList=kY v.cells.toList off us:=by
 obtain ⟨vs,zA,hrs⟩:=DZ hf hv
 have DF:us.length=n:=by rw[hr.length,hl]
 have hvl:vs.length=sz:=by rw[←hsz,zA];simp
 rw[ou hd,AV.gZ] at hr
 have e:kY v.cells.toList off us=vs.take off++us++vs.drop (off+n):=by
  rw[zA,List.toList_toArray,DN (by omega),DF]
 rw[e]
 exact⟨.agg (vs.take off++us++vs.drop (off+n)).toArray,⟨_,rfl,((hrs.take off).app hr).app (hrs.drop _)⟩,⟨_,rfl⟩,by simp[Value.cells]⟩
end ops
end Go.Ab
namespace Go.Ab
open Go Go.RowKit
def dD (P:Program) (G:IH) (f:FuncId) (args:List AV) (pre:List (Nat×List AV)) (r:AV) (post:List (Nat×List AV)):Prop:=
 (∀(us:Array Value) (w:World),(callFunc f us).run P w=.ok (.enter f us) w)∧
 ∀(F:Fr) (w:World) (h:IH) (β:Nat→Nat) (us:Array Value),aO G F w h ⟨args,pre⟩ β h us w→
  Calls P f us w fun e w'=>∃v β' h',e=.returned v∧aO G F w h ⟨[r],post⟩ β' h' #[v] w'
def tX:List (Nat×Nat)→Nat→Nat
 | [],_=>0
 | (a,b) :: m,u=>bif Nat.beq a u then b else tX m u
def hasK:List (Nat×Nat)→Nat→Bool
 | [],_=>false
 | (a,_) :: m,u=>Nat.beq a u||hasK m u
mutual
def AV.within (m:List (Nat×Nat)):AV→Bool
 | .any | .d _ | .arr _ _ _ | .dead | .mp _ _ _=>true
 | .box u _ | .vec u _ _ _ | .elem u _ _ _ | .tb u _ _ | .jY u=>hasK m u
 | .agg l | .aN l=>AV.lF m l
 | .clo _ a c=>AV.lF m a&&AV.lF m c
 | .gate _ _ _ x=>AV.within m x
def AV.lF (m:List (Nat×Nat)):List AV→Bool
 | []=>true
 | x :: l=>AV.within m x&&AV.lF m l
end
mutual
def AV.carry (m:List (Nat×Nat)):AV→AV
 | .any=>.any
 | .d x=>.d x
 | .arr a sz f=>.arr a sz f
 | .dead=>.dead
 | .mp a b c=>.mp a b c
 | .jY u=>.jY (tX m u)
 | .box u off=>.box (tX m u) off
 | .tb u off T=>.tb (tX m u) off T
 | .vec u sz lo n=>.vec (tX m u) sz lo n
 | .elem u sz i off=>.elem (tX m u) sz i off
 | .agg l=>.agg (AV.carries m l)
 | .aN l=>.aN (AV.carries m l)
 | .clo f a c=>.clo f (AV.carries m a) (AV.carries m c)
 | .gate a w b x=>.gate a w b (AV.carry m x)
def AV.carries (m:List (Nat×Nat)):List AV→List AV
 | []=>[]
 | x :: l=>AV.carry m x :: AV.carries m l
end
def sameAt (β β':Nat→Nat) (u u':Nat):Prop:=blk β' u'=blk β u∧room β' u'=room β u∧many β' u'=many β u
mutual
theorem yT {β β':Nat→Nat} {h:IH} {m:List (Nat×Nat)} (hm:∀u,hasK m u=true→sameAt β β' u (tX m u)):∀(x:AV) (v:Value),x.within m=true→x.rel β h v→(x.carry m).rel β' h v
 | .any,_,_,_=>trivial
 | AV.d _,_,_,e=>e
 | .box u _,_,f,e=>by
  obtain ⟨h1,h2,h3⟩:=hm u f
  simp only[AV.rel,AV.carry] at e⊢
  rw[h1];exact e
 | .vec u _ _ _,_,f,e=>by
  obtain ⟨h1,h2,h3⟩:=hm u f
  simp only[AV.rel,AV.carry] at e⊢
  rw[h1,h2,h3];exact e
 | .elem u _ _ _,_,f,e=>by
  obtain ⟨h1,h2,h3⟩:=hm u f
  simp only[AV.rel,AV.carry] at e⊢
  rw[h1,h2,h3];exact e
 | .agg l,_,f,⟨us,e,r⟩=>⟨us,e,qO hm l us f r⟩
 | .aN l,_,f,⟨us,e,r⟩=>⟨us,e,qO hm l us f r⟩
 | .clo _ a c,_,f,⟨ua,uc,e,ra,rc⟩=>by
  simp only[AV.within,aY] at f
  exact⟨ua,uc,e,qO hm a ua f.1 ra,qO hm c uc f.2 rc⟩
 | .gate _ _ _ x,v,f,⟨e,e'⟩=>⟨fun hb=>yT hm x v f (e hb),e'⟩
 | .tb u _ _,_,f,e=>by
  obtain ⟨h1,h2,h3⟩:=hm u f
  simp only[AV.rel,AV.carry] at e⊢
  rw[h1,h2];exact e
 | .jY u,_,f,e=>by
  obtain ⟨h1,h2,h3⟩:=hm u f
  simp only[AV.rel,AV.carry] at e⊢
  rw[h1];exact e
 | .arr _ _ _,_,_,e=>e.elim
 | .dead,_,_,e=>e.elim
 | .mp _ _ _,_,_,e=>e.elim
theorem qO {β β':Nat→Nat} {h:IH} {m:List (Nat×Nat)} (hm:∀u,hasK m u=true→sameAt β β' u (tX m u)):∀(l:List AV) (us:List Value),AV.lF m l=true→AV.aF β h l us→AV.aF β' h (AV.carries m l) us
 | [],_,_,e=>e
 | y :: l,_,f,⟨v,us',e,r,rs⟩=>by
  simp only[AV.lF,aY] at f
  exact⟨v,us',e,yT hm y v f.1 r,qO hm l us' f.2 rs⟩
end
theorem Aj (m:List (Nat×Nat)):∀l:List AV,(AV.carries m l).length=l.length
 | []=>rfl
 | _ :: l=>by simp[AV.carries,Aj m l]
theorem Gg (m:List (Nat×Nat)):∀(l:List AV) (i:Nat),(AV.carries m l)[i]?=(l[i]?).map (AV.carry m)
 | [],_=>by simp[AV.carries]
 | x :: l,i=>by
  cases i with
  | zero=>simp[AV.carries]
  | succ i=>simpa [AV.carries] using Gg m l i
theorem F8 {m:List (Nat×Nat)}:∀{l:List AV} {i:Nat} {x:AV},AV.lF m l=true→l[i]?=some x→x.within m=true
 | [],_,_,_,h=>by simp at h
 | y :: l,i,x,f,h=>by
  simp only[AV.lF,aY] at f
  cases i with
  | zero=>simp at h;subst h;exact f.1
  | succ i=>exact F8 f.2 (by simpa using h)
theorem Dh {m:List (Nat×Nat)} {l:List AV} (h:bU l=false):AV.carries m l=l:=by
 rcases dN h with ⟨a,b,c,rfl⟩|rfl|⟨a,b,c,rfl⟩<;>rfl
theorem Own.carry {β β':Nat→Nat} {h:IH} {m:List (Nat×Nat)} (hm:∀u,hasK m u=true→sameAt β β' u (tX m u)) {s s':Nat} (hs:sameAt β β' s s') {l:List AV} {o:Option Obj} (hw:AV.lF m l=true) (r:Own β h s l o):Own β' h s' (AV.carries m l) o:=by
 cases hp:bU l with
 | true=>
  rw[Own.plain hp] at r
  obtain ⟨T,us,e,r⟩:=r
  exact Own.of (T:=T.1) (T.2.trans hs.2.1.symm) e (qO hm l us hw r)
 | false=>
  rw[Dh hp]
  rcases dN hp with ⟨a,b,c,rfl⟩|rfl|⟨a,b,c,rfl⟩
  ·obtain ⟨h1,h2,h3⟩:=hs
   simp only[Own,h2,h3] at r⊢;exact r
  ·trivial
  ·exact r
theorem Live.carry {β β':Nat→Nat} {m:List (Nat×Nat)} {s s':Nat} (hs:sameAt β β' s s') {l:List AV}:Live β' s' (AV.carries m l)→Live β s l:=by
 intro hl
 cases hp:bU l with
 | true=>exact Live.plain hp
 | false=>
  rw[Dh hp] at hl
  rcases dN hp with ⟨a,b,c,rfl⟩|rfl|⟨a,b,c,rfl⟩
  ·obtain ⟨h1,h2,h3⟩:=hs
   simp only[Live,h2] at hl⊢;exact hl
  ·exact hl
  ·trivial
def BK (β:Nat→Nat):List (Nat×Nat)→(Nat→Nat)→(Nat→Nat)
 | [],b=>b
 | (u,c) :: m,b=>upd (BK β m b) c (blk β u) (room β u) (many β u)
def kD:List Nat→Bool
 | []=>true
 | x :: l=>!(l.any (Nat.beq x))&&kD l
theorem Jt {β b:Nat→Nat}:∀{m:List (Nat×Nat)} {c:Nat},(∀p∈m,p.2≠c)→sameAt b (BK β m b) c c
 | [],c,_=>⟨rfl,rfl,rfl⟩
 | (u,d) :: m,c,h=>by
  have hd:c≠d:=fun e=>h (u,d) (by simp) e.symm
  obtain ⟨h1,h2,h3⟩:=Jt (β:=β) (b:=b) (m:=m) (c:=c) fun p hp=>h p (by simp[hp])
  simp only[BK,sameAt,aZ hd,bI hd,iy hd]
  exact⟨h1,h2,h3⟩
theorem FN {β b:Nat→Nat}:∀{m:List (Nat×Nat)} {u c:Nat},kD (m.map (·.2))=true→(u,c)∈m→sameAt β (BK β m b) u c
 | [],_,_,_,h=>by simp at h
 | (v,d) :: m,u,c,hn,h=>by
  simp only[List.map_cons,kD,aY,Bool.not_eq_true'] at hn
  rcases List.mem_cons.1 h with k|k
  ·injection k with h1 h2;subst h1;subst h2
   exact⟨aT,aH,bH⟩
  ·have hd:c≠d:=by
    intro e;subst e
    have:(m.map (·.2)).any (Nat.beq c)=true:=List.any_eq_true.2 ⟨c,List.mem_map.2 ⟨(u,c),k,rfl⟩,by simp⟩
    rw[hn.1] at this;cases this
   obtain ⟨h1,h2,h3⟩:=FN (β:=β) (b:=b) hn.2 k
   simp only[BK,sameAt,aZ hd,bI hd,iy hd]
   exact⟨h1,h2,h3⟩
theorem G8:∀{m:List (Nat×Nat)} {u:Nat},hasK m u=true→(u,tX m u)∈m
 | [],_,h=>by simp[hasK] at h
 | (a,b) :: m,u,h=>by
  simp only[hasK,tX] at h⊢
  by_cases hu:a=u
  ·subst hu;simp
  ·rw[aQ hu] at h⊢
   simp only[Bool.false_or] at h
   exact List.mem_cons_of_mem _ (G8 h)
theorem zY:∀{m:List (Nat×Nat)} {u c:Nat},kD (m.map (·.1))=true→(u,c)∈m→tX m u=c∧hasK m u=true
 | [],_,_,_,h=>by simp at h
 | (a,b) :: m,u,c,hn,h=>by
  simp only[List.map_cons,kD,aY,Bool.not_eq_true'] at hn
  rcases List.mem_cons.1 h with k|k
  ·injection k with h1 h2;subst h1;subst h2
   exact⟨by simp[tX],by simp[hasK]⟩
  ·have hd:a≠u:=by
    intro e;subst e
    have:(m.map (·.1)).any (Nat.beq a)=true:=List.any_eq_true.2 ⟨a,List.mem_map.2 ⟨(a,c),k,rfl⟩,by simp⟩
    rw[hn.1] at this;cases this
   obtain ⟨h1,h2⟩:=zY hn.2 k
   exact⟨by simp only[tX,aQ hd,cond_false];exact h1,by simp[hasK,h2]⟩
theorem CJ:∀{a b:List Nat},kD a=true→kD b=true→(∀x∈a,x∈b→False)→kD (a++b)=true
 | [],_,_,hb,_=>hb
 | x :: a,b,ha,hb,h=>by
  simp only[kD,aY,Bool.not_eq_true'] at ha
  simp only[List.cons_append,kD,aY,Bool.not_eq_true',List.any_append,Bool.or_eq_false_iff]
  refine⟨⟨ha.1,?_⟩,CJ ha.2 hb fun y hy=>h y (List.mem_cons_of_mem _ hy)⟩
  cases hx:b.any (Nat.beq x) with
  | false=>rfl
  | true=>
   obtain ⟨y,hy,e⟩:=List.any_eq_true.1 hx
   have:x=y:=Nat.eq_of_beq_eq_true e
   subst this
   exact(h x (List.mem_cons_self ..) hy).elim
abbrev qE:=List (Nat×Nat×List AV)
def wB (st:AS):List (Nat×Nat)→Option qE
 | []=>some []
 | (u,c) :: m=>match st.box u,wB st m with|some l,some L=>some ((u,c,l) :: L)|_,_=>none
def qE.pre (L:qE) (m:List (Nat×Nat)):List (Nat×List AV):=L.map fun b=>(b.2.1,AV.carries m b.2.2)
theorem wU {st:AS}:∀{m:List (Nat×Nat)} {L:qE},wB st m=some L→(L.map fun b=>(b.1,b.2.1))=m∧∀b∈L,st.box b.1=some b.2.2
 | [],L,h=>by simp only[wB,aI] at h;subst h;exact⟨rfl,by simp⟩
 | (u,c) :: m,L,h=>by
  simp only[wB] at h
  split at h
  ·rename_i l L' hl hL
   simp only[aI] at h;subst h
   obtain ⟨h1,h2⟩:=wU hL
   refine⟨by simp[h1],fun b hb=>?_⟩
   rcases List.mem_cons.1 hb with rfl|hb
   ·exact hl
   ·exact h2 b hb
  ·cases h
def jM (m2:List (Nat×Nat)) (post:List (Nat×List AV)) (c:Nat):List AV:=match look post c with|some l=>AV.carries m2 l|none=>[.dead]
def qE.reads (L:qE):List (Nat×Nat):=L.flatMap fun b=>(List.range (b.2.2.length+1)).map fun i=>(b.1,i)
def qE.writes (L:qE) (m2:List (Nat×Nat)) (post:List (Nat×List AV)):List (Nat×Nat×AV):=L.flatMap fun b=>lM b.1 0 (jM m2 post b.2.1)
def wY (m2 nu:List (Nat×Nat)) (post:List (Nat×List AV)):List (Nat×List AV):=nu.map fun p=>(p.2,jM m2 post p.1)
theorem zS (u:Nat):∀(l':List AV) (i:Nat) (B:List (Nat×List AV)) (t:Nat),look (fF (lM u i l') B) t=if t=u then (look B t).map (fun l=>l.take i++(l'.take (l.length-i)++l.drop (i+l'.length))) else look B t
 | [],i,B,t=>by
  simp only[lM,fF,List.take_nil,List.nil_append,List.length_nil,Nat.add_zero,List.take_append_drop]
  split<;>simp
 | x :: l',i,B,t=>by
  simp only[lM,fF]
  rw[zS u l' (i+1)]
  by_cases ht:t=u
  ·subst ht
   rw[if_pos rfl,if_pos rfl,lI,if_pos rfl,Option.map_map]
   congr 1
   funext l
   simp only[Function.comp,List.length_set,List.length_cons]
   by_cases hi:i<l.length
   ·apply List.ext_getElem?
    intro k
    have e1:(l.set i x).take (i+1)=l.take i++[x]:=by
     apply List.ext_getElem?
     intro q
     rcases Nat.lt_trichotomy q i with hq|hq|hq
     ·rw[List.getElem?_append_left (by simp;omega),List.getElem?_take,if_pos (by omega),List.getElem?_set_ne (by omega),List.getElem?_take,if_pos hq]
     ·subst hq
      rw[List.getElem?_append_right (by simp;omega),List.getElem?_take,if_pos (by omega),List.getElem?_set_self hi]
      simp[Nat.min_eq_left (Nat.le_of_lt hi)]
     ·rw[List.getElem?_eq_none (by simp;omega),List.getElem?_eq_none (by simp;omega)]
    rw[e1,List.drop_set_of_lt (by omega)]
    have e2:(x :: l').take (l.length-i)=x :: l'.take (l.length-(i+1)):=by
     rw[show l.length-i=(l.length-(i+1))+1 by omega];rfl
    rw[e2]
    simp only[List.append_assoc,List.cons_append,List.nil_append]
    rw[show i+1+l'.length=i+(l'.length+1) by omega]
   ·rw[List.set_eq_of_length_le (by omega)]
    have h1:l.length-(i+1)=0:=by omega
    have h2:l.length-i=0:=by omega
    have a1:l.take (i+1)=l:=List.take_of_length_le (by omega)
    have a2:l.take i=l:=List.take_of_length_le (by omega)
    have a3:l.drop (i+1+l'.length)=[]:=List.drop_eq_nil_of_le (by omega)
    have a4:l.drop (i+(l'.length+1))=[]:=List.drop_eq_nil_of_le (by omega)
    rw[h1,h2,a1,a2,a3,a4]
    simp
  ·rw[if_neg ht,if_neg ht,lI,if_neg ht]
theorem MX (a b:List (Nat×Nat×AV)):∀B:List (Nat×List AV),fF (a++b) B=fF b (fF a B):=by
 induction a with
 | nil=>intro B;rfl
 | cons x a ih=>intro B;obtain ⟨s,i,y⟩:=x;simp only[List.cons_append,fF];exact ih _
theorem Gi (m2:List (Nat×Nat)) (post:List (Nat×List AV)):∀(L:qE) (B:List (Nat×List AV)),kD (L.map (·.1))=true→(∀b∈L,∃l,look B b.1=some l∧l.length=(jM m2 post b.2.1).length)→
  ∀t k,look (fF (L.writes m2 post) B) t=some k→(∃b∈L,t=b.1∧k=jM m2 post b.2.1)∨((∀b∈L,t≠b.1)∧look B t=some k)
 | [],B,_,_,t,k,h=>.inr ⟨by simp,h⟩
 | b :: L,B,hn,hb,t,k,h=>by
  simp only[List.map_cons,kD,aY,Bool.not_eq_true'] at hn
  have hne:∀b'∈L,b'.1≠b.1:=by
   intro b' hb' e
   have:(L.map (·.1)).any (Nat.beq b.1)=true:=List.any_eq_true.2 ⟨b'.1,List.mem_map.2 ⟨b',hb',rfl⟩,by simp[e]⟩
   rw[hn.1] at this;cases this
  simp only[qE.writes,List.flatMap_cons,MX] at h
  have hB:∀b'∈L,∃l,look (fF (lM b.1 0 (jM m2 post b.2.1)) B) b'.1=some l∧l.length=(jM m2 post b'.2.1).length:=by
   intro b' hb'
   rw[zS,if_neg (hne b' hb')]
   exact hb b' (List.mem_cons_of_mem _ hb')
  rcases Gi m2 post L _ hn.2 hB t k h with ⟨b',hb',e1,e2⟩|⟨h1,h2⟩
  ·exact .inl ⟨b',List.mem_cons_of_mem _ hb',e1,e2⟩
  ·rw[zS] at h2
   by_cases ht:t=b.1
   ·subst ht
    obtain ⟨l,hl,hlen⟩:=hb b (List.mem_cons_self ..)
    rw[if_pos rfl,hl] at h2
    simp only[Option.map_some,aI,List.take_zero,List.nil_append,Nat.sub_zero,Nat.zero_add] at h2
    refine .inl ⟨b,List.mem_cons_self ..,rfl,?_⟩
    rw[←h2,List.take_of_length_le (by omega),List.drop_eq_nil_of_le (by omega),List.append_nil]
   ·rw[if_neg ht] at h2
    refine .inr ⟨fun b' hb'=>?_,h2⟩
    rcases List.mem_cons.1 hb' with rfl|hb'
    ·exact ht
    ·exact h1 b' hb'
theorem UM {st st':AS} {u:Nat} {l:List AV} (hb:st.box u=some l) (hag:∀i,i<l.length+1→st'.at_ (.cell u i)=st.at_ (.cell u i)) (hne:l≠[]):st'.box u=some l:=by
 have hc:∀i,i<l.length+1→(st'.box u).bind (·[i]?)=l[i]?:=by
  intro i hi
  have:=hag i hi
  simpa [AS.at_,hb] using this
 cases hs:st'.box u with
 | none=>
  have:=hc 0 (by omega)
  rw[hs] at this
  cases l with
  | nil=>exact absurd rfl hne
  | cons x l=>simp at this
 | some l'=>
  congr 1
  simp only[hs,Option.bind_some] at hc
  have hlen:l'.length≤l.length:=by
   have:=hc l.length (by omega)
   rw[List.getElem?_eq_none (Nat.le_refl _)] at this
   exact List.getElem?_eq_none_iff.1 this
  apply List.ext_getElem?
  intro i
  by_cases hi:i<l.length+1
  ·exact hc i hi
  ·rw[List.getElem?_eq_none (by omega),List.getElem?_eq_none (by omega)]
def xJ (L:qE) (m nu m2:List (Nat×Nat)) (al:List AV) (r:AV) (post:List (Nat×List AV)):Bool:=
 kD (m.map (·.1))&&(kD (m.map (·.2))&&(m.all (fun p=>Nat.ble K0 p.2)&&(AV.lF m al&&(L.all (fun b=>AV.lF m b.2.2&&(!(b.2.2.isEmpty)&&Nat.beq (jM m2 post b.2.1).length b.2.2.length)) &&
  (kD (nu.map (·.1))&&(kD (nu.map (·.2))&&(nu.all (fun p=>Nat.blt p.1 K0&&(!(m.any fun q=>Nat.beq q.1 p.2)&&(look post p.1).isSome))&&(AV.within m2 r&&post.all (fun b=>AV.lF m2 b.2)))))))))
section ops
variable {P:Program} {G:IH} {o:Oper} {ρ:Operand→AV} {st:AS}
theorem acA {c:Call} (ho:o.op=.call c) {x:Operand} (hc:c.callee=.value x) {f:FuncId} {a1 a2:List AV} (hx:kG (ρ x)=some (f,a1,a2)) {m nu:List (Nat×Nat)} {L:qE} (hL:wB st m=some L) {r:AV} {post:List (Nat×List AV)}
  {m2:List (Nat×Nat)} (hm2:m2=(m.map fun p=>(p.2,p.1))++nu) (hok:xJ L m nu m2 (a1++(c.args.toList.map ρ++a2)) r post=true)
  {F:Fr} {w0:World} {h0:IH} {st':AS} {β:Nat→Nat} {h:IH} {a:Act} {w:World}
  (hbx:∀b∈L,st'.box b.1=some b.2.2) (hfr:∀p∈nu,st'.free p.2=true)
  (g:aO G F w0 h0 st' β h a.tmps w) (hop:∀x∈o.op.operands,(ρ x).rel β h (a.eval x)) :
  ∃(F':Fr) (βc:Nat→Nat) (us:Array Value),aO G F' w h ⟨AV.carries m (a1++(c.args.toList.map ρ++a2)),L.pre m⟩ βc h us w∧(execOp a.eval o).run P w=(callFunc f us).run P w∧
   ∀(w':World) (β1:Nat→Nat) (h1:IH) (rs:List AV) (tm:Array Value),aO G F' w h ⟨rs,post⟩ β1 h1 tm w'→
    ∃β2,aO G F w0 h0 ⟨st'.regs,wY m2 nu post++fF (L.writes m2 post) st'.boxes⟩ β2 h1 a.tmps w'∧∀(x:AV) (v:Value),x.within m2=true→x.rel β1 h1 v→(x.carry m2).rel β2 h1 v:=by
 simp only[xJ,aY] at hok
 obtain ⟨n1,n2,hK0,hwa,hLw,nn1,nn2,hnu,hwr,hwp⟩:=hok
 obtain ⟨XK,hLb⟩:=wU hL
 have hxv:=hop x (by simp[ho,Op.operands,Call.operands,hc])
 obtain ⟨va,vc,hv,ha,hcv⟩:=oD hx hxv
 have hargs:AV.aF β h (c.args.toList.map ρ) (c.args.toList.map a.eval):=qA fun y hy=>hop y (by simp[ho,Op.operands,Call.operands,Array.mem_toList_iff.1 hy])
 have hall:=ha.append (hargs.append hcv)
 have aft:∀u c',(u,c')∈m→∃b∈L,b.1=u∧b.2.1=c':=by
  intro u c' h1
  rw[←XK] at h1
  obtain ⟨b,hb,e⟩:=List.mem_map.1 h1
  injection e with e1 e2
  exact⟨b,hb,e1,e2⟩
 have zo:∀b∈L,(b.1,b.2.1)∈m:=fun b hb=>by rw[←XK];exact List.mem_map.2 ⟨b,hb,rfl⟩
 let βc:Nat→Nat:=BK β m (fun _=>0)
 have hcs:∀u,hasK m u=true→sameAt β βc u (tX m u):=fun u hu=>FN n2 (G8 hu)
 have hcm:∀u c',(u,c')∈m→sameAt β βc u c':=fun u c' hu=>FN n2 hu
 let F':Fr:=⟨fun k=>∃b∈L,Live β b.1 b.2.2∧blk β b.1=k,βc⟩
 have hpre:∀c' l',look (L.pre m) c'=some l'→∃b∈L,b.2.1=c'∧l'=AV.carries m b.2.2:=by
  intro c' l' h1
  have:=sO h1
  obtain ⟨b,hb,e⟩:=List.mem_map.1 this
  injection e with e1 e2
  exact⟨b,hb,e1,e2.symm⟩
 have hwl:∀b∈L,AV.lF m b.2.2=true:=fun b hb=>by
  have:=List.all_eq_true.1 hLw b hb
  simp only[aY] at this
  exact this.1
 have gc:aO G F' w h ⟨AV.carries m (a1++(c.args.toList.map ρ++a2)),L.pre m⟩ βc h (va++(c.args.toList.map a.eval++vc)).toArray w:=by
  refine⟨g.glob,g.holds,IH.le.refl _,fun _ _ _=>⟨fun _=>rfl,rfl⟩,Kept.refl _ _,fun _ _=>⟨rfl,rfl,rfl⟩,?_,fun t y hy=>?_,fun c' l' hl=>?_,fun c1 c2 l1 l2 h1 h2 k1 k2 he=>?_⟩
  ·simp only[List.size_toArray,Aj];exact hall.length
  ·rw[Gg] at hy
   cases hy0:(a1++(c.args.toList.map ρ++a2))[t]? with
   | none=>simp[hy0] at hy
   | some y0=>
    simp only[hy0,Option.map_some,aI] at hy
    subst hy
    obtain ⟨v,hv1,hv2⟩:=hall.get hy0
    exact⟨v,by simpa using hv1,yT hcs y0 v (F8 hwa hy0) hv2⟩
  ·obtain ⟨b,hb,rfl,rfl⟩:=hpre c' l' hl
   have hs:=hcm _ _ (zo b hb)
   obtain ⟨g1,g2⟩:=g.box b.1 b.2.2 (hbx b hb)
   rw[hs.1]
   refine⟨fun hl=>⟨.inl ⟨b,hb,Live.carry hs hl,rfl⟩,(g1 (Live.carry hs hl)).2⟩,Own.carry hcs hs (hwl b hb) g2⟩
  ·obtain ⟨b,hb,rfl,rfl⟩:=hpre c1 l1 h1
   obtain ⟨b',hb',rfl,rfl⟩:=hpre c2 l2 h2
   have hs:=hcm _ _ (zo b hb)
   have hs':=hcm _ _ (zo b' hb')
   rw[hs.1,hs'.1] at he
   have:=g.inj _ _ _ _ (hbx b hb) (hbx b' hb') (Live.carry hs k1) (Live.carry hs' k2) he
   have e1:=(zY n1 (zo b hb)).1
   have e2:=(zY n1 (zo b' hb')).1
   rw[←e1,←e2,this]
 have jq:(execOp a.eval o).run P w=(callFunc f (va++(c.args.toList.map a.eval++vc)).toArray).run P w:=by
  have hm:c.args.map a.eval=(c.args.toList.map a.eval).toArray:=by apply Array.ext';simp
  simp only[execOp,ho,resolve,hc,hv,hm,Deferred.ofValue,Sem.run_bind,Sem.run_pure,Result.andThen_ok,invoke,List.append_toArray,List.append_assoc]
 refine⟨F',βc,_,gc,jq,fun w' β1 h1 rs tm g1=>?_⟩
 -- back in the caller
 let β2:Nat→Nat:=BK β1 nu β
 have hnn:∀p∈nu,p.1<K0∧(∀q∈m,q.1≠p.2)∧st'.free p.2=true∧(look post p.1).isSome=true:=by
  intro p hp
  have h1:=List.all_eq_true.1 hnu p hp
  simp only[aY,Nat.blt_eq,Bool.not_eq_true'] at h1
  refine⟨h1.1,fun q hq e=>?_,hfr p hp,h1.2.2⟩
  have:(m.any fun q=>Nat.beq q.1 p.2)=true:=List.any_eq_true.2 ⟨q,hq,by simp[e]⟩
  rw[h1.2.1] at this;cases this
 have NC:∀t,(∀p∈nu,p.2≠t)→sameAt β β2 t t:=fun t ht=>Jt ht
 have ach:∀u c',(u,c')∈m→sameAt β β2 u u:=fun u c' hu=>NC u fun p hp e=>(hnn p hp).2.1 _ hu e.symm
 have hback:∀u c',(u,c')∈m→sameAt β1 β2 c' u:=by
  intro u c' hu
  have hK:=List.all_eq_true.1 hK0 _ hu
  simp only[Nat.ble_eq] at hK
  obtain ⟨f1,f2,f3⟩:=g1.fix c' hK
  obtain ⟨s1,s2,s3⟩:=hcm u c' hu
  obtain ⟨t1,t2,t3⟩:=ach u c' hu
  exact⟨by rw[t1,f1];exact s1.symm,by rw[t2,f2];exact s2.symm,by rw[t3,f3];exact s3.symm⟩
 have hnew:∀d n,(d,n)∈nu→sameAt β1 β2 d n:=fun d n hd=>FN nn2 hd
 have aaj:∀u,hasK m2 u=true→sameAt β1 β2 u (tX m2 u):=by
  intro u hu
  have:=G8 hu
  rw[hm2] at this
  rcases List.mem_append.1 this with h2|h2
  ·obtain ⟨p,hp,e⟩:=List.mem_map.1 h2
   injection e with e1 e2
   have:=hback p.1 p.2 hp
   rw[e1] at this
   rw[hm2,←e2];exact this
  ·rw[hm2];exact hnew _ _ h2
 have adS:∀(y:AV) (z:Value),(∀p∈nu,y.free p.2=true)→y.rel β h1 z→y.rel β2 h1 z:=by
  have key:∀(EY:List (Nat×Nat)) (y:AV) (z:Value),(∀p∈EY,y.free p.2=true)→y.rel β h1 z→y.rel (BK β1 EY β) h1 z:=by
   intro EY
   induction EY with
   | nil=>intro y z _ hr;exact hr
   | cons p EY ih=>intro y z hf hr;exact AV.rel.upd y z (hf p (by simp)) (ih y z (fun q hq=>hf q (by simp[hq])) hr)
  exact key nu
 have abB:∀(l:List AV) (zs:List Value),(∀p∈nu,AV.frees p.2 l=true)→AV.aF β h1 l zs→AV.aF β2 h1 l zs:=by
  have key:∀(EY:List (Nat×Nat)) (l:List AV) (zs:List Value),(∀p∈EY,AV.frees p.2 l=true)→AV.aF β h1 l zs→AV.aF (BK β1 EY β) h1 l zs:=by
   intro EY
   induction EY with
   | nil=>intro y z _ hr;exact hr
   | cons p EY ih=>intro y z hf hr;exact AV.aF.upd y z (hf p (by simp)) (ih y z (fun q hq=>hf q (by simp[hq])) hr)
  exact key nu
 have Ac:∀k,F'.on k→(F.on k∨w0.heap.size≤k)∧(∀t l,st'.box t=some l→Live β t l→(∀b∈L,t≠b.1)→blk β t≠k):=by
  rintro k ⟨b,hb,hl,rfl⟩
  refine⟨((g.box _ _ (hbx b hb)).1 hl).1,fun t l ht hlt hne he=>hne b hb (g.inj _ _ _ _ ht (hbx b hb) hlt hl he)⟩
 -- a block that the callee hands back
 have hpost:∀c' n l',look post c'=some l'→sameAt β1 β2 c' n→(Live β2 n (AV.carries m2 l')→(F.on (blk β2 n)∨w0.heap.size≤blk β2 n)∧(∀o,h1.cell (blk β2 n) o=none)∧h1.obj (blk β2 n)=none)∧Own β2 h1 n (AV.carries m2 l') w'.heap[blk β2 n]?:=by
  intro c' n l' hl hs
  obtain ⟨p1,p2⟩:=g1.box c' l' hl
  have hw2:AV.lF m2 l'=true:=List.all_eq_true.1 hwp _ (sO hl)
  rw[hs.1]
  refine⟨fun hlv=>?_,Own.carry aaj hs hw2 p2⟩
  obtain ⟨q1,q2,q3⟩:=p1 (Live.carry hs hlv)
  refine⟨?_,q2,q3⟩
  rcases q1 with q1|q1
  ·exact(Ac _ q1).1
  ·exact .inr (Nat.le_trans g.kept.size q1)
 have hother:∀t l,st'.box t=some l→(∀b∈L,t≠b.1)→(∀p∈nu,p.2≠t)→Live β t l→w'.heap[blk β t]?=w.heap[blk β t]?∧(∀o,h1.cell (blk β t) o=h.cell (blk β t) o)∧h1.obj (blk β t)=h.obj (blk β t):=by
  intro t l ht hne hnt hl
  have hlt:=Own.lt hl (g.box t l ht).2
  have hnF:¬F'.on (blk β t):=fun hF=>(Ac _ hF).2 t l ht hl hne rfl
  have:=g1.old _ hlt hnF
  exact⟨g1.kept.block _ hlt hnF,this.1,this.2⟩
 have ab9:∀b∈L,(jM m2 post b.2.1).length=b.2.2.length:=fun b hb=>by
  have:=List.all_eq_true.1 hLw b hb
  simp only[aY,Nat.beq_eq] at this
  exact this.2.2
 have n1':kD (L.map (·.1))=true:=by
  have:L.map (·.1)=m.map (·.1):=by rw[←XK];simp
  rw[this];exact n1
 -- the boxes behind the call
 have hlook:∀t k,look (wY m2 nu post++fF (L.writes m2 post) st'.boxes) t=some k→
   (∃p∈nu,t=p.2∧k=jM m2 post p.1)∨((∀p∈nu,p.2≠t)∧((∃b∈L,t=b.1∧k=jM m2 post b.2.1)∨((∀b∈L,t≠b.1)∧st'.box t=some k))):=by
  intro t k hk
  rw[o8] at hk
  cases hn:look (wY m2 nu post) t with
  | some k'=>
   rw[hn] at hk
   simp only[Option.or,aI] at hk;subst hk
   obtain ⟨p,hp,e⟩:=List.mem_map.1 (sO hn)
   injection e with e1 e2
   exact .inl ⟨p,hp,e1.symm,e2.symm⟩
  | none=>
   rw[hn] at hk
   simp only[Option.or] at hk
   have hnone:∀p∈nu,p.2≠t:=by
    intro p hp e
    have:∀(l:List (Nat×List AV)),(∃q∈l,q.1=t)→look l t≠none:=by
     intro l
     induction l with
     | nil=>rintro ⟨q,hq,_⟩;simp at hq
     | cons y l ih=>
      rintro ⟨q,hq,hqt⟩
      obtain ⟨y1,y2⟩:=y
      simp only[look]
      by_cases hy:y1=t
      ·subst hy;simp
      ·rw[aQ hy,cond_false]
       rcases List.mem_cons.1 hq with rfl|hq
       ·exact absurd hqt hy
       ·exact ih ⟨q,hq,hqt⟩
    exact this _ ⟨(p.2,jM m2 post p.1),List.mem_map.2 ⟨p,hp,rfl⟩,e⟩ hn
   exact .inr ⟨hnone,Gi m2 post L st'.boxes n1' (fun b hb=>⟨_,hbx b hb,(ab9 b hb).symm⟩) t k hk⟩
 have U6:∀c' n,sameAt β1 β2 c' n→(Live β2 n (jM m2 post c')→(F.on (blk β2 n)∨w0.heap.size≤blk β2 n)∧(∀o,h1.cell (blk β2 n) o=none)∧h1.obj (blk β2 n)=none)∧Own β2 h1 n (jM m2 post c') w'.heap[blk β2 n]?:=by
  intro c' n hs
  unfold jM
  cases hl:look post c' with
  | none=>exact⟨fun hd=>hd.elim,trivial⟩
  | some l'=>exact hpost c' n l' hl hs
 have g2:aO G F w0 h0 ⟨st'.regs,wY m2 nu post++fF (L.writes m2 post) st'.boxes⟩ β2 h1 a.tmps w':=by
  refine⟨g1.glob,g1.holds,g.ext.trans g1.ext,fun b hb hn=>?_,?_,fun s hs=>?_,g.size,fun t y hy=>?_,fun t k hk=>?_,fun t t' k k' hk hk' l1 l2 he=>?_⟩
  ·have hnF:¬F'.on b:=fun hF=>by
    rcases (Ac _ hF).1 with q|q
    ·exact hn q
    ·omega
   have q1:=g1.old b (Nat.lt_of_lt_of_le hb g.kept.size) hnF
   have q2:=g.old b hb hn
   exact⟨fun o=>(q1.1 o).trans (q2.1 o),q1.2.trans q2.2⟩
  ·refine⟨g1.kept.os.trans g.kept.os,g1.kept.tape.trans g.kept.tape,g1.kept.output.trans g.kept.output,Nat.le_trans g.kept.size g1.kept.size,fun k hk hn=>?_⟩
   have hnF:¬F'.on k:=fun hF=>by
    rcases (Ac _ hF).1 with q|q
    ·exact hn q
    ·omega
   exact(g1.kept.block k (Nat.lt_of_lt_of_le hk g.kept.size) hnF).trans (g.kept.block k hk hn)
  ·obtain ⟨q1,q2,q3⟩:=NC s fun p hp e=>by
    have:=QM (hnn p hp).2.2.1
    omega
   rw[q1,q2,q3];exact g.fix s hs
  ·obtain ⟨z,hz,hr⟩:=g.regs t y hy
   exact⟨z,hz,adS y z (fun p hp=>BG (hnn p hp).2.2.1 hy) (AV.rel.mono g1.ext y z hr)⟩
  ·rcases hlook t k hk with ⟨p,hp,rfl,rfl⟩|⟨hnt,⟨b,hb,rfl,rfl⟩|⟨hne,hst⟩⟩
   ·exact U6 p.1 p.2 (hnew _ _ hp)
   ·exact U6 b.2.1 b.1 (hback _ _ (zo b hb))
   ·obtain ⟨q1,q2⟩:=g.box t k hst
    have hs:=NC t hnt
    have hlv:Live β2 t k→Live β t k:=by
     intro hl
     cases hp:bU k with
     | true=>exact Live.plain hp
     | false=>
      rcases dN hp with ⟨x1,x2,x3,rfl⟩|rfl|⟨x1,x2,x3,rfl⟩
      ·simp only[Live,hs.2.1] at hl⊢;exact hl
      ·exact hl
      ·trivial
    rw[hs.1]
    refine⟨fun hl=>?_,?_⟩
    ·obtain ⟨r1,r2,r3⟩:=hother t k hst hne hnt (hlv hl)
     obtain ⟨u1,u2,u3⟩:=q1 (hlv hl)
     exact⟨u1,fun o=>(r2 o).trans (u2 o),r3.trans u3⟩
    ·have q3:=Own.move (fun hl=>(hother t k hst hne hnt hl).1) g1.ext q2
     cases hp:bU k with
     | true=>
      rw[Own.plain hp] at q3⊢
      obtain ⟨T,zs,e1,e2⟩:=q3
      exact⟨⟨T.1,T.2.trans hs.2.1.symm⟩,zs,e1,abB k zs (fun p hp=>AX (hnn p hp).2.2.1 hst) e2⟩
     | false=>
      rcases dN hp with ⟨x1,x2,x3,rfl⟩|rfl|⟨x1,x2,x3,rfl⟩
      ·simp only[Own,hs.2.1,hs.2.2] at q3⊢;exact q3
      ·trivial
      ·exact q3
  ·have cls:∀t k,look (wY m2 nu post++fF (L.writes m2 post) st'.boxes) t=some k→Live β2 t k→(∃c' l',look post c'=some l'∧Live β1 c' l'∧blk β2 t=blk β1 c'∧t=tX m2 c'∧(F'.on (blk β1 c')∨w.heap.size≤blk β1 c'))∨
     ((∀b∈L,t≠b.1)∧st'.box t=some k∧Live β t k∧blk β2 t=blk β t∧blk β t<w.heap.size):=by
    have back:∀c' n,sameAt β1 β2 c' n→n=tX m2 c'→Live β2 n (jM m2 post c')→∃c'' l',look post c''=some l'∧Live β1 c'' l'∧blk β2 n=blk β1 c''∧n=tX m2 c''∧(F'.on (blk β1 c'')∨w.heap.size≤blk β1 c''):=by
     intro c' n hs hn hl
     unfold jM at hl
     cases hlk:look post c' with
     | none=>rw[hlk] at hl;exact hl.elim
     | some l'=>
      rw[hlk] at hl
      have hl':=Live.carry hs hl
      exact⟨c',l',hlk,hl',hs.1,hn,((g1.box c' l' hlk).1 hl').1⟩
    intro t k hk hl
    have hn2:kD (m2.map (·.1))=true:=by
     rw[hm2,List.map_append,List.map_map]
     refine CJ (by exact n2) nn1 fun x hx hy=>?_
     obtain ⟨p,hp,rfl⟩:=List.mem_map.1 hx
     obtain ⟨q,hq,e⟩:=List.mem_map.1 hy
     have h3:=List.all_eq_true.1 hK0 _ hp
     simp only[Nat.ble_eq] at h3
     have h4:=(hnn q hq).1
     simp only[Function.comp] at e
     omega
    rcases hlook t k hk with ⟨p,hp,rfl,rfl⟩|⟨hnt,⟨b,hb,rfl,rfl⟩|⟨hne,hst⟩⟩
    ·exact .inl (back p.1 p.2 (hnew _ _ hp) (zY hn2 (by rw[hm2];exact List.mem_append_right _ hp)).1.symm hl)
    ·exact .inl (back b.2.1 b.1 (hback _ _ (zo b hb)) (zY hn2 (by rw[hm2];exact List.mem_append_left _ (List.mem_map.2 ⟨_,zo b hb,rfl⟩))).1.symm hl)
    ·have hs:=NC t hnt
     have hlv:Live β t k:=by
      cases hp:bU k with
      | true=>exact Live.plain hp
      | false=>
       rcases dN hp with ⟨x1,x2,x3,rfl⟩|rfl|⟨x1,x2,x3,rfl⟩
       ·simp only[Live,hs.2.1] at hl⊢;exact hl
       ·exact hl
       ·trivial
     exact .inr ⟨hne,hst,hlv,hs.1,Own.lt hlv (g.box t k hst).2⟩
   rcases cls t k hk l1 with ⟨c1,k1,a1',a2',a3',a4',a5'⟩|⟨b1,b2,b3,b4,b5⟩<;>rcases cls t' k' hk' l2 with ⟨c2,k2,d1,d2,d3,d4,d5⟩|⟨e1,e2,e3,e4,e5⟩
   ·rw[a3',d3] at he
    have:=g1.inj _ _ _ _ a1' d1 a2' d2 he
    rw[a4',d4,this]
   ·exfalso
    rw[a3',e4] at he
    rcases a5' with q|q
    ·exact(Ac _ q).2 t' k' e2 e3 e1 he.symm
    ·omega
   ·exfalso
    rw[b4,d3] at he
    rcases d5 with q|q
    ·exact(Ac _ q).2 t k b2 b3 b1 he
    ·omega
   ·rw[b4,e4] at he
    exact g.inj _ _ _ _ b2 e2 b3 e3 he
 exact⟨β2,g2,fun x v hx hr=>yT aaj x v hx hr⟩
theorem Jz {c:Call} (ho:o.op=.call c) {x:Operand} (hc:c.callee=.value x) {f:FuncId} {a1 a2:List AV} (hx:kG (ρ x)=some (f,a1,a2)) {m nu:List (Nat×Nat)} {L:qE} (hL:wB st m=some L) {r:AV} {post:List (Nat×List AV)}
  {m2:List (Nat×Nat)} (hm2:m2=(m.map fun p=>(p.2,p.1))++nu) (hok:xJ L m nu m2 (a1++(c.args.toList.map ρ++a2)) r post=true)
  (hf:dD P G f (AV.carries m (a1++(c.args.toList.map ρ++a2))) (L.pre m) r post) :
  Core P G o ρ st { dst:=o.dst,val:=AV.carry m2 r,iV:=L.reads,jE:=L.writes m2 post,nw:=wY m2 nu post }:=by
 intro F w0 h0 st' β h a w K Q hlen hag hfr g hdf hop hK
 have hok0:=hok
 simp only[xJ,aY] at hok
 obtain ⟨n1,n2,hK0,hwa,hLw,nn1,nn2,hnu,hwr,hwp⟩:=hok
 obtain ⟨XK,hLb⟩:=wU hL
 -- the afz blocks,as they are
 have hbx:∀b∈L,st'.box b.1=some b.2.2:=by
  intro b hb
  have hne:b.2.2≠[]:=by
   have:=List.all_eq_true.1 hLw b hb
   simp only[aY,Bool.not_eq_true',List.isEmpty_eq_false_iff] at this
   exact this.2.1
  refine UM (hLb b hb) (fun i hi=>hag _ ?_) hne
  simp only[List.any_append,List.any_map,Bool.or_eq_true,List.any_eq_true,Function.comp]
  refine .inl ⟨(b.1,i),?_,by simp[Loc.hits]⟩
  simp only[qE.reads,List.mem_flatMap,List.mem_map,List.mem_range]
  exact⟨b,hb,i,hi,rfl⟩
 obtain ⟨F',βc,us,gc,jq,back⟩:=acA ho hc hx hL hm2 hok0 hbx (fun p hp=>hfr (p.2,jM m2 post p.1) (List.mem_map.2 ⟨p,hp,rfl⟩)) g hop
 unfold Oper.wp
 rw[jq,hf.1,Oper.upon_enter]
 refine(hf.2 F' w h βc _ gc).mono ?_
 rintro e w' ⟨v,β1,h1,rfl,g1⟩
 obtain ⟨β2,g2,hrel⟩:=back w' β1 h1 _ _ g1
 refine hK _ _ β2 h1 (by rw[put_defers];exact hdf) ?_
 rw[dK]
 obtain ⟨v',hv',hr'⟩:=g1.regs 0 r (by simp)
 have hvv:v'=v:=by simpa using hv'.symm
 subst hvv
 exact g2.put (x:=AV.carry m2 r) (hrel r v' hwr hr')
end ops
end Go.Ab
namespace Go.Ab
open Go Go.RowKit
theorem L6:∀(W:List (Nat×Nat×AV)) (B:List (Nat×List AV)),(∀x∈W,cellAt B x.1 x.2.1=some x.2.2)→∀t,look (fF W B) t=look B t
 | [],_,_,_=>rfl
 | (s,i,x) :: W,B,h,t=>by
  have h0:=h (s,i,x) (List.mem_cons_self ..)
  have e:∀t,look (setCells s i x B) t=look B t:=by
   intro t
   rw[lI]
   split
   ·rename_i hts
    subst hts
    unfold cellAt at h0
    cases hb:look B t with
    | none=>rfl
    | some l=>
     simp only[hb,Option.bind_some] at h0
     obtain ⟨h1,h2⟩:=List.getElem?_eq_some_iff.1 h0
     have h2:l[i]=x:=h2
     simp only[Option.map_some]
     rw[←h2,List.set_getElem_self]
   ·rfl
  rw[fF,L6 W _ (fun y hy=>by unfold cellAt;rw[e];exact h y (List.mem_cons_of_mem _ hy)) t,e]
section
variable {P:Program} {G:IH} {o:Oper} {ρ:Operand→AV} {st:AS}
theorem Core.ro {e:Ev} (h:Core P G o ρ st e) (hrd:∀x∈e.jE,(x.1,x.2.1)∈e.iV) (hs:∀x∈e.jE,cellAt st.boxes x.1 x.2.1=some x.2.2):Core P G o ρ st { e with jE:=[] }:=by
 intro F w0 h0 st' β h' a w K Q hlen hag hfr g hd hop hK
 refine h F w0 h0 st' β h' a w K Q hlen (fun p hp=>hag p ?_) hfr g hd hop (fun a' w' β' h'' hd' g'=>hK a' w' β' h'' hd' ?_)
 ·simp only[Ev.writes,List.any_append,List.any_map,Bool.or_eq_true,List.map_nil,List.any_nil,Bool.false_eq_true,false_or] at hp⊢
  rcases hp with hp|hp|hp|hp
  ·exact .inl hp
  ·exact .inr (.inl hp)
  ·obtain ⟨x,hx,hh⟩:=List.any_eq_true.1 hp
   exact .inl (List.any_eq_true.2 ⟨_,hrd x hx,hh⟩)
  ·exact .inr (.inr hp)
 ·have Sz:∀x∈e.jE,cellAt st'.boxes x.1 x.2.1=some x.2.2:=by
   intro x hx
   have h1:=hag (.cell x.1 x.2.1) (by
    simp only[List.any_append,List.any_map,Bool.or_eq_true]
    exact .inl (List.any_eq_true.2 ⟨_,hrd x hx,by simp[Loc.hits]⟩))
   simp only[AS.at_,bg,and_true] at h1
   have h2:=hs x hx
   unfold cellAt at h2⊢
   exact h1.trans h2
  have hl:=L6 e.jE st'.boxes Sz
  have hbox:∀t,(({ e with jE:=[] }:Ev).app st').box t=(e.app st').box t:=by
   intro t
   simp only[Ev.app,AS.box,o8,fF,hl]
  exact⟨g'.glob,g'.holds,g'.ext,g'.old,g'.kept,g'.fix,g'.size,g'.regs,fun s l hb=>g'.box s l (by rw[←hbox];exact hb),fun s s' l l' hb hb'=>g'.inj s s' l l' (by rw[←hbox];exact hb) (by rw[←hbox];exact hb')⟩
end
theorem Js {u:Nat}:∀{l:List AV} {k:Nat} {x:Nat×Nat×AV},x∈lM u k l→∃i,∃h:i<l.length,x=(u,k+i,l[i])
 | [],_,_,h=>by simp[lM] at h
 | y :: l,k,x,h=>by
  simp only[lM,List.mem_cons] at h
  rcases h with rfl|h
  ·exact⟨0,by simp,rfl⟩
  ·obtain ⟨i,hi,rfl⟩:=Js h
   exact⟨i+1,by simpa using hi,by simp only[List.getElem_cons_succ];congr 2;omega⟩
def AU (m2:List (Nat×Nat)) (post:List (Nat×List AV)):qE→List Prop
 | []=>[]
 | b :: L=>(jM m2 post b.2.1=b.2.2) :: AU m2 post L
theorem Ea {m2:List (Nat×Nat)} {post:List (Nat×List AV)}:∀{L:qE},(∀c∈AU m2 post L,c)→∀b∈L,jM m2 post b.2.1=b.2.2
 | [],_,b,hb=>by simp at hb
 | a :: L,h,b,hb=>by
  rcases List.mem_cons.1 hb with rfl|hb
  ·exact h _ (List.mem_cons_self ..)
  ·exact Ea (fun c hc=>h c (List.mem_cons_of_mem _ hc)) b hb
theorem MV {P:Program} {G:IH} {o:Oper} {ρ:Operand→AV} {st:AS} {c:Call} (ho:o.op=.call c) {x:Operand} (hc:c.callee=.value x) {f:FuncId} {a1 a2:List AV} (hx:kG (ρ x)=some (f,a1,a2)) {m nu:List (Nat×Nat)} {L:qE} (hL:wB st m=some L) {r:AV} {post:List (Nat×List AV)}
  {m2:List (Nat×Nat)} (hm2:m2=(m.map fun p=>(p.2,p.1))++nu) (hok:xJ L m nu m2 (a1++(c.args.toList.map ρ++a2)) r post=true)
  (hf:dD P G f (AV.carries m (a1++(c.args.toList.map ρ++a2))) (L.pre m) r post) (hsame:∀c∈AU m2 post L,c) :
  Core P G o ρ st { dst:=o.dst,val:=AV.carry m2 r,iV:=L.reads,jE:=[],nw:=wY m2 nu post }:=by
 have hb:=Ea hsame
 obtain ⟨_,hLb⟩:=wU hL
 have hmem:∀y∈L.writes m2 post,∃b∈L,∃i,∃h:i<b.2.2.length,y=(b.1,i,b.2.2[i]):=by
  intro y hy
  obtain ⟨b,hbm,h1⟩:=List.mem_flatMap.1 hy
  rw[hb b hbm] at h1
  obtain ⟨i,hi,e⟩:=Js h1
  exact⟨b,hbm,i,hi,by rw[e,Nat.zero_add]⟩
 refine Core.ro (Jz ho hc hx hL hm2 hok hf) (fun y hy=>?_) (fun y hy=>?_)
 ·obtain ⟨b,hbm,i,hi,rfl⟩:=hmem y hy
  exact List.mem_flatMap.2 ⟨b,hbm,List.mem_map.2 ⟨i,List.mem_range.2 (by omega),rfl⟩⟩
 ·obtain ⟨b,hbm,i,hi,rfl⟩:=hmem y hy
  have:=hLb b hbm
  unfold cellAt
  rw[show look st.boxes b.1=some b.2.2 from this]
  exact gy hi
def xw (P:Program) (T:TypeId):Option (Nat×TypeId):=match P.underlying T with|some (.array n e)=>some (n,e)|_=>none
theorem Ku {P:Program} {G:IH} {o:Oper} {ρ:Operand→AV} {st:AS} {T:TypeId} {x i:Operand} (ho:o.op=.index T x i) {n:Nat} {e:TypeId} (hT:xw P T=some (n,e)) (hu:oQ P e=true) {sz:Nat} (hz:sizeT P e=some sz)
  {l:List AV} (hl:kU (ρ x)=some l) {k:IntKind} {m:Int} (hi:ρ i=.d (.con (.int k m))) (hm:0≤m∧m<n) {y:AV} (hy:vC (dH P e) l (m.toNat*sz) sz=some y):Core P G o ρ st { dst:=o.dst,val:=y }:=
 bP fun β h a w _ _ hop=>by
  obtain ⟨vs,hv,hr⟩:=uo hl (hop x (by simp[ho,Op.operands]))
  have hiv:=hop i (by simp[ho,Op.operands])
  rw[hi] at hiv
  simp only[AV.rel,DV.rel] at hiv
  obtain ⟨v,hrun,hxr⟩:=CG hu hz hr hy w
  refine⟨v,?_,hxr⟩
  have hTu:P.underlying T=some (.array n e):=by
   unfold xw at hT
   split at hT
   ·rename_i hu2
    simp only[aI,bg] at hT
    obtain ⟨rfl,rfl⟩:=hT
    exact hu2
   ·cases hT
  simp only[execOp,ho,hiv,hv,Instr.index,Sem.run_bind,asIntOf,Sem.run_pure,Result.andThen_ok,run_underlying hTu,if_pos hm,fK hz,hrun]
end Go.Ab
namespace Go.Ab
open Go Go.RowKit
def yL (P:Program) (T:TypeId):Bool:=match P.underlying T with|some (.slice _)=>!(P.eqGuardType P.depth T)|_=>false
theorem Qk {P:Program} {G:IH} {o:Oper} {ρ:Operand→AV} {st:AS} {T U:TypeId} {x y:Operand} (ho:o.op=.binOp .eql T x y U) (hT:yL P T=true) {sz n:Nat} {f:Nat→DV} (hx:ρ x=.d (.slc sz n f)) (hy:ρ y=.d (.con (.slice none 0 0))) (hn:0<n) :
  Core P G o ρ st { dst:=o.dst,val:=.d (.con (.bool false)) }:=
 bP fun β h a w _ _ hop=>by
  have hxv:=hop x (by simp[ho,Op.operands])
  have hyv:=hop y (by simp[ho,Op.operands])
  rw[hx] at hxv;rw[hy] at hyv
  obtain ⟨p,cap,e,_,r⟩:=hxv
  have hyv:a.eval y=.slice none 0 0:=hyv
  rcases r with r|⟨b,off,rfl,_⟩
  ·omega
  ·unfold yL at hT
   split at hT
   ·rename_i el hu
    simp only[Bool.not_eq_true'] at hT
    have gen:∀d,(Op.equalIn (d+1) T (.slice (some ⟨b,off,none⟩) n cap) (.slice none 0 0)).run P w=.ok false w:=by
     intro d
     simp only[Op.equalIn,Sem.run_bind,run_underlying hu,Result.andThen_ok,Sem.run_pure]
    have heq:(Op.equal T (.slice (some ⟨b,off,none⟩) n cap) (.slice none 0 0)).run P w=.ok false w:=gen 9999
    have hguard:(eqGuard .eql T x y (.slice (some ⟨b,off,none⟩) n cap) (.slice none 0 0)).run P w=.ok () w:=by simp[eqGuard]
    refine⟨_,?_,rfl⟩
    simp only[execOp,ho,e,hyv,Sem.run_bind,hguard,Result.andThen_ok,binOp,heq,Sem.run_pure]
   ·cases hT
theorem Jh {P:Program} {G:IH} {o:Oper} {ρ:Operand→AV} {st:AS} {T U:TypeId} {x y:Operand} (ho:o.op=.binOp .eql T x y U) (hT:yL P T=true) {s sz lo n:Nat} (hx:ρ x=.vec s sz lo n) (hy:ρ y=.d (.con (.slice none 0 0))) (hn:0<n) :
  Core P G o ρ st { dst:=o.dst,val:=.d (.con (.bool false)) }:=
 bP fun β h a w _ _ hop=>by
  have hxv:=hop x (by simp[ho,Op.operands])
  have hyv:=hop y (by simp[ho,Op.operands])
  rw[hx] at hxv;rw[hy] at hyv
  obtain ⟨k1,k2,p,e,r⟩:=hxv
  have hyv:a.eval y=.slice none 0 0:=hyv
  rcases r with rfl|r
  ·unfold yL at hT
   split at hT
   ·rename_i el hu
    simp only[Bool.not_eq_true'] at hT
    have gen:∀d,(Op.equalIn (d+1) T (.slice (some ⟨blk β s,lo*sz,none⟩) n (room β s-lo)) (.slice none 0 0)).run P w=.ok false w:=by
     intro d
     simp only[Op.equalIn,Sem.run_bind,run_underlying hu,Result.andThen_ok,Sem.run_pure]
    have heq:(Op.equal T (.slice (some ⟨blk β s,lo*sz,none⟩) n (room β s-lo)) (.slice none 0 0)).run P w=.ok false w:=gen 9999
    have hguard:(eqGuard .eql T x y (.slice (some ⟨blk β s,lo*sz,none⟩) n (room β s-lo)) (.slice none 0 0)).run P w=.ok () w:=by simp[eqGuard]
    refine⟨_,?_,rfl⟩
    simp only[execOp,ho,e,hyv,Sem.run_bind,hguard,Result.andThen_ok,binOp,heq,Sem.run_pure]
   ·cases hT
  ·omega
def Pz (P:Program) (T:TypeId):Bool:=match P.underlying T with|some (.pointer _)=>true|_=>false
def Jc (x:AV):Bool:=match x with | .box _ _ | .elem _ _ _ _ | .tb _ _ _ | .d (.ptr _)=>true|_=>false
theorem TR {x:AV} (hx:Jc x=true) {β:Nat→Nat} {h:IH} {v:Value} (hv:x.rel β h v):∃a,v=.pointer (some a):=by
 unfold Jc at hx
 split at hx
 ·exact⟨_,hv⟩
 ·exact⟨_,hv.2.2⟩
 ·exact⟨_,hv.1⟩
 ·obtain ⟨b,off,e,_⟩:=hv;exact⟨_,e⟩
 ·cases hx
theorem Eb {P:Program} {G:IH} {o:Oper} {ρ:Operand→AV} {st:AS} {T U:TypeId} {x y:Operand} {neq:Bool} (ho:o.op=.binOp (if neq then .neq else .eql) T x y U) (hT:Pz P T=true) (hx:Jc (ρ x)=true) (hy:ρ y=.d (.con (.pointer none))) :
  Core P G o ρ st { dst:=o.dst,val:=.d (.con (.bool neq)) }:=
 bP fun β h a w _ _ hop=>by
  have hxv:=hop x (by simp[ho,Op.operands])
  have hyv:=hop y (by simp[ho,Op.operands])
  rw[hy] at hyv
  obtain ⟨p,e⟩:=TR hx hxv
  have hyv:a.eval y=.pointer none:=hyv
  unfold Pz at hT
  split at hT
  ·rename_i el hu
   have gen:∀d,(Op.equalIn (d+1) T (.pointer (some p)) (.pointer none)).run P w=.ok false w:=by
    intro d
    simp only[Op.equalIn,Sem.run_bind,run_underlying hu,Result.andThen_ok,Sem.run_pure]
   have heq:(Op.equal T (.pointer (some p)) (.pointer none)).run P w=.ok false w:=gen 9999
   refine⟨.bool neq,?_,rfl⟩
   cases neq with
   | true=>
    have hguard:(eqGuard .neq T x y (.pointer (some p)) (.pointer none)).run P w=.ok () w:=by simp[eqGuard]
    simp only[execOp,ho,if_true,e,hyv,Sem.run_bind,hguard,Result.andThen_ok,binOp,heq,Sem.run_pure,Bool.not_false]
   | false=>
    have hguard:(eqGuard .eql T x y (.pointer (some p)) (.pointer none)).run P w=.ok () w:=by simp[eqGuard]
    simp only[execOp,ho,Bool.false_eq_true,if_false,e,hyv,Sem.run_bind,hguard,Result.andThen_ok,binOp,heq,Sem.run_pure]
  ·cases hT
end Go.Ab
namespace Go.Ab
open Go
variable {P:Program} {G:IH} {o:Oper} {ρ:Operand→AV} {st:AS}
theorem dw.G9 {h:IH} {agg:RK} {sz c m q k:Nat} {mn:Option Nat} {f gs:Nat→DV} {fr:Nat×Nat} {vs us:List Value} (hR:dw h agg sz f c m (some (.cells vs.toArray agg.ty fr))) (hc:0<c) (hq:q+k≤m) (hmn:∀N,mn=some N→c=N∧m=N) (hu:Cells h agg.agg sz k gs us) :
  dw h ⟨agg.agg,agg.ty,agg.fz,mn⟩ sz (fun i=>bif Nat.blt i q then f i else bif Nat.blt i (q+k) then gs (i-q) else f i) c m (some (.cells (kY vs (q*sz) us).toArray agg.ty fr)):=by
 obtain ⟨h1,h2⟩:=hR
 rcases h2 with h2|⟨fr',vs',e,hfr,hl,ho,hel⟩
 ·omega
 simp only[aI,Obj.cells.injEq] at e
 obtain ⟨e1,_,rfl⟩:=e
 have:vs=vs':=by simpa using e1
 subst this
 have hlen:=hu.len
 have hle:(q+k)*sz≤c*sz:=Nat.mul_le_mul_right _ (by omega)
 rw[Nat.add_mul] at hle
 have hfit:q*sz+us.length≤vs.length:=by omega
 have bf:∀{a b:Nat},¬a<b→Nat.blt a b=false:=fun {a b} h=>by rw[Bool.eq_false_iff,ne_eq,Nat.blt_eq];exact h
 have bt:∀{a b:Nat},a<b→Nat.blt a b=true:=fun {a b} h=>by rw[Nat.blt_eq];exact h
 refine⟨⟨h1.1,hmn⟩,.inr ⟨fr,_,rfl,by rw[ni];exact hfr,by rw[ni];exact hl,fun u hx=>?_,fun i hi=>?_⟩⟩
 ·obtain ⟨j,hj⟩:=List.mem_iff_getElem?.1 hx
  rw[kW _ _ _ _ hfit] at hj
  split at hj
  ·exact hu.one u (List.mem_of_getElem? hj)
  ·exact ho u (List.mem_of_getElem? hj)
 ·by_cases hr:q≤i∧i<q+k
  ·obtain ⟨v,a1,a2,a3,a4⟩:=hu.el (i-q) (by omega)
   refine⟨v,?_,a2,a3,fun j hj=>?_⟩
   ·simp only[bf (show ¬i<q by omega),bt hr.2,cond_true,cond_false];exact a1
   ·have e1:=Nat.mul_le_mul_right sz hr.1
    have e2:=Nat.mul_le_mul_right sz (show i+1≤q+k by omega)
    rw[Nat.add_mul,Nat.add_mul,Nat.one_mul] at e2
    rw[kW _ _ _ _ hfit,if_pos ⟨by omega,by omega⟩,←a4 j hj,Nat.sub_mul]
    congr 1;omega
  ·obtain ⟨v,a1,a2,a3,a4⟩:=hel i hi
   refine⟨v,?_,a2,a3,fun j hj=>?_⟩
   ·by_cases hq':i<q
    ·simp only[bt hq',cond_true];exact a1
    ·simp only[bf hq',bf (show ¬i<q+k by omega),cond_false];exact a1
   ·rw[kW _ _ _ _ hfit,if_neg,a4 j hj]
    rcases Nat.lt_or_ge i q with hlt|hge
    ·have:=Nat.mul_le_mul_right sz (show i+1≤q by omega)
     rw[Nat.add_mul,Nat.one_mul] at this;omega
    ·have:=Nat.mul_le_mul_right sz (show q+k≤i by omega)
     rw[Nat.add_mul] at this;omega
theorem H8 {c:Call} (ho:o.op=.call c) (lg:c.callee=.builtin .append) {sx x:Operand} (ha:c.args=#[sx,x]) {T tx E E':TypeId} (ht:c.argTypes=#[T,tx]) (hT:bF P T=some E) (hT':bF P tx=some E') {d:Nat} (hdst:o.dst=some d)
  {sz:Nat} (hsz:sizeT P E=some sz) {agg:RK} (hfz:agg.fz=false) {s lo n lo' k:Nat} {f:Nat→DV} (hs:ρ sx=.vec s sz lo n) (hx:ρ x=.vec s sz lo' k) (hb:st.box s=some [.arr agg sz f])
  (hle:lo+n≤lo'∧lo<lo') :
  Core P G o ρ st { dst:=some d,val:=.vec s sz lo (n+k),iV:=[(s,0)],jE:=[(s,0,.arr agg sz fun i=>bif Nat.blt i (lo+n) then f i else bif Nat.blt i (lo+n+k) then f (lo'+(i-(lo+n))) else f i)] }:=by
 intro F w0 h0 st' β h a w K Q hlen hag hfr g hdf hop hK
 have hsv:=hop sx (by simp[ho,Op.operands,Call.operands,ha])
 have hxv:=hop x (by simp[ho,Op.operands,Call.operands,ha])
 rw[hs] at hsv
 have aaH:=hxv
 rw[hx] at aaH
 obtain ⟨k1,k2,p,hv,hp⟩:=hsv
 obtain ⟨k3,_,_,_,_⟩:=aaH
 have hb':=g.kZ (nN hag (.inr ⟨_,List.mem_singleton.2 rfl⟩) hb)
 rw[hx] at hxv
 obtain ⟨news,hsrc1,hcl⟩:=KG (P:=P) (G:=G) (lo:=lo') (k:=k) hT' hb F w0 h0 st' β h a.tmps w _ g (fun r hr=>hag _ (by
  simp only[List.any_append,List.any_map,Bool.or_eq_true,List.any_eq_true,Function.comp]
  exact .inl ⟨r,hr,by simp[Loc.hits]⟩)) hxv
 have hls:Live β s [.arr agg sz f]:=by show 0<room β s;omega
 have hR:=(g.box s _ hb').2
 simp only[Own] at hR
 have hR':=hR
 obtain ⟨_,hR2⟩:=hR'
 rcases hR2 with h2|⟨fr,vs,hh,nS,hvl,LP,hel⟩
 ·omega
 have nS:=nS hfz
 rw[hh] at hR
 obtain ⟨i,hi,hisz⟩:∃i,P.info? E=some i∧i.size=sz:=by
  unfold sizeT at hsz
  cases hi:P.info? E with
  | none=>simp[hi] at hsz
  | some i=>rw[hi] at hsz;exact⟨i,rfl,Option.some.inj hsz⟩
 have hpp:p=some ⟨blk β s,lo*sz,none⟩:=hp.resolve_right (by omega)
 subst hpp
 have hnl:=hcl.len
 have hle2:(lo+n+k)*sz≤room β s*sz:=Nat.mul_le_mul_right _ (by omega)
 rw[Nat.add_mul,Nat.add_mul] at hle2
 have hrun:=run_append_room_src (P:=P) w T tx o.type E i (bC hT) hi (blk β s) (lo*sz) n (room β s-lo) _ k news (by rw[hisz];exact hsrc1) (by omega) (fun j hj=>by
   rw[hisz]
   have:lo*sz+n*sz+j<vs.length:=by omega
   simp only[World.cell?,hh]
   simp;omega) (fun j hj=>by
   rw[hisz]
   have:=nS (lo*sz+n*sz+j) (by omega)
   simp only[World.frozen?,hh]
   simpa using this)
 rw[hisz,←Nat.add_mul] at hrun
 have jq:(execOp a.eval o).run P w=.ok (.value (.slice (some ⟨blk β s,lo*sz,none⟩) (n+k) (room β s-lo))) (w.setCells (blk β s) ((lo+n)*sz) news):=by
  simp only[execOp,ho,resolve,lg,ha,ht,Sem.run_bind,Sem.run_pure,Result.andThen_ok,invoke,builtin,List.map_toArray,List.map_cons,List.map_nil,hv,hrun]
 unfold Oper.wp
 rw[jq,Oper.upon_value]
 refine hK _ _ β h (by rw[put_defers];exact hdf) ?_
 rw[dK,hdst]
 have hRow:=hR.G9 (q:=lo+n) (k:=k) (mn:=agg.mn) (by omega) (by omega) hR.1.2 hcl
 have g':=g.write (l':=[.arr agg sz fun i=>bif Nat.blt i (lo+n) then f i else bif Nat.blt i (lo+n+k) then f (lo'+(i-(lo+n))) else f i]) hb' hls (kJ news ((lo+n)*sz) w) (by
  rw[jA news vs _ w hh];exact hRow) (eG (i:=0) (x:=.arr agg sz fun i=>bif Nat.blt i (lo+n) then f i else bif Nat.blt i (lo+n+k) then f (lo'+(i-(lo+n))) else f i) hb')
 refine g'.put (t:=some d) (x:=.vec s sz lo (n+k)) (v:=.slice (some ⟨blk β s,lo*sz,none⟩) (n+k) (room β s-lo)) ?_
 exact⟨by omega,k2,_,rfl,.inl rfl⟩
theorem Ic {lo hi:Option Operand} {len cap:Nat} {l m:Int} (hl:gV ρ lo 0=some l) (hm:gV ρ hi len=some m) (h0:0≤l∧l≤m) (hcap:m≤cap) {β:Nat→Nat} {h:IH} {a:Act} (isS:Bool)
  (hop:∀z,lo=some z∨hi=some z→(ρ z).rel β h (a.eval z)) (w:World):(Instr.sliceBounds isS len cap (lo.map a.eval) (hi.map a.eval) none).run P w=.ok (l.toNat,m.toNat,cap) w:=by
 have hh:=pX (P:=P) (y:=cap) hm (by omega) (fun z hz=>hop z (.inr hz)) (if isS then .sliceAcap else .sliceAlen) w
 have hl':=pX (P:=P) (y:=m.toNat) hl (by omega) (fun z hz=>hop z (.inl hz)) .sliceB w
 cases hi with
 | none=>
  obtain rfl:m=len:=hh
  cases lo with
  | none=>obtain rfl:l=0:=hl';simp[Instr.sliceBounds]
  | some z=>
   have hl'':(Instr.sliceBound (a.eval z) len .sliceB).run P w=.ok l.toNat w:=by simpa using hl'
   simp[Instr.sliceBounds,hl'']
 | some y=>
  have hh':(Instr.sliceBound (a.eval y) cap (if isS then .sliceAcap else .sliceAlen)).run P w=.ok m.toNat w:=hh
  cases lo with
  | none=>obtain rfl:l=0:=hl';simp[Instr.sliceBounds,hh']
  | some z=>
   have hl'':(Instr.sliceBound (a.eval z) m.toNat .sliceB).run P w=.ok l.toNat w:=hl'
   simp[Instr.sliceBounds,hh',hl'']
theorem IQ {T E:TypeId} {x:Operand} {lo hi:Option Operand} (ho:o.op=.slice T x lo hi none) (hT:bF P T=some E) {s sz pR n N:Nat} (hx:ρ x=.vec s sz pR n) (hsz:sizeT P E=some sz) {agg:RK} {sz':Nat} {f:Nat→DV} (hb:st.box s=some [.arr agg sz' f]) (hN:agg.mn=some N) {l m:Int} (hl:gV ρ lo 0=some l) (hm:gV ρ hi n=some m)
  (h0:0≤l∧l≤m∧pR+m≤N):Core P G o ρ st { dst:=o.dst,val:=.vec s sz (pR+l.toNat) (m-l).toNat,iV:=[(s,0)] }:=by
 intro F w0 h0' st' β h a w K Q hlen hag hfr g hdf hop hK
 have hxv:=hop x (by simp[ho,Op.operands])
 rw[hx] at hxv
 obtain ⟨k1,k2,p,hv,hp⟩:=hxv
 have hb':=g.kZ (nN hag (.inl (by simp)) hb)
 have hR:=(g.box s _ hb').2
 simp only[Own] at hR
 have hmn:N≤many β s:=Nat.le_of_eq (hR.1.2 N hN).2.symm
 have hb:=Ic (P:=P) (isS:=true) hl hm ⟨h0.1,h0.2.1⟩ (cap:=room β s-pR) (by omega) (a:=a) (β:=β) (h:=h) (fun z hz=>hop z (by
  rcases hz with hz|hz<;>simp[ho,Op.operands,hz])) w
 unfold Oper.wp
 have:(execOp a.eval o).run P w=.ok (.value (.slice (if room β s-pR=l.toNat then p else p.map (·.add (l.toNat*sz))) (m.toNat-l.toNat) (room β s-pR-l.toNat))) w:=by
  simp only[execOp,ho,hv,Instr.sliceAt,Instr.slice,Sem.run_bind,run_underlying (bC hT),Result.andThen_ok,Option.map_none,hb,fK hsz,Sem.run_pure]
 rw[this,Oper.upon_value]
 refine hK _ _ β h (by rw[put_defers];exact hdf) ?_
 rw[dK]
 refine g.put (x:=.vec s sz (pR+l.toNat) (m-l).toNat) ⟨by omega,k2,_,by rw[show (m-l).toNat=m.toNat-l.toNat from by omega,Nat.sub_sub],?_⟩
 by_cases hr:room β s≤pR+l.toNat
 ·exact .inr hr
 ·left
  rw[if_neg (by omega)]
  rcases hp with rfl|hp
  ·simp[kT,Nat.add_mul]
  ·omega
theorem Qj {T E:TypeId} {x:Operand} {lo hi:Option Operand} {mx:Operand} (ho:o.op=.slice T x lo hi (some mx)) (hT:bF P T=some E) {s sz pR n:Nat} (hx:ρ x=.vec s sz pR n) (hsz:sizeT P E=some sz) {hi':Operand} (hh:hi=some hi') {l m M:Int} (hl:gV ρ lo 0=some l) (hm:gV ρ hi n=some m) (hM:gV ρ (some mx) n=some M)
  (h0:0≤l∧l≤m∧m≤M∧M≤n):Core P G o ρ st { dst:=o.dst,val:=.any }:=
 bP fun β h a w _ _ hop=>by
  have hxv:=hop x (by simp[ho,Op.operands])
  rw[hx] at hxv
  obtain ⟨k1,k2,p,hv,hp⟩:=hxv
  subst hh
  have e1:=pX (P:=P) (y:=room β s-pR) hM (by omega) (fun z hz=>hop z (by simp at hz;subst hz;simp[ho,Op.operands])) .slice3Acap w
  have e2:=pX (P:=P) (y:=M.toNat) hm (by omega) (fun z hz=>hop z (by simp at hz;subst hz;simp[ho,Op.operands])) .slice3B w
  have e3:=pX (P:=P) (y:=m.toNat) hl (by omega) (fun z hz=>hop z (by simp[ho,Op.operands,hz])) .slice3C w
  simp only[Option.map_some] at e1 e2
  cases lo with
  | none=>
   have e3:l=0:=e3
   subst e3
   refine⟨_,by simp[execOp,ho,hv,Instr.sliceAt,Instr.slice,Sem.run_bind,run_underlying (bC hT),Instr.sliceBounds,e1,e2,fK hsz];rfl,trivial⟩
  | some z=>
   simp only[Option.map_some] at e3
   refine⟨_,by simp[execOp,ho,hv,Instr.sliceAt,Instr.slice,Sem.run_bind,run_underlying (bC hT),Instr.sliceBounds,e1,e2,e3,fK hsz];rfl,trivial⟩
theorem Jf {h:IH} {agg:Bool} {z:List Value} {sz:Nat} (n:Nat) (hzl:z.length=sz) (_:0<sz) (hone:z.all (·.oneCell')=true) (hform:(agg||Nat.beq z.length 1)=true):Cells h agg sz n (fun _=>ug agg z) (Builtin.zeroCells z.toArray n).toList where
 len:=by simp[Builtin.zeroCells,hzl]
 one:=rQ (fun u hu=>List.all_eq_true.1 hone u (by simpa using hu)) n
 el i hi:=by
  obtain ⟨z1,z2⟩:=PN (agg:=agg) hone hform
  refine⟨zeroV agg z,LG h _ z,z1,?_,fun j hj=>?_⟩
  ·have:(zeroV agg z).cells.toList.length=sz:=by rw[z2,hzl]
   simpa using this
  ·have hm:=CP (z:=z) (c:=n) (i:=i) (j:=j) hi (by omega)
   rw[hzl] at hm
   have e0:Builtin.zeroCells z.toArray n=madeCells z.toArray (n*sz):=by simp[Builtin.zeroCells,madeCells,hzl]
   simp only[Array.getElem?_toList,e0]
   rw[hm]
   have e:z[j]?=(zeroV agg z).cells.toList[j]?:=by rw[z2]
   rw[e];simp
theorem TF {c:Call} (ho:o.op=.call c) (lg:c.callee=.builtin .clear) (hdst:o.dst=none) {x:Operand} (ha:c.args=#[x]) {T E:TypeId} (ht:c.argTypes=#[T]) (hT:bF P T=some E) {sz:Nat} {z:List Value} (hz:zeroOf P E=some z) (hzl:z.length=sz) (hpos:0<sz)
  (hone:z.all (·.oneCell')=true) {agg:RK} (hform:(agg.agg||Nat.beq z.length 1)=true) (hfz:agg.fz=false) {s lo n:Nat} {f:Nat→DV} (hx:ρ x=.vec s sz lo n) (hb:st.box s=some [.arr agg sz f]) (hn:0<n) :
  Core P G o ρ st { dst:=none,val:=.any,jE:=[(s,0,.arr agg sz fun i=>bif Nat.blt i lo then f i else bif Nat.blt i (lo+n) then ug agg.agg z else f i)] }:=by
 intro F w0 h0 st' β h a w K Q hlen hag hfr g hdf hop hK
 have hxv:=hop x (by simp[ho,Op.operands,Call.operands,ha])
 rw[hx] at hxv
 obtain ⟨k1,k2,p,hv,hp⟩:=hxv
 obtain ⟨i,zv,hi,hzz,hzc⟩:=tq hz
 have hzv:zv.cells=z.toArray:=by rw[←hzc]
 have hb':=g.kZ (nN hag (.inr ⟨_,List.mem_singleton.2 rfl⟩) hb)
 have hls:Live β s [.arr agg sz f]:=by show 0<room β s;omega
 have hR:=(g.box s _ hb').2
 simp only[Own] at hR
 have hR':=hR
 obtain ⟨hmm,hR2⟩:=hR'
 rcases hR2 with h2|⟨fr,vs,hh,nS,hvl,LP,hel⟩
 ·omega
 have nS:=nS hfz
 rw[hh] at hR
 have hpp:p=some ⟨blk β s,lo*sz,none⟩:=hp.resolve_right (by omega)
 subst hpp
 have hcl:=Jf (h:=h) (agg:=agg.agg) n hzl hpos hone hform
 have hnl:=hcl.len
 have hle2:(lo+n)*sz≤room β s*sz:=Nat.mul_le_mul_right _ (by omega)
 rw[Nat.add_mul] at hle2
 have hst:=run_storeCells_cells (P:=P) (blk β s) (lo*sz) (Builtin.zeroCells z.toArray n).toList 0 w (fun j hj=>by
   have:lo*sz+j<vs.length:=by omega
   simp[World.cell?,hh,this]) (fun j hj=>by
   have:=nS (lo*sz+0+j) (by omega)
   simp only[World.frozen?,hh]
   simpa using this) hcl.one
 simp only[Nat.add_zero] at hst
 have jq:(execOp a.eval o).run P w=.ok (.value (.tuple #[])) (w.setCells (blk β s) (lo*sz) (Builtin.zeroCells z.toArray n).toList):=by
  obtain ⟨n',rfl⟩:∃n',n=n'+1:=⟨n-1,by omega⟩
  simp[execOp,ho,resolve,lg,ha,ht,invoke,builtin,Builtin.clear_,run_underlying (bC hT),hv,zeroValue,typeInfo,hi,hzz,hzv,hst]
 unfold Oper.wp
 rw[jq,Oper.upon_value]
 refine hK _ _ β h (by rw[put_defers];exact hdf) ?_
 rw[dK,hdst]
 have hRow:=hR.G9 (q:=lo) (k:=n) (mn:=agg.mn) (by omega) (by omega) hmm.2 hcl
 have g':=g.write (l':=[.arr agg sz fun i=>bif Nat.blt i lo then f i else bif Nat.blt i (lo+n) then ug agg.agg z else f i]) hb' hls (kJ _ (lo*sz) w) (by
  rw[jA _ vs _ w hh];exact hRow) (eG (i:=0) (x:=.arr agg sz fun i=>bif Nat.blt i lo then f i else bif Nat.blt i (lo+n) then ug agg.agg z else f i) hb')
 simpa [Ev.app,kF,Ce,fF] using g'
end Go.Ab
namespace Go.Ab
open Go Go.RowKit
variable {P:Program} {G:IH} {o:Oper} {ρ:Operand→AV} {st:AS}
theorem aO.give {F:Fr} {w0:World} {h0:IH} {β:Nat→Nat} {h:IH} {tm:Array Value} {w:World} (g:aO G F w0 h0 st β h tm w) {s:Nat} {agg:RK} {sz:Nat} {f:Nat→DV} (hb:st.box s=some [.arr agg sz f]) :
  h.le (h.lend w fun b=>0<room β s∧b=blk β s)∧aO G F w0 h0 ⟨st.regs,setCells s 0 .dead st.boxes⟩ β (h.lend w fun b=>0<room β s∧b=blk β s) tm w:=by
 classical
 have hk:h.le (h.lend w fun b=>0<room β s∧b=blk β s):=by
  refine⟨fun b o v e=>?_,fun b o e=>e⟩
  simp only[IH.lend]
  split
  ·exact g.holds.1 b o v e
  ·exact e
 have hkh:(h.lend w fun b=>0<room β s∧b=blk β s).holds w:=by
  refine⟨fun b o v e=>?_,g.holds.2⟩
  simp only[IH.lend] at e
  split at e
  ·exact e
  ·exact g.holds.1 b o v e
 have hold:∀b,b<w0.heap.size→¬F.on b→(∀o,(h.lend w fun b=>0<room β s∧b=blk β s).cell b o=h0.cell b o)∧(h.lend w fun b=>0<room β s∧b=blk β s).obj b=h0.obj b:=by
  intro b hb1 hb2
  have h1:=g.old b hb1 hb2
  refine⟨fun o=>?_,h1.2⟩
  simp only[IH.lend]
  rw[if_neg]
  ·exact h1.1 o
  ·rintro ⟨hl,rfl⟩
   obtain ⟨h2,_⟩:=(g.box s _ hb).1 hl
   rcases h2 with h2|h2
   ·exact hb2 h2
   ·omega
 refine⟨hk,g.glob.trans hk,hkh,g.ext.trans hk,hold,g.kept,g.fix,g.size,fun t x hx=>?_,fun t l hl=>?_,fun t t' l l' hl hl' k1 k2 he=>?_⟩
 ·obtain ⟨v,hv,hr⟩:=g.regs t x hx
  exact⟨v,hv,AV.rel.mono hk _ _ hr⟩
 ·rcases eG hb t l hl with ⟨rfl,rfl⟩|⟨hne,hl'⟩
  ·exact⟨fun hl=>hl.elim,trivial⟩
  ·obtain ⟨h1,h2⟩:=g.box t l hl'
   refine⟨fun kl=>?_,Own.mono hk h2⟩
   obtain ⟨u1,u2,u3⟩:=h1 kl
   refine⟨u1,fun o=>?_,u3⟩
   simp only[IH.lend]
   rw[if_neg]
   ·exact u2 o
   ·rintro ⟨hl1,he⟩
    exact hne (g.inj t s l _ hl' hb kl hl1 he)
 ·rcases eG hb t l hl with ⟨rfl,rfl⟩|⟨hne,hl1⟩
  ·exact k1.elim
  ·rcases eG hb t' l' hl' with ⟨rfl,rfl⟩|⟨hne',hl2⟩
   ·exact k2.elim
   ·exact g.inj t t' l l' hl1 hl2 k1 k2 he
theorem GY:∀{l:List AV} {m:List DV} {ss:List Nat},lZ st l=some (m,ss)→∀s∈ss,∃agg sz fr,st.box s=some [.arr agg sz fr]
 | [],m,ss,hl,s,hs=>by simp only[lZ,aI,bg] at hl;obtain ⟨_,rfl⟩:=hl;simp at hs
 | y :: l,m,ss,hl,s,hs=>by
  simp only[lZ] at hl
  split at hl
  ·rename_i d a m' b hd' hm
   simp only[aI,bg] at hl
   obtain ⟨_,rfl⟩:=hl
   rcases List.mem_append.1 hs with hs|hs
   ·cases y with
    | d y=>simp only[vO,aI,bg] at hd';obtain ⟨_,rfl⟩:=hd';simp at hs
    | vec t sz lo n=>
     simp only[vO] at hd'
     split at hd'
     ·rename_i agg sz' fr hb
      split at hd'
      ·simp only[aI,bg] at hd'
       obtain ⟨_,rfl⟩:=hd'
       simp at hs;subst hs
       exact⟨_,_,_,hb⟩
      ·cases hd'
     ·cases hd'
    | _=>simp[vO] at hd'
   ·exact GY hm s hs
  ·cases hl
theorem Na {c:Call} (ho:o.op=.call c) {x:Operand} (hc:c.callee=.value x) {f:FuncId} {a1 a2:List AV} (hx:kG (ρ x)=some (f,a1,a2)) {xs:List DV} {s:Nat} (hd:lZ st (a1++(c.args.toList.map ρ++a2))=some (xs,[s])) {r:DV} (hf:aA P G f xs r) :
  Core P G o ρ st { dst:=o.dst,val:=.d r,iV:=[(s,0)],jE:=[(s,0,.dead)] }:=by
 intro F w0 h0 st' β h a w K Q hlen hag hfr g hdf hop hK
 have hxv:=hop x (by simp[ho,Op.operands,Call.operands,hc])
 obtain ⟨va,vc,hv,ha,hcv⟩:=oD hx hxv
 have hargs:AV.aF β h (c.args.toList.map ρ) (c.args.toList.map a.eval):=qA fun y hy=>hop y (by simp[ho,Op.operands,Call.operands,Array.mem_toList_iff.1 hy])
 have hall:=ha.append (hargs.append hcv)
 obtain ⟨agg,sz,fr,hb⟩:=GY hd s (List.mem_singleton.2 rfl)
 have hb':=g.kZ (nN hag (.inl (by simp)) hb)
 have hat:∀t∈[s],st'.at_ (.cell t 0)=st.at_ (.cell t 0):=fun t ht=>hag _ (by
  rw[List.mem_singleton] at ht;subst ht
  simp[Loc.hits])
 obtain ⟨hle,g1⟩:=g.give hb'
 have vT:=zK g hd hat (B:=fun b=>0<room β s∧b=blk β s) (fun t ht hpos=>by rw[List.mem_singleton] at ht;subst ht;exact⟨hpos,rfl⟩) hle hall
 have jq:(execOp a.eval o).run P w=(callFunc f (va++(c.args.toList.map a.eval++vc)).toArray).run P w:=by
  have hm:c.args.map a.eval=(c.args.toList.map a.eval).toArray:=by apply Array.ext';simp
  simp only[execOp,ho,resolve,hc,hv,hm,Deferred.ofValue,Sem.run_bind,Sem.run_pure,Result.andThen_ok,invoke,List.append_toArray,List.append_assoc]
 unfold Oper.wp
 rw[jq,hf.1,Oper.upon_enter]
 refine(hf.2 w _ _ (g.glob.trans hle) g1.holds vT).mono ?_
 rintro e w' ⟨v,h',rfl,hrel,hh,hw,hk,hold⟩
 refine hK _ _ β h' (by rw[put_defers];exact hdf) ?_
 rw[dK]
 exact(g1.grow hh hw hk hold).put (x:=.d r) hrel
end Go.Ab
namespace Go.Ab
open Go Go.RowKit Go.MapKept
variable {P:Program} {G:IH} {o:Oper} {ρ:Operand→AV} {st:AS}
def yJ (P:Program) (T:TypeId):Option (Option IntKind×TypeId):=match P.underlying T with
 | some (.map k e)=>match P.underlying k with
  | some .string=>some (none,e)
  | some (.int i)=>some (some i,e)
  | _=>none
 | _=>none
theorem Dt {T e:TypeId} {kd:Option IntKind} (h:yJ P T=some (kd,e)):∃k,P.underlying T=some (.map k e)∧P.underlying k=some (tJ kd):=by
 unfold yJ at h
 split at h
 ·rename_i k e' hu
  split at h
  ·rename_i hk
   simp only[aI,bg] at h;obtain ⟨rfl,rfl⟩:=h
   exact⟨k,hu,hk⟩
  ·rename_i i hk
   simp only[aI,bg] at h;obtain ⟨rfl,rfl⟩:=h
   exact⟨k,hu,hk⟩
  ·cases h
 ·cases h
def BZ (kd:Option IntKind) (k:Value):Bool:=match kd,k with
 | none,.string _=>true
 | some i,.int j _=>decide (j=i)
 | _,_=>false
theorem Rk {kd:Option IntKind} {k:Value} (h:BZ kd k=true):IsKey (tJ kd) k:=by
 unfold BZ at h
 split at h
 ·trivial
 ·simpa [tJ,IsKey] using h
 ·cases h
theorem EN {kd:Option IntKind} {a b:Value} (ha:IsKey (tJ kd) a) (hb:IsKey (tJ kd) b):y7 a b=true↔a=b:=by
 cases kd with
 | none=>cases a<;>cases b<;>simp_all [tJ,IsKey,y7]
 | some i=>cases a<;>cases b<;>simp_all [tJ,IsKey,y7]
def xQ (P:Program) (T:TypeId):Option DV:=match P.info? T with
 | some i=>match i.zero with
  | some (.agg cs)=>some (.agg (cs.toList.map .con))
  | some (.tuple _)=>none
  | some v=>some (.con v)
  | none=>none
 | none=>none
theorem Tm {T:TypeId} {d:DV} (h:xQ P T=some d) (w:World) (k:IH):∃v,(zeroValue T).run P w=.ok v w∧d.rel k v:=by
 unfold xQ at h
 cases hi:P.info? T with
 | none=>simp[hi] at h
 | some i=>
  rw[hi] at h
  simp only at h
  split at h
  ·rename_i cs hz
   simp only[aI] at h;subst h
   exact⟨.agg cs,by simp[zeroValue,typeInfo,hi,hz],cs.toList,by simp,yO _⟩
  ·cases h
  ·rename_i v _ _ hz
   simp only[aI] at h;subst h
   exact⟨v,by simp[zeroValue,typeInfo,hi,hz],rfl⟩
  ·cases h
theorem NS {T e:TypeId} {r:Option Operand} (ho:o.op=.makeMap T r) {d:Nat} (hdst:o.dst=some d) {kd:Option IntKind} (hT:yJ P T=some (kd,e)) (hr:∀x,r=some x→∃k n,ρ x=.d (.con (.int k n))) (f:Value→DV) :
  Core P G o ρ st { dst:=some d,val:=.jY d,nw:=[(d,[.mp kd f fun _=>false])] }:=by
 intro F w0 h0 st' β h a w K Q hlen hag hfr g hdf hop hK
 obtain ⟨k,hu,CU⟩:=Dt hT
 have hrun:(execOp a.eval o).run P w=.ok (.value (.map (some w.heap.size))) (w.alloc (.map #[] 0)):=by
  cases r with
  | none=>simp[execOp,ho,Instr.makeMap,run_newObj]
  | some x=>
   obtain ⟨kk,n,hx⟩:=hr x rfl
   have hxv:=hop x (by simp[ho,Op.operands])
   rw[hx] at hxv
   simp only[AV.rel,DV.rel] at hxv
   simp[execOp,ho,Instr.makeMap,hxv,asInt,asIntOf,run_newObj,run_underlying hu]
 unfold Oper.wp
 rw[hrun,Oper.upon_value]
 refine hK _ _ (upd β d w.heap.size 0 0) h (by rw[put_defers];exact hdf) ?_
 rw[dK,hdst]
 refine(g.tV (s:=d) (c:=0) (m:=0) (l:=[.mp kd f fun _=>false]) (hfr (d,[.mp kd f fun _=>false]) (by simp)) ?_).put (t:=some d) (x:=.jY d) (v:=.map (some w.heap.size)) ?_
 ·exact⟨#[],0,rfl,stamped_empty 0,by simp,by simp⟩
 ·simp only[AV.rel,aT]
theorem Vx {F:Fr} {w0:World} {h0:IH} {st':AS} {β:Nat→Nat} {h:IH} {tm:Array Value} {w:World} (g:aO G F w0 h0 st' β h tm w) {s:Nat} {kd:Option IntKind} {f:Value→DV} {has:Value→Bool} (hb:(st'.box s).bind (·[0]?)=some (.mp kd f has)):st'.box s=some [.mp kd f has]:=by
 cases hbx:st'.box s with
 | none=>rw[hbx] at hb;cases hb
 | some l=>
  rw[hbx] at hb
  simp only[Option.bind_some] at hb
  cases hp:bU l with
  | true=>
   obtain ⟨_,_,_,_,vs,_,hr⟩:=g.zJ hbx hp
   obtain ⟨v,_,hv⟩:=hr.get hb
   exact hv.elim
  | false=>
   rcases dN hp with ⟨a,b,c,rfl⟩|rfl|⟨a,b,c,rfl⟩
   ·simp at hb
   ·simp at hb
   ·simp at hb;obtain ⟨rfl,rfl,rfl⟩:=hb;rfl
theorem UH {st':AS} {e:Ev} {s:Nat} {kd:Option IntKind} {f:Value→DV} {has:Value→Bool} (hag:∀p,((e.iV.map (fun x=>Loc.cell x.1 x.2)++e.writes).any (·.hits p))=true→st'.at_ p=st.at_ p)
  (hr:(s,0)∈e.iV∨∃x,(s,0,x)∈e.jE) (hb:st.box s=some [.mp kd f has]):(st'.box s).bind (·[0]?)=some (.mp kd f has):=by
 have h1:=hag (.cell s 0) (by
  simp only[List.any_append,List.any_map,Bool.or_eq_true,List.any_eq_true,Ev.writes,Function.comp]
  rcases hr with hr|⟨x,hx⟩
  ·exact .inl ⟨_,hr,by simp[Loc.hits]⟩
  ·exact .inr (.inr (.inl ⟨_,hx,by simp[Loc.hits]⟩)))
 simp only[AS.at_,hb,Option.bind_some,bg,and_true] at h1
 rw[h1];rfl
def DV.imp (a b:DV):Prop:=∀(h:IH) (v:Value),a.rel h v→b.rel h v
theorem PY {T e:TypeId} {kd:Option IntKind} (hT:yJ P T=some (kd,e)) {zd:DV} (hz:xQ P e=some zd) {key:Value} (hk:BZ kd key=true) {w:World} {b:Nat} {es:Array MapEntry} {clock:Nat} (hb:w.heap[b]?=some (.map es clock)) {h:IH} {f:Value→DV} {has:Value→Bool}
  (h1:∀e∈es.toList,IsKey (tJ kd) e.key∧has e.key=true∧(f e.key).rel h e.val) (h2:∀k,IsKey (tJ kd) k→has k=true→∃e∈es.toList,e.key=k) (hd:has key=false→DV.imp zd (f key)) (ok:Bool) :
  ∃v,(Instr.lookup T (.map (some b)) key ok).run P w=.ok (if ok then .tuple #[v,.bool (has key)] else v) w∧(f key).rel h v:=by
 obtain ⟨k,hu,CU⟩:=Dt hT
 have hkk:=Rk hk
 rcases findNow_spec hkk es.toList 0 (fun x hx=>(h1 x hx).1) with ⟨g1,g2⟩|⟨j,en,g1,g2,g3⟩
 ·have hn:has key=false:=by
   cases hh:has key with
   | false=>rfl
   | true=>
    obtain ⟨x,hx,hxk⟩:=h2 key hkk hh
    exact absurd hxk (g2 x hx)
  obtain ⟨v,hv,lC⟩:=Tm hz w h
  refine⟨v,?_,hd hn h v lC⟩
  simp[Instr.lookup,run_underlying hu,MapKept.run_getObj_map hb,MapKept.run_checkKey CU hkk,MapKept.run_findKey CU g1,hv,Result.andThen,hn]
 ·have hm:en∈es.toList:=List.mem_of_getElem? g2
  obtain ⟨_,m2,m3⟩:=h1 en hm
  rw[g3] at m2 m3
  refine⟨en.val,?_,m3⟩
  simp[Instr.lookup,run_underlying hu,MapKept.run_getObj_map hb,MapKept.run_checkKey CU hkk,MapKept.run_findKey CU g1,Result.andThen,m2]
def FD (ok:Bool) (f:Value→DV) (has:Value→Bool) (key:Value):DV:=match ok with|true=>.aN [f key,.con (.bool (has key))] | false=>f key
theorem LW {ok:Bool} {f:Value→DV} {has:Value→Bool} {key v:Value} {h:IH} (hv:(f key).rel h v):(FD ok f has key).rel h (if ok then .tuple #[v,.bool (has key)] else v):=by
 cases ok with
 | true=>exact⟨[v,.bool (has key)],rfl,_,_,rfl,hv,_,_,rfl,rfl,rfl⟩
 | false=>exact hv
theorem Qp {T e:TypeId} {x i:Operand} {ok:Bool} (ho:o.op=.lookup T x i ok) {kd:Option IntKind} (hT:yJ P T=some (kd,e)) {zd:DV} (hz:xQ P e=some zd) {s:Nat} (hx:ρ x=.jY s) {f:Value→DV} {has:Value→Bool} (hb:st.box s=some [.mp kd f has])
  {key:Value} (hi:ρ i=.d (.con key)) (hk:BZ kd key=true) (hd:has key=false→DV.imp zd (f key)):Core P G o ρ st { dst:=o.dst,val:=.d (FD ok f has key),iV:=[(s,0)] }:=by
 intro F w0 h0 st' β h a w K Q hlen hag hfr g hdf hop hK
 have hxv:=hop x (by simp[ho,Op.operands])
 have hiv:=hop i (by simp[ho,Op.operands])
 rw[hx] at hxv;rw[hi] at hiv
 simp only[AV.rel,DV.rel] at hxv hiv
 have hb':=Vx g (UH hag (.inl (by simp)) hb)
 obtain ⟨es,clock,hh,hs,m1,m2⟩:=(g.box s _ hb').2
 obtain ⟨v,hrun,hv⟩:=PY hT hz hk hh m1 m2 hd ok
 unfold Oper.wp
 have:(execOp a.eval o).run P w=.ok (.value (if ok then .tuple #[v,.bool (has key)] else v)) w:=by
  simp only[execOp,ho,hxv,hiv,Sem.run_bind,hrun,Result.andThen_ok,Sem.run_pure]
 rw[this,Oper.upon_value]
 refine hK _ _ β h (by rw[put_defers];exact hdf) ?_
 rw[dK]
 exact g.put (x:=.d (FD ok f has key)) (LW hv)
theorem OD {T e:TypeId} {x i:Operand} {ok:Bool} (ho:o.op=.lookup T x i ok) {kd:Option IntKind} (hT:yJ P T=some (kd,e)) {zd:DV} (hz:xQ P e=some zd) {f:Value→DV} {has:Value→Bool} (hx:ρ x=.d (.mp kd f has))
  {key:Value} (hi:ρ i=.d (.con key)) (hk:BZ kd key=true) (hd:has key=false→DV.imp zd (f key)):Core P G o ρ st { dst:=o.dst,val:=.d (FD ok f has key) }:=
 bP fun β h a w _ hw hop=>by
  have hxv:=hop x (by simp[ho,Op.operands])
  have hiv:=hop i (by simp[ho,Op.operands])
  rw[hx] at hxv;rw[hi] at hiv
  simp only[AV.rel,DV.rel] at hiv
  obtain ⟨b,es,clock,hxv,hob,m1,m2⟩:=hxv
  obtain ⟨v,hrun,hv⟩:=PY hT hz hk (hw.2 _ _ hob) m1 m2 hd ok
  exact⟨_,by simp only[execOp,ho,hxv,hiv,Sem.run_bind,hrun,Result.andThen_ok,Sem.run_pure],LW hv⟩
def NI:Op→Option (TypeId×Operand×Operand×Operand)
 | .mapUpdate t m k x | .insert t m k x=>some (t,m,k,x)
 | _=>none
theorem Oc {es:Array MapEntry} {clock:Nat} (h:Stamped es clock) {a b:MapEntry} (ha:a∈es.toList) (hb:b∈es.toList) (hk:a.key=b.key):a=b:=by
 have h3:=h.2.2
 obtain ⟨i,hi,rfl⟩:=List.getElem_of_mem ha
 obtain ⟨j,hj,rfl⟩:=List.getElem_of_mem hb
 have:i=j:=(List.getElem_inj (h₀:=by simpa using hi) (h₁:=by simpa using hj) h3).1 (by simpa using hk)
 subst this;rfl
def Et (key:Value) (d:DV) (f:Value→DV):Value→DV:=fun k=>bif y7 k key then d else f k
def AZ (key:Value) (has:Value→Bool):Value→Bool:=fun k=>y7 k key||has k
theorem qN.put {h:IH} {kd:Option IntKind} {f:Value→DV} {has:Value→Bool} {es es':Array MapEntry} {c c':Nat} (hO:qN h kd f has (some (.map es c))) {key val:Value} (hk:IsKey (tJ kd) key) {d:DV} (hd:d.rel h val) (hs:Stamped es' c')
  (hnew:∃e∈es'.toList,e.key=key) (hof:∀e∈es'.toList,(e.key=key∧e.val=val)∨(e.key≠key∧e∈es.toList)) (hto:∀e∈es.toList,e.key≠key→e∈es'.toList) :
  qN h kd (Et key d f) (AZ key has) (some (.map es' c')):=by
 obtain ⟨es0,c0,e0,_,h1,h2⟩:=hO
 simp only[aI,Obj.map.injEq] at e0
 obtain ⟨rfl,rfl⟩:=e0
 refine⟨es',c',rfl,hs,fun e he=>?_,fun k hkk hh=>?_⟩
 ·rcases hof e he with ⟨rfl,rfl⟩|⟨hne,hm⟩
  ·have:y7 e.key e.key=true:=(EN hk hk).2 rfl
   exact⟨hk,by simp[AZ,this],by simp[Et,this];exact hd⟩
  ·obtain ⟨a1,a2,a3⟩:=h1 e hm
   have:y7 e.key key=false:=by rw[Bool.eq_false_iff];exact fun hh=>hne ((EN a1 hk).1 hh)
   exact⟨a1,by simp[AZ,a2],by simp[Et,this];exact a3⟩
 ·by_cases hkey:k=key
  ·subst hkey;exact hnew
  ·have:y7 k key=false:=by rw[Bool.eq_false_iff];exact fun hh=>hkey ((EN hkk hk).1 hh)
   simp only[AZ,this,Bool.false_or] at hh
   obtain ⟨e,he,hek⟩:=h2 k hkk hh
   exact⟨e,hto e he (by rw[hek];exact hkey),hek⟩
theorem Nh {T e:TypeId} {kd:Option IntKind} (hT:yJ P T=some (kd,e)) {key:Value} (hk:BZ kd key=true) {w:World} {b:Nat} {es:Array MapEntry} {clock:Nat} (hb:w.heap[b]?=some (.map es clock)) {h:IH} {f:Value→DV} {has:Value→Bool} (hO:qN h kd f has (some (.map es clock))) {val:Value} {d:DV} (hd:d.rel h val) :
  ∃es' c',(Instr.mapUpdate T (.map (some b)) key val).run P w=.ok () { w with heap:=w.heap.setIfInBounds b (.map es' c') }∧qN h kd (Et key d f) (AZ key has) (some (.map es' c')):=by
 obtain ⟨k,hu,CU⟩:=Dt hT
 have hkk:=Rk hk
 have hO':=hO
 obtain ⟨es0,c0,e0,hs,h1,h2⟩:=hO'
 simp only[aI,Obj.map.injEq] at e0
 obtain ⟨rfl,rfl⟩:=e0
 rcases findNow_spec hkk es.toList 0 (fun x hx=>(h1 x hx).1) with ⟨g1,g2⟩|⟨j,en,g1,g2,g3⟩
 ·refine⟨es.push { key,val,born:=clock },clock+1,?_,?_⟩
  ·simp[Instr.mapUpdate,run_underlying hu,MapKept.run_getObj_map hb,MapKept.run_checkKey CU hkk,MapKept.run_findKey CU g1,MapKept.run_setObj_map _ hb,Result.andThen]
  ·refine hO.put hkk hd (stamped_push hs g2) ⟨{ key,val,born:=clock },by simp,rfl⟩ (fun x hx=>?_) fun x hx hne=>by simp[Array.mem_toList_iff.1 hx]
   simp only[Array.toList_push,List.mem_append,List.mem_singleton] at hx
   rcases hx with hx|rfl
   ·exact .inr ⟨g2 x hx,hx⟩
   ·exact .inl ⟨rfl,rfl⟩
 ·have hj:es[j]?=some en:=by simpa using g2
  refine⟨es.modify j fun e=>{ e with key:=key,val:=val },clock,?_,?_⟩
  ·simp[Instr.mapUpdate,run_underlying hu,MapKept.run_getObj_map hb,MapKept.run_checkKey CU hkk,MapKept.run_findKey CU g1,hj,g3,MapKept.run_keyThatStays hkk,MapKept.run_setObj_map _ hb,Result.andThen]
  ·have hen:en∈es.toList:=List.mem_of_getElem? g2
   have hkey:∀e',es[j]?=some e'→({ e' with key:=key,val:=val }:MapEntry).key=e'.key:=fun e' he'=>by rw[hj] at he';cases he';exact g3.symm
   have hget:∀i:Nat,(es.modify j fun e=>{ e with key:=key,val:=val }).toList[i]?=if j=i then some { en with key:=key,val:=val } else es.toList[i]?:=by
    intro i
    simp only[Array.getElem?_toList,Array.getElem?_modify]
    by_cases hij:j=i
    ·subst hij;simp[hj]
    ·simp[hij]
   refine hO.put hkk hd (stamped_modify hs _ _ (fun _ _=>rfl) (fun e' _ he'=>hkey e' he')) ⟨{ en with key:=key,val:=val },List.mem_of_getElem? (i:=j) (by rw[hget,if_pos rfl]),rfl⟩ (fun x hx=>?_) fun x hx hne=>?_
   ·obtain ⟨i,hi⟩:=List.mem_iff_getElem?.1 hx
    rw[hget] at hi
    split at hi
    ·simp only[aI] at hi;subst hi;exact .inl ⟨rfl,rfl⟩
    ·rename_i hij
     have hm:=List.mem_of_getElem? hi
     refine .inr ⟨fun hxk=>hij ?_,hm⟩
     have:=Oc hs hm hen (hxk.trans g3.symm)
     subst this
     have h3:=hs.2.2
     have hi2:=(List.getElem?_eq_some_iff.1 hi).1
     have hj2:=(List.getElem?_eq_some_iff.1 g2).1
     exact(List.getElem_inj (h₀:=by simpa using hj2) (h₁:=by simpa using hi2) h3).1 (by
      simp only[List.getElem_map]
      rw[(List.getElem?_eq_some_iff.1 hi).2,(List.getElem?_eq_some_iff.1 g2).2])
   ·obtain ⟨i,hi⟩:=List.mem_iff_getElem?.1 hx
    refine List.mem_of_getElem? (i:=i) ?_
    rw[hget,if_neg]
    ·exact hi
    ·rintro rfl
     rw[g2] at hi
     simp only[aI] at hi;subst hi
     exact hne g3
theorem Kw {T e:TypeId} {m i x:Operand} (ho:NI o.op=some (T,m,i,x)) (hdst:o.dst=none) {kd:Option IntKind} (hT:yJ P T=some (kd,e)) {s:Nat} (hm:ρ m=.jY s) {f:Value→DV} {has:Value→Bool} (hb:st.box s=some [.mp kd f has])
  {key:Value} (hi:ρ i=.d (.con key)) (hk:BZ kd key=true) {d:DV} (hx:ρ x=.d d) :
  Core P G o ρ st { dst:=none,val:=.any,jE:=[(s,0,.mp kd (Et key d f) (AZ key has))] }:=by
 intro F w0 h0 st' β h a w K Q hlen hag hfr g hdf hop hK
 have hops:o.op.operands=#[m,i,x]∧(execOp a.eval o)=(do Instr.mapUpdate T (a.eval m) (a.eval i) (a.eval x);pure .skip):=by
  cases hop':o.op<;>rw[hop'] at ho<;>first
   | (simp only[NI,aI,bg] at ho;obtain ⟨rfl,rfl,rfl,rfl⟩:=ho;exact⟨by simp[Op.operands],by simp only[execOp,hop']⟩)
   | (simp[NI] at ho)
 obtain ⟨hop1,hex⟩:=hops
 have hmv:=hop m (by simp[hop1])
 have hiv:=hop i (by simp[hop1])
 have hxv:=hop x (by simp[hop1])
 rw[hm] at hmv;rw[hi] at hiv;rw[hx] at hxv
 simp only[AV.rel,DV.rel] at hmv hiv
 have hb':=Vx g (UH hag (.inr ⟨_,List.mem_singleton.2 rfl⟩) hb)
 have hO:=(g.box s _ hb').2
 have hO':=hO
 obtain ⟨es,clock,hh,_,_,_⟩:=hO'
 have hO2:qN h kd f has (some (.map es clock)):=by rw[←hh];exact hO
 obtain ⟨es',c',hrun,hN⟩:=Nh (P:=P) hT hk hh hO2 hxv
 unfold Oper.wp
 have:(execOp a.eval o).run P w=.ok .skip { w with heap:=w.heap.setIfInBounds (blk β s) (.map es' c') }:=by
  rw[hex,hmv,hiv]
  simp only[Sem.run_bind,hrun,Result.andThen_ok,Sem.run_pure]
 rw[this,Oper.upon_skip]
 refine hK _ _ β h (by rw[put_defers];exact hdf) ?_
 rw[dK,hdst]
 obtain ⟨q1,q2⟩:=heap_set (w:=w) (r:=blk β s) (o':=.map es' c') hh
 have g':=g.write (l':=[.mp kd (Et key d f) (AZ key has)]) hb' trivial (w':={ w with heap:=w.heap.setIfInBounds (blk β s) (.map es' c') }) ⟨rfl,rfl,rfl,by simp,q2⟩ (by
  have q1:({ w with heap:=w.heap.setIfInBounds (blk β s) (.map es' c') }:World).heap[blk β s]?=some (.map es' c'):=q1
  rw[q1];exact hN) (eG (i:=0) (x:=.mp kd (Et key d f) (AZ key has)) hb')
 simpa [Ev.app,kF,Ce,fF] using g'
end Go.Ab
namespace Go.Ab
open Go Go.RowKit
section
variable {P:Program} {G:IH} {o:Oper} {ρ:Operand→AV} {st:AS}
theorem Xv {c:Call} (ho:o.op=.call c) {T E:TypeId} {x:Operand} (hc:c.callee=.builtin .cap) (ha:c.args=#[x]) (ht:c.argTypes=#[T]) (hT:bF P T=some E) {s sz lo n N sz':Nat} (hx:ρ x=.vec s sz lo n) {agg:RK} {f:Nat→DV} (hb:st.box s=some [.arr agg sz' f]) (hN:agg.mn=some N) :
  Core P G o ρ st { dst:=o.dst,val:=.d (.con (.int .i64 ((N-lo:Nat):Int))),iV:=[(s,0)] }:=by
 intro F w0 h0' st' β h a w K Q hlen hag hfr g hdf hop hK
 have hxv:=hop x (by simp[ho,Op.operands,Call.operands,ha])
 rw[hx] at hxv
 obtain ⟨k1,k2,p,hv,hp⟩:=hxv
 have hb':=g.kZ (nN hag (.inl (by simp)) hb)
 have hR:=(g.box s _ hb').2
 simp only[Own] at hR
 have hcN:room β s=N:=(hR.1.2 N hN).1
 have hrun:(execOp a.eval o).run P w=.ok (.value (.int .i64 ((N-lo:Nat):Int))) w:=by
  simp only[execOp,ho,resolve,hc,ha,ht,Sem.run_bind,Sem.run_pure,Result.andThen_ok,invoke,builtin,List.map_toArray,List.map_cons,List.map_nil,hv,hcN]
  simp[Builtin.cap_,run_underlying (bC hT),goInt]
 unfold Oper.wp
 rw[hrun,Oper.upon_value]
 refine hK _ _ β h (by rw[put_defers];exact hdf) ?_
 rw[dK]
 exact g.put (x:=.d (.con (.int .i64 ((N-lo:Nat):Int)))) rfl
theorem Iy (w:World) (dT sT ty elem:TypeId) {i:TypeInfo} (b o dLen dCap:Nat) (sv:Value) (m sLen:Nat) (cs:List Value)
  (hu:P.underlying dT=some (.slice elem)) (hi:P.info? elem=some i) (hl:Builtin.lenOf sv=pure sLen) (hn:Nat.min sLen dLen=m) (hsrc:(Builtin.firstCells i.size m sv).run P w=.ok cs.toArray w)
  (hc:∀j,j<cs.length→(w.cell? ⟨b,o+j,none⟩).isSome=true) (hf:∀j,j<cs.length→w.frozen? ⟨b,o+j,none⟩=false) (h1:∀v∈cs,v.oneCell'=true) :
  (Builtin.copy_ #[dT,sT] ty #[.slice (some ⟨b,o,none⟩) dLen dCap,sv]).run P w=.ok (goInt m) (w.setCells b o cs):=by
 have hst:=run_storeCells_cells (P:=P) b o cs 0 w (by simpa using hc) (by simpa using hf) h1
 simp[Builtin.copy_,run_underlying hu,hl,hn,sizeOf,typeInfo,hi,hsrc,hst]
theorem Nb (w:World) (dT sT ty elem:TypeId) {i:TypeInfo} (d:Option Addr) (dLen dCap:Nat) (sv:Value) (sLen:Nat)
  (hu:P.underlying dT=some (.slice elem)) (hi:P.info? elem=some i) (hl:Builtin.lenOf sv=pure sLen) (hn:Nat.min sLen dLen=0) (hsrc:(Builtin.firstCells i.size 0 sv).run P w=.ok #[] w) :
  (Builtin.copy_ #[dT,sT] ty #[.slice d dLen dCap,sv]).run P w=.ok (goInt 0) w:=by
 cases d<;>simp[Builtin.copy_,run_underlying hu,hl,hn,sizeOf,typeInfo,hi,hsrc,storeCells]
theorem UQ {c:Call} (ho:o.op=.call c) (lg:c.callee=.builtin .copy) {dx x:Operand} (ha:c.args=#[dx,x]) {T tx E:TypeId} (ht:c.argTypes=#[T,tx]) (hT:bF P T=some E) {sz:Nat} (hsz:sizeT P E=some sz) {agg:RK} (hfz:agg.fz=false)
  {s lo n:Nat} {f:Nat→DV} (hd:ρ dx=.vec s sz lo n) (hb:st.box s=some [.arr agg sz f]) {k:Nat} {gs:Nat→DV} {rd:List (Nat×Nat)} {x':AV}
  (htr:∀β h v,(ρ x).rel β h v→∃p cp cp',v=.slice p k cp∧x'.rel β h (.slice p (min k n) cp')) (hsrc:tH P G st rd sz tx agg.agg x' (min k n) gs) :
  Core P G o ρ st { dst:=o.dst,val:=.d (.con (.int .i64 ((min k n:Nat):Int))),iV:=(s,0) :: rd,jE:=[(s,0,.arr agg sz fun i=>bif Nat.blt i lo then f i else bif Nat.blt i (lo+min k n) then gs (i-lo) else f i)] }:=by
 intro F w0 h0 st' β h a w K Q hlen hag hfr g hdf hop hK
 have hdv:=hop dx (by simp[ho,Op.operands,Call.operands,ha])
 have hxv:=hop x (by simp[ho,Op.operands,Call.operands,ha])
 rw[hd] at hdv
 obtain ⟨k1,k2,p,hv,hp⟩:=hdv
 obtain ⟨q,cp,cp',hxe,hx'⟩:=htr β h _ hxv
 have hb':=g.kZ (nN hag (.inl (by simp)) hb)
 obtain ⟨news,hs1,hcl⟩:=hsrc F w0 h0 st' β h a.tmps w _ g (fun r hr=>hag _ (by
  simp only[List.any_append,List.any_map,Bool.or_eq_true,List.any_eq_true,Function.comp]
  exact .inl ⟨r,List.mem_cons_of_mem _ hr,by simp[Loc.hits]⟩)) hx'
 obtain ⟨i,hi,hisz⟩:∃i,P.info? E=some i∧i.size=sz:=by
  unfold sizeT at hsz
  cases hi:P.info? E with
  | none=>simp[hi] at hsz
  | some i=>rw[hi] at hsz;exact⟨i,rfl,Option.some.inj hsz⟩
 have hfc:(Builtin.firstCells i.size (min k n) (.slice q k cp)).run P w=.ok news.toArray w:=by
  have:=hs1.cells
  rw[hisz]
  cases q<;>exact this
 have jq:∀w',(Builtin.copy_ #[T,tx] o.type #[a.eval dx,a.eval x]).run P w=.ok (goInt ((min k n:Nat):Int)) w'→(execOp a.eval o).run P w=.ok (.value (goInt ((min k n:Nat):Int))) w':=by
  intro w' hr
  simp only[execOp,ho,resolve,lg,ha,ht,Sem.run_bind,Sem.run_pure,Result.andThen_ok,invoke,builtin,List.map_toArray,List.map_cons,List.map_nil,hr]
 have hlf:Builtin.lenOf (.slice q k cp)=pure k:=rfl
 by_cases h0k:min k n=0
 ·have hnews:news=[]:=List.eq_nil_of_length_eq_zero (by rw[hcl.len,h0k,Nat.zero_mul])
  subst hnews
  have hrun:=Nb (P:=P) w T tx o.type E (i:=i) p n (room β s-lo) (.slice q k cp) k (bC hT) hi hlf h0k (by rw[h0k] at hfc;exact hfc)
  unfold Oper.wp
  rw[jq w (by rw[hv,hxe,h0k];exact hrun),Oper.upon_value]
  refine hK _ _ β h (by rw[put_defers];exact hdf) ?_
  rw[dK]
  have ef:(fun i=>bif Nat.blt i lo then f i else bif Nat.blt i (lo+min k n) then gs (i-lo) else f i)=f:=funext fun i=>by
   rw[h0k,Nat.add_zero]
   cases h1:Nat.blt i lo<;>rfl
  have gc:aO G F w0 h0 ⟨st'.regs,setCells s 0 (.arr agg sz f) st'.boxes⟩ β h a.tmps w:=g.congr rfl fun p=>by
   cases p with
   | reg t=>rfl
   | cell t j=>
    rw[FU,FU]
    show (cellAt st'.boxes t j,none)=(cellAt (setCells s 0 (.arr agg sz f) st'.boxes) t j,none)
    rw[uj]
    split
    ·rename_i e
     obtain ⟨rfl,rfl⟩:=e
     have:cellAt st'.boxes t 0=some (.arr agg sz f):=by
      unfold cellAt
      have hb2:look st'.boxes t=some [.arr agg sz f]:=hb'
      rw[hb2];rfl
     rw[this];rfl
    ·rfl
   | size t=>
    rw[FP,FP]
    exact congrArg (Prod.mk none) (rV [(s,0,.arr agg sz f)] st'.boxes t).symm
  have g2:=gc.put (t:=o.dst) (x:=.d (.con (.int .i64 ((min k n:Nat):Int)))) (v:=goInt ((min k n:Nat):Int)) rfl
  have e2:Ev.app { dst:=o.dst,val:=.d (.con (.int .i64 ((min k n:Nat):Int))),iV:=(s,0) :: rd,jE:=[(s,0,.arr agg sz fun i=>bif Nat.blt i lo then f i else bif Nat.blt i (lo+min k n) then gs (i-lo) else f i)] } st'=⟨kF st'.regs o.dst (.d (.con (.int .i64 ((min k n:Nat):Int)))),setCells s 0 (.arr agg sz f) st'.boxes⟩:=by
   rw[ef];rfl
  rw[e2];exact g2
 ·have hls:Live β s [.arr agg sz f]:=by show 0<room β s;omega
  have hR:=(g.box s _ hb').2
  simp only[Own] at hR
  have hR':=hR
  obtain ⟨hmm,hR2⟩:=hR'
  rcases hR2 with h2|⟨fr,vs,hh,nS,hvl,LP,hel⟩
  ·omega
  have nS:=nS hfz
  rw[hh] at hR
  have hpp:p=some ⟨blk β s,lo*sz,none⟩:=hp.resolve_right (by omega)
  subst hpp
  have hnl:=hcl.len
  have hle2:(lo+min k n)*sz≤room β s*sz:=Nat.mul_le_mul_right _ (by omega)
  rw[Nat.add_mul] at hle2
  have hrun:=Iy (P:=P) w T tx o.type E (i:=i) (blk β s) (lo*sz) n (room β s-lo) (.slice q k cp) (min k n) k news (bC hT) hi hlf rfl hfc (fun j hj=>by
    have:lo*sz+j<vs.length:=by omega
    simp[World.cell?,hh,this]) (fun j hj=>by
    have:=nS (lo*sz+j) (by omega)
    simp only[World.frozen?,hh]
    simpa using this) hcl.one
  unfold Oper.wp
  rw[jq _ (by rw[hv,hxe];exact hrun),Oper.upon_value]
  refine hK _ _ β h (by rw[put_defers];exact hdf) ?_
  rw[dK]
  have hRow:=hR.G9 (q:=lo) (k:=min k n) (mn:=agg.mn) (by omega) (by omega) hmm.2 hcl
  have g':=g.write (l':=[.arr agg sz fun i=>bif Nat.blt i lo then f i else bif Nat.blt i (lo+min k n) then gs (i-lo) else f i]) hb' hls (kJ _ (lo*sz) w) (by
   rw[jA _ vs _ w hh];exact hRow) (eG (i:=0) (x:=.arr agg sz fun i=>bif Nat.blt i lo then f i else bif Nat.blt i (lo+min k n) then gs (i-lo) else f i) hb')
  exact g'.put (t:=o.dst) (x:=.d (.con (.int .i64 ((min k n:Nat):Int)))) (v:=goInt ((min k n:Nat):Int)) rfl
theorem JB {c:Call} (ho:o.op=.call c) (lg:c.callee=.builtin .append) {sx x:Operand} (ha:c.args=#[sx,x]) {T tx E:TypeId} (ht:c.argTypes=#[T,tx]) (hT:bF P T=some E) {d:Nat} (hdst:o.dst=some d)
  {sz:Nat} (hsz:sizeT P E=some sz) {z:List Value} (hz:zeroOf P E=some z) (hzl:z.length=sz) (hone:z.all (·.oneCell')=true) {agg:RK} (hty:agg.ty=E) {N:Nat} (hN:agg.mn=some N)
  {s n:Nat} {f:Nat→DV} (hs:ρ sx=.vec s sz 0 n) (hb:st.box s=some [.arr agg sz f]) {k:Nat} {gs:Nat→DV} {rd:List (Nat×Nat)}
  (hbytes:jF P E≤4294967296) (hroom:(n+k)*jF P E≤1099511627776∧n+k≤1099511627776) (hgr:N<n+k)
  (hsrc:Fg P G st rd E sz tx agg.agg (ρ x) k gs) :
  Core P G o ρ st { dst:=some d,val:=.vec d sz 0 (n+k),iV:=(s,0) :: rd,nw:=[(d,[.arr ⟨agg.agg,agg.ty,false,none⟩ sz fun i=>bif Nat.blt i n then f i else gs (i-n)])] }:=by
 subst hty
 intro F w0 h0 st' β h a w K Q hlen hag hfr g hdf hop hK
 obtain ⟨i,zv,hi,hzz,hzc⟩:=tq hz
 have hisz:i.size=sz:=by unfold sizeT at hsz;rw[hi] at hsz;exact Option.some.inj hsz
 have BH:jF P agg.ty=i.bytes:=by unfold jF;rw[hi]
 have hsv:=hop sx (by simp[ho,Op.operands,Call.operands,ha])
 have hxv:=hop x (by simp[ho,Op.operands,Call.operands,ha])
 rw[hs] at hsv
 obtain ⟨k1,k2,p,hv,hp⟩:=hsv
 simp only[Nat.zero_mul,Nat.sub_zero,Nat.zero_add] at k1 hv hp
 have hb':=g.kZ (nN hag (.inl (by simp)) hb)
 have hfd:st'.free d=true:=hfr (d,_) (List.mem_singleton.2 rfl)
 obtain ⟨news,hsrc1,hcl⟩:=hsrc F w0 h0 st' β h a.tmps w _ g (fun r hr=>hag _ (by
  simp only[List.any_append,List.any_map,Bool.or_eq_true,List.any_eq_true,Function.comp]
  exact .inl ⟨r,List.mem_cons_of_mem _ hr,by simp[Loc.hits]⟩)) hxv
 have hR:=(g.box s _ hb').2
 simp only[Own] at hR
 have hcN:room β s=N:=(hR.1.2 N hN).1
 have hgrow:room β s<n+k:=by omega
 have hcap:=grownCap_ge w (n+k) (room β s) agg.ty
 have hold:∃olds:List Value,(Builtin.firstCells i.size n (.slice p n (room β s))).run P w.drew=.ok olds.toArray w.drew∧Cells h agg.agg sz n f olds:=by
  by_cases hz0:room β s=0
  ·have hn0:n=0:=by omega
   subst hn0
   refine⟨[],?_,⟨by simp,by simp,fun i hi=>by omega⟩⟩
   cases p with
   | none=>exact run_firstCells_none w.drew _ 0 0 _
   | some ad=>exact run_firstCells_some w.drew _ 0 ad 0 _ [] (by simp) (by simp)
  ·have hpp:p=some ⟨blk β s,0,none⟩:=hp.resolve_right (by omega)
   subst hpp
   have hR':=hR
   obtain ⟨_,hR2⟩:=hR'
   rcases hR2 with h2|⟨fr,vs,hh,nS,hvl,LP,hel⟩
   ·omega
   rw[hh] at hR
   obtain ⟨c1,_,_,_⟩:=hR.cells (n:=n) (by omega) k1
   refine⟨vs.take (n*sz),?_,c1⟩
   refine run_firstCells_some w.drew _ n _ n _ _ (by rw[hisz];exact c1.len) (fun j u hj=>?_)
   have hj':vs[j]?=some u:=by
    rw[List.getElem?_take] at hj
    split at hj
    ·exact hj
    ·cases hj
   rw[kT,Nat.zero_add]
   show w.cell? ⟨blk β s,j,none⟩=_
   simp[World.cell?,hh,hj']
 obtain ⟨olds,hfc,c1⟩:=hold
 have hnc:=BO (n+k) (room β s) hgrow
 have hby:Builtin.nextslicecap (n+k) (room β s)*i.bytes≤281474976710656:=by
  rw[BH] at hbytes hroom
  have h1:=Nat.mul_le_mul_right i.bytes hnc
  rw[Nat.add_mul,Nat.mul_assoc] at h1
  omega
 have hkb:k*i.bytes≤281474976710656:=by
  rw[BH] at hroom
  have h1:=hroom.1
  rw[Nat.add_mul] at h1
  omega
 have hrun:=qX (P:=P) w T tx o.type agg.ty i zv (bC hT) hi hzz p n (room β s) olds hfc _ k news (by rw[hisz];exact hsrc1) hkb hgrow (by omega) hby
 have jq:(execOp a.eval o).run P w=.ok (.value (.slice (some ⟨w.heap.size,0,none⟩) (n+k) (grownCap w (n+k) (room β s) agg.ty))) (w.drew.alloc (.cells ((olds++news).toArray++Builtin.zeroCells zv.cells (grownCap w (n+k) (room β s) agg.ty-(n+k))) agg.ty)):=by
  simp only[execOp,ho,resolve,lg,ha,ht,Sem.run_bind,Sem.run_pure,Result.andThen_ok,invoke,builtin,List.map_toArray,List.map_cons,List.map_nil,hv,hrun]
 unfold Oper.wp
 rw[jq,Oper.upon_value]
 refine hK _ _ (upd β d w.heap.size (grownCap w (n+k) (room β s) agg.ty) (n+k)) h (by rw[put_defers];exact hdf) ?_
 rw[dK,hdst]
 refine((g.drew (w.drawn+1)).tV (s:=d) (c:=grownCap w (n+k) (room β s) agg.ty) (m:=n+k) (l:=[.arr ⟨agg.agg,agg.ty,false,none⟩ sz fun i=>bif Nat.blt i n then f i else gs (i-n)]) hfd ?_).put (t:=some d) (x:=.vec d sz 0 (n+k)) (v:=.slice (some ⟨w.heap.size,0,none⟩) (n+k) (grownCap w (n+k) (room β s) agg.ty)) ?_
 ·simp only[Own,aH,bH]
  have O7:(olds++news).toArray++Builtin.zeroCells zv.cells (grownCap w (n+k) (room β s) agg.ty-(n+k))=(olds++news++(Builtin.zeroCells zv.cells (grownCap w (n+k) (room β s) agg.ty-(n+k))).toList).toArray:=by
   apply Array.ext';simp
  rw[O7]
  have hzs:zv.cells.size=sz:=by rw[←hzl,←hzc];simp
  refine dw.of_cells (agg:=⟨agg.agg,agg.ty,false,none⟩) (c1.append hcl) hcap (fun _ h=>by cases h) ?_ (rQ (by
   intro u hu
   rw[hzc] at hu
   exact List.all_eq_true.1 hone u hu) _) (fun j _=>by simp)
  have hz1:(Builtin.zeroCells zv.cells (grownCap w (n+k) (room β s) agg.ty-(n+k))).toList.length=(grownCap w (n+k) (room β s) agg.ty-(n+k))*sz:=by
   simp[Builtin.zeroCells,hzs]
  rw[List.length_append,List.length_append,c1.len,hcl.len,hz1,←Nat.add_mul,←Nat.add_mul]
  congr 1;omega
 ·simp only[AV.rel,aH,bH,aT,Nat.zero_mul,Nat.zero_add,Nat.sub_zero]
  exact⟨Nat.le_refl _,hcap,_,rfl,.inl rfl⟩
structure Yc (P:Program) (g:FuncId) (T:TypeId):Prop where
 is : ∃ fn R E sz, P.funcs[g]? = some fn ∧ (fn.name == "runtime.NumGoroutine") = false ∧ fn.body.isNone = true ∧ Extern.findNext fn = none ∧ Extern.find fn = some (Extern.SlicesOverlaps.overlaps #[T, T] #[R]) ∧ P.underlying T = some (.slice E) ∧ sizeT P E = some sz
theorem Ve {c:Call} (ho:o.op=.call c) {x:Operand} (hc:c.callee=.value x) {g:FuncId} (hx:kG (ρ x)=some (g,[],[])) {y z:Operand} (ha:c.args=#[y,z]) {T:TypeId} (hp:Yc P g T) {s1 s2 NT nZ t1 t2 lo1 lo2 n1 n2:Nat} (h1:ρ y=.vec s1 NT lo1 n1) (h2:ρ z=.vec s2 nZ lo2 n2) (hne:s1≠s2)
  {k1 k2:RK} {f1 f2:Nat→DV} (hb1:st.box s1=some [.arr k1 t1 f1]) (hb2:st.box s2=some [.arr k2 t2 f2]) (ht:t1=NT∧0<NT) (ht2:t2=nZ∧0<nZ) (hfz:k1.fz=false) (ad1:k1.agg=true) (hn1:0<n1) (hn2:0<n2) :
  Core P G o ρ st { dst:=o.dst,val:=.d (.con (.bool false)),iV:=[(s1,0),(s2,0)] }:=by
 intro F w0 h0' st' β h a w K Q hlen hag hfr g0 hdf hop hK
 obtain ⟨rfl,hp1⟩:=ht
 obtain ⟨rfl,hp2⟩:=ht2
 obtain ⟨fn,R,E,sz,p1,p2,p3,p4,p5,p6,p7⟩:=hp.is
 have hxv:=hop x (by simp[ho,Op.operands,Call.operands,hc])
 obtain ⟨va,vc,hv,hva,zA⟩:=oD hx hxv
 have hva:va=[]:=hva
 have zA:vc=[]:=zA
 subst hva;subst zA
 have hyv:=hop y (by simp[ho,Op.operands,Call.operands,hc,ha])
 have hzv:=hop z (by simp[ho,Op.operands,Call.operands,hc,ha])
 rw[h1] at hyv
 rw[h2] at hzv
 obtain ⟨a1,a2,q1,e1,r1⟩:=hyv
 obtain ⟨b1,b2,q2,e2,r2⟩:=hzv
 have hx1:=g0.kZ (nN hag (.inl (by simp)) hb1)
 have hx2:=g0.kZ (nN hag (.inl (by simp)) hb2)
 have l1:Live β s1 [.arr k1 t1 f1]:=by show 0<room β s1;omega
 have l2:Live β s2 [.arr k2 t2 f2]:=by show 0<room β s2;omega
 have hblk:blk β s1≠blk β s2:=fun e=>hne (g0.inj _ _ _ _ hx1 hx2 l1 l2 e)
 have R1:=(g0.box s1 _ hx1).2
 have R2:=(g0.box s2 _ hx2).2
 simp only[Own] at R1 R2
 obtain ⟨_,R1⟩:=R1
 obtain ⟨_,R2⟩:=R2
 rcases R1 with R1|⟨fr1,v1,hh1,hz1,hl1,_,_⟩
 ·omega
 rcases R2 with R2|⟨fr2,v2,hh2,_,hl2,_,_⟩
 ·omega
 have hz1:=hz1 hfz
 rw[ad1] at hz1
 have m1:(lo1+1)*t1≤room β s1*t1:=Nat.mul_le_mul_right _ (by omega)
 rw[Nat.add_mul,Nat.one_mul] at m1
 have m2:0<room β s2*t2:=Nat.mul_pos (by omega) hp2
 obtain rfl:q1=some ⟨blk β s1,lo1*t1,none⟩:=r1.resolve_right (by omega)
 obtain rfl:q2=some ⟨blk β s2,lo2*t2,none⟩:=r2.resolve_right (by omega)
 obtain ⟨i,hi,hisz⟩:∃i,P.info? E=some i∧i.size=sz:=by
  unfold sizeT at p7
  cases hi:P.info? E with
  | none=>simp[hi] at p7
  | some i=>rw[hi] at p7;exact⟨i,rfl,Option.some.inj p7⟩
 have hov:=Lib.run_overlaps_apart (P:=P) w T R E p6 sz (fun w=>by simp[sizeOf,typeInfo,hi,hisz]) ⟨blk β s1,lo1*t1,none⟩ ⟨blk β s2,lo2*t2,none⟩ n1 (room β s1-lo1) n2 (room β s2-lo2) hblk k1.ty k2.ty v1.length v2.length
  (by simp[World.shape?,hh1]) (by simp[World.shape?,hh2]) (by omega)
  (by
   have:=hz1 (lo1*t1) (by omega)
   simp only[World.frozen?,hh1]
   simpa using this)
  (by
   have:=hz1 v1.length (by simp)
   simp only[World.frozen?,hh1]
   simpa using this)
 have hrun:(execOp a.eval o).run P w=.ok (.value (.bool false)) w:=by
  simp only[execOp,ho,resolve,hc,hv,ha,Deferred.ofValue,Sem.run_bind,Sem.run_pure,Result.andThen_ok,invoke,List.map_toArray,List.map_cons,List.map_nil,Array.empty_append,Array.append_empty,e1,e2]
  have:=run_callFunc_extern p1 p2 p3 p4 p5 #[.slice (some ⟨blk β s1,lo1*t1,none⟩) n1 (room β s1-lo1),.slice (some ⟨blk β s2,lo2*t2,none⟩) n2 (room β s2-lo2)] w
  rw[hov] at this
  simpa using this
 unfold Oper.wp
 rw[hrun,Oper.upon_value]
 refine hK _ _ β h (by rw[put_defers];exact hdf) ?_
 rw[dK]
 exact g0.put (x:=.d (.con (.bool false))) rfl
end
end Go.Ab
