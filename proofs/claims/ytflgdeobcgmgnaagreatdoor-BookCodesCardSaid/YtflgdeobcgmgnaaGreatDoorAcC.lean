import Derived.Test.YtflgdeobcgmgnaaGreatDoorAcB
import Derived.IntWalk
import Derived.Scope
import Derived.Sort.Grow
import Derived.Deep.Draws
set_option autoImplicit false
namespace Go.Ab
open Go Go.RowKit
abbrev iw:=FuncId→List DV→Option DV
structure eU where
 d:iw
 w:Bool:=false
 rows:Nat→Bool:=fun _=>false
 ty:TypeId→Bool:=fun _=>false
 m:FuncId→List AV→List (Nat×List AV)→Option (AV×List (Nat×List AV)):=fun _ _ _=>none
 gl:Nat→Option (List DV):=fun _=>none
 ro:FuncId→Bool:=fun _=>false
 ov:FuncId→Bool:=fun _=>false
instance:Coe iw eU:=⟨fun d=>{ d:=d }⟩
mutual
def VQ:AV→List Nat
 | .any | .d _ | .arr _ _ _ | .dead | .mp _ _ _=>[]
 | .box u _ | .vec u _ _ _ | .elem u _ _ _ | .tb u _ _ | .kE u=>[u]
 | .agg l | .aC l=>Bc l
 | .clo _ a c=>Bc a++Bc c
 | .gate _ _ _ x=>VQ x
def Bc:List AV→List Nat
 | []=>[]
 | x :: l=>VQ x++Bc l
end
def reach (st:AS):Nat→List Nat→List Nat→List Nat
 | 0,_,acc=>acc
 | _+1,[],acc=>acc
 | n+1,u :: r,acc=>match acc.any (Nat.beq u) with
  | true=>reach st n r acc
  | false=>match st.box u with
   | some l=>reach st n (r++Bc l) (acc++[u])
   | none=>reach st n r acc
def number:List Nat→Nat→List (Nat×Nat)
 | [],_=>[]
 | u :: r,i=>(u,K0+i) :: number r (i+1)
def newNames (dst:Option Nat):List (Nat×List AV)→List (Nat×Nat)
 | []=>[]
 | (d,_) :: r=>match Nat.blt d K0 with
  | true=>(d,1000*((match dst with|some t=>t|none=>897)+1)+d) :: newNames dst r
  | false=>newNames dst r
section
variable (P:Program) (G:IH) (aj:eU) (o:Oper) (ρ:Operand→AV) (st:AS)
def rowOf (s:Nat):Option (RK×Nat×(Nat→DV)):=match st.box s with|some [.arr a sz f]=>some (a,sz,f)|_=>none
def Vk (a b:Bool):Bool:=match a,b with|true,true=>true|false,false=>true|_,_=>false
def orElse (a b:Option (List Prop×Ev)):Option (List Prop×Ev):=match a with|some x=>some x|none=>b
def mM:Option (List Prop×Ev):=
 match Iu o.op,o.op.operands.all (fun x=>NH (ρ x)),jr P (execOp (fun x=>Ua (ρ x)) o) with
 | false,true,some (.value v)=>some ([],{ dst:=o.dst,val:=CS v })
 | _,_,_=>none
def Rq (T:TypeId):Option (List Prop×Ev):=
 match o.dst,zeroOf P T with
 | some s,some l=>match aj.ty T with
  | true=>some ([],{ dst:=some s,val:=.tb s 0 T,nw:=[(s,l.map fun v=>.d (.con v))] })
  | false=>some ([],{ dst:=some s,val:=.box s 0,nw:=[(s,l.map fun v=>.d (.con v))] })
 | _,_=>none
def Yh (x:AV):Option (List Prop×Ev):=
 match o.dst,cellsOf x with
 | some s,some l=>match AV.frees s l with|true=>some ([],{ dst:=some s,val:=.box s 0,nw:=[(s,l)] })|false=>none
 | _,_=>none
def QS (T:TypeId) (parts:List (Nat×Operand)):Option (List Prop×Ev):=
 match zeroOf P T,placeOf P T,partsOf ρ parts with
 | some z,some pl,some m=>match xg pl (z.map fun v=>.d (.con v)) m with|some l=>some ([],{ dst:=o.dst,val:=wZ l })|none=>none
 | _,_,_=>none
def Oh (T:TypeId):Option (List Prop×Ev):=match o.dst,bF P T with
 | some d,some E=>match sizeT P E with
  | some sz=>some ([],{ dst:=some d,val:=.vec d sz 0 0,nw:=[(d,[.arr ⟨dG P E,E,false,none⟩ sz fun _=>.con undef])] })
  | none=>none
 | _,_=>none
def PD (n:Nat) (parts:List (Nat×Operand)):Bool:=match n,parts with|0,[]=>true|_,_=>false
def Em (T:TypeId) (n:Nat) (parts:List (Nat×Operand)):Option (List Prop×Ev):=
 match PD n parts with
 | true=>Oh P o T
 | false=>match bF P T with
 | some E=>match sizeT P E,zeroOf P E,partsOf ρ parts with
  | some sz,some z,some m=>match xg (fun i=>some (i*sz,sz)) ((oD (n*sz) z).map fun v=>.d (.con v)) m with
   | some l=>match pV l with
    | some ds=>match Nat.ble (n*sz) 16777216&&(Nat.beq ds.length (n*sz)&&(dG P E||(Nat.beq sz 1&&ds.all mW))) with
     | true=>match o.dst with
      | some d=>match aj.rows d&&((dG P E||Nat.beq sz 1)&&ds.all mW) with
       | true=>some ([],{ dst:=some d,val:=.vec d sz 0 n,nw:=[(d,[.arr ⟨dG P E,E,false,none⟩ sz (aY (dG P E) sz ds)])] })
       | false=>some ([],{ dst:=o.dst,val:=.d (.slc sz n (aY (dG P E) sz ds)) })
      | none=>some ([],{ dst:=o.dst,val:=.d (.slc sz n (aY (dG P E) sz ds)) })
     | false=>none
    | none=>none
   | none=>none
  | _,_,_=>none
 | none=>none
def Vr (T:TypeId) (p:AV):Option (List Prop×Ev):=
 match oO P T,sizeT P T with
 | true,some n=>match p with
  | .box s off=>match st.box s with
   | some l=>match Nat.beq ((l.drop off).take n).length n&&((l.drop off).take n).all yZ,oh (dG P T) ((l.drop off).take n) with
    | true,some x=>some ([],{ dst:=o.dst,val:=x,je:=Oy s off n })
    | _,_=>none
   | none=>none
  | .d (.ptr l)=>match Nat.beq (l.take n).length n,oh (dG P T) ((l.take n).map .d) with
   | true,some x=>some ([],{ dst:=o.dst,val:=x })
   | _,_=>none
  | .elem s sz i off=>match rowOf st s with
   | some (agg,sz',f)=>match Nat.beq off 0&&(Nat.beq n sz&&(Nat.beq sz sz'&&Vk (dG P T) agg.agg)) with
    | true=>some ([],{ dst:=o.dst,val:=.d (f i),je:=[(s,0)] })
    | false=>match zo (f i) with
     | some l=>match Nat.beq (((l.map AV.d).drop off).take n).length n&&Nat.beq sz sz',oh (dG P T) (((l.map AV.d).drop off).take n) with
      | true,some x=>some ([],{ dst:=o.dst,val:=x,je:=[(s,0)] })
      | _,_=>none
     | none=>none
   | none=>none
  | _=>none
 | _,_=>none
def Du (T:TypeId) (s sz i off:Nat) (x:AV):Option (List Prop×Ev):=
 match o.dst,sizeT P T,cellsOf x with
 | none,some n,some l=>match pV l,rowOf st s with
  | some xs,some (agg,sz',f)=>match (Nat.beq l.length n&&(Nat.beq sz sz'&&Nat.ble (off+n) sz))&&!agg.fz with
   | true=>match Nat.beq off 0&&Nat.beq n sz with
    | true=>match agg.agg,xs with
     | true,xs=>some ([],{ dst:=none,val:=.any,jI:=[(s,0,.arr agg sz fun j=>bif Nat.beq j i then .agg xs else f j)] })
     | false,[y]=>some ([],{ dst:=none,val:=.any,jI:=[(s,0,.arr agg sz fun j=>bif Nat.beq j i then y else f j)] })
     | _,_=>none
    | false=>match agg.agg,zo (f i) with
     | true,some fl=>some ([],{ dst:=none,val:=.any,jI:=[(s,0,.arr agg sz fun j=>bif Nat.beq j i then .agg (fl.take off++xs++fl.drop (off+n)) else f j)] })
     | _,_=>none
   | false=>none
  | _,_=>none
 | _,_,_=>none
def Ru (T:TypeId) (p x:AV):Option (List Prop×Ev):=
 match p with
 | .elem s sz i off=>Du P o st T s sz i off x
 | p=>match o.dst,sizeT P T,p,cellsOf x with
 | none,some n,.box s off,some l=>match st.box s with
  | some lb=>match Nat.beq l.length n&&(Nat.ble (off+n) lb.length&&((lb.drop off).take n).all yZ) with
   | true=>some ([],{ dst:=none,val:=.any,jI:=lT s off l })
   | false=>none
  | none=>none
 | _,_,_,_=>none
def acJ (x:AV):Bool:=match x with | .clo (.func _) _ _=>true | .clo _ _ _=>false|y=>notNil y
def XQ (x:AV):Option (List Prop×Ev):=match acJ x with|true=>some ([],{ dst:=o.dst,val:=x })|false=>none
def GU (T:TypeId) (x:AV) (i:Nat):Option (List Prop×Ev):=
 match xP P T i with
 | some f=>match sizeT P f.type,qh x f.offset with
  | some (_+1),some y=>some ([],{ dst:=o.dst,val:=y })
  | _,_=>none
 | none=>none
def Rw (T:TypeId) (x:AV) (i:Nat):Option (List Prop×Ev):=
 match xP P T i with
 | some f=>match oO P f.type,sizeT P f.type,kX x with
  | true,some n,some l=>match vK (dG P f.type) l f.offset n with
   | some y=>some ([],{ dst:=o.dst,val:=y })
   | none=>none
  | _,_,_=>none
 | none=>none
def Hq (T:TypeId) (x i:AV):Option (List Prop×Ev):=
 match bF P T,x,i with
 | some E,.vec s sz lo n,.d (.con (.int _ m))=>match sizeT P E with
  | some sz'=>match Nat.beq sz' sz with
   | true=>some ([0≤m∧m<n],{ dst:=o.dst,val:=.elem s sz (lo+m.toNat) 0 })
   | false=>none
  | none=>none
 | some E,.d (.slc sz n f),.d (.con (.int _ m))=>match sizeT P E,zo (f m.toNat) with
  | some sz',some l=>match Nat.beq sz' sz with
   | true=>some ([0≤m∧m<n],{ dst:=o.dst,val:=.d (.ptr l) })
   | false=>none
  | _,_=>none
 | _,_,_=>none
def QX (T:TypeId) (x i:AV):Option (List Prop×Ev):=
 match isStr P T,x,i with
 | true,.d (.con (.string s)),.d (.con (.int _ m))=>some ([0≤m∧m<s.size],{ dst:=o.dst,val:=.d (.con (.int .u8 (byteAt s m.toNat))) })
 | false,x,.d (.con (.int _ m))=>match xG P T with
  | some (n,e)=>match oO P e,sizeT P e,kX x with
   | true,some sz,some l=>match vK (dG P e) l (m.toNat*sz) sz with
    | some y=>some ([0≤m∧m<n],{ dst:=o.dst,val:=y })
    | none=>none
   | _,_,_=>none
  | none=>none
 | _,_,_=>none
def Mc (x:AV) (i:Nat):Option (List Prop×Ev):=
 match sQ x with
 | some l=>match l[i]? with|some y=>some ([],{ dst:=o.dst,val:=y })|none=>none
 | none=>none
def tY:Operand→Option Int
 | .const (.int _ n)=>some n
 | _=>none
def I64 (n:Int):Prop:=-9223372036854775808≤n∧n≤9223372036854775807
def MP (n:Int):Prop:=-9223372036854775807≤n∧n≤9223372036854775807
def Kv (op:BinOp):AV→AV→Option (List Prop×Ev)
 | .d (.con (.int .i64 p)),.d (.con (.int .i64 q))=>match op with
  | .add=>some ([I64 (p+q)],{ dst:=o.dst,val:=.d (.con (.int .i64 (p+q))) })
  | .sub=>some ([I64 (p-q)],{ dst:=o.dst,val:=.d (.con (.int .i64 (p-q))) })
  | .mul=>some ([I64 (p*q)],{ dst:=o.dst,val:=.d (.con (.int .i64 (p*q))) })
  | _=>none
 | _,_=>none
def TQ (op:UnOp):AV→Option (List Prop×Ev)
 | .d (.con (.int .i64 p))=>match op with
  | .neg=>some ([MP p],{ dst:=o.dst,val:=.d (.con (.int .i64 (-p))) })
  | _=>none
 | _=>none
def KY (y:Operand):AV→AV→Option (List Prop×Ev)
 | .d (.con (.int .i64 p)),.d (.con (.int .i64 q))=>match tY y with
  | some n=>match decide (n=0) with
   | false=>some ([MP p],{ dst:=o.dst,val:=.d (.con (.int .i64 (p.tdiv n))) })
   | true=>none
  | none=>some ([q≠0,MP p],{ dst:=o.dst,val:=.d (.con (.int .i64 (p.tdiv q))) })
 | _,_=>none
def wo (rem:Bool) (y:Operand):AV→AV→Option (List Prop×Ev)
 | .d (.con (.int j p)),.d (.con (.int k q))=>match decide (j=k) with
  | true=>match tY y with
   | some n=>match decide (n=0) with
    | false=>some ([],{ dst:=o.dst,val:=.d (.con (.int j (match rem with|true=>p.tmod n|false=>j.wrap (p.tdiv n)))) })
    | true=>none
   | none=>some ([q≠0],{ dst:=o.dst,val:=.d (.con (.int j (match rem with|true=>p.tmod q|false=>j.wrap (p.tdiv q)))) })
  | false=>none
 | _,_=>none
def FT (op:BinOp):AV→AV→Option (List Prop×Ev)
 | .d (.con (.int j p)),.d (.con (.int _ q))=>match op with
  | .shl=>some ([0≤q],{ dst:=o.dst,val:=.d (.con (.int j (j.wrap (p*2 ^ (min q.toNat j.bits))))) })
  | .shr=>some ([0≤q],{ dst:=o.dst,val:=.d (.con (.int j (p.fdiv (2 ^ (min q.toNat j.bits))))) })
  | _=>none
 | _,_=>none
def Hz:AV→AV→Option (List Prop×Ev)
 | .d (.con (.string p)),.d (.con (.string q))=>some ([p.size+q.size≤9223372036854775807],{ dst:=o.dst,val:=.d (.con (.string (p++q))) })
 | _,_=>none
def SA (neq:Bool) (T:TypeId) (x y:AV):Option (List Prop×Ev):=
 match eqT P T,kX x,kX y with
 | some fs,some xs,some ys=>match Oj P xs ys fs with
  | some c=>some ([],{ dst:=o.dst,val:=.d (.con (.bool (Nw neq c))) })
  | none=>none
 | _,_,_=>none
def JB (op:BinOp) (x y:AV):Option (List Prop×Ev):=match aj.w with|true=>none|false=>Kv o op x y
def Tz (op:BinOp) (T:TypeId) (x y:Operand):Option (List Prop×Ev):=
 match op with
 | .quo=>orElse (KY o y (ρ x) (ρ y)) (wo o false y (ρ x) (ρ y))
 | .rem=>wo o true y (ρ x) (ρ y)
 | .add=>orElse (Hz o (ρ x) (ρ y)) (orElse (JB aj o .add (ρ x) (ρ y)) (mM P o ρ))
 | .sub=>orElse (JB aj o .sub (ρ x) (ρ y)) (mM P o ρ)
 | .mul=>orElse (JB aj o .mul (ρ x) (ρ y)) (mM P o ρ)
 | .eql=>orElse (SA P o false T (ρ x) (ρ y)) (mM P o ρ)
 | .neq=>orElse (SA P o true T (ρ x) (ρ y)) (mM P o ρ)
 | .shl=>FT o .shl (ρ x) (ρ y)
 | .shr=>FT o .shr (ρ x) (ρ y)
 | _=>mM P o ρ
def TI (s:Nat):Option Nat:=match rowOf st s with|some (a,_,_)=>a.mn|none=>none
def OQ (T:TypeId) (x:AV) (lo:Option Operand) (hi mx:Operand):Option (List Prop×Ev):=
 match x with
 | .vec _ sz _ n=>match bF P T,iC ρ lo 0,iC ρ (some hi) n,iC ρ (some mx) n with
  | some E,some l,some m,some M=>match sizeT P E with
   | some sz'=>match Nat.beq sz' sz with
    | true=>some ([0≤l∧l≤m∧m≤M∧M≤n],{ dst:=o.dst,val:=.any })
    | false=>none
   | none=>none
  | _,_,_,_=>none
 | _=>none
def KH (c:Call):Option (List Prop×Ev):=
 match c.args.toList,c.argTypes.toList,o.dst with
 | [x],[T],none=>match bF P T with
  | some E=>match sizeT P E,zeroOf P E with
   | some sz,some z=>match ρ x with
    | .vec s sz' lo n=>match rowOf st s with
     | some (agg,nS,f)=>match Nat.beq sz' sz&&(Nat.beq nS sz&&(Nat.beq z.length sz&&(Nat.blt 0 sz&&(z.all (·.oneCell')&&((agg.agg||Nat.beq z.length 1)&&!agg.fz))))) with
      | true=>some ([0<n],{ dst:=none,val:=.any,jI:=[(s,0,.arr agg sz fun i=>bif Nat.blt i lo then f i else bif Nat.blt i (lo+n) then uh agg.agg z else f i)] })
      | false=>none
     | none=>none
    | _=>none
   | _,_=>none
  | none=>none
 | _,_,_=>none
def Sl (s sz:Nat) (x:AV):Option (Nat×Nat):=match x with
 | .vec s' sz' lo' k=>match Nat.beq s s'&&Nat.beq sz' sz with|true=>some (lo',k)|false=>none
 | _=>none
def Sj (T:TypeId) (x:AV) (lo hi:Option Operand):Option (List Prop×Ev):=
 match x with
 | .d (.con (.string s))=>match isStr P T,iC ρ lo 0,iC ρ hi s.size with
  | true,some l,some m=>some ([0≤l∧l≤m∧m≤s.size],{ dst:=o.dst,val:=.d (.con (.string (s.extract l.toNat m.toNat))) })
  | _,_,_=>none
 | .d (.slc sz n f)=>match bF P T,iC ρ lo 0,iC ρ hi n with
  | some E,some l,some m=>match sizeT P E with
   | some sz'=>match Nat.beq sz' sz with
    | true=>some ([0≤l∧l≤m∧m≤n],{ dst:=o.dst,val:=.d (.slc sz (m-l).toNat (fun i=>f (l.toNat+i))) })
    | false=>none
   | none=>none
  | _,_,_=>none
 | .vec s sz pX n=>match bF P T,iC ρ lo 0,iC ρ hi n with
  | some E,some l,some m=>match sizeT P E with
   | some sz'=>match Nat.beq sz' sz with
    | true=>match TI st s with
     | some N=>some ([0≤l∧l≤m∧pX+m≤N],{ dst:=o.dst,val:=.vec s sz (pX+l.toNat) (m-l).toNat,je:=[(s,0)] })
     | none=>some ([0≤l∧l≤m∧m≤n],{ dst:=o.dst,val:=.vec s sz (pX+l.toNat) (m-l).toNat })
    | false=>none
   | none=>none
  | _,_,_=>none
 | _=>none
def Gp (T:TypeId) (lx cx:AV):Option (List Prop×Ev):=
 match o.dst,bF P T,lx,cx with
 | some d,some E,.d (.con (.int _ n)),.d (.con (.int _ c))=>match sizeT P E,zeroOf P E with
  | some sz,some z=>match Nat.beq z.length sz&&(Nat.blt 0 sz&&(z.all (·.oneCell')&&(dG P E||Nat.beq z.length 1))) with
   | true=>some ([n=c∧0≤c∧(jL P E:Int)*c≤281474976710656∧c≤9223372036854775807],{ dst:=some d,val:=.vec d sz 0 c.toNat,nw:=[(d,[.arr ⟨dG P E,E,false,none⟩ sz fun _=>uh (dG P E) z])] })
   | false=>none
  | _,_=>none
 | _,_,_,_=>none
def Ul (tx:TypeId) (agg:Bool) (sz:Nat) (x:AV):Option (List Prop×Nat×(Nat→DV)×List (Nat×Nat)):=
 match x with
 | .d (.slc sz' k gs)=>match bF P tx,Nat.beq sz' sz with
  | some _,true=>some ([∀i,i<k→nI agg sz (gs i)=true],k,gs,[])
  | _,_=>none
 | .vec s sz' lo k=>match bF P tx,rowOf st s with
  | some _,some (agg',nS,f)=>match Nat.beq sz' sz&&(Nat.beq nS sz&&Vk agg'.agg agg) with
   | true=>some ([],k,fun i=>f (lo+i),[(s,0)])
   | false=>none
  | _,_=>none
 | .d (.con (.slice _ 0 _))=>match bF P tx with|some _=>some ([],0,fun _=>.con undef,[])|none=>none
 | .d (.con (.string b))=>match isStr P tx&&(!agg&&Nat.beq sz 1) with|true=>some ([],b.size,uw b,[])|false=>none
 | _=>none
def Xu (P:Program) (T:TypeId):Bool:=match P.underlying T with|some (.int _)=>true|_=>false
def EP (tx:TypeId) (z:List Value) (agg:Bool) (sz:Nat) (x:AV):Option (List Prop×Nat×(Nat→DV)×List (Nat×Nat)):=
 match Ul P st tx agg sz x with
 | some r=>some r
 | none=>match x with
  | .d (.con (.int _ m))=>match Xu P tx&&(Nat.blt 0 sz&&(agg||Nat.beq z.length 1)) with|true=>some ([0<m],m.toNat,fun _=>uh agg z,[])|false=>none
  | _=>none
def Ik (c:Call):Option (List Prop×Ev):=
 match c.args.toList,c.argTypes.toList,o.dst with
 | [sx,x],[T,tx],some d=>match bF P T with
  | some E=>match sizeT P E,zeroOf P E with
   | some sz,some z=>match Nat.beq z.length sz&&(z.all (·.oneCell')&&Nat.ble (jL P E) 4294967296) with
    | true=>match ρ sx with
     | .vec s sz' lo n=>match rowOf st s with
      | some (agg,nS,f)=>match Sl s sz (ρ x) with
       | some (lo',k)=>match bF P tx,Nat.beq sz' sz&&(Nat.beq nS sz&&!agg.fz) with
        | some _,true=>some ([lo+n≤lo'∧lo<lo'],{ dst:=some d,val:=.vec s sz lo (n+k),je:=[(s,0)],jI:=[(s,0,.arr agg sz fun i=>bif Nat.blt i (lo+n) then f i else bif Nat.blt i (lo+n+k) then f (lo'+(i-(lo+n))) else f i)] })
        | _,_=>none
       | none=>match Nat.beq sz' sz&&(Nat.beq nS sz&&(Nat.beq lo 0&&(!(Nat.beq d s)&&(!agg.fz&&(agg.mn.isNone&&Nat.beq agg.ty E))))),EP P st tx z agg.agg sz (ρ x) with
        | true,some (cs,k,gs,rd)=>some (((n+k)*jL P E≤1099511627776∧n+k≤1099511627776) :: cs,{ dst:=some d,val:=.vec d sz 0 (n+k),je:=rd,jI:=[(s,0,.dead)],nw:=[(d,[.arr agg sz fun i=>bif Nat.blt i n then f i else gs (i-n)])] })
        | _,_=>none
      | none=>none
     | .d (.con (.slice none 0 0))=>match EP P st tx z (dG P E) sz (ρ x) with
      | some (cs,k,gs,rd)=>some ((k*jL P E≤1099511627776∧k≤1099511627776) :: cs,{ dst:=some d,val:=.vec d sz 0 k,je:=rd,nw:=[(d,[.arr ⟨dG P E,E,false,none⟩ sz gs])] })
      | none=>none
     | _=>none
    | false=>none
   | _,_=>none
  | none=>none
 | _,_,_=>none
def E8 (c:Call):Option (List Prop×Ev):=
 match c.args.toList,c.argTypes.toList,o.dst with
 | [sx,x],[T,tx],some d=>match bF P T,ρ sx with
  | some E,.vec s sz lo n=>match rowOf st s,sizeT P E,zeroOf P E with
   | some (agg,nS,f),some sz',some z=>match agg.mn,EP P st tx z agg.agg sz (ρ x) with
    | some N,some (cs,k,gs,rd)=>match Nat.beq z.length sz&&(z.all (·.oneCell')&&(Nat.ble (jL P E) 4294967296&&(Nat.beq sz' sz&&(Nat.beq nS sz&&(Nat.beq lo 0&&Nat.beq agg.ty E))))) with
     | true=>some (((n+k)*jL P E≤1099511627776∧n+k≤1099511627776) :: (N<n+k) :: cs,{ dst:=some d,val:=.vec d sz 0 (n+k),je:=(s,0) :: rd,nw:=[(d,[.arr ⟨agg.agg,agg.ty,false,none⟩ sz fun i=>bif Nat.blt i n then f i else gs (i-n)])] })
     | false=>none
    | _,_=>none
   | _,_,_=>none
  | _,_=>none
 | _,_,_=>none
def SS (c:Call):Option (List Prop×Ev):=
 match c.args.toList,c.argTypes.toList with
 | [x],[T]=>match bF P T,ρ x with
  | some _,.vec s _ lo _=>match TI st s with
   | some N=>some ([],{ dst:=o.dst,val:=.d (.con (.int .i64 ((N-lo:Nat):Int))),je:=[(s,0)] })
   | none=>none
  | _,_=>none
 | _,_=>none
def KD (tx:TypeId) (agg:Bool) (sz n:Nat) (x:AV):Option (List Prop×Nat×(Nat→DV)×List (Nat×Nat)):=
 match x with
 | .d (.slc sz' k gs)=>match bF P tx,Nat.beq sz' sz with
  | some _,true=>some ([∀i,i<min k n→nI agg sz (gs i)=true],k,gs,[])
  | _,_=>none
 | .vec s sz' lo k=>match bF P tx,rowOf st s with
  | some _,some (agg',nS,f)=>match Nat.beq sz' sz&&(Nat.beq nS sz&&Vk agg'.agg agg) with
   | true=>some ([],k,fun i=>f (lo+i),[(s,0)])
   | false=>none
  | _,_=>none
 | _=>none
def NY (c:Call):Option (List Prop×Ev):=
 match c.args.toList,c.argTypes.toList with
 | [dx,x],[T,tx]=>match bF P T,ρ dx with
  | some E,.vec s sz lo n=>match rowOf st s,sizeT P E with
   | some (agg,nS,f),some sz'=>match KD P st tx agg.agg sz n (ρ x) with
    | some (cs,k,gs,rd)=>match Nat.beq sz' sz&&(Nat.beq nS sz&&!agg.fz) with
     | true=>some (cs,{ dst:=o.dst,val:=.d (.con (.int .i64 ((min k n:Nat):Int))),je:=(s,0) :: rd,jI:=[(s,0,.arr agg sz fun i=>bif Nat.blt i lo then f i else bif Nat.blt i (lo+min k n) then gs (i-lo) else f i)] })
     | false=>none
    | none=>none
   | _,_=>none
  | _,_=>none
 | _,_=>none
def Gj (f:FuncId) (al:List AV):Option (List Prop×Ev):=
 match number (reach st 40 (Bc al) []) 0 with
 | m=>match wI st m with
  | some L=>match aj.m f (AV.carries m al) (L.pre m) with
   | some (r,post)=>match newNames o.dst post with
    | nu=>match (m.map fun p=>(p.2,p.1))++nu with
     | m2=>match xM L m nu m2 al r post with
      | true=>match aj.ro f with
       | true=>some (dV P G f (AV.carries m al) (L.pre m) r post :: BR m2 post L,{ dst:=o.dst,val:=AV.carry m2 r,je:=L.reads,jI:=[],nw:=xA m2 nu post })
       | false=>some ([dV P G f (AV.carries m al) (L.pre m) r post],{ dst:=o.dst,val:=AV.carry m2 r,je:=L.reads,jI:=L.writes m2 post,nw:=xA m2 nu post })
      | false=>none
   | none=>none
  | none=>none
def Oc (c:Call):Option (List Prop×Ev):=
 match c.callee with
 | .value x=>match kQ (ρ x),c.args.toList,c.argTypes.toList with
  | some (g,[],[]),[y,z],[T,_]=>match aj.ov g,ρ y,ρ z with
   | true,.vec s1 Ot _ n1,.vec s2 nS _ n2=>match rowOf st s1,rowOf st s2 with
    | some (k1,t1,_),some (_,t2,_)=>match !(Nat.beq s1 s2)&&(Nat.beq t1 Ot&&(Nat.blt 0 Ot&&(Nat.beq t2 nS&&(Nat.blt 0 nS&&(!k1.fz&&k1.agg))))) with
     | true=>some ([XZ P g T,0<n1,0<n2],{ dst:=o.dst,val:=.d (.con (.bool false)),je:=[(s1,0),(s2,0)] })
     | false=>none
    | _,_=>none
   | _,_,_=>none
  | _,_,_=>none
 | _=>none
def Vu (c:Call):Option (List Prop×Ev):=
 match c.callee with
 | .value x=>match kQ (ρ x) with
  | some (g,a1,a2)=>match pV (a1++(c.args.toList.map ρ++a2)) with
   | some ds=>match aj.d g ds with
    | some r=>some ([au P G g ds r],{ dst:=o.dst,val:=.d r })
    | none=>Gj P G aj o st g (a1++(c.args.toList.map ρ++a2))
   | none=>orElse (Gj P G aj o st g (a1++(c.args.toList.map ρ++a2))) (match mF st (a1++(c.args.toList.map ρ++a2)) with
    | some (xs,ss)=>match aj.d g xs with
     | some r=>match zB r with
      | true=>some ([au P G g xs r],{ dst:=o.dst,val:=.d r,je:=ss.map fun s=>(s,0) })
      | false=>match ss with
       | [s]=>some ([au P G g xs r],{ dst:=o.dst,val:=.d r,je:=[(s,0)],jI:=[(s,0,.dead)] })
       | _=>none
     | none=>none
    | none=>none)
  | none=>none
 | .builtin .append=>orElse (Ik P o ρ st c) (E8 P o ρ st c)
 | .builtin .cap=>orElse (SS P o ρ st c) (mM P o ρ)
 | .builtin .copy=>NY P o ρ st c
 | .builtin .clear=>KH P o ρ st c
 | .builtin .len=>match c.args.toList,c.argTypes.toList with
  | [x],[T]=>match ρ x,bF P T with
   | .d (.slc _ n _),some _=>some ([],{ dst:=o.dst,val:=.d (.con (.int .i64 n)) })
   | .vec _ _ _ n,some _=>some ([],{ dst:=o.dst,val:=.d (.con (.int .i64 n)) })
   | _,_=>mM P o ρ
  | _,_=>mM P o ρ
 | _=>mM P o ρ
def LP (src dst:TypeId) (x:AV):Option (List Prop×Ev):=
 match x with
 | .d (.slc 1 n f)=>match isBytes P src&&isStr P dst with
  | true=>some ([BytesAt n f],{ dst:=o.dst,val:=.d (.con (.string ⟨(bytesOf n f).toArray⟩)) })
  | false=>none
 | .vec s sz lo n=>match isBytes P src&&(isStr P dst&&Nat.beq sz 1),rowOf st s with
  | true,some (_,sz',f)=>match Nat.beq sz' 1 with
   | true=>some ([BytesAt n (fun i=>f (lo+i))],{ dst:=o.dst,val:=.d (.con (.string ⟨(bytesOf n (fun i=>f (lo+i))).toArray⟩)),je:=[(s,0)] })
   | false=>none
  | _,_=>none
 | .d (.con (.string b))=>match isStr P src&&isBytes P dst,o.dst,bF P dst with
  | true,some d,some E=>some ([],{ dst:=some d,val:=.vec d 1 0 b.size,nw:=[(d,[.arr ⟨false,E,false,none⟩ 1 (uw b)])] })
  | _,_,_=>none
 | _=>none
def mapOf (s:Nat):Option (Option IntKind×(Value→DV)×(Value→Bool)):=match st.box s with|some [.mp kd f has]=>some (kd,f,has)|_=>none
def Ut:Option IntKind→Option IntKind→Bool
 | none,none=>true
 | some i,some j=>decide (i=j)
 | _,_=>false
def VB:Option Operand→Bool
 | none=>true
 | some x=>match ρ x with | .d (.con (.int _ _))=>true|_=>false
def LX (T:TypeId) (r:Option Operand):Option (List Prop×Ev):=
 match o.dst,yC P T,VB ρ r with
 | some d,some (kd,e),true=>match y9 P e with
  | some zd=>some ([],{ dst:=some d,val:=.kE d,nw:=[(d,[.mp kd (fun _=>zd) fun _=>false])] })
  | none=>none
 | _,_,_=>none
def Px (T:TypeId) (x i:AV) (ok:Bool):Option (List Prop×Ev):=
 match yC P T with
 | some (kd,e)=>match y9 P e,i with
  | some zd,.d (.con key)=>match Dp kd key,x with
   | true,.kE s=>match mapOf st s with
    | some (kd',f,has)=>match Ut kd kd' with
     | true=>some ([has key=false→DV.imp zd (f key)],{ dst:=o.dst,val:=.d (FN ok f has key),je:=[(s,0)] })
     | false=>none
    | none=>none
   | true,.d (.mp kd' f has)=>match Ut kd kd' with
    | true=>some ([has key=false→DV.imp zd (f key)],{ dst:=o.dst,val:=.d (FN ok f has key) })
    | false=>none
   | _,_=>none
  | _,_=>none
 | none=>none
def vW (T:TypeId) (m i x:AV):Option (List Prop×Ev):=
 match o.dst,yC P T,m,i,x with
 | none,some (kd,_),.kE s,.d (.con key),.d d=>match mapOf st s with
  | some (kd',f,has)=>match Ut kd kd'&&Dp kd key with
   | true=>some ([],{ dst:=none,val:=.any,jI:=[(s,0,.mp kd (ES key d f) (CP key has))] })
   | false=>none
  | none=>none
 | _,_,_,_,_=>none
def RJ (op:BinOp) (T:TypeId) (x y:AV):Option (List Prop×Ev):=
 match op,PL P T&&Jw x,y with
 | .eql,true,.d (.con (.pointer none))=>some ([],{ dst:=o.dst,val:=.d (.con (.bool false)) })
 | .neq,true,.d (.con (.pointer none))=>some ([],{ dst:=o.dst,val:=.d (.con (.bool true)) })
 | _,_,_=>none
def Ri (op:BinOp) (T:TypeId) (x y:AV):Option (List Prop×Ev):=
 match op,yI P T,x,y with
 | .eql,true,.d (.slc _ n _),.d (.con (.slice none 0 0))=>some ([0<n],{ dst:=o.dst,val:=.d (.con (.bool false)) })
 | .eql,true,.vec _ _ _ n,.d (.con (.slice none 0 0))=>some ([0<n],{ dst:=o.dst,val:=.d (.con (.bool false)) })
 | _,_,_,_=>none
def evalOp:Option (List Prop×Ev):=
 match o.op with
 | .move x=>some ([],{ dst:=o.dst,val:=ρ x })
 | .assign x=>some ([],{ dst:=o.dst,val:=ρ x })
 | .alloc T=>Rq P aj o T
 | .box _ x=>Yh o (ρ x)
 | .build T parts=>QS P o ρ T parts.toList
 | .buildSlice T n parts=>Em P aj o ρ T n parts.toList
 | .load T p=>Vr P o st T (pt (ρ p))
 | .store T p x=>Ru P o st T (pt (ρ p)) (pt (ρ x))
 | .nilCheck x=>XQ o (ρ x)
 | .fieldAddr T x i=>GU P o T (pt (ρ x)) i
 | .field T x i=>Rw P o T (ρ x) i
 | .indexAddr T x i=>Hq P o T (ρ x) (ρ i)
 | .index T x i=>QX P o T (ρ x) (ρ i)
 | .extract t i=>Mc o (ρ t) i
 | .makeFunc f x c=>some ([],{ dst:=o.dst,val:=NC f (x.toList.map ρ) (c.toList.map ρ) })
 | .binOp op T x y _=>orElse (Tz P aj o ρ op T x y) (orElse (Ri P o op T (ρ x) (ρ y)) (RJ P o op T (ρ x) (ρ y)))
 | .unOp op _ x=>orElse (TQ o op (ρ x)) (mM P o ρ)
 | .makeSlice T l c=>Gp P o T (ρ l) (ρ c)
 | .slice T x lo hi none=>Sj P o ρ st T (ρ x) lo hi
 | .slice T x lo (some hi) (some mx)=>OQ P o ρ T (ρ x) lo hi mx
 | .call c=>orElse (Oc P aj o ρ st c) (Vu P G aj o ρ st c)
 | .convert src dst x=>orElse (LP P o st src dst (ρ x)) (mM P o ρ)
 | .makeMap T r=>LX P o ρ T r
 | .lookup T x i ok=>Px P o st T (ρ x) (ρ i) ok
 | .mapUpdate T m i x=>vW P o st T (ρ m) (ρ i) (ρ x)
 | .insert T m i x=>vW P o st T (ρ m) (ρ i) (ρ x)
 | _=>mM P o ρ
end
section
variable {P:Program} {G:IH} {aj:eU} {o:Oper} {ρ:Operand→AV} {st:AS} {cs:List Prop} {e:Ev}
theorem iH {s:Nat} {a:RK} {sz:Nat} {f:Nat→DV} (h:rowOf st s=some (a,sz,f)):st.box s=some [.arr a sz f]:=by
 unfold rowOf at h
 split at h
 ·rename_i hb;simp only[aG,bg] at h;obtain ⟨rfl,rfl,rfl⟩:=h;exact hb
 ·cases h
theorem IV {s:Nat} {kd:Option IntKind} {f:Value→DV} {has:Value→Bool} (h:mapOf st s=some (kd,f,has)):st.box s=some [.mp kd f has]:=by
 unfold mapOf at h
 split at h
 ·rename_i hb;simp only[aG,bg] at h;obtain ⟨rfl,rfl,rfl⟩:=h;exact hb
 ·cases h
theorem Om {a b:Option IntKind} (h:Ut a b=true):a=b:=by
 unfold Ut at h
 split at h
 ·rfl
 ·simp only[eF] at h;rw[h]
 ·cases h
theorem AA {T:TypeId} {m i x:Operand} (ho:NM o.op=some (T,m,i,x)) (h:vW P o st T (ρ m) (ρ i) (ρ x)=some (cs,e)):Core P G o ρ st e:=by
 unfold vW at h
 split at h
 ·rename_i kd e' s key d hd hT hm hi hx
  split at h
  ·rename_i kd' f has hmo
   split at h
   ·rename_i hc
    simp only[aV] at hc
    obtain ⟨h1,h2⟩:=hc
    obtain rfl:=Om h1
    simp only[aG,bg] at h;obtain ⟨rfl,rfl⟩:=h
    exact KI ho hd hT hm (IV hmo) hi h2 hx
   ·cases h
  ·cases h
 ·cases h
theorem Pz {a b:Bool} (h:Vk a b=true):a=b:=by cases a<;>cases b<;>simp_all [Vk]
theorem Nr {T:TypeId} {p x:Operand} {s sz i off:Nat} (ho:o.op=.store T p x) (hp:ρ p=.elem s sz i off) (h:Du P o st T s sz i off (ρ x)=some (cs,e)):Core P G o ρ st e:=by
 unfold Du at h
 split at h
 ·rename_i n l hd hz hcx
  split at h
  ·rename_i xs agg sz' f hxs hrow
   split at h
   ·rename_i hcond
    simp only[aV,Nat.beq_eq,Nat.ble_eq,Bool.not_eq_true'] at hcond
    obtain ⟨⟨hl,hs,hin⟩,hfz⟩:=hcond
    subst hs
    have hb:=iH hrow
    split at h
    ·rename_i hw
     simp only[aV,Nat.beq_eq] at hw
     obtain ⟨rfl,rfl⟩:=hw
     split at h
     ·simp only[aG,bg] at h;obtain ⟨rfl,rfl⟩:=h
      rename_i hag
      exact uZ ho hd hp hb hfz hz hcx hl hin (fun β h v xv us _ k2 _ k4 k5 k6=>by rw[hag];exact GN (agg:=true) (_fi:=f i) hcx hxs hl rfl k2 k4 k5 k6)
     ·simp only[aG,bg] at h;obtain ⟨rfl,rfl⟩:=h
      rename_i hag
      exact uZ ho hd hp hb hfz hz hcx hl hin (fun β h v xv us _ k2 _ k4 k5 k6=>by rw[hag];exact GN (agg:=false) (_fi:=f i) hcx hxs hl rfl k2 k4 k5 k6)
     ·cases h
    ·split at h
     ·rename_i fl hag hfl
      simp only[aG,bg] at h;obtain ⟨rfl,rfl⟩:=h
      exact uZ ho hd hp hb hfz hz hcx hl hin (fun β h v xv us k1 k2 _ _ _ k6=>by rw[hag];exact TN (β:=β) hfl hxs hl hin k1 k2 k6)
     ·cases h
   ·cases h
  ·cases h
 ·cases h
theorem Xd {tx:TypeId} {agg:Bool} {sz:Nat} {x:AV} {k:Nat} {gs:Nat→DV} {rd:List (Nat×Nat)} (h:Ul P st tx agg sz x=some (cs,k,gs,rd)) (hc:∀c∈cs,c):uH P G st rd sz tx agg x k gs:=by
 unfold Ul at h
 split at h
 ·split at h
  ·rename_i E hE hs
   simp only[Nat.beq_eq] at hs;subst hs
   simp only[aG,bg] at h;obtain ⟨rfl,rfl,rfl,rfl⟩:=h
   exact RZ hE (hc _ (List.mem_singleton.2 rfl))
  ·cases h
 ·split at h
  ·rename_i E agg' nS f hE hrow
   split at h
   ·rename_i hcond
    simp only[aV,Nat.beq_eq] at hcond
    obtain ⟨h1,h2,h3⟩:=hcond
    have h3:=Pz h3
    subst h1;subst h2;subst h3
    simp only[aG,bg] at h;obtain ⟨rfl,rfl,rfl,rfl⟩:=h
    exact Ko hE (iH hrow)
   ·cases h
  ·cases h
 ·split at h
  ·rename_i E hE
   simp only[aG,bg] at h;obtain ⟨rfl,rfl,rfl,rfl⟩:=h
   exact YC hE
  ·cases h
 ·split at h
  ·rename_i hcond
   simp only[aV,Nat.beq_eq,Bool.not_eq_true'] at hcond
   obtain ⟨h1,rfl,rfl⟩:=hcond
   simp only[aG,bg] at h;obtain ⟨rfl,rfl,rfl,rfl⟩:=h
   exact Yk h1
  ·cases h
 ·cases h
theorem U4 {T:TypeId} (h:Xu P T=true):∃k,P.underlying T=some (.int k):=by
 unfold Xu at h
 split at h
 ·exact⟨_,by assumption⟩
 ·cases h
theorem Fg {tx E:TypeId} {z:List Value} {agg:Bool} {sz:Nat} {x:AV} {k:Nat} {gs:Nat→DV} {rd:List (Nat×Nat)} (hz:zeroOf P E=some z) (hzl:z.length=sz) (hone:z.all (·.oneCell')=true) (h:EP P st tx z agg sz x=some (cs,k,gs,rd)) (hc:∀c∈cs,c):FY P G st rd E sz tx agg x k gs:=by
 unfold EP at h
 split at h
 ·rename_i r hr
  simp only[aG] at h;subst h
  exact(Xd hr hc).z
 ·split at h
  ·rename_i kq m hr
   split at h
   ·rename_i hcond
    simp only[aV,Nat.blt_eq] at hcond
    obtain ⟨hk,hp,hform⟩:=hcond
    simp only[aG,bg] at h;obtain ⟨rfl,rfl,rfl,rfl⟩:=h
    have hm:0<m:=hc _ (List.mem_singleton.2 rfl)
    obtain ⟨kn,hk⟩:=U4 hk
    obtain ⟨i,zv,hi,hzz,hzc⟩:=sZ hz
    intro F w0 h0 st' β h tm w xv g _ hx
    simp only[AV.rel,DV.rel] at hx
    subst hx
    have hzv:zv.cells=z.toArray:=by rw[←hzc]
    have hcl:=JA (h:=h) (agg:=agg) m.toNat hzl hp hone hform
    refine⟨_,.inr ⟨by omega,hp,kq,kn,i,zv,hk,?_,hi,hzz,by rw[hzv];simpa using hzl,by rw[hzv],hcl.one⟩,hcl⟩
    rw[Int.toNat_of_nonneg (by omega)]
   ·cases h
  ·cases h
theorem Qv {c:Call} (ho:o.op=.call c) (lu:c.callee=.builtin .append) (h:Ik P o ρ st c=some (cs,e)) (hc:∀c∈cs,c):Core P G o ρ st e:=by
 unfold Ik at h
 split at h
 ·rename_i sx x T tx d ha ht hd
  have ha':c.args=#[sx,x]:=by rw[←Array.toArray_toList (xs:=c.args),ha]
  have ht':c.argTypes=#[T,tx]:=by rw[←Array.toArray_toList (xs:=c.argTypes),ht]
  split at h
  ·rename_i E hE
   split at h
   ·rename_i sz z hsz hz
    split at h
    ·rename_i hcond
     simp only[aV,Nat.beq_eq,Nat.ble_eq] at hcond
     obtain ⟨hzl,hone,hby⟩:=hcond
     split at h
     ·rename_i s sz' lo n hs
      split at h
      ·rename_i agg nS f hrow
       split at h
       ·rename_i lo' k hself
        split at h
        ·rename_i E' hE' hc1
         simp only[aV,Nat.beq_eq,Bool.not_eq_true'] at hc1
         obtain ⟨h1,h2,h3⟩:=hc1
         subst h1;subst h2
         unfold Sl at hself
         split at hself
         ·rename_i s' sz' lo2 k2 hx
          split at hself
          ·rename_i hss
           simp only[aV,Nat.beq_eq] at hss
           obtain ⟨rfl,rfl⟩:=hss
           simp only[aG,bg] at hself;obtain ⟨rfl,rfl⟩:=hself
           simp only[aG,bg] at h;obtain ⟨rfl,rfl⟩:=h
           exact Ib ho lu ha' ht' hE hE' hd hsz h3 hs hx (iH hrow) (hc _ (List.mem_cons_self ..))
          ·cases hself
         ·cases hself
        ·cases h
       ·split at h
        ·rename_i cs' k gs rd hc1 hsrc
         simp only[aV,Nat.beq_eq,Bool.not_eq_true',Option.isNone_iff_eq_none] at hc1
         obtain ⟨h1,h2,h3,h4,h5,h5b,h6⟩:=hc1
         subst h1;subst h2;subst h3
         have h4:d≠s:=by intro hh;subst hh;simp at h4
         simp only[aG,bg] at h;obtain ⟨rfl,rfl⟩:=h
         exact QF ho lu ha' ht' hE hd hsz hz hzl hone h5 h5b h6 hs (iH hrow) h4 hby (hc _ (List.mem_cons_self ..)) (Fg hz hzl hone hsrc fun q hq=>hc q (List.mem_cons_of_mem _ hq))
        ·cases h
      ·cases h
     ·rename_i hs
      split at h
      ·rename_i cs' k gs rd hsrc
       simp only[aG,bg] at h;obtain ⟨rfl,rfl⟩:=h
       exact IQ ho lu ha' ht' hE hd hsz hz hzl hone hs hby (hc _ (List.mem_cons_self ..)) (Fg hz hzl hone hsrc fun q hq=>hc q (List.mem_cons_of_mem _ hq))
      ·cases h
     ·cases h
    ·cases h
   ·cases h
  ·cases h
 ·cases h
theorem VH {c:Call} (ho:o.op=.call c) (h:Oc P aj o ρ st c=some (cs,e)) (hc:∀c∈cs,c):Core P G o ρ st e:=by
 unfold Oc at h
 split at h
 ·rename_i x hcl
  split at h
  ·rename_i g y z T T' hx ha ht
   split at h
   ·rename_i s1 Ot lo1 n1 s2 nS lo2 n2 _ h1 h2
    split at h
    ·rename_i k1 t1 f1 k2 t2 f2 r1 r2
     split at h
     ·rename_i hcond
      simp only[aV,Nat.beq_eq,Nat.blt_eq,Bool.not_eq_true'] at hcond
      obtain ⟨c1,c2,c3,c4,c5,c6,c7⟩:=hcond
      simp only[aG,bg] at h;obtain ⟨rfl,rfl⟩:=h
      refine VK ho hcl hx (by rw[←Array.toArray_toList (xs:=c.args),ha]) (hc _ (List.mem_cons_self ..)) h1 h2 (fun e=>?_) (iH r1) (iH r2) ⟨c2,c3⟩ ⟨c4,c5⟩ c6 c7 (hc _ (List.mem_cons_of_mem _ (List.mem_cons_self ..))) (hc _ (List.mem_cons_of_mem _ (List.mem_cons_of_mem _ (List.mem_cons_self ..))))
      subst e
      simp at c1
     ·cases h
    ·cases h
   ·cases h
  ·cases h
 ·cases h
theorem PN {c:Call} (ho:o.op=.call c) (lu:c.callee=.builtin .append) (h:E8 P o ρ st c=some (cs,e)) (hc:∀c∈cs,c):Core P G o ρ st e:=by
 unfold E8 at h
 split at h
 ·rename_i sx x T tx d ha ht hd
  have ha':c.args=#[sx,x]:=by rw[←Array.toArray_toList (xs:=c.args),ha]
  have ht':c.argTypes=#[T,tx]:=by rw[←Array.toArray_toList (xs:=c.argTypes),ht]
  split at h
  ·rename_i E s sz lo n hE hs
   split at h
   ·rename_i agg nS f sz' z hrow hsz hz
    split at h
    ·rename_i N cs' k gs rd hN hsrc
     split at h
     ·rename_i hcond
      simp only[aV,Nat.beq_eq,Nat.ble_eq] at hcond
      obtain ⟨hzl,hone,hby,h1,h2,h3,h4⟩:=hcond
      subst h1;subst h2;subst h3
      simp only[aG,bg] at h;obtain ⟨rfl,rfl⟩:=h
      exact JQ ho lu ha' ht' hE hd hsz hz hzl hone h4 hN hs (iH hrow) hby (hc _ (List.mem_cons_self ..)) (hc _ (List.mem_cons_of_mem _ (List.mem_cons_self ..))) (Fg hz hzl hone hsrc fun q hq=>hc q (List.mem_cons_of_mem _ (List.mem_cons_of_mem _ hq)))
     ·cases h
    ·cases h
   ·cases h
  ·cases h
 ·cases h
theorem WS {c:Call} (ho:o.op=.call c) (lu:c.callee=.builtin .cap) (h:SS P o ρ st c=some (cs,e)):Core P G o ρ st e:=by
 unfold SS at h
 split at h
 ·rename_i x T ha ht
  split at h
  ·rename_i E s sz lo n hE hx
   split at h
   ·rename_i N hN
    simp only[aG,bg] at h;obtain ⟨rfl,rfl⟩:=h
    unfold TI at hN
    split at hN
    ·rename_i agg nS f hrow
     exact Wp ho lu (by rw[←Array.toArray_toList (xs:=c.args),ha]) (by rw[←Array.toArray_toList (xs:=c.argTypes),ht]) hE hx (iH hrow) hN
    ·cases hN
   ·cases h
  ·cases h
 ·cases h
theorem Tf {tx:TypeId} {agg:Bool} {sz n:Nat} {x:AV} {k:Nat} {gs:Nat→DV} {rd:List (Nat×Nat)} (h:KD P st tx agg sz n x=some (cs,k,gs,rd)) (hc:∀c∈cs,c) :
  ∃x',(∀β h0 v,x.rel β h0 v→∃p cp cp',v=.slice p k cp∧x'.rel β h0 (.slice p (min k n) cp'))∧uH P G st rd sz tx agg x' (min k n) gs:=by
 unfold KD at h
 split at h
 ·split at h
  ·rename_i sz' k2 gs2 _ _ E hE hb
   simp only[aG,bg] at h;obtain ⟨rfl,rfl,rfl,rfl⟩:=h
   obtain rfl:=Nat.eq_of_beq_eq_true hb
   refine⟨.d (.slc _ (min k2 n) gs2),fun β h0 v hv=>?_,RZ hE (hc _ (List.mem_singleton.2 rfl))⟩
   obtain ⟨p,cap,rfl,hcc,hr⟩:=hv
   refine⟨p,cap,cap,rfl,p,cap,rfl,by omega,?_⟩
   rcases hr with hr|⟨b,off,hp,hr⟩
   ·exact .inl (by omega)
   ·exact .inr ⟨b,off,hp,fun i hi=>hr i (by omega)⟩
  ·cases h
 ·split at h
  ·rename_i s sz' lo k2 _ _ E agg' nS f hE hrow
   split at h
   ·rename_i hcond
    simp only[aV,Nat.beq_eq] at hcond
    obtain ⟨h1,h2,h3⟩:=hcond
    subst h1;subst h2
    simp only[aG,bg] at h;obtain ⟨rfl,rfl,rfl,rfl⟩:=h
    obtain rfl:=Pz h3
    refine⟨.vec s _ lo (min k2 n),fun β h0 v hv=>?_,Ko hE (iH hrow)⟩
    obtain ⟨k1,k3,p,rfl,hp⟩:=hv
    exact⟨p,_,_,rfl,by omega,k3,p,rfl,hp⟩
   ·cases h
  ·cases h
 ·cases h
theorem Ve {c:Call} (ho:o.op=.call c) (lu:c.callee=.builtin .copy) (h:NY P o ρ st c=some (cs,e)) (hc:∀c∈cs,c):Core P G o ρ st e:=by
 unfold NY at h
 split at h
 ·rename_i dx x T tx ha ht
  split at h
  ·rename_i E s sz lo n hE hd
   split at h
   ·rename_i agg nS f sz' hrow hsz
    split at h
    ·rename_i cs' k gs rd hsrc
     split at h
     ·rename_i hcond
      simp only[aV,Nat.beq_eq,Bool.not_eq_true'] at hcond
      obtain ⟨h1,h2,h3⟩:=hcond
      subst h1;subst h2
      simp only[aG,bg] at h;obtain ⟨rfl,rfl⟩:=h
      obtain ⟨x',t1,t2⟩:=Tf (G:=G) hsrc hc
      exact UG ho lu (by rw[←Array.toArray_toList (xs:=c.args),ha]) (by rw[←Array.toArray_toList (xs:=c.argTypes),ht]) hE hsz h3 hd (iH hrow) t1 t2
     ·cases h
    ·cases h
   ·cases h
  ·cases h
 ·cases h
theorem TF {c:Call} (ho:o.op=.call c) (lu:c.callee=.builtin .clear) (h:KH P o ρ st c=some (cs,e)) (hc:∀c∈cs,c):Core P G o ρ st e:=by
 unfold KH at h
 split at h
 ·rename_i x T ha ht hd
  have ha':c.args=#[x]:=by rw[←Array.toArray_toList (xs:=c.args),ha]
  have ht':c.argTypes=#[T]:=by rw[←Array.toArray_toList (xs:=c.argTypes),ht]
  split at h
  ·rename_i E hE
   split at h
   ·rename_i sz z hsz hz
    split at h
    ·rename_i s sz' lo n hx
     split at h
     ·rename_i agg nS f hrow
      split at h
      ·rename_i hcond
       simp only[aV,Nat.beq_eq,Nat.blt_eq,Bool.not_eq_true'] at hcond
       obtain ⟨h1,h2,h3,h4,h5,h6,h7⟩:=hcond
       subst h1;subst h2
       simp only[aG,bg] at h;obtain ⟨rfl,rfl⟩:=h
       exact Uk ho lu hd ha' ht' hE hz h3 h4 h5 h6 h7 hx (iH hrow) (hc _ (List.mem_singleton.2 rfl))
      ·cases h
     ·cases h
    ·cases h
   ·cases h
  ·cases h
 ·cases h
theorem Jj {c:Call} (ho:o.op=.call c) {x:Operand} (lu:c.callee=.value x) {f:FuncId} {a1 a2:List AV} (hx:kQ (ρ x)=some (f,a1,a2)) (h:Gj P G aj o st f (a1++(c.args.toList.map ρ++a2))=some (cs,e)) (hc:∀c∈cs,c):Core P G o ρ st e:=by
 unfold Gj at h
 simp only at h
 split at h
 ·rename_i L hL
  split at h
  ·rename_i r post hr
   split at h
   ·rename_i hok
    split at h
    ·simp only[aG,bg] at h;obtain ⟨rfl,rfl⟩:=h
     exact MW ho lu hx hL rfl hok (hc _ (List.mem_cons_self ..)) fun c hc'=>hc c (List.mem_cons_of_mem _ hc')
    ·simp only[aG,bg] at h;obtain ⟨rfl,rfl⟩:=h
     exact JD ho lu hx hL rfl hok (hc _ (List.mem_singleton.2 rfl))
   ·cases h
  ·cases h
 ·cases h
theorem jK (h:mM P o ρ=some (cs,e)):Core P G o ρ st e:=by
 unfold mM at h
 split at h
 ·rename_i v h1 h2 h3
  simp only[aG,bg] at h
  obtain ⟨rfl,rfl⟩:=h
  exact UD h1 h2 h3
 ·cases h
theorem O4 {rem:Bool} {T U:TypeId} {x y:Operand} (ho:o.op=.binOp (if rem then .rem else .quo) T x y U) (hy:∀n,tY y=some n→∀k q,ρ y=.d (.con (.int k q))→q=n)
  (h:wo o rem y (ρ x) (ρ y)=some (cs,e)) (hc:∀c∈cs,c):Core P G o ρ st e:=by
 cases hx:ρ x with
 | d a=>cases a with
  | con u=>cases u with
   | int j p=>cases hyv:ρ y with
    | d b=>cases b with
     | con v=>cases v with
      | int k q=>
       simp only[hx,hyv,wo] at h
       split at h
       ·rename_i hjk
        simp only[eF] at hjk;subst hjk
        split at h
        ·rename_i n hn
         obtain rfl:=hy n hn _ _ hyv
         split at h
         ·rename_i hn0
          simp only[decide_eq_false_iff_not] at hn0
          simp only[aG,bg] at h
          obtain ⟨rfl,rfl⟩:=h
          cases rem with
          | true=>exact Qe (by simpa using ho) hx hyv hn0
          | false=>exact BP (by simpa using ho) hx hyv hn0
         ·cases h
        ·simp only[aG,bg] at h
         obtain ⟨rfl,rfl⟩:=h
         have h0:=hc _ (List.mem_singleton.2 rfl)
         cases rem with
         | true=>exact Qe (by simpa using ho) hx hyv h0
         | false=>exact BP (by simpa using ho) hx hyv h0
       ·cases h
      | _=>simp[hx,hyv,wo] at h
     | _=>simp[hx,hyv,wo] at h
    | _=>simp[hx,hyv,wo] at h
   | _=>simp[hx,wo] at h
  | _=>simp[hx,wo] at h
 | _=>simp[hx,wo] at h
theorem uU {n:Int} (h:I64 n):IntKind.wrap .i64 n=n:=IntWalk.i64_in n ⟨h.1,h.2⟩
theorem Uh {op:BinOp} {T U:TypeId} {x y:Operand} (ho:o.op=.binOp op T x y U) (h:Kv o op (ρ x) (ρ y)=some (cs,e)) (hc:∀c∈cs,c):Core P G o ρ st e:=by
 unfold Kv at h
 split at h
 ·rename_i p q hx hy
  have hval:∀β (k:IH) (a:Act),(∀z∈o.op.operands,(ρ z).rel β k (a.eval z))→a.eval x=.int .i64 p∧a.eval y=.int .i64 q:=by
   intro β k a hop
   have hxv:=hop x (by simp[ho,Op.operands])
   have hyv:=hop y (by simp[ho,Op.operands])
   rw[hx] at hxv;rw[hy] at hyv
   exact⟨hxv,hyv⟩
  split at h
  ·simp only[aG,bg] at h;obtain ⟨rfl,rfl⟩:=h
   have hr:=uU (hc _ (List.mem_singleton.2 rfl))
   exact bQ fun β k a w _ _ hop=>by
    obtain ⟨h1,h2⟩:=hval β k a hop
    exact⟨_,by simp[execOp,ho,h1,h2,eqGuard,binOp,Op.intArith,hr],rfl⟩
  ·simp only[aG,bg] at h;obtain ⟨rfl,rfl⟩:=h
   have hr:=uU (hc _ (List.mem_singleton.2 rfl))
   exact bQ fun β k a w _ _ hop=>by
    obtain ⟨h1,h2⟩:=hval β k a hop
    exact⟨_,by simp[execOp,ho,h1,h2,eqGuard,binOp,Op.intArith,hr],rfl⟩
  ·simp only[aG,bg] at h;obtain ⟨rfl,rfl⟩:=h
   have hr:=uU (hc _ (List.mem_singleton.2 rfl))
   exact bQ fun β k a w _ _ hop=>by
    obtain ⟨h1,h2⟩:=hval β k a hop
    exact⟨_,by simp[execOp,ho,h1,h2,eqGuard,binOp,Op.intArith,hr],rfl⟩
  ·cases h
 ·cases h
theorem Jl {op:BinOp} {T U:TypeId} {x y:Operand} (ho:o.op=.binOp op T x y U) (h:FT o op (ρ x) (ρ y)=some (cs,e)) (hc:∀c∈cs,c):Core P G o ρ st e:=by
 unfold FT at h
 split at h
 ·rename_i j p k' q hx hy
  have hval:∀β (k:IH) (a:Act),(∀z∈o.op.operands,(ρ z).rel β k (a.eval z))→a.eval x=.int j p∧a.eval y=.int k' q:=by
   intro β k a hop
   have hxv:=hop x (by simp[ho,Op.operands])
   have hyv:=hop y (by simp[ho,Op.operands])
   rw[hx] at hxv;rw[hy] at hyv
   exact⟨hxv,hyv⟩
  split at h
  ·simp only[aG,bg] at h;obtain ⟨rfl,rfl⟩:=h
   have hr:0≤q:=hc _ (List.mem_singleton.2 rfl)
   have hr:¬q<0:=by omega
   exact bQ fun β k a w _ _ hop=>by
    obtain ⟨h1,h2⟩:=hval β k a hop
    exact⟨_,by simp[execOp,ho,h1,h2,eqGuard,binOp,Op.shift,hr],rfl⟩
  ·simp only[aG,bg] at h;obtain ⟨rfl,rfl⟩:=h
   have hr:0≤q:=hc _ (List.mem_singleton.2 rfl)
   have hr:¬q<0:=by omega
   exact bQ fun β k a w _ _ hop=>by
    obtain ⟨h1,h2⟩:=hval β k a hop
    exact⟨_,by simp[execOp,ho,h1,h2,eqGuard,binOp,Op.shift,hr],rfl⟩
  ·cases h
 ·cases h
theorem Wh {op:UnOp} {T:TypeId} {x:Operand} (ho:o.op=.unOp op T x) (h:TQ o op (ρ x)=some (cs,e)) (hc:∀c∈cs,c):Core P G o ρ st e:=by
 unfold TQ at h
 split at h
 ·rename_i p hx
  split at h
  ·simp only[aG,bg] at h;obtain ⟨rfl,rfl⟩:=h
   have hp:MP p:=hc _ (List.mem_singleton.2 rfl)
   have hr:IntKind.wrap .i64 (0-p) = -p:=by rw[uU ⟨by have:=hp.2;omega,by have:=hp.1;omega⟩];omega
   exact bQ fun β k a w _ _ hop=>by
    have hxv:=hop x (by simp[ho,Op.operands])
    rw[hx] at hxv
    simp only[AV.rel,DV.rel] at hxv
    exact⟨_,by simp only[execOp,ho,hxv,Op.unary,Op.intArith,Sem.run_bind,Sem.run_pure,Result.andThen_ok,hr],rfl⟩
  ·cases h
 ·cases h
theorem OY {p q:Int} (hp:MP p):I64 (p.tdiv q):=by
 have h1:(p.tdiv q).natAbs≤p.natAbs:=by rw[Int.natAbs_tdiv];exact Nat.div_le_self _ _
 have:=hp.1;have:=hp.2
 exact⟨by omega,by omega⟩
theorem Un {T U:TypeId} {x y:Operand} (ho:o.op=.binOp .quo T x y U) (hy:∀n,tY y=some n→∀k q,ρ y=.d (.con (.int k q))→q=n)
  (h:KY o y (ρ x) (ρ y)=some (cs,e)) (hc:∀c∈cs,c):Core P G o ρ st e:=by
 unfold KY at h
 split at h
 ·rename_i p q hx hyv
  split at h
  ·rename_i n hn
   obtain rfl:=hy n hn _ _ hyv
   split at h
   ·rename_i hn0
    simp only[decide_eq_false_iff_not] at hn0
    simp only[aG,bg] at h;obtain ⟨rfl,rfl⟩:=h
    have hr:=uU (OY (q:=q) (hc _ (List.mem_singleton.2 rfl)))
    have:=BP (P:=P) (G:=G) (st:=st) ho hx hyv hn0
    rwa [hr] at this
   ·cases h
  ·simp only[aG,bg] at h;obtain ⟨rfl,rfl⟩:=h
   have hr:=uU (OY (q:=q) (hc (MP p) (by simp)))
   have:=BP (P:=P) (G:=G) (st:=st) ho hx hyv (hc (q≠0) (by simp))
   rwa [hr] at this
 ·cases h
theorem QB {T U:TypeId} {x y:Operand} (ho:o.op=.binOp .add T x y U) (h:Hz o (ρ x) (ρ y)=some (cs,e)) (hc:∀c∈cs,c):Core P G o ρ st e:=by
 unfold Hz at h
 split at h
 ·rename_i p q hx hy
  simp only[aG,bg] at h
  obtain ⟨rfl,rfl⟩:=h
  exact QE ho hx hy (hc _ (List.mem_singleton.2 rfl))
 ·cases h
theorem RI {neq:Bool} {T U:TypeId} {x y:Operand} (ho:o.op=.binOp (if neq then .neq else .eql) T x y U) (h:SA P o neq T (ρ x) (ρ y)=some (cs,e)):Core P G o ρ st e:=by
 unfold SA at h
 split at h
 ·rename_i fs xs ys h1 h2 h3
  split at h
  ·rename_i c h4
   simp only[aG,bg] at h
   obtain ⟨rfl,rfl⟩:=h
   exact Yz ho h1 h2 h3 h4
  ·cases h
 ·cases h
theorem jm {a b:Option (List Prop×Ev)} {x:List Prop×Ev} (h:orElse a b=some x):a=some x∨b=some x:=by
 cases a with
 | some y=>exact .inl h
 | none=>exact .inr h
theorem Ie {op:BinOp} {T U:TypeId} {x y:Operand} (ho:o.op=.binOp op T x y U) (h:JB aj o op (ρ x) (ρ y)=some (cs,e)) (hc:∀c∈cs,c):Core P G o ρ st e:=by
 unfold JB at h
 split at h
 ·cases h
 ·exact Uh ho h hc
theorem Xx {op:BinOp} {T U:TypeId} {x y:Operand} (ho:o.op=.binOp op T x y U) (hy:∀n,tY y=some n→∀k q,ρ y=.d (.con (.int k q))→q=n)
  (h:Tz P aj o ρ op T x y=some (cs,e)) (hc:∀c∈cs,c):Core P G o ρ st e:=by
 unfold Tz at h
 split at h
 ·rcases jm h with h|h
  ·exact Un ho hy h hc
  ·exact O4 (rem:=false) ho hy h hc
 ·exact O4 (rem:=true) ho hy h hc
 ·rcases jm h with h|h
  ·exact QB ho h hc
  ·rcases jm h with h|h
   ·exact Ie ho h hc
   ·exact jK h
 ·rcases jm h with h|h
  ·exact Ie ho h hc
  ·exact jK h
 ·rcases jm h with h|h
  ·exact Ie ho h hc
  ·exact jK h
 ·rcases jm h with h|h
  ·exact RI (neq:=false) ho h
  ·exact jK h
 ·rcases jm h with h|h
  ·exact RI (neq:=true) ho h
  ·exact jK h
 ·exact Jl ho h hc
 ·exact Jl ho h hc
 ·exact jK h
theorem Vq (hlit:∀(y:Operand) n,tY y=some n→∀k q,ρ y=.d (.con (.int k q))→q=n) (h:evalOp P G aj o ρ st=some (cs,e)) (hc:∀c∈cs,c):Core P G o ρ st e:=by
 unfold evalOp at h
 split at h
 case h_1 x ho=>simp only[aG,bg] at h;obtain ⟨rfl,rfl⟩:=h;exact LD (.inl ho)
 case h_2 x ho=>simp only[aG,bg] at h;obtain ⟨rfl,rfl⟩:=h;exact LD (.inr ho)
 case h_3 T ho=>
  unfold Rq at h
  split at h
  ·rename_i s l hs hz
   split at h
   ·simp only[aG,bg] at h;obtain ⟨rfl,rfl⟩:=h
    exact QA ho hs hz
   ·simp only[aG,bg] at h;obtain ⟨rfl,rfl⟩:=h
    exact SX ho hs hz
  ·cases h
 case h_4 T x ho=>
  unfold Yh at h
  split at h
  ·rename_i s l hs hz
   split at h
   ·rename_i hf
    simp only[aG,bg] at h;obtain ⟨rfl,rfl⟩:=h
    exact Xh ho hs hz hf
   ·cases h
  ·cases h
 case h_5 T parts ho=>
  unfold QS at h
  split at h
  ·rename_i z pl m h1 h2 h3
   split at h
   ·rename_i l hl
    simp only[aG,bg] at h;obtain ⟨rfl,rfl⟩:=h
    exact SH ho h1 h2 h3 hl
   ·cases h
  ·cases h
 case h_6 T n parts ho=>
  unfold Em at h
  split at h
  ·rename_i hem
   unfold PD at hem
   split at hem
   ·rename_i hp
    unfold Oh at h
    split at h
    ·rename_i d E hd hE
     split at h
     ·rename_i sz hsz
      simp only[aG,bg] at h;obtain ⟨rfl,rfl⟩:=h
      exact Ih ho hp hE hsz hd
     ·cases h
    ·cases h
   ·cases hem
  split at h
  ·rename_i E hE
   split at h
   ·rename_i sz z m h1 h2 h3
    split at h
    ·rename_i l hl
     split at h
     ·rename_i ds hd
      split at h
      ·rename_i hcond
       simp only[aV,Bool.or_eq_true,Nat.beq_eq] at hcond
       split at h
       ·rename_i d hdst
        split at h
        ·rename_i hrow
         simp only[aV,Bool.or_eq_true,Nat.beq_eq] at hrow
         simp only[aG,bg] at h;obtain ⟨rfl,rfl⟩:=h
         exact MR ho hE h1 hcond.1 h2 h3 hl hd hcond.2.1 hrow.2.1 hrow.2.2 hdst
        ·simp only[aG,bg] at h;obtain ⟨rfl,rfl⟩:=h
         rename_i afe _
         rw[hdst]
         have:=zh (st:=st) (G:=G) ho hE h1 hcond.1 h2 h3 hl hd hcond.2.1 hcond.2.2
         rwa [hdst] at this
       ·simp only[aG,bg] at h;obtain ⟨rfl,rfl⟩:=h
        exact zh ho hE h1 hcond.1 h2 h3 hl hd hcond.2.1 hcond.2.2
      ·cases h
     ·cases h
    ·cases h
   ·cases h
  ·cases h
 case h_7 T p ho=>
  refine Core.pt ?_
  unfold Vr at h
  split at h
  ·rename_i n hu hz
   split at h
   ·rename_i s off hp
    split at h
    ·rename_i l hb
     split at h
     ·rename_i x hn hx
      simp only[aV,Nat.beq_eq] at hn
      simp only[aG,bg] at h;obtain ⟨rfl,rfl⟩:=h
      exact Nb ho hp hu hz hb hn.1 hn.2 hx
     ·cases h
    ·cases h
   ·rename_i l hp
    split at h
    ·rename_i x hn hx
     simp only[Nat.beq_eq] at hn
     simp only[aG,bg] at h;obtain ⟨rfl,rfl⟩:=h
     exact Nu ho hp hu hz hn hx
    ·cases h
   ·rename_i s sz i off hp
    split at h
    ·rename_i agg sz' f hrow
     split at h
     ·rename_i hw
      simp only[aV,Nat.beq_eq] at hw
      obtain ⟨h1,h2,h3,h4⟩:=hw
      subst h1;subst h2;subst h3
      simp only[aG,bg] at h;obtain ⟨rfl,rfl⟩:=h
      exact Lm ho hp (iH hrow) hu hz (Pz h4)
     ·split at h
      ·rename_i l hl
       split at h
       ·rename_i x hn hx
        simp only[aV,Nat.beq_eq] at hn
        obtain ⟨h1,h2⟩:=hn
        subst h2
        simp only[aG,bg] at h;obtain ⟨rfl,rfl⟩:=h
        exact KZ ho hp (iH hrow) hu hz hl h1 hx
       ·cases h
      ·cases h
    ·cases h
   ·cases h
  ·cases h
 case h_8 T p x ho=>
  refine Core.pt ?_
  unfold Ru at h
  split at h
  ·rename_i s sz i off hp
   exact Nr (ρ:=fun x=>pt (ρ x)) ho hp h
  ·split at h
   ·rename_i n s off l hd hz hp hcx
    split at h
    ·rename_i lb hb
     split at h
     ·rename_i hcond
      simp only[aV,Nat.beq_eq,Nat.ble_eq] at hcond
      simp only[aG,bg] at h;obtain ⟨rfl,rfl⟩:=h
      exact Tv ho hd hp hz hcx hcond.1 hb hcond.2.1 hcond.2.2
     ·cases h
    ·cases h
   ·cases h
 case h_9 x ho=>
  unfold XQ at h
  split at h
  ·rename_i hn
   simp only[aG,bg] at h;obtain ⟨rfl,rfl⟩:=h
   exact MS ho hn
  ·cases h
 case h_10 T x i ho=>
  refine Core.pt ?_
  unfold GU at h
  split at h
  ·rename_i f hf
   split at h
   ·rename_i n y hz hy
    simp only[aG,bg] at h;obtain ⟨rfl,rfl⟩:=h
    exact La ho hf hz (by omega) hy
   ·cases h
  ·cases h
 case h_11 T x i ho=>
  unfold Rw at h
  split at h
  ·rename_i f hf
   split at h
   ·rename_i n l hu hz hl
    split at h
    ·rename_i y hy
     simp only[aG,bg] at h;obtain ⟨rfl,rfl⟩:=h
     exact Ud ho hf hu hz hl hy
    ·cases h
   ·cases h
  ·cases h
 case h_12 T x i ho=>
  unfold Hq at h
  split at h
  ·rename_i E s sz lo n k m hE hx hi
   split at h
   ·rename_i sz' hz
    split at h
    ·rename_i hs
     simp only[Nat.beq_eq] at hs;subst hs
     simp only[aG,bg] at h;obtain ⟨rfl,rfl⟩:=h
     exact Ey ho hE hx hz hi (hc _ (List.mem_singleton.2 rfl))
    ·cases h
   ·cases h
  ·rename_i E sz n f k m hE hx hi
   split at h
   ·rename_i sz' l hz hl
    split at h
    ·rename_i hs
     simp only[Nat.beq_eq] at hs;subst hs
     simp only[aG,bg] at h;obtain ⟨rfl,rfl⟩:=h
     exact KX ho hE hx hz hi (hc _ (List.mem_singleton.2 rfl)) hl
    ·cases h
   ·cases h
  ·cases h
 case h_13 T x i ho=>
  unfold QX at h
  split at h
  ·rename_i s k m hT hx hi
   simp only[aG,bg] at h;obtain ⟨rfl,rfl⟩:=h
   exact Kq ho hT hx hi (hc _ (List.mem_singleton.2 rfl))
  ·rename_i k m hT hi
   split at h
   ·rename_i n e hT2
    split at h
    ·rename_i sz l hu hz hl
     split at h
     ·rename_i y hy
      simp only[aG,bg] at h;obtain ⟨rfl,rfl⟩:=h
      exact KG ho hT2 hu hz hl hi (hc _ (List.mem_singleton.2 rfl)) hy
     ·cases h
    ·cases h
   ·cases h
  ·cases h
 case h_14 t i ho=>
  unfold Mc at h
  split at h
  ·rename_i l hl
   split at h
   ·rename_i y hy
    simp only[aG,bg] at h;obtain ⟨rfl,rfl⟩:=h
    exact PW ho hl hy
   ·cases h
  ·cases h
 case h_15 f x c ho=>simp only[aG,bg] at h;obtain ⟨rfl,rfl⟩:=h;exact Np ho
 case h_16 op T x y U ho=>
  unfold orElse at h
  split at h
  ·rename_i v hv
   simp only[aG] at h;subst h
   exact Xx ho (hlit y) hv hc
  ·rcases jm h with h|h
   ·unfold Ri at h
    split at h
    ·rename_i hT hx hy _ _
     simp only[aG,bg] at h;obtain ⟨rfl,rfl⟩:=h
     exact Qs ho hT hx hy (hc _ (List.mem_singleton.2 rfl))
    ·rename_i hT hx hy _ _
     simp only[aG,bg] at h;obtain ⟨rfl,rfl⟩:=h
     exact Jt ho hT hx hy (hc _ (List.mem_singleton.2 rfl))
    ·cases h
   ·unfold RJ at h
    split at h
    ·rename_i hT hy _ _
     simp only[aV] at hT
     simp only[aG,bg] at h;obtain ⟨rfl,rfl⟩:=h
     exact Ez (neq:=false) ho hT.1 hT.2 hy
    ·rename_i hT hy _ _
     simp only[aV] at hT
     simp only[aG,bg] at h;obtain ⟨rfl,rfl⟩:=h
     exact Ez (neq:=true) ho hT.1 hT.2 hy
    ·cases h
 case h_17 op T x ho=>
  rcases jm h with h|h
  ·exact Wh ho h hc
  ·exact jK h
 case h_18 T lx cx ho=>
  unfold Gp at h
  split at h
  ·rename_i d E kl n kc c hd hE hl hcx
   split at h
   ·rename_i sz z hsz hz
    split at h
    ·rename_i hcond
     simp only[aV,Nat.beq_eq,Nat.blt_eq] at hcond
     obtain ⟨h1,h2,h3,h4⟩:=hcond
     simp only[aG,bg] at h;obtain ⟨rfl,rfl⟩:=h
     exact J9 ho hd hE hsz hz h1 h2 h3 h4 hl hcx (hc _ (List.mem_singleton.2 rfl))
    ·cases h
   ·cases h
  ·cases h
 case h_19 T x lo hi ho=>
  unfold Sj at h
  split at h
  ·rename_i s hx
   split at h
   ·rename_i l m hT hl hm
    simp only[aG,bg] at h;obtain ⟨rfl,rfl⟩:=h
    exact KN ho hT hx hl hm (hc _ (List.mem_singleton.2 rfl))
   ·cases h
  ·rename_i sz n f hx
   split at h
   ·rename_i E l m hT hl hm
    split at h
    ·rename_i sz' hz
     split at h
     ·rename_i hs
      simp only[Nat.beq_eq] at hs;subst hs
      simp only[aG,bg] at h;obtain ⟨rfl,rfl⟩:=h
      exact Kw ho hT hx hz hl hm (hc _ (List.mem_singleton.2 rfl))
     ·cases h
    ·cases h
   ·cases h
  ·rename_i s sz pX n hx
   split at h
   ·rename_i E l m hT hl hm
    split at h
    ·rename_i sz' hz
     split at h
     ·rename_i hs
      simp only[Nat.beq_eq] at hs;subst hs
      split at h
      ·rename_i N hN
       simp only[aG,bg] at h;obtain ⟨rfl,rfl⟩:=h
       unfold TI at hN
       split at hN
       ·rename_i a nS f hrow
        exact Jp ho hT hx hz (iH hrow) hN hl hm (hc _ (List.mem_singleton.2 rfl))
       ·cases hN
      ·simp only[aG,bg] at h;obtain ⟨rfl,rfl⟩:=h
       exact Kt ho hT hx hz hl hm (hc _ (List.mem_singleton.2 rfl))
     ·cases h
    ·cases h
   ·cases h
  ·cases h
 case h_20 T x lo hi mx ho=>
  unfold OQ at h
  split at h
  ·rename_i s sz pX n hx
   split at h
   ·rename_i E l m M hT hl hm hM
    split at h
    ·rename_i sz' hz
     split at h
     ·rename_i hs
      simp only[Nat.beq_eq] at hs;subst hs
      simp only[aG,bg] at h;obtain ⟨rfl,rfl⟩:=h
      exact Qz ho hT hx hz rfl hl hm hM (hc _ (List.mem_singleton.2 rfl))
     ·cases h
    ·cases h
   ·cases h
  ·cases h
 case h_21 c ho=>
  rcases jm h with h|h
  ·exact VH ho h hc
  unfold Vu at h
  split at h
  ·rename_i x hcl
   split at h
   ·rename_i g a1 a2 hx
    split at h
    ·rename_i ds hd
     split at h
     ·rename_i r hr
      simp only[aG,bg] at h;obtain ⟨rfl,rfl⟩:=h
      exact Qo ho hcl hx hd (hc _ (List.mem_singleton.2 rfl))
     ·exact Jj ho hcl hx h hc
    ·rcases jm h with h|h
     ·exact Jj ho hcl hx h hc
     split at h
     ·rename_i xs ss hl
      split at h
      ·rename_i r hr
       split at h
       ·rename_i hfl
        simp only[aG,bg] at h;obtain ⟨rfl,rfl⟩:=h
        exact Ns ho hcl hx hl (hc _ (List.mem_singleton.2 rfl)) hfl
       ·split at h
        ·rename_i s
         simp only[aG,bg] at h;obtain ⟨rfl,rfl⟩:=h
         exact Nh ho hcl hx hl (hc _ (List.mem_singleton.2 rfl))
        ·cases h
      ·cases h
     ·cases h
   ·cases h
  ·rename_i hcl
   rcases jm h with h|h
   ·exact Qv ho hcl h hc
   ·exact PN ho hcl h hc
  ·rename_i hcl
   rcases jm h with h|h
   ·exact WS ho hcl h
   ·exact jK h
  ·rename_i hcl
   exact Ve ho hcl h hc
  ·rename_i hcl
   exact TF ho hcl h hc
  ·rename_i hcl
   split at h
   ·rename_i x T ha ht
    split at h
    ·rename_i sz n f E hx hE
     simp only[aG,bg] at h;obtain ⟨rfl,rfl⟩:=h
     exact Xi ho hcl (by rw[←Array.toArray_toList (xs:=c.args),ha]) (by rw[←Array.toArray_toList (xs:=c.argTypes),ht]) hE hx
    ·rename_i s sz lo n E hx hE
     simp only[aG,bg] at h;obtain ⟨rfl,rfl⟩:=h
     exact O1 ho hcl (by rw[←Array.toArray_toList (xs:=c.args),ha]) (by rw[←Array.toArray_toList (xs:=c.argTypes),ht]) hE hx
    ·exact jK h
   ·exact jK h
  ·exact jK h
 case h_22 src dst x ho=>
  rcases jm h with h|h
  ·unfold LP at h
   split at h
   ·rename_i n f hx
    split at h
    ·rename_i hcond
     simp only[aV] at hcond
     simp only[aG,bg] at h;obtain ⟨rfl,rfl⟩:=h
     exact Nj ho hcond.1 hcond.2 hx (hc _ (List.mem_singleton.2 rfl))
    ·cases h
   ·rename_i s sz lo n hx
    split at h
    ·rename_i agg sz' f hcond hrow
     simp only[aV,Nat.beq_eq] at hcond
     obtain ⟨h1,h2,h3⟩:=hcond
     subst h3
     split at h
     ·rename_i hs
      simp only[Nat.beq_eq] at hs;subst hs
      simp only[aG,bg] at h;obtain ⟨rfl,rfl⟩:=h
      exact Qr ho h1 h2 hx (iH hrow) (hc _ (List.mem_singleton.2 rfl))
     ·cases h
    ·cases h
   ·rename_i b hx
    split at h
    ·rename_i d E0 hcond hd hE0
     simp only[aV] at hcond
     simp only[aG,bg] at h;obtain ⟨rfl,rfl⟩:=h
     exact Qx ho hcond.1 hcond.2 hE0 hd hx
    ·cases h
   ·cases h
  ·exact jK h
 case h_23 T r ho=>
  unfold LX at h
  split at h
  ·rename_i d kd e' hd hT hr
   split at h
   ·rename_i zd hz
    simp only[aG,bg] at h;obtain ⟨rfl,rfl⟩:=h
    refine O6 ho hd hT (fun x hx=>?_) _
    subst hx
    unfold VB at hr
    simp only at hr
    split at hr
    ·rename_i k n hh;exact⟨k,n,hh⟩
    ·cases hr
   ·cases h
  ·cases h
 case h_24 T x i ok ho=>
  unfold Px at h
  split at h
  ·rename_i kd e' hT
   split at h
   ·rename_i zd key hz hi
    split at h
    ·rename_i s hk hx
     split at h
     ·rename_i kd' f has hmo
      split at h
      ·rename_i h1
       obtain rfl:=Om h1
       simp only[aG,bg] at h;obtain ⟨rfl,rfl⟩:=h
       exact Qu ho hT hz hx (IV hmo) hi hk (hc _ (List.mem_singleton.2 rfl))
      ·cases h
     ·cases h
    ·rename_i kd' f has hk hx
     split at h
     ·rename_i h1
      obtain rfl:=Om h1
      simp only[aG,bg] at h;obtain ⟨rfl,rfl⟩:=h
      exact Oo ho hT hz hx hi hk (hc _ (List.mem_singleton.2 rfl))
     ·cases h
    ·cases h
   ·cases h
  ·cases h
 case h_25 T m i x ho=>exact AA (by rw[ho];rfl) h
 case h_26 T m i x ho=>exact AA (by rw[ho];rfl) h
 case h_27=>exact jK h
end
end Go.Ab
namespace Go.Ab
open Go Go.RowKit
def AS.ev (st:AS):Operand→AV
 | .tmp t=>st.reg t
 | .const v=>CS v
 | .func f=>.d (.con (.func (.func f) #[] #[]))
 | .global _=>.any
theorem aN.ev {G:IH} {F:Fr} {w0:World} {h0:IH} {st:AS} {β:Nat→Nat} {h:IH} {a:Act} {w:World} (g:aN G F w0 h0 st β h a.tmps w) (x:Operand):(st.ev x).rel β h (a.eval x):=by
 cases x with
 | tmp t=>
  simp only[AS.ev,AS.reg]
  cases hr:st.regs[t]? with
  | none=>trivial
  | some y=>
   obtain ⟨v,hv,hy⟩:=g.regs t y hr
   simpa [Act.eval,Array.getD_eq_getD_getElem?,hv] using hy
 | const v=>exact MI β h v
 | func f=>rfl
 | global _=>trivial
def yQ:AV→AV
 | .gate _ _ _ x=>x
 | x=>x
def Glob (G:IH) (g:Nat) (l:List DV):Prop:=∃vs:List Value,DV.aB G l vs∧∀i,i<vs.length→G.cell g i=vs[i]?
def Jd (aj:eU) (x:Operand) (y:AV):AV:=match x with
 | .global g=>match aj.gl g with|some l=>.d (.ptr l)|none=>y
 | _=>y
def zA (G:IH) (aj:eU):List Operand→List Prop
 | []=>[]
 | .global g :: l=>match aj.gl g with|some d=>Glob G g d :: zA G aj l|none=>zA G aj l
 | _ :: l=>zA G aj l
theorem Lu {G:IH} {aj:eU}:∀{l:List Operand},(∀c∈zA G aj l,c)→∀{x:Operand} {y:AV} {β:Nat→Nat} {h:IH} {a:Act},x∈l→G.le h→y.rel β h (a.eval x)→(Jd aj x y).rel β h (a.eval x)
 | [],_,_,_,_,_,_,hx=>by simp at hx
 | z :: l,hc,x,y,β,h,a,hx=>fun hG hr=>by
  have hl:∀c∈zA G aj l,c:=fun c h1=>by
   refine hc c ?_
   unfold zA
   split
   ·rename_i h2;cases h2
   ·rename_i h2;injection h2 with h3 h4;subst h4
    split
    ·exact List.mem_cons_of_mem _ h1
    ·exact h1
   ·rename_i h2;injection h2 with h3 h4;subst h4;exact h1
  rcases List.mem_cons.1 hx with rfl|hx
  ·cases x with
   | global g=>
    unfold Jd
    cases hg:aj.gl g with
    | none=>simp only[hg];exact hr
    | some d=>
     simp only[hg]
     have:Glob G g d:=hc _ (by unfold zA;simp only[hg];exact List.mem_cons_self ..)
     obtain ⟨vs,h1,h2⟩:=this
     simp only[AV.rel,DV.rel]
     refine⟨g,0,rfl,vs,DV.aB.mono hG _ _ h1,fun i hi=>?_⟩
     have h3:=h2 i hi
     have h4:vs[i]?=some vs[i]:=iy hi
     rw[Nat.zero_add,h4]
     exact hG.1 g i _ (h3.trans h4)
   | _=>exact hr
  ·exact Lu hl hx hG hr
def o8:AV→Bool
 | .gate ..=>true
 | _=>false
abbrev Key:=Option (Nat×Bool)
def sameKey (k:Key) (s:Nat) (w:Bool):Bool:=match k with|some (s',w')=>Nat.beq s' s&&(match w,w' with|true,true=>true|false,false=>true|_,_=>false)|none=>false
theorem sameKey_eq {k:Key} {s:Nat} {w:Bool} (h:sameKey k s w=true):k=some (s,w):=by
 cases k with
 | none=>simp[sameKey] at h
 | some p=>
  obtain ⟨s',w'⟩:=p
  simp only[sameKey,aV,Nat.beq_eq] at h
  obtain ⟨rfl,h⟩:=h
  cases w<;>cases w'<;>simp_all
def lU (x:AV) (want:Bool):Option Bool:=
 match x with
 | .d (.con (.bool b))=>some (match want with|true=>b|false=>!b)
 | .gate _ _ g (.d (.con (.bool b)))=>some (match want with|true=>g&&b|false=>g&&!b)
 | _=>none
def Good (st:AS):Prop:=∀(t s:Nat) (w b:Bool) (x:AV),st.regs[t]?=some (.gate s w b x)→lU (st.reg s) w=some b
def qm (k:Key):List AV→List Prop
 | []=>[]
 | .gate s w g _ :: l=>match sameKey k s w with|true=>qm k l|false=>(g=true) :: qm k l
 | _ :: l=>qm k l
theorem rZ {k:Key}:∀{l:List AV} (_:∀c∈qm k l,c) {s:Nat} {w g:Bool} {x:AV},AV.gate s w g x∈l→sameKey k s w=true∨g=true
 | [],_,_,_,_,_,h=>by simp at h
 | y :: l,hc,s,w,g,x,h=>by
  cases y with
  | gate s' w' g' z=>
   simp only[qm] at hc
   simp only[List.mem_cons] at h
   cases hk:sameKey k s' w' with
   | true=>
    rw[hk] at hc
    rcases h with h|h
    ·injection h with h1 h2 _ _;subst h1 h2;exact .inl hk
    ·exact rZ hc h
   | false=>
    rw[hk] at hc
    simp only[List.mem_cons] at hc
    rcases h with h|h
    ·injection h with _ _ h1 _;subst h1;exact .inr (hc _ (.inl rfl))
    ·exact rZ (fun c hc'=>hc c (.inr hc')) h
  | _=>
   simp only[qm] at hc
   simp only[List.mem_cons,reduceCtorEq,false_or] at h
   exact rZ hc h
def qB:AV→Option (Option (Nat×Bool×Bool)×Bool)
 | .d (.con (.bool x))=>some (none,x)
 | .gate s w g (.d (.con (.bool x)))=>some (some (s,w,g),x)
 | _=>none
def xR (k:Key) (c:Option (Nat×Bool×Bool)) (p:Prop):List Prop:=match c with|none=>[] | some (s,w,g)=>match sameKey k s w with|true=>[] | false=>[p→g=true]
def Aw (c:Operand) (w:Bool):Key:=match c with | .tmp t=>some (t,w)|_=>none
def OI (k:Key) (raw:Operand→AV) (dst:Option Nat) (c a b:Operand):Option (List Prop×Ev):=
 match qB (raw c) with
 | some (gc,b0)=>
  match b with
  | .const (.bool false)=>match qB (raw a) with
   | some (ga,x)=>some (xR k gc True++xR (Aw c true) ga (b0=true),{ dst:=dst,val:=.d (.con (.bool (b0&&x))) })
   | none=>none
  | b=>match a with
   | .const (.bool true)=>match qB (raw b) with
    | some (gb,y)=>some (xR k gc True++xR (Aw c false) gb (b0=false),{ dst:=dst,val:=.d (.con (.bool (b0||y))) })
    | none=>none
   | _=>none
 | none=>none
theorem xC {x:AV} {g:Option (Nat×Bool×Bool)} {b:Bool} (hb:qB x=some (g,b)) {β:Nat→Nat} {h:IH} {v:Value} (hr:x.rel β h v) (hg:∀s w c,g=some (s,w,c)→c=true):v=.bool b:=by
 unfold qB at hb
 split at hb
 ·simp only[aG,bg] at hb;obtain ⟨rfl,rfl⟩:=hb;exact hr
 ·simp only[aG,bg] at hb;obtain ⟨rfl,rfl⟩:=hb
  exact hr.1 (hg _ _ _ rfl)
 ·cases hb
theorem vY {k:Key} {g:Option (Nat×Bool×Bool)} {p:Prop} (hk:∀s w c,g=some (s,w,c)→sameKey k s w=true→c=true) (hp:p) (hc:∀c∈xR k g p,c):∀s w c,g=some (s,w,c)→c=true:=by
 rintro s w c rfl
 cases hs:sameKey k s w with
 | true=>exact hk s w c rfl hs
 | false=>
  simp only[xR,hs,List.mem_singleton,forall_eq] at hc
  exact hc hp
theorem GZ {x:AV} {s:Nat} {w g b:Bool} (h:qB x=some (some (s,w,g),b)):x=.gate s w g (.d (.con (.bool b))):=by
 unfold qB at h
 split at h
 ·simp at h
 ·simp only[aG,bg] at h;obtain ⟨⟨rfl,rfl,rfl⟩,rfl⟩:=h;rfl
 ·cases h
theorem Us {P:Program} {G:IH} {o:Oper} {st:AS} {cs:List Prop} {e:Ev} {c a b:Operand} {k:Key} (hgood:Good st) (hkey:∀s w,k=some (s,w)→lU (st.reg s) w=some true) (ho:o.op=.pick c a b) (h:OI k st.ev o.dst c a b=some (cs,e)) (hc:∀c∈cs,c):Core P G o st.ev st e:=by
 have hev:∀(x:Operand) (s:Nat) (w g:Bool) (y:AV),st.ev x=.gate s w g y→lU (st.reg s) w=some g:=by
  intro x s w g y hx
  cases x with
  | tmp t=>
   simp only[AS.ev,AS.reg] at hx
   cases hr:st.regs[t]? with
   | none=>simp[hr] at hx
   | some z=>simp only[hr,Option.getD_some] at hx;subst hx;exact hgood t s w g y hr
  | const v=>simp only[AS.ev] at hx;cases v<;>simp[CS] at hx
  | func f=>simp[AS.ev] at hx
  | global g=>simp[AS.ev] at hx
 have hck:∀gc b0,qB (st.ev c)=some (gc,b0)→∀s w d,gc=some (s,w,d)→sameKey k s w=true→d=true:=by
  intro gc b0 hb s w d hgc hs
  subst hgc
  have h1:=hev c s w d _ (GZ hb)
  have h2:=hkey s w (sameKey_eq hs)
  rw[h1] at h2;exact Option.some.inj h2
 have hself:∀(x:Operand) gx b gc b0 (want:Bool),qB (st.ev c)=some (gc,b0)→qB (st.ev x)=some (gx,b)→(∀s w d,gc=some (s,w,d)→d=true)→b0=want→∀s w d,gx=some (s,w,d)→sameKey (Aw c want) s w=true→d=true:=by
  intro x gx b gc b0 want hb hx hgc hb0 s w d hgx hs
  subst hgx
  have h1:=hev x s w d _ (GZ hx)
  have h2:=sameKey_eq hs
  cases c with
  | tmp t=>
   simp only[Aw,aG,bg] at h2
   obtain ⟨rfl,rfl⟩:=h2
   unfold qB at hb
   simp only[AS.ev] at hb
   unfold lU at h1
   split at hb
   ·rename_i y hy
    simp only[aG,bg] at hb;obtain ⟨_,hb2⟩:=hb
    rw[hy] at h1
    simp only[aG] at h1
    rw[←h1,hb2,hb0]
    cases want<;>rfl
   ·rename_i s' w' g' y hy
    simp only[aG,bg] at hb;obtain ⟨hb1,hb2⟩:=hb
    have hg':=hgc _ _ _ hb1.symm
    rw[hy] at h1
    simp only[aG] at h1
    rw[←h1,hg',hb2,hb0]
    cases want<;>rfl
   ·cases hb
  | _=>simp[Aw] at h2
 unfold OI at h
 split at h
 ·rename_i gc b0 hb0
  split at h
  ·split at h
   ·rename_i ga x hx
    simp only[aG,bg] at h;obtain ⟨rfl,rfl⟩:=h
    refine bQ fun β k' a' w _ _ hop=>⟨_,?_,rfl⟩
    have hgc:=vY (hck gc b0 hb0) trivial (fun q hq=>hc q (List.mem_append_left _ hq))
    have h1:=xC hb0 (hop c (by simp[ho,Op.operands])) hgc
    have hra:=hop a (by simp[ho,Op.operands])
    simp only[execOp,ho,Sem.run_bind,h1,asBool,Sem.run_pure,Result.andThen_ok]
    cases hb:b0 with
    | false=>simp[Act.eval]
    | true=>
     have h2:=xC hx hra (vY (hself a ga x gc b0 true hb0 hx hgc hb) hb (fun q hq=>hc q (List.mem_append_right _ hq)))
     simp[h2]
   ·cases h
  ·split at h
   ·split at h
    ·rename_i gb y hy
     simp only[aG,bg] at h;obtain ⟨rfl,rfl⟩:=h
     refine bQ fun β k' a' w _ _ hop=>⟨_,?_,rfl⟩
     have hgc:=vY (hck gc b0 hb0) trivial (fun q hq=>hc q (List.mem_append_left _ hq))
     have h1:=xC hb0 (hop c (by simp[ho,Op.operands])) hgc
     have hrb:=hop b (by simp[ho,Op.operands])
     simp only[execOp,ho,Sem.run_bind,h1,asBool,Sem.run_pure,Result.andThen_ok]
     cases hb:b0 with
     | true=>simp[Act.eval]
     | false=>
      have h2:=xC hy hrb (vY (hself b gb y gc b0 false hb0 hy hgc hb) hb (fun q hq=>hc q (List.mem_append_right _ hq)))
      simp[h2]
    ·cases h
   ·cases h
 ·cases h
def guardOf (ops:List Oper) (o:Oper) (st:AS):Option (Option (Nat×Bool×Bool)):=
 match o.guard with
 | none=>some none
 | some (j,want)=>match ops[j]? with
  | some q=>match q.dst with
   | some g=>match lU (st.reg g) want with
    | some b=>some (some (g,want,b))
    | none=>none
   | none=>none
  | none=>none
def keyOf (γ:Option (Nat×Bool×Bool)):Key:=match γ with|some (s,w,_)=>some (s,w)|none=>none
def Nv (P:Program) (G:IH) (aj:eU) (k:Key) (o:Oper) (st:AS):Option (List Prop×Ev):=
 match o.op with
 | .pick c a b=>OI k st.ev o.dst c a b
 | _=>match evalOp P G aj o (fun x=>Jd aj x (yQ (st.ev x))) st with
  | some (cs,e)=>some (qm k (o.op.operands.toList.map st.ev)++(zA G aj o.op.operands.toList++cs),e)
  | none=>none
def FC (b:Bool):List Prop→List Prop
 | []=>[]
 | c :: cs=>(b=true→c) :: FC b cs
theorem JI {b:Bool} (hb:b=true):∀{cs:List Prop} (_:∀c∈FC b cs,c) (c:Prop) (_:c∈cs),c
 | [],_,_,h=>by simp at h
 | d :: cs,hc,c,h=>by
  simp only[FC,List.mem_cons] at hc
  simp only[List.mem_cons] at h
  rcases h with rfl|h
  ·exact hc _ (.inl rfl) hb
  ·exact JI hb (fun c hc'=>hc c (.inr hc')) c h
def TK:Option Nat→Option Nat→Bool
 | some a,some b=>Nat.beq a b
 | none,none=>true
 | _,_=>false
theorem WC {a b:Option Nat} (h:TK a b=true):a=b:=by
 cases a<;>cases b<;>simp_all [TK]
def pG (d:Option Nat) (l:List AV):Bool:=match d with|none=>true|some d=>l.all fun x=>match x with | .gate s _ _ _=>!(Nat.beq s d)|_=>true
def xI (d:Option Nat) (s:Nat):Bool:=match d with|none=>true|some d=>!(Nat.beq d s)
def Fz (P:Program) (G:IH) (aj:eU) (ops:List Oper) (o:Oper) (st:AS):Option (List Prop×Ev):=
 match guardOf ops o st with
 | none=>none
 | some γ=>match Nv P G aj (keyOf γ) o st with
  | none=>none
  | some (cs,e)=>match o8 e.val,pG e.dst st.regs with
   | false,true=>match γ with
    | none=>some (cs,e)
    | some (s,w,b)=>match e.jI,e.nw,TK e.dst o.dst&&xI e.dst s with
     | [],[],true=>some (FC b cs,{ dst:=e.dst,val:=.gate s w b e.val,je:=e.je })
     | _,_,_=>none
   | _,_=>none
def Bf (P:Program) (G:IH) (aj:eU) (ops:List Oper) (o:Oper) (st:AS):Option (List Prop×Ev):=
 match guardOf ops o st with
 | some (some (s,w,b))=>match Nv P G aj (some (s,w)) o st with
  | some (cs,e)=>match o8 e.val,pG e.dst st.regs with
   | false,true=>match b with
    | true=>some (cs,e)
    | false=>none
   | _,_=>none
  | none=>none
 | _=>none
def evalSkip (ops:List Oper) (o:Oper) (st:AS):Option (List Prop×Ev):=
 match guardOf ops o st with
 | some (some (s,w,b))=>match pG o.dst st.regs&&xI o.dst s,b with
  | true,false=>some ([],{ dst:=o.dst,val:=.gate s w false (.d (.con (.bool false))) })
  | _,_=>none
 | _=>none
def CZ (P:Program) (G:IH) (aj:eU) (ops:List Oper) (o:Oper) (st:AS):Option (List Prop×Ev):=
 match Fz P G aj ops o st with
 | some r=>some r
 | none=>match Bf P G aj ops o st with
  | some r=>some r
  | none=>evalSkip ops o st
theorem oI {l:List AV} {d:Option Nat} {x:AV} {s:Nat} (h:d≠some s):(kH l d x)[s]?=l[s]?:=by rw[fM,if_neg h]
theorem Qw {P:Program} {G:IH} {aj:eU} {ops:List Oper} {o:Oper} {st:AS} {cs:List Prop} {e:Ev} (h:Fz P G aj ops o st=some (cs,e)) (hg:Good st):Good (e.app st):=by
 unfold Fz at h
 split at h
 ·cases h
 ·rename_i γ hγ
  split at h
  ·cases h
  ·rename_i cs' e' he
   split at h
   ·rename_i hgate hfree
    have hd:e.dst=e'.dst:=by
     cases γ with
     | none=>simp only[aG,bg] at h;obtain ⟨_,rfl⟩:=h;rfl
     | some p=>
      obtain ⟨s,w,b⟩:=p
      simp only at h
      split at h
      ·simp only[aG,bg] at h;obtain ⟨_,rfl⟩:=h;rfl
      ·cases h
    have hne:∀(t s:Nat) (w b:Bool) (x:AV),st.regs[t]?=some (.gate s w b x)→e'.dst≠some s:=by
     intro t s w b x ht hs
     simp only[pG,hs,List.all_eq_true] at hfree
     have:=hfree _ (List.mem_of_getElem? ht)
     simp at this
    intro t s w b x ht
    simp only[Ev.app] at ht
    rw[fM] at ht
    split at ht
    ·rename_i hdt
     have hval:e.val=.gate s w b x:=by
      cases hr:st.regs[t]? with
      | none=>simp[hr] at ht
      | some y=>simpa [hr] using ht
     cases γ with
     | none=>
      simp only[aG,bg] at h;obtain ⟨_,rfl⟩:=h
      rw[hval] at hgate;simp[o8] at hgate
     | some p=>
      obtain ⟨s',w',b'⟩:=p
      simp only at h
      split at h
      ·rename_i h1 h2 h3
       simp only[aG,bg] at h;obtain ⟨_,rfl⟩:=h
       simp only[AV.gate.injEq] at hval
       obtain ⟨rfl,rfl,rfl,rfl⟩:=hval
       simp only[aV] at h3
       have hns:e'.dst≠some s':=by
        intro hs
        simp[xI,hs] at h3
       have hguard:lU (st.reg s') w'=some b':=by
        unfold guardOf at hγ
        split at hγ
        ·simp at hγ
        ·split at hγ
         ·split at hγ
          ·split at hγ
           ·rename_i hb
            simp only[aG,bg] at hγ
            obtain ⟨rfl,rfl,rfl⟩:=hγ
            exact hb
           ·cases hγ
          ·cases hγ
         ·cases hγ
       simp only[AS.reg,Ev.app] at hguard⊢
       rw[oI hns];exact hguard
      ·cases h
    ·have hs:=hne t s w b x ht
     have:=hg t s w b x ht
     simp only[AS.reg,Ev.app] at this⊢
     rw[hd,oI hs];exact this
   ·cases h
theorem PI {P:Program} {G:IH} {aj:eU} {ops:List Oper} {o:Oper} {st:AS} {cs:List Prop} {e:Ev} (h:Bf P G aj ops o st=some (cs,e)) (hg:Good st):Good (e.app st):=by
 unfold Bf at h
 split at h
 ·split at h
  ·rename_i e' he
   split at h
   ·rename_i hgate hfree
    split at h
    ·simp only[aG,bg] at h;obtain ⟨_,rfl⟩:=h
     intro t s w b x ht
     simp only[Ev.app] at ht
     rw[fM] at ht
     split at ht
     ·exfalso
      have hval:e'.val=.gate s w b x:=by
       cases hr:st.regs[t]? with
       | none=>simp[hr] at ht
       | some y=>simpa [hr] using ht
      rw[hval] at hgate;simp[o8] at hgate
     ·have hs:e'.dst≠some s:=by
       intro hs
       simp only[pG,hs,List.all_eq_true] at hfree
       have:=hfree _ (List.mem_of_getElem? ht)
       simp at this
      have:=hg t s w b x ht
      simp only[AS.reg,Ev.app] at this⊢
      rw[oI hs];exact this
    ·cases h
   ·cases h
  ·cases h
 ·cases h
theorem UQ {ops:List Oper} {o:Oper} {st:AS} {s:Nat} {w b:Bool} (hγ:guardOf ops o st=some (some (s,w,b))):lU (st.reg s) w=some b:=by
 unfold guardOf at hγ
 split at hγ
 ·simp at hγ
 ·split at hγ
  ·split at hγ
   ·split at hγ
    ·rename_i hb
     simp only[aG,bg] at hγ
     obtain ⟨rfl,rfl,rfl⟩:=hγ
     exact hb
    ·cases hγ
   ·cases hγ
  ·cases hγ
theorem Na {ops:List Oper} {o:Oper} {st:AS} {cs:List Prop} {e:Ev} (h:evalSkip ops o st=some (cs,e)) (hg:Good st):Good (e.app st):=by
 unfold evalSkip at h
 split at h
 ·rename_i s' w' b' hγ
  split at h
  ·rename_i hcond
   simp only[aV] at hcond
   obtain ⟨hfree,hns⟩:=hcond
   simp only[aG,bg] at h;obtain ⟨_,rfl⟩:=h
   have hns:o.dst≠some s':=by
    intro hs
    simp[xI,hs] at hns
   intro t s w b x ht
   simp only[Ev.app] at ht
   rw[fM] at ht
   split at ht
   ·have hval:AV.gate s' w' false (.d (.con (.bool false)))=.gate s w b x:=by
     cases hr:st.regs[t]? with
     | none=>simp[hr] at ht
     | some y=>simpa [hr] using ht
    simp only[AV.gate.injEq] at hval
    obtain ⟨rfl,rfl,rfl,rfl⟩:=hval
    have:=UQ hγ
    simp only[AS.reg,Ev.app] at this⊢
    rw[oI hns];exact this
   ·have hs:o.dst≠some s:=by
     intro hs
     simp only[pG,hs,List.all_eq_true] at hfree
     have:=hfree _ (List.mem_of_getElem? ht)
     simp at this
    have:=hg t s w b x ht
    simp only[AS.reg,Ev.app] at this⊢
    rw[oI hs];exact this
  ·cases h
 ·cases h
theorem Cj {P:Program} {G:IH} {aj:eU} {ops:List Oper} {o:Oper} {st:AS} {cs:List Prop} {e:Ev} (h:CZ P G aj ops o st=some (cs,e)) (hg:Good st):Good (e.app st):=by
 unfold CZ at h
 split at h
 ·rename_i r hr
  simp only[aG] at h;subst h
  exact Qw hr hg
 ·split at h
  ·rename_i r hr
   simp only[aG] at h;subst h
   exact PI hr hg
  ·exact Na h hg
section
variable {P:Program} {G:IH} {aj:eU} {ops:List Oper} {o:Oper} {st:AS} {cs:List Prop} {e:Ev}
theorem Sr {x:AV} {β:Nat→Nat} {h:IH} {v:Value} (hr:x.rel β h v) (hg:∀s w g y,x=.gate s w g y→g=true):(yQ x).rel β h v:=by
 cases x with
 | gate s w g y=>exact hr.1 (hg s w g y rfl)
 | _=>exact hr
theorem Hu {k:Key} (hgood:Good st) (hkey:∀s w,k=some (s,w)→lU (st.reg s) w=some true) (h:Nv P G aj k o st=some (cs,e)) (hc:∀c∈cs,c):Core P G o st.ev st e:=by
 unfold Nv at h
 split at h
 ·rename_i c a b ho
  exact Us hgood hkey ho h hc
 ·split at h
  ·rename_i cs' e' he
   simp only[aG,bg] at h;obtain ⟨rfl,rfl⟩:=h
   have hcore:=Vq (ρ:=fun x=>Jd aj x (yQ (st.ev x))) (fun y n hn k q hq=>by
    cases y with
    | const v=>
     cases v with
     | int j m=>
      simp only[tY,aG] at hn
      subst hn
      simp only[AS.ev,CS,yQ,Jd] at hq
      injection hq with hq;injection hq with hq;injection hq with _ hq
      exact hq.symm
     | _=>simp[tY] at hn
    | _=>simp[tY] at hn) he (fun c hc'=>hc c (List.mem_append_right _ (List.mem_append_right _ hc')))
   intro F w0 h0 st' β h a w K Q hlen hag hfr g hd hop hK
   refine hcore F w0 h0 st' β h a w K Q hlen hag hfr g hd (fun x hx=>Lu (fun c hc'=>hc c (List.mem_append_right _ (List.mem_append_left _ hc'))) (by simpa using hx) g.glob (Sr (hop x hx) fun s v b y JL=>?_)) hK
   rcases rZ (fun c hc'=>hc c (List.mem_append_left _ hc')) (s:=s) (w:=v) (g:=b) (x:=y) (by rw[←JL];exact List.mem_map.2 ⟨x,by simpa using hx,rfl⟩) with h1|h1
   ·have h2:=hkey s v (sameKey_eq h1)
    cases x with
    | tmp t=>
     simp only[AS.ev,AS.reg] at JL
     cases hr:st.regs[t]? with
     | none=>simp[hr] at JL
     | some z=>
      simp only[hr,Option.getD_some] at JL;subst JL
      rw[hgood t s v b y hr] at h2;exact Option.some.inj h2
    | const u=>simp only[AS.ev] at JL;cases u<;>simp[CS] at JL
    | func f=>simp[AS.ev] at JL
    | global f=>simp[AS.ev] at JL
   ·exact h1
  ·cases h
theorem HY {st':AS} (hag:∀p,touches ops o e p=true→st'.at_ p=st.at_ p) {x:Operand} (hx:x∈o.op.operands):st'.ev x=st.ev x:=by
 cases x with
 | tmp t=>
  have:=hag (.reg t) (by
   simp only[touches,looks,List.any_append,Bool.or_eq_true]
   refine .inl (List.any_eq_true.2 ⟨.reg t,?_,by simp[Loc.hits]⟩)
   simp only[slots,List.mem_filterMap]
   exact⟨.tmp t,by simpa using hx,rfl⟩)
  simp only[AS.at_,bg,and_true] at this
  simp[AS.ev,AS.reg,this]
 | _=>rfl
theorem LU {F:Fr} {w0:World} {h0:IH} {st':AS} {β:Nat→Nat} {h1:IH} {a:Act} {w:World} {s:Nat} {want b:Bool} (hγ:guardOf ops o st=some (some (s,want,b))) (hag:∀p,touches ops o e p=true→st'.at_ p=st.at_ p) (g:aN G F w0 h0 st' β h1 a.tmps w) :
  Region.wanted o (yielded ops.toArray a.tmps)=b:=by
 unfold guardOf at hγ
 cases hgd:o.guard with
 | none=>simp[hgd] at hγ
 | some jw=>
  obtain ⟨j,want'⟩:=jw
  simp only[hgd] at hγ
  split at hγ
  ·rename_i q hq
   split at hγ
   ·rename_i s' hs
    split at hγ
    case h_2=>cases hγ
    rename_i b' hb
    simp only[aG,bg] at hγ
    obtain ⟨rfl,rfl,rfl⟩:=hγ
    have uz:st'.reg s'=st.reg s':=by
     have:=hag (.reg s') (by
      simp only[touches,looks,List.any_append,Bool.or_eq_true,hgd,hq,Option.bind_some,hs]
      exact .inr (.inl (by simp[Loc.hits])))
     simp only[AS.at_,bg,and_true] at this
     simp[AS.reg,this]
    have hval:(st.reg s').rel β h1 (a.tmps.getD s' undef)∧(st.reg s'≠.any→∃v,a.tmps[s']?=some v):=by
     rw[←uz]
     refine⟨g.ev (.tmp s'),fun hne=>?_⟩
     cases hr:st'.regs[s']? with
     | none=>exact absurd (by simp[AS.reg,hr]) hne
     | some y=>obtain ⟨v,hv,_⟩:=g.regs s' y hr;exact⟨v,hv⟩
    have EW:∀c:Bool,a.tmps.getD s' undef=.bool c→(st.reg s'≠.any)→yielded ops.toArray a.tmps j=some c:=by
     intro c hcv hne
     obtain ⟨v,hv⟩:=hval.2 hne
     simp only[Array.getD_eq_getD_getElem?,hv,Option.getD_some] at hcv
     simp[yielded,hq,hs,hv,hcv]
    have KQ:a.tmps.getD s' undef=undef→(st.reg s'≠.any)→yielded ops.toArray a.tmps j=none:=by
     intro hcv hne
     obtain ⟨v,hv⟩:=hval.2 hne
     simp only[Array.getD_eq_getD_getElem?,hv,Option.getD_some] at hcv
     simp[yielded,hq,hs,hv,hcv,undef]
    have J4:Region.wanted o (yielded ops.toArray a.tmps)=b':=by
     simp only[Region.wanted,hgd]
     have hb0:=hb
     unfold lU at hb0
     split at hb0
     ·rename_i c hcv
      rw[hcv] at hval
      rw[EW c hval.1 (by rw[hcv];simp)]
      simp only[aG] at hb0
      cases want'<;>cases c<;>simp_all
     ·rename_i g' c hcv
      rw[hcv] at hval
      simp only[aG] at hb0
      cases hg':g' with
      | false=>
       rw[KQ (hval.1.2 hg') (by rw[hcv];simp)]
       cases want'<;>simp_all
      | true=>
       rw[EW c (hval.1.1 hg') (by rw[hcv];simp)]
       cases want'<;>cases c<;>simp_all
     ·cases hb0
    exact J4
   ·cases hγ
  ·cases hγ
theorem VW (hgood:Good st) (h:Fz P G aj ops o st=some (cs,e)) (hc:∀c∈cs,c):Ep P G ops o st e:=by
 intro F w0 h0 st' β h1 a w K Q hlen hag hfr g hd hK
 unfold Fz at h
 split at h
 ·cases h
 ·rename_i γ hγ
  split at h
  ·cases h
  ·rename_i cs' e' he
   split at h
   case h_2=>cases h
   have hrel:∀x∈o.op.operands,(st.ev x).rel β h1 (a.eval x):=fun x hx=>by rw[←HY hag hx];exact g.ev x
   cases γ with
   | none=>
    simp only[aG,bg] at h;obtain ⟨rfl,rfl⟩:=h
    have hw:Region.wanted o (yielded ops.toArray a.tmps)=true:=by
     unfold guardOf at hγ
     cases hgd:o.guard with
     | none=>simp[Region.wanted,hgd]
     | some jw=>
      exfalso
      obtain ⟨j,want⟩:=jw
      simp only[hgd] at hγ
      split at hγ
      ·split at hγ
       ·split at hγ<;>simp at hγ
       ·cases hγ
      ·cases hγ
    rw[if_pos hw]
    exact Hu hgood (by simp[keyOf]) he hc F w0 h0 st' β h1 a w K Q hlen (fun p hp=>hag p (by
     simp only[touches,looks,List.any_append,Bool.or_eq_true] at hp⊢;exact .inr (.inr hp))) hfr g hd hrel hK
   | some γ'=>
    obtain ⟨s,want,b⟩:=γ'
    have hes:∃_:e'.jI=[]∧e'.nw=[]∧e'.dst=o.dst,cs=FC b cs'∧e={ dst:=e'.dst,val:=.gate s want b e'.val,je:=e'.je }:=by
     simp only at h
     split at h
     ·rename_i h1 h2 h3
      simp only[aG,bg] at h
      simp only[aV] at h3
      exact⟨⟨h1,h2,WC h3.1⟩,h.1.symm,h.2.symm⟩
     ·cases h
    obtain ⟨⟨hw1,hw2,hw3⟩,rfl,rfl⟩:=hes
    -- what the guard's temporary holds
    unfold guardOf at hγ
    cases hgd:o.guard with
    | none=>simp[hgd] at hγ
    | some jw=>
     obtain ⟨j,want'⟩:=jw
     simp only[hgd] at hγ
     split at hγ
     ·rename_i q hq
      split at hγ
      ·rename_i s' hs
       split at hγ
       case h_2=>cases hγ
       rename_i b' hb
       simp only[aG,bg] at hγ
       obtain ⟨rfl,rfl,rfl⟩:=hγ
       have uz:st'.reg s'=st.reg s':=by
        have:=hag (.reg s') (by
         simp only[touches,looks,List.any_append,Bool.or_eq_true,hgd,hq,Option.bind_some,hs]
         exact .inr (.inl (by simp[Loc.hits])))
        simp only[AS.at_,bg,and_true] at this
        simp[AS.reg,this]
       have hval:(st.reg s').rel β h1 (a.tmps.getD s' undef)∧(st.reg s'≠.any→∃v,a.tmps[s']?=some v):=by
        rw[←uz]
        refine⟨g.ev (.tmp s'),fun hne=>?_⟩
        cases hr:st'.regs[s']? with
        | none=>exact absurd (by simp[AS.reg,hr]) hne
        | some y=>obtain ⟨v,hv,_⟩:=g.regs s' y hr;exact⟨v,hv⟩
       have EW:∀c:Bool,a.tmps.getD s' undef=.bool c→(st.reg s'≠.any)→yielded ops.toArray a.tmps j=some c:=by
        intro c hcv hne
        obtain ⟨v,hv⟩:=hval.2 hne
        simp only[Array.getD_eq_getD_getElem?,hv,Option.getD_some] at hcv
        simp[yielded,hq,hs,hv,hcv]
       have KQ:a.tmps.getD s' undef=undef→(st.reg s'≠.any)→yielded ops.toArray a.tmps j=none:=by
        intro hcv hne
        obtain ⟨v,hv⟩:=hval.2 hne
        simp only[Array.getD_eq_getD_getElem?,hv,Option.getD_some] at hcv
        simp[yielded,hq,hs,hv,hcv,undef]
       have J4:Region.wanted o (yielded ops.toArray a.tmps)=b':=by
        simp only[Region.wanted,hgd]
        have hb0:=hb
        unfold lU at hb0
        split at hb0
        ·rename_i c hcv
         rw[hcv] at hval
         rw[EW c hval.1 (by rw[hcv];simp)]
         simp only[aG] at hb0
         cases want'<;>cases c<;>simp_all
        ·rename_i g' c hcv
         rw[hcv] at hval
         simp only[aG] at hb0
         cases hg':g' with
         | false=>
          rw[KQ (hval.1.2 hg') (by rw[hcv];simp)]
          cases want'<;>simp_all
         | true=>
          rw[EW c (hval.1.1 hg') (by rw[hcv];simp)]
          cases want'<;>cases c<;>simp_all
        ·cases hb0
       rw[J4]
       have happ:∀zZ:AS,e'.app zZ=⟨kH zZ.regs e'.dst e'.val,zZ.boxes⟩:=fun zZ=>by simp[Ev.app,hw1,hw2,fP]
       cases b' with
       | true=>
        rw[if_pos rfl]
        refine Hu hgood (fun s w hsw=>?_) he (JI rfl hc) F w0 h0 st' β h1 a w K Q hlen (fun p hp=>hag p ?_) (by simp[hw2]) g hd hrel fun a' w' β' h' hd' g'=>hK a' w' β' h' hd' ?_
        ·simp only[keyOf,aG,bg] at hsw
         obtain ⟨rfl,rfl⟩:=hsw
         exact hb
        ·simp only[touches,looks,List.any_append,Bool.or_eq_true] at hp⊢
         refine .inr (.inr (hp.imp id fun hp=>?_))
         simp only[Ev.writes,hw1,hw2] at hp⊢
         exact hp
        ·rw[happ] at g'
         refine⟨g'.glob,g'.holds,g'.ext,g'.old,g'.kept,g'.fix,?_,?_,g'.box,g'.inj⟩
         ·rw[g'.size];simp only[Ev.app];cases e'.dst<;>simp[kH]
         ·intro t x hx
          simp only[Ev.app,fM] at hx
          have:=g'.regs t
          simp only[fM] at this
          split at hx
          ·rename_i ht
           rw[if_pos ht] at this
           cases hr:st'.regs[t]? with
           | none=>simp[hr] at hx
           | some z=>
            simp only[hr,Option.map_some,aG] at hx this
            subst hx
            obtain ⟨v,hv,lK⟩:=this _ rfl
            exact⟨v,hv,fun _=>lK,fun hf=>by cases hf⟩
          ·rename_i ht
           rw[if_neg ht] at this
           exact this x hx
       | false=>
        rw[if_neg (by simp)]
        refine hK _ _ β h1 (by rw[put_defers];exact hd) ?_
        rw[dK]
        have g':=g.put (t:=o.dst) (x:=.gate s' want' false e'.val) (v:=undef) ⟨(fun hf=>by cases hf),fun _=>rfl⟩
        rw[←hw3] at g'⊢
        simpa [Ev.app,hw1,hw2,fP] using g'
      ·cases hγ
     ·cases hγ
theorem TA (hgood:Good st) (h:Bf P G aj ops o st=some (cs,e)) (hc:∀c∈cs,c):Ep P G ops o st e:=by
 intro F w0 h0 st' β h1 a w K Q hlen hag hfr g hd hK
 unfold Bf at h
 split at h
 ·rename_i s wt b hγ
  split at h
  ·rename_i cs' e' he
   split at h
   ·split at h
    ·simp only[aG,bg] at h;obtain ⟨rfl,rfl⟩:=h
     have hrel:∀x∈o.op.operands,(st.ev x).rel β h1 (a.eval x):=fun x hx=>by rw[←HY hag hx];exact g.ev x
     rw[if_pos (LU hγ hag g)]
     refine Hu hgood (fun s' w' hsw=>?_) he hc F w0 h0 st' β h1 a w K Q hlen (fun p hp=>hag p (by
      simp only[touches,looks,List.any_append,Bool.or_eq_true] at hp⊢;exact .inr (.inr hp))) hfr g hd hrel hK
     simp only[aG,bg] at hsw
     obtain ⟨rfl,rfl⟩:=hsw
     unfold guardOf at hγ
     split at hγ
     ·simp at hγ
     ·split at hγ
      ·split at hγ
       ·split at hγ
        ·rename_i hb
         simp only[aG,bg] at hγ
         obtain ⟨rfl,rfl,rfl⟩:=hγ
         exact hb
        ·cases hγ
       ·cases hγ
      ·cases hγ
    ·cases h
   ·cases h
  ·cases h
 ·cases h
theorem QG (h:evalSkip ops o st=some (cs,e)):Ep P G ops o st e:=by
 intro F w0 h0 st' β h1 a w K Q hlen hag hfr g hd hK
 unfold evalSkip at h
 split at h
 ·rename_i s' wt b hγ
  split at h
  ·simp only[aG,bg] at h;obtain ⟨rfl,rfl⟩:=h
   rw[if_neg (by rw[LU hγ hag g];decide)]
   refine hK _ _ β h1 (by rw[put_defers];exact hd) ?_
   rw[dK]
   have g':=g.put (t:=o.dst) (x:=.gate s' wt false (.d (.con (.bool false)))) (v:=undef) ⟨(fun hf=>by cases hf),fun _=>rfl⟩
   simpa [Ev.app,fP] using g'
  ·cases h
 ·cases h
theorem IJ (hgood:Good st) (h:CZ P G aj ops o st=some (cs,e)) (hc:∀c∈cs,c):Ep P G ops o st e:=by
 unfold CZ at h
 split at h
 ·rename_i r hr
  simp only[aG] at h;subst h
  exact VW hgood hr hc
 ·split at h
  ·rename_i r hr
   simp only[aG] at h;subst h
   exact TA hgood hr hc
  ·exact QG h
end
end Go.Ab
namespace Go.Ab
open Go Go.RowKit
def vI (P:Program) (G:IH) (aj:eU) (all:List Oper):List Oper→AS→Option (List Prop×List Ev×AS)
 | [],st=>some ([],[],st)
 | o :: os,st=>match CZ P G aj all o st with
  | some (cs,e)=>match vI P G aj all os (e.app st) with
   | some (ds,es,st')=>some (cs++ds,e :: es,st')
   | none=>none
  | none=>none
def Vw:AV→AV
 | .gate ..=>.any
 | x=>x
def AS.clear (st:AS):AS:=⟨st.regs.map Vw,st.boxes⟩
theorem xu (st:AS):Good st.clear:=by
 intro t s w b x h
 simp only[AS.clear,List.getElem?_map] at h
 cases hr:st.regs[t]? with
 | none=>simp[hr] at h
 | some y=>rw[hr] at h;simp only[Option.map_some,aG] at h;cases y<;>simp[Vw] at h
def xq (P:Program) (G:IH) (aj:eU) (draw:Bool) (ops:List Oper) (st:AS):Option (List Prop×AS):=
 match vI P G aj ops ops st.clear with
 | some (cs,es,st')=>match IE draw ops es st.clear with
  | true=>some (cs,st')
  | false=>none
 | none=>none
theorem aN.clear {G:IH} {F:Fr} {w0:World} {h0:IH} {st:AS} {β:Nat→Nat} {h:IH} {tm:Array Value} {w:World} (g:aN G F w0 h0 st β h tm w):aN G F w0 h0 st.clear β h tm w:=
 ⟨g.glob,g.holds,g.ext,g.old,g.kept,g.fix,by simpa [AS.clear] using g.size,fun t x hx=>by
  simp only[AS.clear,List.getElem?_map] at hx
  cases hr:st.regs[t]? with
  | none=>simp[hr] at hx
  | some y=>
   rw[hr] at hx
   simp only[Option.map_some,aG] at hx
   obtain ⟨v,hv,hy⟩:=g.regs t y hr
   refine⟨v,hv,?_⟩
   subst hx
   cases y<;>first|exact hy|trivial,g.box,g.inj⟩
section
variable {P:Program} {G:IH} {aj:eU}
theorem CU {all:List Oper}:∀{os:List Oper} {st:AS} {cs:List Prop} {es:List Ev} {st':AS},vI P G aj all os st=some (cs,es,st')→Good st→(∀c∈cs,c)→kU P G all os es st∧st'=iW es st
 | [],st,cs,es,st',h,_,_=>by
  simp only[vI,aG,bg] at h
  obtain ⟨rfl,rfl,rfl⟩:=h
  exact⟨rfl,rfl⟩
 | o :: os,st,cs,es,st',h,hg,hc=>by
  simp only[vI] at h
  split at h
  ·rename_i cs1 e he
   split at h
   ·rename_i ds es' zZ hos
    simp only[aG,bg] at h
    obtain ⟨rfl,rfl,rfl⟩:=h
    obtain ⟨h1,h2⟩:=CU hos (Cj he hg) fun c hc'=>hc c (List.mem_append_right _ hc')
    exact⟨⟨e,es',rfl,IJ hg he fun c hc'=>hc c (List.mem_append_left _ hc'),h1⟩,h2⟩
   ·cases h
  ·cases h
theorem DC {draw:Bool} {ops:List Oper} {st st':AS} {cs:List Prop} (hm:P.follows .mixedOrders=true) (h:xq P G aj draw ops st=some (cs,st')) (hc:∀c∈cs,c) {id:Nat}
  {F:Fr} {w0:World} {h0:IH} {β:Nat→Nat} {k:IH} {a:Act} {w:World} {Q:Exit→Act→World→Prop} (g:aN G F w0 h0 st β k a.tmps w) (hd:a.defers=[])
  (hQ:∀(a':Act) (w':World) (β':Nat→Nat) (h':IH),a'.defers=[]→aN G F w0 h0 st' β' h' a'.tmps w'→Q .normal a' w'):(Code.region id ops.toArray draw).wp P Q a w:=by
 unfold xq at h
 split at h
 ·rename_i cs' es zZ hos
  split at h
  ·rename_i hok
   simp only[aG,bg] at h
   obtain ⟨rfl,rfl⟩:=h
   obtain ⟨h1,rfl⟩:=CU hos (xu st) hc
   exact NT hm h1 hok (aN.clear g) hd hQ
  ·cases h
 ·cases h
end
def zk (ks:List Nat):Nat→List AV→List AV
 | _,[]=>[]
 | i,x :: l=>(bif ks.any (Nat.beq i) then x else .any) :: zk ks (i+1) l
def AS.keep (st:AS) (ks:List Nat):AS:=match ks with | []=>st|_=>⟨zk ks 0 st.regs,st.boxes⟩
theorem LZ (ks:List Nat):∀(l:List AV) (i t:Nat),(zk ks i l)[t]?=l[t]?∨(t<l.length∧(zk ks i l)[t]?=some .any)
 | [],_,_=>.inl rfl
 | x :: l,i,t=>by
  cases t with
  | zero=>
   simp only[zk]
   cases ks.any (Nat.beq i)
   ·exact .inr ⟨by simp,rfl⟩
   ·exact .inl rfl
  | succ t=>
   simp only[zk,List.getElem?_cons_succ,List.length_cons]
   rcases LZ ks l (i+1) t with h|⟨h1,h2⟩
   ·exact .inl h
   ·exact .inr ⟨by omega,h2⟩
theorem EU (ks:List Nat):∀(l:List AV) (i:Nat),(zk ks i l).length=l.length
 | [],_=>rfl
 | _ :: l,i=>by simp[zk,EU ks l]
theorem aN.keep {G:IH} {F:Fr} {w0:World} {h0:IH} {st:AS} {β:Nat→Nat} {h:IH} {tm:Array Value} {w:World} (g:aN G F w0 h0 st β h tm w) (ks:List Nat):aN G F w0 h0 (st.keep ks) β h tm w:=by
 unfold AS.keep
 split
 ·exact g
 ·refine⟨g.glob,g.holds,g.ext,g.old,g.kept,g.fix,by simp only[EU];exact g.size,fun t x hx=>?_,g.box,g.inj⟩
  rcases LZ _ st.regs 0 t with h1|⟨h1,h2⟩
  ·exact g.regs t x (by rw[←h1];exact hx)
  ·simp only at hx
   rw[h2] at hx
   simp only[aG] at hx;subst hx
   have:t<tm.size:=by rw[g.size];exact h1
   exact⟨tm[t],by simp[this],trivial⟩
inductive It where
 | code (c:Code)
 | blk (id:Nat)
 | scp
def wpS (P:Program):List It→(Exit→Act→World→Prop)→Exit→Act→World→Prop
 | [],Q=>Q
 | .code c :: k,Q=>fun e a w=>match e with | .normal=>c.wp P (wpS P k Q) a w|e=>wpS P k Q e a w
 | .blk id :: k,Q=>fun e a w=>match e with | .exit i=>(if i=id then wpS P k Q .normal a w else wpS P k Q (.exit i) a w)|e=>wpS P k Q e a w
 | .scp :: k,Q=>fun e a w=>match e with | .goto _=>False|e=>wpS P k Q e a w
def Ends (G:IH) (F:Fr) (w0:World) (h0:IH) (Q:Exit→AS→Prop) (e:Exit) (a:Act) (w:World):Prop:=∃st β h,Q e st∧aN G F w0 h0 st β h a.tmps w∧a.defers=[]
def bK (P:Program) (G:IH) (k:List It) (st:AS) (Q:Exit→AS→Prop):Prop:=
 ∀(F:Fr) (w0:World) (h0:IH) (β:Nat→Nat) (h:IH) (a:Act) (w:World),aN G F w0 h0 st β h a.tmps w→a.defers=[]→wpS P k (Ends G F w0 h0 Q) .normal a w
def wY (id:Nat):List It→Option (List It)
 | []=>none
 | .code _ :: k=>wY id k
 | .scp :: k=>wY id k
 | .blk i :: k=>match Nat.beq i id with|true=>some k|false=>wY id k
inductive Tree where
 | leaf (e:Exit) (st:AS)
 | br (b:Bool) (t f:Tree)
 | need (ps:List Prop) (t:Tree)
 | stop (k:List It) (st:AS)
 | bad (region:Nat)
def needs (cs:List Prop) (t:Tree):Tree:=match cs with | []=>t|c :: cs=>.need (c :: cs) t
def cutAt (cuts:List Nat):List It→Bool
 | .code (.region id _ _) :: _=>cuts.any (Nat.beq id)
 | .code (.seq (.region id _ _) _) :: _=>cuts.any (Nat.beq id)
 | .code (.loop _) :: _=>true
 | _=>false
def mV (P:Program) (G:IH) (aj:eU) (keep cuts:List Nat):Nat→List It→AS→Tree
 | 0,k,st=>.stop k st
 | n+1,k,st=>match cutAt cuts k with
  | true=>.stop k st
  | false=>match k with
   | []=>.leaf .normal st
   | .blk _ :: k=>mV P G aj keep cuts n k st
   | .scp :: k=>mV P G aj keep cuts n k st
   | .code (.scope c) :: k=>mV P G aj keep cuts n (.code c :: .scp :: k) st
   | .code .skip :: k=>mV P G aj keep cuts n k st
   | .code (.label _) :: k=>mV P G aj keep cuts n k st
   | .code (.seq a b) :: k=>mV P G aj keep cuts n (.code a :: .code b :: k) st
   | .code (.block id c) :: k=>mV P G aj keep cuts n (.code c :: .blk id :: k) st
   | .code (.region id ops draw) :: k=>match xq P G aj draw ops.toList st with
    | some (cs,st')=>needs cs (mV P G aj keep cuts n k (st'.keep keep))
    | none=>.bad id
   | .code (.cond x a b) :: k=>match yQ (st.ev x) with
    | .d (.con (.bool y))=>match o8 (st.ev x) with
     | true=>.bad 0
     | false=>.br y (mV P G aj keep cuts n (.code a :: k) st) (mV P G aj keep cuts n (.code b :: k) st)
    | _=>.bad 1
   | .code (.exit id) :: k=>match wY id k with
    | some k'=>mV P G aj keep cuts n k' st
    | none=>.leaf (.exit id) st
   | .code .ret :: _=>.leaf .ret st
   | .code c :: k=>.stop (.code c :: k) st
def Kr:List Prop→Prop
 | []=>True
 | [c]=>c
 | c :: cs=>c∧Kr cs
theorem uV:∀{cs:List Prop},Kr cs→∀c∈cs,c
 | [],_,_,h=>by simp at h
 | [c],hc,d,h=>by rw[List.mem_singleton.1 h];exact hc
 | c :: c' :: cs,hc,d,h=>by
  simp only[List.mem_cons] at h
  rcases h with rfl|h
  ·exact hc.1
  ·exact uV hc.2 d (by simpa using h)
def Tree.ok (P:Program) (G:IH) (Q:Exit→AS→Prop):Tree→Prop
 | .leaf e st=>Q e st
 | .br b t f=>(b=true→t.ok P G Q)∧(b=false→f.ok P G Q)
 | .need ps t=>Kr ps∧t.ok P G Q
 | .stop k st=>bK P G k st Q
 | .bad _=>False
section
variable {P:Program} {G:IH} {aj:eU} {Q:Exit→AS→Prop}
theorem FP {k:List It} {R:Exit→Act→World→Prop} {e:Exit} {a:Act} {w:World} (he:(∀id,e≠.exit id)∧e≠.normal∧∀l,e≠.goto l) (h:R e a w):wpS P k R e a w:=by
 induction k with
 | nil=>exact h
 | cons x k ih=>
  cases x with
  | code c=>cases e<;>first|exact ih|(exact absurd rfl he.2.1)
  | scp=>cases e<;>first|exact ih|(exact absurd rfl (he.2.2 _))
  | blk id=>cases e<;>first|exact ih|(exact absurd rfl (he.1 _))
theorem mP {R:Exit→Act→World→Prop} {id:Nat} {a:Act} {w:World}:∀{k:List It},(match wY id k with|some k'=>wpS P k' R .normal a w|none=>R (.exit id) a w)→wpS P k R (.exit id) a w
 | [],h=>h
 | .code _ :: k,h=>mP (k:=k) h
 | .scp :: k,h=>mP (k:=k) h
 | .blk i :: k,h=>by
  simp only[wY] at h
  simp only[wpS]
  by_cases hi:id=i
  ·subst hi;simp only[gJ] at h;rw[if_pos rfl];exact h
  ·rw[aP (Ne.symm hi)] at h;rw[if_neg hi];exact mP (k:=k) h
theorem kK {c:Code} {R R':Exit→Act→World→Prop} {a:Act} {w:World} (h:c.wp P R a w) (hr:∀e a w,R e a w→R' e a w):c.wp P R' a w:=wp_mono h hr
theorem jU (hm:P.follows .mixedOrders=true) {keep cuts:List Nat}:∀(n:Nat) (k:List It) (st:AS),(mV P G aj keep cuts n k st).ok P G Q→bK P G k st Q
 | 0,_,_,h=>h
 | n+1,k,st,h=>by
  unfold mV at h
  split at h
  ·exact h
  ·rename_i hcut
   clear hcut
   split at h
   ·exact fun F w0 h0 β h1 a w g hd=>⟨st,β,h1,h,g,hd⟩
   ·exact fun F w0 h0 β h1 a w g hd=>jU hm n _ st h F w0 h0 β h1 a w g hd
   ·exact fun F w0 h0 β h1 a w g hd=>jU hm n _ st h F w0 h0 β h1 a w g hd
   ·intro F w0 h0 β h1 a w g hd
    refine wp_scope_straight (kK (jU hm n _ st h F w0 h0 β h1 a w g hd) fun e a w he=>?_)
    cases e<;>exact he
   ·exact fun F w0 h0 β h1 a w g hd=>wp_skip (jU hm n _ st h F w0 h0 β h1 a w g hd)
   ·exact fun F w0 h0 β h1 a w g hd=>wp_label (jU hm n _ st h F w0 h0 β h1 a w g hd)
   ·intro F w0 h0 β h1 a w g hd
    refine wp_seq (kK (jU hm n _ st h F w0 h0 β h1 a w g hd) fun e a w he=>?_)
    cases e<;>exact he
   ·intro F w0 h0 β h1 a w g hd
    refine wp_block (kK (jU hm n _ st h F w0 h0 β h1 a w g hd) fun e a w he=>?_)
    cases e<;>exact he
   ·rename_i id ops draw k'
    split at h
    ·rename_i cs st' hr
     have hcs:(∀c∈cs,c)∧(mV P G aj keep cuts n k' (st'.keep keep)).ok P G Q:=by
      unfold needs at h
      split at h
      ·exact⟨by simp,h⟩
      ·exact⟨uV h.1,h.2⟩
     intro F w0 h0 β h1 a w g hd
     have:=DC (id:=id) (Q:=wpS P k' (Ends G F w0 h0 Q)) hm hr hcs.1 g hd fun a' w' β' h' hd' g'=>jU hm n k' (st'.keep keep) hcs.2 F w0 h0 β' h' a' w' (aN.keep g' keep) hd'
     simpa [wpS] using this
    ·exact h.elim
   ·rename_i x c1 c2 k'
    split at h
    ·rename_i y hy
     split at h
     ·exact h.elim
     ·rename_i Ba
      intro F w0 h0 β h1 a w g hd
      have hx:=g.ev x
      have hy':st.ev x=.d (.con (.bool y)):=by
       cases hs:st.ev x with
       | gate s w b z=>rw[hs] at Ba;simp[o8] at Ba
       | _=>rw[hs] at hy;exact hy
      rw[hy'] at hx
      refine wp_cond_split (t:=y) hx (fun ht=>?_) fun hf=>?_
      ·exact jU hm n _ st (h.1 ht) F w0 h0 β h1 a w g hd
      ·exact jU hm n _ st (h.2 hf) F w0 h0 β h1 a w g hd
    ·exact h.elim
   ·rename_i id k'
    intro F w0 h0 β h1 a w g hd
    refine wp_exit (mP ?_)
    split at h
    ·rename_i k2 hk;exact jU hm n k2 st h F w0 h0 β h1 a w g hd
    ·exact⟨st,β,h1,h,g,hd⟩
   ·intro F w0 h0 β h1 a w g hd
    exact wp_ret (FP ⟨by simp,by simp,by simp⟩ ⟨st,β,h1,h,g,hd⟩)
   ·exact h
def wJ:List AV→List AV→Prop
 | [],[]=>True
 | x :: l,y :: m=>(match y with | .any=>wJ l m|y=>x=y∧wJ l m)
 | _,_=>False
theorem He:∀{l m:List AV},wJ l m→l.length=m.length∧∀(t:Nat) (y:AV),m[t]?=some y→y=.any∨l[t]?=some y
 | [],[],_=>⟨rfl,fun t y h=>by simp at h⟩
 | x :: l,y :: m,h=>by
  have:(y=.any∨x=y)∧wJ l m:=by
   unfold wJ at h
   split at h
   ·exact⟨.inl rfl,h⟩
   ·exact⟨.inr h.1,h.2⟩
  obtain ⟨h1,h2⟩:=this
  obtain ⟨h3,h4⟩:=He h2
  refine⟨by simp[h3],fun t z hz=>?_⟩
  cases t with
  | zero=>
   simp at hz;subst hz
   rcases h1 with h1|h1
   ·exact .inl h1
   ·exact .inr (by simp[h1])
  | succ t=>simpa using h4 t z (by simpa using hz)
 | [],_ :: _,h=>h.elim
 | _ :: _,[],h=>h.elim
def xE (b:List (Nat×List AV)):List (Nat×List AV)→Prop
 | []=>True
 | (s,l) :: r=>look b s=some l∧xE b r
theorem xY {b:List (Nat×List AV)}:∀{c:List (Nat×List AV)},xE b c→∀s l,look c s=some l→look b s=some l
 | [],_,_,_,h=>by simp[look] at h
 | (k,m) :: r,hc,s,l,h=>by
  simp only[look] at h
  by_cases hk:k=s
  ·subst hk
   simp only[gJ,cond_true,aG] at h
   subst h;exact hc.1
  ·rw[aP hk,cond_false] at h
   exact xY hc.2 s l h
def AS.le (st st':AS):Prop:=wJ st.regs st'.regs∧xE st.boxes st'.boxes
theorem aN.weaken {F:Fr} {w0:World} {h0:IH} {st st':AS} {β:Nat→Nat} {h:IH} {tm:Array Value} {w:World} (g:aN G F w0 h0 st β h tm w) (hl:st.le st'):aN G F w0 h0 st' β h tm w:=by
 obtain ⟨h1,h2⟩:=He hl.1
 have h3:=xY hl.2
 exact⟨g.glob,g.holds,g.ext,g.old,g.kept,g.fix,g.size.trans h1,fun t x hx=>by
  rcases h2 t x hx with rfl|h
  ·have hlt:t<tm.size:=by rw[g.size,h1];exact(List.getElem?_eq_some_iff.1 hx).1
   exact⟨tm[t],by simp[hlt],trivial⟩
  ·exact g.regs t x h,fun s l hb=>g.box s l (h3 s l hb),fun s s' l l' hb hb'=>g.inj s s' l l' (h3 s l hb) (h3 s' l' hb')⟩
theorem bK.weaken {k:List It} {st st':AS} (hl:st.le st') (h:bK P G k st' Q):bK P G k st Q:=
 fun F w0 h0 β h1 a w g hd=>h F w0 h0 β h1 a w (g.weaken hl) hd
def AS.dU (st st':AS):Prop:=∀(G:IH) (F:Fr) (w0:World) (h0:IH) (β:Nat→Nat) (h:IH) (tm:Array Value) (w:World),aN G F w0 h0 st β h tm w→∃β',aN G F w0 h0 st' β' h tm w
theorem AS.dU.of_le {st st':AS} (h:st.le st'):st.dU st':=fun _ _ _ _ β _ _ _ g=>⟨β,g.weaken h⟩
theorem AS.dU.trans {a b c:AS} (h:a.dU b) (k:b.dU c):a.dU c:=fun G F w0 h0 β h1 tm w g=>let ⟨β',g'⟩:=h G F w0 h0 β h1 tm w g;k G F w0 h0 β' h1 tm w g'
theorem bK.pre {k:List It} {st st':AS} (hle:st.dU st') (h:bK P G k st' Q):bK P G k st Q:=fun F w0 h0 β h1 a w g hd=>
 let ⟨β',g'⟩:=hle G F w0 h0 β h1 a.tmps w g;h F w0 h0 β' h1 a w g' hd
def ig (s:Nat) (x:AV):AV:=bif AV.free s x then x else .any
def AS.forget (st:AS) (s:Nat):AS:=⟨st.regs.map (ig s),(st.boxes.filter fun b=>!(Nat.beq b.1 s)).map fun b=>(b.1,b.2.map (ig s))⟩
theorem rW {β:Nat→Nat} {h:IH} {s:Nat} {x:AV} {v:Value} (r:x.rel β h v):(ig s x).rel β h v:=by
 unfold ig
 cases AV.free s x
 ·trivial
 ·exact r
theorem yF {β:Nat→Nat} {h:IH} {s:Nat}:∀{l:List AV} {vs:List Value},AV.aB β h l vs→AV.aB β h (l.map (ig s)) vs
 | [],_,r=>r
 | _ :: _,_,⟨v,vs',e,r,rs⟩=>⟨v,vs',e,rW r,yF rs⟩
theorem Ol (s:Nat) (x:AV):(ig s x).free s=true:=by
 unfold ig
 cases h:AV.free s x
 ·rfl
 ·exact h
theorem rU (s t:Nat):∀b:List (Nat×List AV),look ((b.filter fun b=>!(Nat.beq b.1 s)).map fun b=>(b.1,b.2.map (ig s))) t=if t=s then none else (look b t).map (·.map (ig s))
 | []=>by simp[look]
 | (k,c) :: b=>by
  have ih:=rU s t b
  by_cases hk:k=s
  ·subst hk
   simp only[List.filter_cons,gJ,Bool.not_true,Bool.false_eq_true,if_false,ih]
   by_cases ht:t=k
   ·rw[if_pos ht,if_pos ht]
   ·rw[if_neg ht,if_neg ht];simp only[look,aP (Ne.symm ht),cond_false]
  ·simp only[List.filter_cons,aP hk,Bool.not_false,if_true,List.map_cons,look]
   by_cases ht:k=t
   ·subst ht;simp[hk]
   ·simp only[aP ht,cond_false,ih]
theorem qI {s:Nat} {l:List AV} (h:bZ l=false):l.map (ig s)=l:=by
 rcases dS h with ⟨a,b,c,rfl⟩|rfl|⟨a,b,c,rfl⟩<;>rfl
theorem AS.dU.forget (st:AS) (s:Nat):st.dU (st.forget s):=by
 intro G F w0 h0 β h tm w g
 have hbox:∀t l,(st.forget s).box t=some l→∃l0,st.box t=some l0∧l=l0.map (ig s):=by
  intro t l hl
  simp only[AS.forget,AS.box,rU] at hl
  split at hl
  ·cases hl
  ·cases hh:look st.boxes t with
   | none=>simp[hh] at hl
   | some l0=>simp[hh] at hl;exact⟨l0,hh,hl.symm⟩
 have hlive:∀t l,Live β t (l.map (ig s))→Live β t l:=by
  intro t l hl
  cases hp:bZ l with
  | true=>exact Live.plain hp
  | false=>rw[qI hp] at hl;exact hl
 refine⟨β,g.glob,g.holds,g.ext,g.old,g.kept,g.fix,by simpa [AS.forget] using g.size,fun t x hx=>?_,fun t l hl=>?_,fun t t' l l' hl hl' k1 k2 he=>?_⟩
 ·simp only[AS.forget,List.getElem?_map] at hx
  cases hr:st.regs[t]? with
  | none=>simp[hr] at hx
  | some y=>
   simp only[hr,Option.map_some,aG] at hx
   subst hx
   obtain ⟨v,hv,hy⟩:=g.regs t y hr
   exact⟨v,hv,rW hy⟩
 ·obtain ⟨l0,hl0,rfl⟩:=hbox t l hl
  obtain ⟨h1,h2⟩:=g.box t l0 hl0
  refine⟨fun k=>h1 (hlive t l0 k),?_⟩
  cases hp:bZ l0 with
  | true=>
   rw[Own.plain hp] at h2
   obtain ⟨T,vs,e,r⟩:=h2
   exact Own.of (T:=T.1) T.2 e (yF r)
  | false=>rw[qI hp];exact h2
 ·obtain ⟨l0,hl0,rfl⟩:=hbox t l hl
  obtain ⟨l1,hl1,rfl⟩:=hbox t' l' hl'
  exact g.inj t t' l0 l1 hl0 hl1 (hlive t l0 k1) (hlive t' l1 k2) he
mutual
def AV.ren (s t:Nat):AV→AV
 | .box u off=>.box (bif Nat.beq u s then t else u) off
 | .vec u sz lo n=>.vec (bif Nat.beq u s then t else u) sz lo n
 | .elem u sz i off=>.elem (bif Nat.beq u s then t else u) sz i off
 | .agg l=>.agg (AV.pU s t l)
 | .aC l=>.aC (AV.pU s t l)
 | .clo f a c=>.clo f (AV.pU s t a) (AV.pU s t c)
 | .gate a w b x=>.gate a w b (AV.ren s t x)
 | .any=>.any
 | .d x=>.d x
 | .arr a sz f=>.arr a sz f
 | .tb u off T=>.tb (bif Nat.beq u s then t else u) off T
 | .dead=>.dead
 | .mp a b c=>.mp a b c
 | .kE u=>.kE (bif Nat.beq u s then t else u)
def AV.pU (s t:Nat):List AV→List AV
 | []=>[]
 | x :: l=>AV.ren s t x :: AV.pU s t l
end
theorem G5 (s t:Nat):∀l:List AV,(AV.pU s t l).length=l.length
 | []=>rfl
 | _ :: l=>by simp[AV.pU,G5 s t l]
theorem Pg (s t:Nat):∀(l:List AV) (i:Nat),(AV.pU s t l)[i]?=(l[i]?).map (AV.ren s t)
 | [],_=>by simp[AV.pU]
 | x :: l,i=>by
  cases i with
  | zero=>simp[AV.pU]
  | succ i=>simpa [AV.pU] using Pg s t l i
section
variable {β:Nat→Nat} {h:IH} {s t:Nat}
theorem tJ {u:Nat} (hu:u≠t):blk (upd β t (blk β s) (room β s) (many β s)) (bif Nat.beq u s then t else u)=blk β u:=by
 by_cases hs:u=s
 ·subst hs;rw[gJ,cond_true,aQ]
 ·rw[aP hs,cond_false,aZ hu]
theorem vT {u:Nat} (hu:u≠t):room (upd β t (blk β s) (room β s) (many β s)) (bif Nat.beq u s then t else u)=room β u:=by
 by_cases hs:u=s
 ·subst hs;rw[gJ,cond_true,aF]
 ·rw[aP hs,cond_false,bI hu]
theorem H8 {u:Nat} (hu:u≠t):many (upd β t (blk β s) (room β s) (many β s)) (bif Nat.beq u s then t else u)=many β u:=by
 by_cases hs:u=s
 ·subst hs;rw[gJ,cond_true,bH]
 ·rw[aP hs,cond_false,iJ hu]
end
theorem jT {u t:Nat} (h:(!(Nat.beq u t))=true):u≠t:=by intro e;subst e;simp at h
mutual
theorem AV.Ku {β:Nat→Nat} {h:IH} {s t:Nat}:∀(x:AV) (v:Value),x.free t=true→x.rel β h v→(x.ren s t).rel (upd β t (blk β s) (room β s) (many β s)) h v
 | .any,_,_,_=>trivial
 | AV.d _,_,_,e=>e
 | .box u _,_,f,e=>by
  simp only[AV.rel,AV.ren] at e⊢
  rw[tJ (jT f)];exact e
 | .vec u _ _ _,_,f,e=>by
  simp only[AV.rel,AV.ren] at e⊢
  rw[tJ (jT f),vT (jT f),H8 (jT f)];exact e
 | .elem u _ _ _,_,f,e=>by
  simp only[AV.rel,AV.ren] at e⊢
  rw[tJ (jT f),vT (jT f),H8 (jT f)];exact e
 | .agg l,_,f,⟨us,e,r⟩=>⟨us,e,AV.vO l us f r⟩
 | .aC l,_,f,⟨us,e,r⟩=>⟨us,e,AV.vO l us f r⟩
 | .clo _ a c,_,f,⟨ua,uc,e,ra,rc⟩=>by
  simp only[AV.free,aV] at f
  exact⟨ua,uc,e,AV.vO a ua f.1 ra,AV.vO c uc f.2 rc⟩
 | .gate _ _ _ x,v,f,⟨e,e'⟩=>⟨fun hb=>AV.Ku x v f (e hb),e'⟩
 | .tb u _ _,_,f,e=>by
  simp only[AV.rel,AV.ren] at e⊢
  rw[tJ (jT f),vT (jT f)];exact e
 | .arr _ _ _,_,_,e=>e.elim
 | .dead,_,_,e=>e.elim
 | .mp _ _ _,_,_,e=>e.elim
 | .kE u,_,f,e=>by
  have hu:=jT f
  simp only[AV.rel,AV.ren] at e⊢
  rw[tJ hu];exact e
theorem AV.vO {β:Nat→Nat} {h:IH} {s t:Nat}:∀(l:List AV) (us:List Value),AV.frees t l=true→AV.aB β h l us→AV.aB (upd β t (blk β s) (room β s) (many β s)) h (AV.pU s t l) us
 | [],_,_,e=>e
 | y :: l,_,f,⟨v,us',e,r,rs⟩=>by
  simp only[AV.frees,aV] at f
  exact⟨v,us',e,AV.Ku y v f.1 r,AV.vO l us' f.2 rs⟩
end
def AS.ren (st:AS) (s t:Nat):AS:=⟨AV.pU s t st.regs,st.boxes.map fun b=>(bif Nat.beq b.1 s then t else b.1,AV.pU s t b.2)⟩
theorem BG {s t:Nat}:∀{b:List (Nat×List AV)},look b t=none→∀(q:Nat) (l:List AV),look (b.map fun b=>(bif Nat.beq b.1 s then t else b.1,AV.pU s t b.2)) q=some l→∃u l0,look b u=some l0∧u≠t∧l=AV.pU s t l0∧q=(bif Nat.beq u s then t else u)
 | [],_,_,_,h=>by simp[look] at h
 | (k,c) :: b,hn,q,l,h=>by
  simp only[look] at hn
  have hkt:k≠t:=by intro e;subst e;simp at hn
  rw[aP hkt,cond_false] at hn
  simp only[List.map_cons,look] at h
  by_cases hq:(bif Nat.beq k s then t else k)=q
  ·rw[hq,gJ,cond_true,aG] at h
   exact⟨k,c,by simp[look],hkt,h.symm,hq.symm⟩
  ·rw[aP hq,cond_false] at h
   obtain ⟨u,l0,h1,h2,h3,h4⟩:=BG hn q l h
   refine⟨u,l0,?_,h2,h3,h4⟩
   have Dw:k≠u:=by intro e;subst e;exact hq h4.symm
   simp only[look,aP Dw,cond_false];exact h1
theorem I9 {s t:Nat} {l:List AV} (h:bZ l=false):AV.pU s t l=l:=by
 rcases dS h with ⟨a,b,c,rfl⟩|rfl|⟨a,b,c,rfl⟩<;>rfl
theorem AS.dU.ren (st:AS) (s t:Nat) (_:s≠t) (hf:st.free t=true) (hn:st.box t=none):st.dU (st.ren s t):=by
 intro G F w0 h0 β h tm w g
 refine⟨upd β t (blk β s) (room β s) (many β s),g.glob,g.holds,g.ext,g.old,g.kept,g.Xk hf,by simpa [AS.ren,G5] using g.size,fun q x hx=>?_,fun q l hl=>?_,fun q q' l l' hl hl' k1 k2 he=>?_⟩
 ·simp only[AS.ren,Pg] at hx
  cases hr:st.regs[q]? with
  | none=>simp[hr] at hx
  | some y=>
   simp only[hr,Option.map_some,aG] at hx
   subst hx
   obtain ⟨v,hv,hy⟩:=g.regs q y hr
   exact⟨v,hv,AV.Ku y v (BJ hf hr) hy⟩
 all_goals
  have hlive:∀u l,u≠t→Live (upd β t (blk β s) (room β s) (many β s)) (bif Nat.beq u s then t else u) (AV.pU s t l)→Live β u l:=by
   intro u l hu hl
   cases hp:bZ l with
   | true=>exact Live.plain hp
   | false=>
    rw[I9 hp] at hl
    rcases dS hp with ⟨a,b,c,rfl⟩|rfl|⟨a,b,c,rfl⟩
    ·simp only[Live,vT hu] at hl⊢;exact hl
    ·exact hl
    ·trivial
 ·obtain ⟨u,l0,h1,h2,rfl,rfl⟩:=BG hn q l hl
  obtain ⟨a1,a2⟩:=g.box u l0 h1
  rw[tJ h2]
  refine⟨fun k=>a1 (hlive u l0 h2 k),?_⟩
  cases hp:bZ l0 with
  | true=>
   rw[Own.plain hp] at a2
   obtain ⟨T,us,e,r⟩:=a2
   exact Own.of (T:=T.1) (T.2.trans (vT h2).symm) e (AV.vO _ _ (BL hf h1) r)
  | false=>
   rw[I9 hp]
   rcases dS hp with ⟨a,b,c,rfl⟩|rfl|⟨a,b,c,rfl⟩
   ·simp only[Own,vT h2,H8 h2] at a2⊢;exact a2
   ·trivial
   ·exact a2
 ·obtain ⟨u,l0,h1,h2,rfl,rfl⟩:=BG hn q l hl
  obtain ⟨u',l1,h1',h2',rfl,rfl⟩:=BG hn q' l' hl'
  rw[tJ h2,tJ h2'] at he
  rw[g.inj u u' l0 l1 h1 h1' (hlive u l0 h2 k1) (hlive u' l1 h2' k2) he]
def AS.move (st:AS) (s t:Nat):AS:=(st.forget t).ren s t
theorem AS.dU.move (st:AS) (s t:Nat) (hst:s≠t) (ht:t<K0):st.dU (st.move s t):=by
 refine(AS.dU.forget st t).trans (AS.dU.ren _ s t hst ?_ ?_)
 ·simp only[AS.free,AS.forget,aV,List.all_map,List.all_eq_true]
  have hl:∀l:List AV,AV.frees t (l.map (ig t))=true:=by
   intro l
   induction l with
   | nil=>rfl
   | cons x l ih=>simp[AV.frees,Ol,ih]
  exact⟨by rw[Nat.blt_eq];exact ht,hl _,fun b _=>hl _⟩
 ·simp[AS.box,AS.forget,rU]
def AS.moves (st:AS):List (Nat×Nat)→AS
 | []=>st
 | (s,t) :: r=>(st.move s t).moves r
theorem AS.dU.moves:∀(r:List (Nat×Nat)) (st:AS),(r.all fun p=>!(Nat.beq p.1 p.2)&&Nat.blt p.2 K0)=true→st.dU (st.moves r)
 | [],st,_=>fun _ _ _ _ β _ _ _ g=>⟨β,g⟩
 | (s,t) :: r,st,h=>by
  simp only[List.all_cons,aV,Nat.blt_eq] at h
  exact(AS.dU.move st s t (jT h.1.1) h.1.2).trans (AS.dU.moves r _ h.2)
def AS.nilRow (st:AS) (i s sz:Nat) (agg:RK) (f:Nat→DV):AS:=⟨st.regs.set i (.vec s sz 0 0),(s,[.arr agg sz f]) :: st.boxes⟩
def isNil (x:AV):Bool:=match x with | .d (.con (.slice none 0 0))=>true|_=>false
theorem AS.dU.nilRow (st:AS) (i s sz:Nat) (agg:RK) (f:Nat→DV) (hn:(isNil (st.reg i)&&agg.mn.isNone)=true) (hf:st.free s=true):st.dU (st.nilRow i s sz agg f):=by
 simp only[aV,Option.isNone_iff_eq_none] at hn
 obtain ⟨hn,hmn⟩:=hn
 intro G F w0 h0 β h tm w g
 have g1:=g.adopt (d:=s) (b:=0) (c:=0) (m:=0) (l:=[.arr agg sz f]) hf (by simp only[Own,aF,bH];exact⟨⟨Nat.le_refl _,by rw[hmn];exact fun _ h=>by cases h⟩,.inl rfl⟩) (fun hl=>by simp only[Live,aF] at hl;omega)
 refine⟨_,g1.glob,g1.holds,g1.ext,g1.old,g1.kept,g1.fix,by simpa [AS.nilRow] using g1.size,fun t x hx=>?_,g1.box,g1.inj⟩
 simp only[AS.nilRow] at hx
 by_cases ht:i=t
 ·subst ht
  have hlt:i<st.regs.length:=by
   have:=(List.getElem?_eq_some_iff.1 hx).1
   simpa using this
  rw[List.getElem?_set_self hlt,aG] at hx
  subst hx
  obtain ⟨v,hv,hr⟩:=g.regs i st.regs[i] (by simp[hlt])
  refine⟨v,hv,?_⟩
  have:st.reg i=st.regs[i]:=by simp[AS.reg,hlt]
  rw[this] at hn
  unfold isNil at hn
  split at hn
  ·rename_i he
   rw[he] at hr
   simp only[AV.rel,DV.rel] at hr
   subst hr
   simp only[AV.rel,aF,bH]
   exact⟨Nat.le_refl _,Nat.le_refl _,none,rfl,.inr (Nat.zero_le _)⟩
  ·cases hn
 ·rw[List.getElem?_set_ne ht] at hx
  exact g1.regs t x hx
def AS.Ll (st:AS) (b i s sz:Nat) (k:RK) (f:Nat→DV):AS:=⟨st.regs,(s,[.arr k sz f]) :: setCells b i (.vec s sz 0 0) st.boxes⟩
def X6 (st:AS) (b i s sz:Nat) (k:RK):Bool:=match st.box b with
 | some l=>match l[i]? with|some x=>k.mn.isNone&&isNil x&&(bZ l&&(bZ (l.set i (.vec s sz 0 0))&&!(Nat.beq b s)))|none=>false
 | none=>false
theorem AS.dU.Ll (st:AS) (b i s sz:Nat) (k:RK) (f:Nat→DV) (hn:X6 st b i s sz k=true) (hf:st.free s=true):st.dU (st.Ll b i s sz k f):=by
 unfold X6 at hn
 split at hn
 case h_2=>cases hn
 rename_i l hb
 split at hn
 case h_2=>cases hn
 rename_i x hx
 simp only[aV,Bool.not_eq_true'] at hn
 simp only[Option.isNone_iff_eq_none] at hn
 obtain ⟨⟨hmn,hnil⟩,hpl,hps,hbs⟩:=hn
 have hne:s≠b:=by
  rintro rfl
  simp at hbs
 intro G F w0 h0 β h tm w g
 have g1:=g.adopt (d:=s) (b:=0) (c:=0) (m:=0) (l:=[.arr k sz f]) hf (by simp only[Own,aF,bH];exact⟨⟨Nat.le_refl _,by rw[hmn];exact fun _ h=>by cases h⟩,.inl rfl⟩) (fun hl=>by simp only[Live,aF] at hl;omega)
 have hb1:look ((s,[AV.arr k sz f]) :: st.boxes) b=some l:=by
  simp only[look]
  rw[aP hne,cond_false];exact hb
 obtain ⟨p1,p2⟩:=g1.box b l hb1
 rw[Own.plain hpl] at p2
 obtain ⟨T,vs,e1,e2⟩:=p2
 obtain ⟨v,hv,hr⟩:=e2.get hx
 have hv2:v=.slice none 0 0:=by
  unfold isNil at hnil
  split at hnil
  ·simp only[AV.rel,DV.rel] at hr;exact hr
  ·cases hnil
 subst hv2
 have lK:(AV.vec s sz 0 0).rel (upd β s 0 0 0) h (.slice none 0 0):=by
  simp only[AV.rel,aF,bH]
  exact⟨Nat.le_refl _,Nat.le_refl _,none,rfl,.inr (Nat.zero_le _)⟩
 have hset:AV.aB (upd β s 0 0 0) h (l.set i (.vec s sz 0 0)) vs:=by
  have h1:=Dn (i:=i) e2 lK
  have h2:vs.set i (.slice none 0 0)=vs:=by
   obtain ⟨h3,h4⟩:=List.getElem?_eq_some_iff.1 hv
   rw[←h4,List.set_getElem_self]
  rwa [h2] at h1
 have key:∀t m,look ((s,[AV.arr k sz f]) :: setCells b i (.vec s sz 0 0) st.boxes) t=some m→(t=b∧m=l.set i (.vec s sz 0 0))∨(t≠b∧look ((s,[AV.arr k sz f]) :: st.boxes) t=some m):=by
  intro t m hm
  by_cases hts:s=t
  ·subst hts
   simp only[look,gJ,cond_true] at hm⊢
   exact .inr ⟨hne,hm⟩
  ·simp only[look] at hm⊢
   rw[aP hts,cond_false] at hm⊢
   exact eH hb t m hm
 refine⟨_,g1.glob,g1.holds,g1.ext,g1.old,g1.kept,g1.fix,g1.size,g1.regs,fun t m hm=>?_,fun t t' m m' hm hm' hl hl' he=>?_⟩
 ·rcases key t m hm with ⟨rfl,rfl⟩|⟨_,hm⟩
  ·exact⟨fun _=>p1 (Live.plain hpl),Own.of T.2 e1 hset⟩
  ·exact g1.box t m hm
 ·have conv:∀t m,look ((s,[AV.arr k sz f]) :: setCells b i (.vec s sz 0 0) st.boxes) t=some m→Live (upd β s 0 0 0) t m→∃m2,look ((s,[AV.arr k sz f]) :: st.boxes) t=some m2∧Live (upd β s 0 0 0) t m2:=by
   intro t m hm hl
   rcases key t m hm with ⟨rfl,rfl⟩|⟨_,hm⟩
   ·exact⟨l,hb1,Live.plain hpl⟩
   ·exact⟨m,hm,hl⟩
  obtain ⟨m1,a1,a2⟩:=conv t m hm hl
  obtain ⟨m2,b1,b2⟩:=conv t' m' hm' hl'
  exact g1.inj t t' m1 m2 a1 b1 a2 b2 he
def known:List (Nat×AV)→Nat→AV
 | [],_=>.any
 | (k,x) :: r,i=>bif Nat.beq k i then x else known r i
def regs (n:Nat) (l:List (Nat×AV)):List AV:=(List.range n).map (known l)
def SY (P:Program) (G:IH) (k:List It) (Q:Exit→AS→Prop):Exit→AS→Prop
 | .exit id,st=>match wY id k with|some k'=>bK P G k' st Q|none=>Q (.exit id) st
 | .goto _,_=>False
 | e,st=>Q e st
theorem Y0 {k:List It} {F:Fr} {w0:World} {h0:IH} {e:Exit} {a:Act} {w:World} (he:e≠.normal) (h:Ends G F w0 h0 (SY P G k Q) e a w):wpS P k (Ends G F w0 h0 Q) e a w:=by
 obtain ⟨st,β,h1,hq,g,hd⟩:=h
 cases e with
 | normal=>exact absurd rfl he
 | exit id=>
  refine mP ?_
  simp only[SY] at hq
  split at hq
  ·exact hq F w0 h0 β h1 a w g hd
  ·exact⟨st,β,h1,hq,g,hd⟩
 | goto l=>exact hq.elim
 | _=>exact FP ⟨by simp,by simp,by simp⟩ ⟨st,β,h1,hq,g,hd⟩
theorem qP {p:Nat→Prop} (h:∃n,p n):∃n,p n∧∀m,p m→n≤m:=by
 obtain ⟨n,hn⟩:=h
 induction n using Nat.strongRecOn with
 | _ n ih=>
  by_cases hm:∃m,m<n∧p m
  ·obtain ⟨m,hlt,hp⟩:=hm;exact ih m hlt hp
  ·exact⟨n,hn,fun m hp=>Nat.le_of_not_lt fun hlt=>hm ⟨m,hlt,hp⟩⟩
def Again {σ:Type} (S:σ→AS) (I:σ→Prop) (μ:σ→Nat) (x:σ) (st':AS):Prop:=∃x',st'.dU (S x')∧I x'∧μ x' < μ x
theorem Again.mk {σ:Type} {S:σ→AS} {I:σ→Prop} {μ:σ→Nat} {x:σ} {st':AS} (x':σ) (h:st'.le (S x')) (hI:I x') (hμ:μ x' < μ x):Again S I μ x st':=⟨x',.of_le h,hI,hμ⟩
theorem Again.Rf {σ:Type} {S:σ→AS} {I:σ→Prop} {μ:σ→Nat} {x:σ} {st':AS} (r:List (Nat×Nat)) (hr:(r.all fun p=>!(Nat.beq p.1 p.2)&&Nat.blt p.2 K0)=true) (x':σ) (h:(st'.moves r).le (S x')) (hI:I x') (hμ:μ x' < μ x):Again S I μ x st':=⟨x',(AS.dU.moves r st' hr).trans (.of_le h),hI,hμ⟩
def yM {σ:Type} (P:Program) (G:IH) (k:List It) (Q:Exit→AS→Prop) (S:σ→AS) (I:σ→Prop) (μ:σ→Nat) (x:σ) (e:Exit) (st':AS):Prop:=
 match e with | .normal=>Again S I μ x st' | e=>SY P G k Q e st'
theorem bK.loop {σ:Type} {cd c:Code} {k:List It} {st:AS} (hc:cd=.loop c) (S:σ→AS) (I:σ→Prop) (μ:σ→Nat) (x0:σ) (hst:st.le (S x0)) (hI:I x0)
  (round:∀x,I x→bK P G [.code c] (S x) (yM P G k Q S I μ x)):bK P G (.code cd :: k) st Q:=by
 subst hc
 intro F w0 h0 β h a w g hd
 classical
 let inv:Act→World→Prop:=fun a w=>∃x β h,I x∧aN G F w0 h0 (S x) β h a.tmps w∧a.defers=[]
 let m:Act→World→Nat:=fun a w=>if hn:∃n,∃x β h,I x∧aN G F w0 h0 (S x) β h a.tmps w∧a.defers=[]∧μ x=n then Classical.choose (qP hn) else 0
 refine wp_loop inv m ⟨x0,β,h,hI,g.weaken hst,hd⟩ fun a w hinv=>?_
 have hn:∃n,∃x β h,I x∧aN G F w0 h0 (S x) β h a.tmps w∧a.defers=[]∧μ x=n:=let ⟨x,β,h,hx,g,hd⟩:=hinv;⟨_,x,β,h,hx,g,hd,rfl⟩
 obtain ⟨x,β,h,hx,g,hd,hμ⟩:=(Classical.choose_spec (qP hn)).1
 have hma:m a w=μ x:=by simp only[m,dif_pos hn];exact hμ.symm
 refine kK (round x hx F w0 h0 β h a w g hd) fun e a' w' he=>?_
 by_cases hen:e=.normal
 ·subst hen
  obtain ⟨st',β',h',⟨x',hle,hI',hlt⟩,g',hd'⟩:=he
  obtain ⟨β'',g''⟩:=hle G F w0 h0 β' h' a'.tmps w' g'
  refine⟨⟨x',β'',h',hI',g'',hd'⟩,?_⟩
  have hn':∃n,∃x β h,I x∧aN G F w0 h0 (S x) β h a'.tmps w'∧a'.defers=[]∧μ x=n:=⟨_,x',β'',h',hI',g'',hd',rfl⟩
  have:m a' w'≤μ x':=by simp only[m,dif_pos hn'];exact(Classical.choose_spec (qP hn')).2 _ ⟨x',β'',h',hI',g'',hd',rfl⟩
  omega
 ·have he':Ends G F w0 h0 (SY P G k Q) e a' w':=by
   obtain ⟨st',β',h',hq,g',hd'⟩:=he
   refine⟨st',β',h',?_,g',hd'⟩
   cases e<;>first|exact hq|exact absurd rfl hen
  have:=Y0 hen he'
  cases e<;>first|exact this|exact absurd rfl hen
end
end Go.Ab
namespace Go.Ab
open Go Go.RowKit
def uP (f:AV→Option DV):List AV→Option (List DV)
 | []=>some []
 | x :: l=>match f x,uP f l with|some y,some m=>some (y :: m)|_,_=>none
def pO:Nat→List (Nat×List AV)→AV→Option DV
 | 0,_,_=>none
 | n+1,b,x=>match x with
  | .d y=>some y
  | .box s off=>match look b s with
   | some l=>match bZ l,uP (pO n b) (l.drop off) with|true,some m=>some (.ptr m)|_,_=>none
   | none=>none
  | .vec s sz lo k=>match look b s with
   | some [.arr _ sz' f]=>match Nat.beq sz sz' with|true=>some (.slc sz k fun i=>f (lo+i))|false=>none
   | _=>none
  | .kE s=>match look b s with|some [.mp kd f has]=>some (.mp kd f has)|_=>none
  | .agg l=>match uP (pO n b) l with|some m=>some (.agg m)|none=>none
  | .aC l=>match uP (pO n b) l with|some m=>some (.aC m)|none=>none
  | .clo f a c=>match uP (pO n b) a,uP (pO n b) c with|some x,some y=>some (.clo f x y)|_,_=>none
  | _=>none
theorem qO {f:AV→Option DV} {β:Nat→Nat} {h k:IH} (hf:∀(x:AV) (y:DV) (v:Value),f x=some y→x.rel β h v→y.rel k v):∀{l:List AV} {m:List DV} {vs:List Value},uP f l=some m→AV.aB β h l vs→DV.aB k m vs
 | [],m,vs,ho,hr=>by simp only[uP,aG] at ho;subst ho;exact hr
 | x :: l,m,vs,ho,⟨v,vs',e,hx,hr⟩=>by
  simp only[uP] at ho
  split at ho
  ·rename_i y m' hy hm
   simp only[aG] at ho;subst ho
   exact⟨v,vs',e,hf x y v hy hx,qO hf hm hr⟩
  ·cases ho
theorem Ac {β:Nat→Nat} {h k:IH} (hk:h.le k) {b:List (Nat×List AV)} (hb:∀s l,look b s=some l→bZ l=true→∃vs,AV.aB β h l vs∧∀i,i<vs.length→k.cell (blk β s) i=vs[i]?)
  (hv:∀s agg sz f,look b s=some [.arr agg sz f]→many β s≤room β s∧(0<room β s→∀i,i<many β s→∃v,(f i).rel h v∧v.cells.size=sz∧∀j,j<sz→k.cell (blk β s) (i*sz+j)=v.cells[j]?))
  (hm:∀s kd f has,look b s=some [.mp kd f has]→∃es c,k.obj (blk β s)=some (.map es c)∧qN h kd f has (some (.map es c))) :
  ∀(n:Nat) (x:AV) (y:DV) (v:Value),pO n b x=some y→x.rel β h v→y.rel k v
 | 0,_,_,_,hc,_=>by simp[pO] at hc
 | n+1,x,y,v,hc,hr=>by
  have ih:=Ac hk hb hv hm n
  simp only[pO] at hc
  split at hc
  ·simp only[aG] at hc;subst hc;exact DV.rel.mono hk _ _ hr
  ·rename_i s off
   split at hc
   ·rename_i l hl
    split at hc
    ·rename_i m hpl hm
     simp only[aG] at hc;subst hc
     obtain ⟨vs,hvs,hcell⟩:=hb s l hl hpl
     refine⟨blk β s,off,hr,vs.drop off,qO ih hm (hvs.drop off),fun i hi=>?_⟩
     simp only[List.length_drop] at hi
     rw[hcell _ (by omega)];simp
    ·cases hc
   ·cases hc
  ·rename_i s sz lo kk
   split at hc
   ·rename_i agg sz' f hl
    split at hc
    ·rename_i hs
     simp only[Nat.beq_eq] at hs;subst hs
     simp only[aG] at hc;subst hc
     obtain ⟨h1,h2,h3⟩:=hr
     obtain ⟨_,h4⟩:=hv s agg sz f hl
     obtain ⟨p,rfl,hp⟩:=h3
     refine⟨p,room β s-lo,rfl,by omega,?_⟩
     rcases hp with rfl|hp
     ·by_cases hz:kk=0
      ·exact .inl hz
      ·refine .inr ⟨blk β s,lo*sz,rfl,fun i hi=>?_⟩
       obtain ⟨v,hv1,hv2,hv3⟩:=h4 (by omega) (lo+i) (by omega)
       refine⟨v,DV.rel.mono hk _ _ hv1,hv2,fun j hj=>?_⟩
       rw[←hv3 j hj,Nat.add_mul]
     ·exact .inl (by omega)
    ·cases hc
   ·cases hc
  ·rename_i s
   split at hc
   ·rename_i kd f has hl
    simp only[aG] at hc;subst hc
    obtain ⟨es,c,q1,es',c',e,q2,q3,q4⟩:=hm s kd f has hl
    simp only[aG,Obj.map.injEq] at e
    obtain ⟨rfl,rfl⟩:=e
    exact⟨_,_,_,hr,q1,fun e he=>⟨(q3 e he).1,(q3 e he).2.1,DV.rel.mono hk _ _ (q3 e he).2.2⟩,q4⟩
   ·cases hc
  ·split at hc
   ·rename_i m hm
    simp only[aG] at hc;subst hc
    obtain ⟨vs,e,hvs⟩:=hr
    exact⟨vs,e,qO ih hm hvs⟩
   ·cases hc
  ·split at hc
   ·rename_i m hm
    simp only[aG] at hc;subst hc
    obtain ⟨vs,e,hvs⟩:=hr
    exact⟨vs,e,qO ih hm hvs⟩
   ·cases hc
  ·split at hc
   ·rename_i x' y' hx hy
    simp only[aG] at hc;subst hc
    obtain ⟨va,vc,e,ha,hcc⟩:=hr
    exact⟨va,vc,e,qO ih hx ha,qO ih hy hcc⟩
   ·cases hc
  ·cases hc
def OZ (P:Program) (st:AS):ResultVar→Option AV
 | .tmp t=>some (st.reg t)
 | .cell a T=>match oO P T,sizeT P T,st.reg a with
  | true,some n,.box s off=>match st.box s with
   | some l=>match Nat.beq ((l.drop off).take n).length n&&bZ l with
    | true=>oh (dG P T) ((l.drop off).take n)
    | false=>none
   | none=>none
  | _,_,_=>none
def iP (P:Program) (st:AS):List ResultVar→Option (List AV)
 | []=>some []
 | r :: rs=>match OZ P st r,iP P st rs with|some x,some l=>some (x :: l)|_,_=>none
def Tt (P:Program) (rs:List ResultVar) (st:AS):Option DV:=
 match iP P st rs with
 | some [x]=>pO 8 st.boxes x
 | some l=>pO 9 st.boxes (.aC l)
 | none=>none
section
variable {P:Program} {G:IH}
theorem rM {F:Fr} {w0:World} {h0:IH} {st:AS} {β:Nat→Nat} {h:IH} {tm:Array Value} {w:World} (g:aN G F w0 h0 st β h tm w):∀{rs:List ResultVar} {l:List AV},iP P st rs=some l→
  ∃vs:List Value,(rs.mapM fun | .tmp t=>pure (tm.getD t undef) | .cell a t=>do loadVar t (←asAddr (tm.getD a undef)):Sem (List Value)).run P w=.ok vs w∧AV.aB β h l vs
 | [],l,hl=>by simp only[iP,aG] at hl;subst hl;exact⟨[],by simp,rfl⟩
 | r :: rs,l,hl=>by
  simp only[iP] at hl
  split at hl
  ·rename_i x l' hx hl'
   simp only[aG] at hl;subst hl
   obtain ⟨vs,hrun,hr⟩:=rM g hl'
   have uz:∀t,(st.reg t).rel β h (tm.getD t undef):=fun t=>g.ev (a:=⟨tm,[]⟩) (.tmp t)
   cases r with
   | tmp t=>
    simp only[OZ,aG] at hx;subst hx
    refine⟨tm.getD t undef :: vs,?_,⟨_,_,rfl,uz t,hr⟩⟩
    simp only[List.mapM_cons,Sem.run_bind,Sem.run_pure,Result.andThen_ok]
    rw[hrun];rfl
   | cell a T=>
    simp only[OZ] at hx
    split at hx
    ·rename_i n s off hu hz hs
     split at hx
     ·rename_i lb hb
      split at hx
      ·rename_i hn
       simp only[aV,Nat.beq_eq] at hn
       obtain ⟨hn,hpl⟩:=hn
       obtain ⟨us,hus,hcell⟩:=g.cells hb hpl off n
       obtain ⟨v,hv,lK⟩:=lS hu hz hn hus hcell hx
       have ha:=uz a
       rw[hs] at ha
       simp only[AV.rel] at ha
       have adr:(asAddr (tm.getD a undef)).run P w=.ok ⟨blk β s,off,none⟩ w:=by rw[ha];rfl
       refine⟨v :: vs,?_,⟨_,_,rfl,lK,hr⟩⟩
       simp only[List.mapM_cons,Sem.run_bind,Sem.run_pure,Result.andThen_ok,adr,hv]
       rw[hrun];rfl
      ·cases hx
     ·cases hx
    ·cases hx
  ·cases hl
def entry (args:List DV) (n:Nat):AS:=⟨args.map .d++List.replicate (n-args.length) .any,[]⟩
def vX:Exit→Bool
 | .normal | .ret=>true
 | _=>false
def Rh (P:Program) (fn:Func) (r:DV) (e:Exit) (st:AS):Prop:=match vX e,Tt P fn.results.toList st with|true,some d=>d=r|_,_=>False
theorem WT {P:Program} {fn:Func} {r:DV} {e:Exit} {st:AS} (h:Rh P fn r e st):vX e=true∧Tt P fn.results.toList st=some r:=by
 unfold Rh at h
 split at h
 ·rename_i h1 h2;exact⟨h1,by rw[h2,h]⟩
 ·exact h.elim
def aU:Code→List Nat→Code
 | c,[]=>c
 | .seq a b,i :: r=>match i with|0=>aU a r|_=>aU b r
 | .cond _ a b,i :: r=>match i with|0=>aU a r|_=>aU b r
 | .block _ c,_ :: r=>aU c r
 | .loop c,_ :: r=>aU c r
 | .scope c,_ :: r=>aU c r
 | c,_=>c
def ak (fn:Func):Code:=match fn.body with|some c=>c|none=>.skip
theorem au.eG {f:FuncId} {fn:Func} {args:List DV} {r:DV} (hf:P.funcs[f]?=some fn) (hb:fn.body.isSome=true) (hcall:∀(vs:Array Value) (w:World),(callFunc f vs).run P w=.ok (.enter f vs) w)
  (h:bK P G [.code (ak fn)] (entry args fn.ntmps) (Rh P fn r)):au P G f args r:=by
 have hb':fn.body=some (ak fn):=by
  unfold ak
  cases hh:fn.body with
  | none=>simp[hh] at hb
  | some c=>rfl
 refine⟨hcall,fun w h0 vs hG hw hvs=>calls_of_wp hf hb' ?_⟩
 have hvl:=hvs.length
 have g0:aN G ⟨fun _=>False,fun _=>0⟩ w h0 (entry args fn.ntmps) (fun _=>0) h0 (vs.toArray++Array.replicate (fn.ntmps-vs.toArray.size) undef) w:=by
  refine⟨hG,hw,IH.le.refl _,fun _ _ _=>⟨fun _=>rfl,rfl⟩,Kept.refl _ _,fun _ _=>⟨rfl,rfl,rfl⟩,by simp[entry,hvl],fun t x hx=>?_,fun s l hb=>by simp[entry,AS.box,look] at hb,fun s s' l l' hb=>by simp[entry,AS.box,look] at hb⟩
  simp only[entry,List.getElem?_append,List.length_map] at hx
  split at hx
  ·rename_i ht
   obtain ⟨v,hv,hr⟩:=((AV.iF (β:=fun _=>0)).2 hvs).get hx
   exact⟨v,by rw[Array.getElem?_append_left (by simpa [hvl] using ht)];simpa using hv,hr⟩
  ·rename_i ht
   rw[List.getElem?_replicate] at hx
   split at hx
   ·rename_i ht'
    simp only[aG] at hx;subst hx
    exact⟨undef,by rw[Array.getElem?_append_right (by simp[hvl];omega)];simp[hvl,ht'],trivial⟩
   ·cases hx
 have:=h ⟨fun _=>False,fun _=>0⟩ w h0 (fun _=>0) h0 ⟨_,[]⟩ w g0 rfl
 refine kK this fun e a w' he=>?_
 obtain ⟨st,β,h',hret,g,hd⟩:=he
 obtain ⟨he',hr⟩:=WT hret
 -- the walk's own blocks,given away
 classical
 let k:IH:=⟨fun b o=>if ∃s l,st.box s=some l∧Live β s l∧blk β s=b then w'.cell? ⟨b,o,none⟩ else h'.cell b o,fun b=>if ∃s l,st.box s=some l∧Live β s l∧blk β s=b then w'.heap[b]? else h'.obj b⟩
 have hk:h'.le k:=by
  refine⟨fun b o v e=>?_,fun b o e=>?_⟩
  ·simp only[k]
   split
   ·exact g.holds.1 b o v e
   ·exact e
  ·simp only[k]
   split
   ·exact g.holds.2 b o e
   ·exact e
 have hkh:k.holds w':=by
  refine⟨fun b o v e=>?_,fun b o e=>?_⟩
  ·simp only[k] at e
   split at e
   ·exact e
   ·exact g.holds.1 b o v e
  ·simp only[k] at e
   split at e
   ·exact e
   ·exact g.holds.2 b o e
 have hold:∀b,b<w.heap.size→(∀o,k.cell b o=h0.cell b o)∧k.obj b=h0.obj b:=by
  intro b hb
  have h1:=g.old b hb id
  have hno:¬∃s l,st.box s=some l∧Live β s l∧blk β s=b:=by
   rintro ⟨s,l,hbx,hl,rfl⟩
   obtain ⟨h2,_⟩:=(g.box s l hbx).1 hl
   rcases h2 with h2|h2
   ·exact h2
   ·omega
  refine⟨fun o=>?_,?_⟩
  ·simp only[k]
   rw[if_neg hno]
   exact h1.1 o
  ·simp only[k]
   rw[if_neg hno]
   exact h1.2
 have hbox:∀s l,look st.boxes s=some l→bZ l=true→∃vs,AV.aB β h' l vs∧∀i,i<vs.length→k.cell (blk β s) i=vs[i]?:=by
  intro s l hbx hpl
  obtain ⟨_,_,_,T,vs,hh,hrs⟩:=g.Am hbx hpl
  refine⟨vs,hrs,fun i hi=>?_⟩
  simp only[k]
  rw[if_pos ⟨s,l,hbx,Live.plain hpl,rfl⟩]
  simp[World.cell?,hh]
 have hrow:∀s agg sz f,look st.boxes s=some [.arr agg sz f]→many β s≤room β s∧(0<room β s→∀i,i<many β s→∃v,(f i).rel h' v∧v.cells.size=sz∧∀j,j<sz→k.cell (blk β s) (i*sz+j)=v.cells[j]?):=by
  intro s agg sz f hbx
  obtain ⟨h1,h2⟩:=(g.box s _ hbx).2
  refine⟨h1.1,fun hpos i hi=>?_⟩
  rcases h2 with h2|⟨fr,vs,hh,hfr,hl,ho,hel⟩
  ·omega
  ·obtain ⟨v,a1,_,a2,a3⟩:=hel i hi
   refine⟨v,a1,a2,fun j hj=>?_⟩
   rw[←a3 j hj]
   simp only[k]
   rw[if_pos ⟨s,_,hbx,hpos,rfl⟩]
   simp[World.cell?,hh]
 have hmap:∀s kd f has,look st.boxes s=some [.mp kd f has]→∃es c,k.obj (blk β s)=some (.map es c)∧qN h' kd f has (some (.map es c)):=by
  intro s kd f has hbx
  have hO:=(g.box s _ hbx).2
  obtain ⟨es,c,hh,_⟩:=id hO
  refine⟨es,c,?_,by rw[←hh];exact hO⟩
  simp only[k]
  rw[if_pos ⟨s,_,hbx,trivial,rfl⟩,hh]
 have hpost:∃v,(results fn a.tmps).run P w'=.ok v w'∧DV.rel k r v:=by
  simp only[Tt] at hr
  have hres:∀l,iP P st fn.results.toList=some l→∃vs:List Value,(results fn a.tmps).run P w'=.ok (if h:vs.toArray.size=1 then vs.toArray[0] else .tuple vs.toArray) w'∧AV.aB β h' l vs:=by
   intro l hl
   obtain ⟨vs,hrun,hrs⟩:=rM (P:=P) g hl
   refine⟨vs,?_,hrs⟩
   simp only[results,Sem.run_bind]
   rw[Array.mapM_eq_mapM_toList,Sem.run_map]
   erw [hrun]
   rfl
  split at hr
  ·rename_i x hl
   obtain ⟨vs,hrun,hrs⟩:=hres _ hl
   obtain ⟨v,vs',e,hx,hrest⟩:=hrs
   simp only[AV.aB] at hrest
   subst hrest;subst e
   exact⟨v,by rw[hrun];simp,Ac hk hbox hrow hmap _ _ _ _ hr hx⟩
  ·rename_i l hne hl
   obtain ⟨vs,hrun,hrs⟩:=hres _ hl
   refine⟨.tuple vs.toArray,?_,Ac hk hbox hrow hmap 9 (.aC l) r _ hr ⟨vs,rfl,hrs⟩⟩
   rw[hrun]
   have:vs.length≠1:=by
    rw[hrs.length]
    intro h1
    match l,h1 with
    | [x],_=>exact hne x rfl
   simp[this]
  ·cases hr
 obtain ⟨v,hrun,hv⟩:=hpost
 cases e<;>first
  | exact⟨hd,v,hrun,v,k,rfl,hv,g.ext.trans hk,hkh,g.kept.mono fun _ h=>h,hold⟩
  | (simp[vX] at he')
end
def uG (args:List AV) (pre:List (Nat×List AV)) (n:Nat):AS:=⟨args++List.replicate (n-args.length) .any,pre⟩
def Wy (P:Program) (rs:List ResultVar) (st:AS):Option AV:=match iP P st rs with
 | some [x]=>some x
 | some l=>some (Uj l)
 | none=>none
def Eo (P:Program) (fn:Func) (mv:List (Nat×Nat)) (r:AV) (post:List (Nat×List AV)) (e:Exit) (st:AS):Prop:=
 match vX e,Wy P fn.results.toList (st.moves mv) with|true,some x=>x=r∧xE (st.moves mv).boxes post|_,_=>False
theorem Vh {P:Program} {fn:Func} {mv:List (Nat×Nat)} {r:AV} {post:List (Nat×List AV)} {e:Exit} {st:AS} (h:Eo P fn mv r post e st):vX e=true∧Wy P fn.results.toList (st.moves mv)=some r∧xE (st.moves mv).boxes post:=by
 unfold Eo at h
 split at h
 ·rename_i h1 h2;exact⟨h1,by rw[h2,h.1],h.2⟩
 ·exact h.elim
theorem dV.eG {P:Program} {G:IH} {f:FuncId} {fn:Func} {args:List AV} {pre post:List (Nat×List AV)} {r:AV} {mv:List (Nat×Nat)} (hmv:(mv.all fun p=>!(Nat.beq p.1 p.2)&&Nat.blt p.2 K0)=true) (hf:P.funcs[f]?=some fn) (hb:fn.body.isSome=true)
  (hcall:∀(us:Array Value) (w:World),(callFunc f us).run P w=.ok (.enter f us) w) (h:bK P G [.code (ak fn)] (uG args pre fn.ntmps) (Eo P fn mv r post)):dV P G f args pre r post:=by
 have hb':fn.body=some (ak fn):=by
  unfold ak
  cases hh:fn.body with
  | none=>simp[hh] at hb
  | some c=>rfl
 refine⟨hcall,fun F w h0 β us g=>calls_of_wp hf hb' ?_⟩
 have g0:aN G F w h0 (uG args pre fn.ntmps) β h0 (us++Array.replicate (fn.ntmps-us.size) undef) w:=by
  refine⟨g.glob,g.holds,g.ext,g.old,g.kept,g.fix,?_,fun t x hx=>?_,g.box,g.inj⟩
  ·have:=g.size
   simp[uG,this]
  ·simp only[uG,List.getElem?_append] at hx
   have hs:us.size=args.length:=g.size
   split at hx
   ·rename_i ht
    obtain ⟨v,hv,hr⟩:=g.regs t x hx
    exact⟨v,by rw[Array.getElem?_append_left (by omega)];exact hv,hr⟩
   ·rename_i ht
    rw[List.getElem?_replicate] at hx
    split at hx
    ·rename_i ht'
     simp only[aG] at hx;subst hx
     exact⟨undef,by rw[Array.getElem?_append_right (by omega),Array.getElem?_replicate,if_pos (by omega)],trivial⟩
    ·cases hx
 have:=h F w h0 β h0 ⟨_,[]⟩ w g0 rfl
 refine kK this fun e a w' he=>?_
 obtain ⟨st,β',h',hret,g1,hd⟩:=he
 obtain ⟨he',hr,hle⟩:=Vh hret
 obtain ⟨β2,g2⟩:=AS.dU.moves mv st hmv G F w h0 β' h' a.tmps w' g1
 have hpost:∃v,(results fn a.tmps).run P w'=.ok v w'∧r.rel β2 h' v:=by
  unfold Wy at hr
  have hres:∀l,iP P (st.moves mv) fn.results.toList=some l→∃us:List Value,(results fn a.tmps).run P w'=.ok (if h:us.toArray.size=1 then us.toArray[0] else .tuple us.toArray) w'∧AV.aB β2 h' l us:=by
   intro l hl
   obtain ⟨us,hrun,hrs⟩:=rM (P:=P) g2 hl
   refine⟨us,?_,hrs⟩
   simp only[results,Sem.run_bind]
   rw[Array.mapM_eq_mapM_toList,Sem.run_map]
   erw [hrun]
   rfl
  split at hr
  ·rename_i x hl
   obtain ⟨us,hrun,hrs⟩:=hres _ hl
   obtain ⟨v,us',e,hx,hrest⟩:=hrs
   simp only[AV.aB] at hrest
   subst hrest;subst e
   simp only[aG] at hr;subst hr
   exact⟨v,by rw[hrun];simp,hx⟩
  ·rename_i l hne hl
   obtain ⟨us,hrun,hrs⟩:=hres _ hl
   simp only[aG] at hr;subst hr
   refine⟨.tuple us.toArray,?_,UL.2 ⟨us,rfl,hrs⟩⟩
   rw[hrun]
   have:us.length≠1:=by
    rw[hrs.length]
    intro h1
    match l,h1 with
    | [x],_=>exact hne x rfl
   simp[this]
  ·cases hr
 obtain ⟨v,hrun,hv⟩:=hpost
 have h3:=xY hle
 have gf:aN G F w h0 ⟨[r],post⟩ β2 h' #[v] w':=
  ⟨g2.glob,g2.holds,g2.ext,g2.old,g2.kept,g2.fix,rfl,fun t x hx=>by
   cases t with
   | zero=>simp at hx;subst hx;exact⟨v,rfl,hv⟩
   | succ t=>simp at hx,fun s l hl=>g2.box s l (h3 s l hl),fun s s' l l' hl hl'=>g2.inj s s' l l' (h3 s l hl) (h3 s' l' hl')⟩
 cases e<;>first
  | exact⟨hd,v,hrun,v,β2,h',rfl,gf⟩
  | (simp[vX] at he')
end Go.Ab
namespace Go.Ab
open Go Go.RowKit
@[match_pattern] abbrev di (n:Int):DV:=.con (.int .i64 n)
@[match_pattern] abbrev db (b:Bool):DV:=.con (.bool b)
@[match_pattern] abbrev ds (s:ByteArray):DV:=.con (.string s)
@[match_pattern] abbrev vi (n:Int):AV:=.d (.con (.int .i64 n))
@[match_pattern] abbrev vb (b:Bool):AV:=.d (.con (.bool b))
@[match_pattern] abbrev vs (s:ByteArray):AV:=.d (.con (.string s))
section
variable {P:Program} {G:IH}
theorem Qm {h:IH} {w w':World} (hw:h.holds w) (hb:Below w.heap.size w w'):h.holds w':=by
 refine⟨fun b o v e=>?_,fun b o e=>?_⟩
 ·have:=hw.1 b o v e
  have hlt:b<w.heap.size:=by
   simp only[World.cell?] at this
   split at this
   ·rename_i hh;exact lt_of_heap hh
   ·simp at this
  rw[hb.cell (p:=⟨b,o,none⟩) hlt];exact this
 ·have:=hw.2 b o e
  rw[hb.block b (lt_of_heap this)];exact this
theorem au.yY {f:FuncId} {args:List Value} {v:Value} (hcall:∀(vs:Array Value) (w:World),(callFunc f vs).run P w=.ok (.enter f vs) w)
  (h:∀w,G.holds w→Calls P f args.toArray w fun e w'=>e=.returned v∧Below w.heap.size w w'):au P G f (args.map .con) (.con v):=by
 refine⟨hcall,fun w k vs hG hw hvs=>?_⟩
 have hv:vs=args:=by
  have:∀(l:List Value) (vs:List Value),DV.aB k (l.map .con) vs→vs=l:=by
   intro l
   induction l with
   | nil=>intro vs h;exact h
   | cons x l ih=>
    intro vs h
    obtain ⟨v,vs',e,hx,hr⟩:=h
    simp only[DV.rel] at hx
    rw[e,hx,ih vs' hr]
  exact this args vs hvs
 subst hv
 refine(h w ⟨fun b o v e=>hw.1 b o v (hG.1 b o v e),fun b o e=>hw.2 b o (hG.2 b o e)⟩).mono ?_
 rintro e w' ⟨rfl,hb⟩
 exact⟨v,k,rfl,rfl,IH.le.refl _,Qm hw hb,⟨hb.os,hb.tape,hb.output,hb.size,fun i hi _=>hb.block i hi⟩,fun _ _=>⟨fun _=>rfl,rfl⟩⟩
theorem below_grow (w:World) (q:Nat) (os:Array Obj):Below w.heap.size w (Sort.grow (w.drewN q) os):=by
 refine⟨rfl,rfl,rfl,by simp[Sort.grow,World.drewN],fun k hk=>?_⟩
 simp only[Sort.grow,World.drewN]
 rw[Array.getElem?_append_left hk]
end
end Go.Ab
namespace Go.Ab
open Go Go.RowKit
structure Holds (p:Prop):Prop where
 h:p
theorem iq {a b:Prop} (h:a=b) (hb:b):Holds a:=⟨h▸hb⟩
section
variable {P:Program} {G:IH} {aj:eU} {Q:Exit→AS→Prop}
theorem walk (hm:P.follows .mixedOrders=true) {keep cuts:List Nat} {n:Nat} {k:List It} {st:AS} (h:Holds ((mV P G aj keep cuts n k st).ok P G Q)):bK P G k st Q:=
 jU hm n k st h.h
theorem au.walk {aj:eU} {keep:List Nat} {f:FuncId} {fn:Func} {args:List DV} {r:DV} (hm:P.follows .mixedOrders=true) (hf:P.funcs[f]?=some fn) (hb:fn.body.isSome=true) (hcall:∀(vs:Array Value) (w:World),(callFunc f vs).run P w=.ok (.enter f vs) w)
  (h:Holds ((mV P G aj keep [] 1000 [.code (ak fn)] (entry args fn.ntmps)).ok P G (Rh P fn r))):au P G f args r:=
 au.eG hf hb hcall (jU hm _ _ _ h.h)
theorem dV.walk {aj:eU} {keep:List Nat} {f:FuncId} {fn:Func} {args:List AV} {pre post:List (Nat×List AV)} {r:AV} (mv:List (Nat×Nat)) (hm:P.follows .mixedOrders=true) (hmv:(mv.all fun p=>!(Nat.beq p.1 p.2)&&Nat.blt p.2 K0)=true) (hf:P.funcs[f]?=some fn) (hb:fn.body.isSome=true)
  (hcall:∀(us:Array Value) (w:World),(callFunc f us).run P w=.ok (.enter f us) w)
  (h:Holds ((mV P G aj keep [] 1000 [.code (ak fn)] (uG args pre fn.ntmps)).ok P G (Eo P fn mv r post))):dV P G f args pre r post:=
 dV.eG hmv hf hb hcall (jU hm _ _ _ h.h)
end
end Go.Ab
namespace Go.Ab
theorem iZ {α0:Type} {a:Prop} (x0:α0) (f:α0→Prop) (h:a=f x0) (hb:f x0):Holds a:=⟨h▸hb⟩
theorem qR {α0 α1:Type} {a:Prop} (x0:α0) (x1:α1) (f:α0→α1→Prop) (h:a=f x0 x1) (hb:f x0 x1):Holds a:=⟨h▸hb⟩
theorem QZ {α0 α1 α2:Type} {a:Prop} (x0:α0) (x1:α1) (x2:α2) (f:α0→α1→α2→Prop) (h:a=f x0 x1 x2) (hb:f x0 x1 x2):Holds a:=⟨h▸hb⟩
theorem JY {α0 α1 α2 α3:Type} {a:Prop} (x0:α0) (x1:α1) (x2:α2) (x3:α3) (f:α0→α1→α2→α3→Prop) (h:a=f x0 x1 x2 x3) (hb:f x0 x1 x2 x3):Holds a:=⟨h▸hb⟩
theorem Y9 {α0 α1 α2 α3 α4:Type} {a:Prop} (x0:α0) (x1:α1) (x2:α2) (x3:α3) (x4:α4) (f:α0→α1→α2→α3→α4→Prop) (h:a=f x0 x1 x2 x3 x4) (hb:f x0 x1 x2 x3 x4):Holds a:=⟨h▸hb⟩
theorem Le {α0 α1 α2 α3 α4 α5:Type} {a:Prop} (x0:α0) (x1:α1) (x2:α2) (x3:α3) (x4:α4) (x5:α5) (f:α0→α1→α2→α3→α4→α5→Prop) (h:a=f x0 x1 x2 x3 x4 x5) (hb:f x0 x1 x2 x3 x4 x5):Holds a:=⟨h▸hb⟩
theorem tu {α0 α1 α2 α3 α4 α5 α6:Type} {a:Prop} (x0:α0) (x1:α1) (x2:α2) (x3:α3) (x4:α4) (x5:α5) (x6:α6) (f:α0→α1→α2→α3→α4→α5→α6→Prop) (h:a=f x0 x1 x2 x3 x4 x5 x6) (hb:f x0 x1 x2 x3 x4 x5 x6):Holds a:=⟨h▸hb⟩
theorem YP {α0 α1 α2 α3 α4 α5 α6 α7:Type} {a:Prop} (x0:α0) (x1:α1) (x2:α2) (x3:α3) (x4:α4) (x5:α5) (x6:α6) (x7:α7) (f:α0→α1→α2→α3→α4→α5→α6→α7→Prop) (h:a=f x0 x1 x2 x3 x4 x5 x6 x7) (hb:f x0 x1 x2 x3 x4 x5 x6 x7):Holds a:=⟨h▸hb⟩
theorem FD {α0 α1 α2 α3 α4 α5 α6 α7 α8:Type} {a:Prop} (x0:α0) (x1:α1) (x2:α2) (x3:α3) (x4:α4) (x5:α5) (x6:α6) (x7:α7) (x8:α8) (f:α0→α1→α2→α3→α4→α5→α6→α7→α8→Prop) (h:a=f x0 x1 x2 x3 x4 x5 x6 x7 x8) (hb:f x0 x1 x2 x3 x4 x5 x6 x7 x8):Holds a:=⟨h▸hb⟩
end Go.Ab
