import Derived.Test.YtflgdeobcgmgnaaGreatDoorAcB
import Derived.IntWalk
import Derived.Scope
import Derived.Sort.Grow
import Derived.Deep.Draws
set_option autoImplicit false
namespace Go.Ab
open Go Go.RowKit
abbrev iR:=FuncId→List DV→Option DV
structure dU where
 d:iR
 w:Bool:=false
 rows:Nat→Bool:=fun _=>false
 ty:TypeId→Bool:=fun _=>false
 m:FuncId→List AV→List (Nat×List AV)→Option (AV×List (Nat×List AV)):=fun _ _ _=>none
 gl:Nat→Option (List DV):=fun _=>none
 ro:FuncId→Bool:=fun _=>false
 ov:FuncId→Bool:=fun _=>false
instance:Coe iR dU:=⟨fun d=>{ d:=d }⟩
mutual
def VL:AV→List Nat
 | .any | .d _ | .arr _ _ _ | .dead | .mp _ _ _=>[]
 | .box u _ | .vec u _ _ _ | .elem u _ _ _ | .tb u _ _ | .jY u=>[u]
 | .agg l | .aN l=>AA l
 | .clo _ a c=>AA a++AA c
 | .gate _ _ _ x=>VL x
def AA:List AV→List Nat
 | []=>[]
 | x :: l=>VL x++AA l
end
def reach (st:AS):Nat→List Nat→List Nat→List Nat
 | 0,_,acc=>acc
 | _+1,[],acc=>acc
 | n+1,u :: r,acc=>match acc.any (Nat.beq u) with
  | true=>reach st n r acc
  | false=>match st.box u with
   | some l=>reach st n (r++AA l) (acc++[u])
   | none=>reach st n r acc
def number:List Nat→Nat→List (Nat×Nat)
 | [],_=>[]
 | u :: r,i=>(u,K0+i) :: number r (i+1)
def newNames (dst:Option Nat):List (Nat×List AV)→List (Nat×Nat)
 | []=>[]
 | (d,_) :: r=>match Nat.blt d K0 with
  | true=>(d,1000*((match dst with|some t=>t|none=>897)+1)+d) :: newNames dst r
  | false=>newNames dst r
section
variable (P:Program) (G:IH) (aj:dU) (o:Oper) (ρ:Operand→AV) (st:AS)
def rowOf (s:Nat):Option (RK×Nat×(Nat→DV)):=match st.box s with|some [.arr a sz f]=>some (a,sz,f)|_=>none
def Vf (a b:Bool):Bool:=match a,b with|true,true=>true|false,false=>true|_,_=>false
def orElse (a b:Option (List Prop×Ev)):Option (List Prop×Ev):=match a with|some x=>some x|none=>b
def mG:Option (List Prop×Ev):=
 match Ib o.op,o.op.operands.all (fun x=>Nq (ρ x)),jf P (execOp (fun x=>TU (ρ x)) o) with
 | false,true,some (.value v)=>some ([],{ dst:=o.dst,val:=BP v })
 | _,_,_=>none
def QT (T:TypeId):Option (List Prop×Ev):=
 match o.dst,zeroOf P T with
 | some s,some l=>match aj.ty T with
  | true=>some ([],{ dst:=some s,val:=.tb s 0 T,nw:=[(s,l.map fun v=>.d (.con v))] })
  | false=>some ([],{ dst:=some s,val:=.box s 0,nw:=[(s,l.map fun v=>.d (.con v))] })
 | _,_=>none
def XH (x:AV):Option (List Prop×Ev):=
 match o.dst,cellsOf x with
 | some s,some l=>match AV.frees s l with|true=>some ([],{ dst:=some s,val:=.box s 0,nw:=[(s,l)] })|false=>none
 | _,_=>none
def Sj (T:TypeId) (parts:List (Nat×Operand)):Option (List Prop×Ev):=
 match zeroOf P T,placeOf P T,partsOf ρ parts with
 | some z,some pl,some m=>match wS pl (z.map fun v=>.d (.con v)) m with|some l=>some ([],{ dst:=o.dst,val:=wV l })|none=>none
 | _,_,_=>none
def NV (T:TypeId):Option (List Prop×Ev):=match o.dst,bF P T with
 | some d,some E=>match sizeT P E with
  | some sz=>some ([],{ dst:=some d,val:=.vec d sz 0 0,nw:=[(d,[.arr ⟨dH P E,E,false,none⟩ sz fun _=>.con undef])] })
  | none=>none
 | _,_=>none
def OY (n:Nat) (parts:List (Nat×Operand)):Bool:=match n,parts with|0,[]=>true|_,_=>false
def D9 (T:TypeId) (n:Nat) (parts:List (Nat×Operand)):Option (List Prop×Ev):=
 match OY n parts with
 | true=>NV P o T
 | false=>match bF P T with
 | some E=>match sizeT P E,zeroOf P E,partsOf ρ parts with
  | some sz,some z,some m=>match wS (fun i=>some (i*sz,sz)) ((oI (n*sz) z).map fun v=>.d (.con v)) m with
   | some l=>match pK l with
    | some ds=>match Nat.ble (n*sz) 16777216&&(Nat.beq ds.length (n*sz)&&(dH P E||(Nat.beq sz 1&&ds.all mW))) with
     | true=>match o.dst with
      | some d=>match aj.rows d&&((dH P E||Nat.beq sz 1)&&ds.all mW) with
       | true=>some ([],{ dst:=some d,val:=.vec d sz 0 n,nw:=[(d,[.arr ⟨dH P E,E,false,none⟩ sz (aW (dH P E) sz ds)])] })
       | false=>some ([],{ dst:=o.dst,val:=.d (.slc sz n (aW (dH P E) sz ds)) })
      | none=>some ([],{ dst:=o.dst,val:=.d (.slc sz n (aW (dH P E) sz ds)) })
     | false=>none
    | none=>none
   | none=>none
  | _,_,_=>none
 | none=>none
def Vp (T:TypeId) (p:AV):Option (List Prop×Ev):=
 match oQ P T,sizeT P T with
 | true,some n=>match p with
  | .box s off=>match st.box s with
   | some l=>match Nat.beq ((l.drop off).take n).length n&&((l.drop off).take n).all yw,oh (dH P T) ((l.drop off).take n) with
    | true,some x=>some ([],{ dst:=o.dst,val:=x,iV:=Pj s off n })
    | _,_=>none
   | none=>none
  | .d (.ptr l)=>match Nat.beq (l.take n).length n,oh (dH P T) ((l.take n).map .d) with
   | true,some x=>some ([],{ dst:=o.dst,val:=x })
   | _,_=>none
  | .elem s sz i off=>match rowOf st s with
   | some (agg,sz',f)=>match Nat.beq off 0&&(Nat.beq n sz&&(Nat.beq sz sz'&&Vf (dH P T) agg.agg)) with
    | true=>some ([],{ dst:=o.dst,val:=.d (f i),iV:=[(s,0)] })
    | false=>match zG (f i) with
     | some l=>match Nat.beq (((l.map AV.d).drop off).take n).length n&&Nat.beq sz sz',oh (dH P T) (((l.map AV.d).drop off).take n) with
      | true,some x=>some ([],{ dst:=o.dst,val:=x,iV:=[(s,0)] })
      | _,_=>none
     | none=>none
   | none=>none
  | _=>none
 | _,_=>none
def Bo (T:TypeId) (s sz i off:Nat) (x:AV):Option (List Prop×Ev):=
 match o.dst,sizeT P T,cellsOf x with
 | none,some n,some l=>match pK l,rowOf st s with
  | some xs,some (agg,sz',f)=>match (Nat.beq l.length n&&(Nat.beq sz sz'&&Nat.ble (off+n) sz))&&!agg.fz with
   | true=>match Nat.beq off 0&&Nat.beq n sz with
    | true=>match agg.agg,xs with
     | true,xs=>some ([],{ dst:=none,val:=.any,jE:=[(s,0,.arr agg sz fun j=>bif Nat.beq j i then .agg xs else f j)] })
     | false,[y]=>some ([],{ dst:=none,val:=.any,jE:=[(s,0,.arr agg sz fun j=>bif Nat.beq j i then y else f j)] })
     | _,_=>none
    | false=>match agg.agg,zG (f i) with
     | true,some fl=>some ([],{ dst:=none,val:=.any,jE:=[(s,0,.arr agg sz fun j=>bif Nat.beq j i then .agg (fl.take off++xs++fl.drop (off+n)) else f j)] })
     | _,_=>none
   | false=>none
  | _,_=>none
 | _,_,_=>none
def Q8 (T:TypeId) (p x:AV):Option (List Prop×Ev):=
 match p with
 | .elem s sz i off=>Bo P o st T s sz i off x
 | p=>match o.dst,sizeT P T,p,cellsOf x with
 | none,some n,.box s off,some l=>match st.box s with
  | some lb=>match Nat.beq l.length n&&(Nat.ble (off+n) lb.length&&((lb.drop off).take n).all yw) with
   | true=>some ([],{ dst:=none,val:=.any,jE:=lM s off l })
   | false=>none
  | none=>none
 | _,_,_,_=>none
def ace (x:AV):Bool:=match x with | .clo (.func _) _ _=>true | .clo _ _ _=>false|y=>notNil y
def XZ (x:AV):Option (List Prop×Ev):=match ace x with|true=>some ([],{ dst:=o.dst,val:=x })|false=>none
def GR (T:TypeId) (x:AV) (i:Nat):Option (List Prop×Ev):=
 match xC P T i with
 | some f=>match sizeT P f.type,pY x f.offset with
  | some (_+1),some y=>some ([],{ dst:=o.dst,val:=y })
  | _,_=>none
 | none=>none
def RD (T:TypeId) (x:AV) (i:Nat):Option (List Prop×Ev):=
 match xC P T i with
 | some f=>match oQ P f.type,sizeT P f.type,kU x with
  | true,some n,some l=>match vC (dH P f.type) l f.offset n with
   | some y=>some ([],{ dst:=o.dst,val:=y })
   | none=>none
  | _,_,_=>none
 | none=>none
def Gu (T:TypeId) (x i:AV):Option (List Prop×Ev):=
 match bF P T,x,i with
 | some E,.vec s sz lo n,.d (.con (.int _ m))=>match sizeT P E with
  | some sz'=>match Nat.beq sz' sz with
   | true=>some ([0≤m∧m<n],{ dst:=o.dst,val:=.elem s sz (lo+m.toNat) 0 })
   | false=>none
  | none=>none
 | some E,.d (.slc sz n f),.d (.con (.int _ m))=>match sizeT P E,zG (f m.toNat) with
  | some sz',some l=>match Nat.beq sz' sz with
   | true=>some ([0≤m∧m<n],{ dst:=o.dst,val:=.d (.ptr l) })
   | false=>none
  | _,_=>none
 | _,_,_=>none
def Rn (T:TypeId) (x i:AV):Option (List Prop×Ev):=
 match isStr P T,x,i with
 | true,.d (.con (.string s)),.d (.con (.int _ m))=>some ([0≤m∧m<s.size],{ dst:=o.dst,val:=.d (.con (.int .u8 (byteAt s m.toNat))) })
 | false,x,.d (.con (.int _ m))=>match xw P T with
  | some (n,e)=>match oQ P e,sizeT P e,kU x with
   | true,some sz,some l=>match vC (dH P e) l (m.toNat*sz) sz with
    | some y=>some ([0≤m∧m<n],{ dst:=o.dst,val:=y })
    | none=>none
   | _,_,_=>none
  | none=>none
 | _,_,_=>none
def MC (x:AV) (i:Nat):Option (List Prop×Ev):=
 match sF x with
 | some l=>match l[i]? with|some y=>some ([],{ dst:=o.dst,val:=y })|none=>none
 | none=>none
def uf:Operand→Option Int
 | .const (.int _ n)=>some n
 | _=>none
def I64 (n:Int):Prop:=-9223372036854775808≤n∧n≤9223372036854775807
def CS (n:Int):Prop:=-9223372036854775807≤n∧n≤9223372036854775807
def KC (op:BinOp):AV→AV→Option (List Prop×Ev)
 | .d (.con (.int .i64 p)),.d (.con (.int .i64 q))=>match op with
  | .add=>some ([I64 (p+q)],{ dst:=o.dst,val:=.d (.con (.int .i64 (p+q))) })
  | .sub=>some ([I64 (p-q)],{ dst:=o.dst,val:=.d (.con (.int .i64 (p-q))) })
  | .mul=>some ([I64 (p*q)],{ dst:=o.dst,val:=.d (.con (.int .i64 (p*q))) })
  | _=>none
 | _,_=>none
def Uo (op:UnOp):AV→Option (List Prop×Ev)
 | .d (.con (.int .i64 p))=>match op with
  | .neg=>some ([CS p],{ dst:=o.dst,val:=.d (.con (.int .i64 (-p))) })
  | _=>none
 | _=>none
def J6 (y:Operand):AV→AV→Option (List Prop×Ev)
 | .d (.con (.int .i64 p)),.d (.con (.int .i64 q))=>match uf y with
  | some n=>match decide (n=0) with
   | false=>some ([CS p],{ dst:=o.dst,val:=.d (.con (.int .i64 (p.tdiv n))) })
   | true=>none
  | none=>some ([q≠0,CS p],{ dst:=o.dst,val:=.d (.con (.int .i64 (p.tdiv q))) })
 | _,_=>none
def vS (rem:Bool) (y:Operand):AV→AV→Option (List Prop×Ev)
 | .d (.con (.int j p)),.d (.con (.int k q))=>match decide (j=k) with
  | true=>match uf y with
   | some n=>match decide (n=0) with
    | false=>some ([],{ dst:=o.dst,val:=.d (.con (.int j (match rem with|true=>p.tmod n|false=>j.wrap (p.tdiv n)))) })
    | true=>none
   | none=>some ([q≠0],{ dst:=o.dst,val:=.d (.con (.int j (match rem with|true=>p.tmod q|false=>j.wrap (p.tdiv q)))) })
  | false=>none
 | _,_=>none
def Fp (op:BinOp):AV→AV→Option (List Prop×Ev)
 | .d (.con (.int j p)),.d (.con (.int _ q))=>match op with
  | .shl=>some ([0≤q],{ dst:=o.dst,val:=.d (.con (.int j (j.wrap (p*2 ^ (min q.toNat j.bits))))) })
  | .shr=>some ([0≤q],{ dst:=o.dst,val:=.d (.con (.int j (p.fdiv (2 ^ (min q.toNat j.bits))))) })
  | _=>none
 | _,_=>none
def Ia:AV→AV→Option (List Prop×Ev)
 | .d (.con (.string p)),.d (.con (.string q))=>some ([p.size+q.size≤9223372036854775807],{ dst:=o.dst,val:=.d (.con (.string (p++q))) })
 | _,_=>none
def Uk (neq:Bool) (T:TypeId) (x y:AV):Option (List Prop×Ev):=
 match ZX P T,kU x,kU y with
 | some fs,some xs,some ys=>match P5 P xs ys fs with
  | some c=>some ([],{ dst:=o.dst,val:=.d (.con (.bool (ND neq c))) })
  | none=>none
 | _,_,_=>none
def Jp (op:BinOp) (x y:AV):Option (List Prop×Ev):=match aj.w with|true=>none|false=>KC o op x y
def TB (op:BinOp) (T:TypeId) (x y:Operand):Option (List Prop×Ev):=
 match op with
 | .quo=>orElse (J6 o y (ρ x) (ρ y)) (vS o false y (ρ x) (ρ y))
 | .rem=>vS o true y (ρ x) (ρ y)
 | .add=>orElse (Ia o (ρ x) (ρ y)) (orElse (Jp aj o .add (ρ x) (ρ y)) (mG P o ρ))
 | .sub=>orElse (Jp aj o .sub (ρ x) (ρ y)) (mG P o ρ)
 | .mul=>orElse (Jp aj o .mul (ρ x) (ρ y)) (mG P o ρ)
 | .eql=>orElse (Uk P o false T (ρ x) (ρ y)) (mG P o ρ)
 | .neq=>orElse (Uk P o true T (ρ x) (ρ y)) (mG P o ρ)
 | .shl=>Fp o .shl (ρ x) (ρ y)
 | .shr=>Fp o .shr (ρ x) (ρ y)
 | _=>mG P o ρ
def S9 (s:Nat):Option Nat:=match rowOf st s with|some (a,_,_)=>a.mn|none=>none
def Ol (T:TypeId) (x:AV) (lo:Option Operand) (hi mx:Operand):Option (List Prop×Ev):=
 match x with
 | .vec _ sz _ n=>match bF P T,gV ρ lo 0,gV ρ (some hi) n,gV ρ (some mx) n with
  | some E,some l,some m,some M=>match sizeT P E with
   | some sz'=>match Nat.beq sz' sz with
    | true=>some ([0≤l∧l≤m∧m≤M∧M≤n],{ dst:=o.dst,val:=.any })
    | false=>none
   | none=>none
  | _,_,_,_=>none
 | _=>none
def JQ (c:Call):Option (List Prop×Ev):=
 match c.args.toList,c.argTypes.toList,o.dst with
 | [x],[T],none=>match bF P T with
  | some E=>match sizeT P E,zeroOf P E with
   | some sz,some z=>match ρ x with
    | .vec s sz' lo n=>match rowOf st s with
     | some (agg,nZ,f)=>match Nat.beq sz' sz&&(Nat.beq nZ sz&&(Nat.beq z.length sz&&(Nat.blt 0 sz&&(z.all (·.oneCell')&&((agg.agg||Nat.beq z.length 1)&&!agg.fz))))) with
      | true=>some ([0<n],{ dst:=none,val:=.any,jE:=[(s,0,.arr agg sz fun i=>bif Nat.blt i lo then f i else bif Nat.blt i (lo+n) then ug agg.agg z else f i)] })
      | false=>none
     | none=>none
    | _=>none
   | _,_=>none
  | none=>none
 | _,_,_=>none
def QN (s sz:Nat) (x:AV):Option (Nat×Nat):=match x with
 | .vec s' sz' lo' k=>match Nat.beq s s'&&Nat.beq sz' sz with|true=>some (lo',k)|false=>none
 | _=>none
def Rl (T:TypeId) (x:AV) (lo hi:Option Operand):Option (List Prop×Ev):=
 match x with
 | .d (.con (.string s))=>match isStr P T,gV ρ lo 0,gV ρ hi s.size with
  | true,some l,some m=>some ([0≤l∧l≤m∧m≤s.size],{ dst:=o.dst,val:=.d (.con (.string (s.extract l.toNat m.toNat))) })
  | _,_,_=>none
 | .d (.slc sz n f)=>match bF P T,gV ρ lo 0,gV ρ hi n with
  | some E,some l,some m=>match sizeT P E with
   | some sz'=>match Nat.beq sz' sz with
    | true=>some ([0≤l∧l≤m∧m≤n],{ dst:=o.dst,val:=.d (.slc sz (m-l).toNat (fun i=>f (l.toNat+i))) })
    | false=>none
   | none=>none
  | _,_,_=>none
 | .vec s sz pR n=>match bF P T,gV ρ lo 0,gV ρ hi n with
  | some E,some l,some m=>match sizeT P E with
   | some sz'=>match Nat.beq sz' sz with
    | true=>match S9 st s with
     | some N=>some ([0≤l∧l≤m∧pR+m≤N],{ dst:=o.dst,val:=.vec s sz (pR+l.toNat) (m-l).toNat,iV:=[(s,0)] })
     | none=>some ([0≤l∧l≤m∧m≤n],{ dst:=o.dst,val:=.vec s sz (pR+l.toNat) (m-l).toNat })
    | false=>none
   | none=>none
  | _,_,_=>none
 | _=>none
def Gl (T:TypeId) (lx cx:AV):Option (List Prop×Ev):=
 match o.dst,bF P T,lx,cx with
 | some d,some E,.d (.con (.int _ n)),.d (.con (.int _ c))=>match sizeT P E,zeroOf P E with
  | some sz,some z=>match Nat.beq z.length sz&&(Nat.blt 0 sz&&(z.all (·.oneCell')&&(dH P E||Nat.beq z.length 1))) with
   | true=>some ([n=c∧0≤c∧(jF P E:Int)*c≤281474976710656∧c≤9223372036854775807],{ dst:=some d,val:=.vec d sz 0 c.toNat,nw:=[(d,[.arr ⟨dH P E,E,false,none⟩ sz fun _=>ug (dH P E) z])] })
   | false=>none
  | _,_=>none
 | _,_,_,_=>none
def SK (tx:TypeId) (agg:Bool) (sz:Nat) (x:AV):Option (List Prop×Nat×(Nat→DV)×List (Nat×Nat)):=
 match x with
 | .d (.slc sz' k gs)=>match bF P tx,Nat.beq sz' sz with
  | some _,true=>some ([∀i,i<k→qm agg sz (gs i)=true],k,gs,[])
  | _,_=>none
 | .vec s sz' lo k=>match bF P tx,rowOf st s with
  | some _,some (agg',nZ,f)=>match Nat.beq sz' sz&&(Nat.beq nZ sz&&Vf agg'.agg agg) with
   | true=>some ([],k,fun i=>f (lo+i),[(s,0)])
   | false=>none
  | _,_=>none
 | .d (.con (.slice _ 0 _))=>match bF P tx with|some _=>some ([],0,fun _=>.con undef,[])|none=>none
 | .d (.con (.string b))=>match isStr P tx&&(!agg&&Nat.beq sz 1) with|true=>some ([],b.size,uw b,[])|false=>none
 | _=>none
def WB (P:Program) (T:TypeId):Bool:=match P.underlying T with|some (.int _)=>true|_=>false
def EG (tx:TypeId) (z:List Value) (agg:Bool) (sz:Nat) (x:AV):Option (List Prop×Nat×(Nat→DV)×List (Nat×Nat)):=
 match SK P st tx agg sz x with
 | some r=>some r
 | none=>match x with
  | .d (.con (.int _ m))=>match WB P tx&&(Nat.blt 0 sz&&(agg||Nat.beq z.length 1)) with|true=>some ([0<m],m.toNat,fun _=>ug agg z,[])|false=>none
  | _=>none
def Io (c:Call):Option (List Prop×Ev):=
 match c.args.toList,c.argTypes.toList,o.dst with
 | [sx,x],[T,tx],some d=>match bF P T with
  | some E=>match sizeT P E,zeroOf P E with
   | some sz,some z=>match Nat.beq z.length sz&&(z.all (·.oneCell')&&Nat.ble (jF P E) 4294967296) with
    | true=>match ρ sx with
     | .vec s sz' lo n=>match rowOf st s with
      | some (agg,nZ,f)=>match QN s sz (ρ x) with
       | some (lo',k)=>match bF P tx,Nat.beq sz' sz&&(Nat.beq nZ sz&&!agg.fz) with
        | some _,true=>some ([lo+n≤lo'∧lo<lo'],{ dst:=some d,val:=.vec s sz lo (n+k),iV:=[(s,0)],jE:=[(s,0,.arr agg sz fun i=>bif Nat.blt i (lo+n) then f i else bif Nat.blt i (lo+n+k) then f (lo'+(i-(lo+n))) else f i)] })
        | _,_=>none
       | none=>match Nat.beq sz' sz&&(Nat.beq nZ sz&&(Nat.beq lo 0&&(!(Nat.beq d s)&&(!agg.fz&&(agg.mn.isNone&&Nat.beq agg.ty E))))),EG P st tx z agg.agg sz (ρ x) with
        | true,some (cs,k,gs,rd)=>some (((n+k)*jF P E≤1099511627776∧n+k≤1099511627776) :: cs,{ dst:=some d,val:=.vec d sz 0 (n+k),iV:=rd,jE:=[(s,0,.dead)],nw:=[(d,[.arr agg sz fun i=>bif Nat.blt i n then f i else gs (i-n)])] })
        | _,_=>none
      | none=>none
     | .d (.con (.slice none 0 0))=>match EG P st tx z (dH P E) sz (ρ x) with
      | some (cs,k,gs,rd)=>some ((k*jF P E≤1099511627776∧k≤1099511627776) :: cs,{ dst:=some d,val:=.vec d sz 0 k,iV:=rd,nw:=[(d,[.arr ⟨dH P E,E,false,none⟩ sz gs])] })
      | none=>none
     | _=>none
    | false=>none
   | _,_=>none
  | none=>none
 | _,_,_=>none
def Ed (c:Call):Option (List Prop×Ev):=
 match c.args.toList,c.argTypes.toList,o.dst with
 | [sx,x],[T,tx],some d=>match bF P T,ρ sx with
  | some E,.vec s sz lo n=>match rowOf st s,sizeT P E,zeroOf P E with
   | some (agg,nZ,f),some sz',some z=>match agg.mn,EG P st tx z agg.agg sz (ρ x) with
    | some N,some (cs,k,gs,rd)=>match Nat.beq z.length sz&&(z.all (·.oneCell')&&(Nat.ble (jF P E) 4294967296&&(Nat.beq sz' sz&&(Nat.beq nZ sz&&(Nat.beq lo 0&&Nat.beq agg.ty E))))) with
     | true=>some (((n+k)*jF P E≤1099511627776∧n+k≤1099511627776) :: (N<n+k) :: cs,{ dst:=some d,val:=.vec d sz 0 (n+k),iV:=(s,0) :: rd,nw:=[(d,[.arr ⟨agg.agg,agg.ty,false,none⟩ sz fun i=>bif Nat.blt i n then f i else gs (i-n)])] })
     | false=>none
    | _,_=>none
   | _,_,_=>none
  | _,_=>none
 | _,_,_=>none
def SH (c:Call):Option (List Prop×Ev):=
 match c.args.toList,c.argTypes.toList with
 | [x],[T]=>match bF P T,ρ x with
  | some _,.vec s _ lo _=>match S9 st s with
   | some N=>some ([],{ dst:=o.dst,val:=.d (.con (.int .i64 ((N-lo:Nat):Int))),iV:=[(s,0)] })
   | none=>none
  | _,_=>none
 | _,_=>none
def Kz (tx:TypeId) (agg:Bool) (sz n:Nat) (x:AV):Option (List Prop×Nat×(Nat→DV)×List (Nat×Nat)):=
 match x with
 | .d (.slc sz' k gs)=>match bF P tx,Nat.beq sz' sz with
  | some _,true=>some ([∀i,i<min k n→qm agg sz (gs i)=true],k,gs,[])
  | _,_=>none
 | .vec s sz' lo k=>match bF P tx,rowOf st s with
  | some _,some (agg',nZ,f)=>match Nat.beq sz' sz&&(Nat.beq nZ sz&&Vf agg'.agg agg) with
   | true=>some ([],k,fun i=>f (lo+i),[(s,0)])
   | false=>none
  | _,_=>none
 | _=>none
def OU (c:Call):Option (List Prop×Ev):=
 match c.args.toList,c.argTypes.toList with
 | [dx,x],[T,tx]=>match bF P T,ρ dx with
  | some E,.vec s sz lo n=>match rowOf st s,sizeT P E with
   | some (agg,nZ,f),some sz'=>match Kz P st tx agg.agg sz n (ρ x) with
    | some (cs,k,gs,rd)=>match Nat.beq sz' sz&&(Nat.beq nZ sz&&!agg.fz) with
     | true=>some (cs,{ dst:=o.dst,val:=.d (.con (.int .i64 ((min k n:Nat):Int))),iV:=(s,0) :: rd,jE:=[(s,0,.arr agg sz fun i=>bif Nat.blt i lo then f i else bif Nat.blt i (lo+min k n) then gs (i-lo) else f i)] })
     | false=>none
    | none=>none
   | _,_=>none
  | _,_=>none
 | _,_=>none
def Fv (f:FuncId) (al:List AV):Option (List Prop×Ev):=
 match number (reach st 40 (AA al) []) 0 with
 | m=>match wB st m with
  | some L=>match aj.m f (AV.carries m al) (L.pre m) with
   | some (r,post)=>match newNames o.dst post with
    | nu=>match (m.map fun p=>(p.2,p.1))++nu with
     | m2=>match xJ L m nu m2 al r post with
      | true=>match aj.ro f with
       | true=>some (dD P G f (AV.carries m al) (L.pre m) r post :: AU m2 post L,{ dst:=o.dst,val:=AV.carry m2 r,iV:=L.reads,jE:=[],nw:=wY m2 nu post })
       | false=>some ([dD P G f (AV.carries m al) (L.pre m) r post],{ dst:=o.dst,val:=AV.carry m2 r,iV:=L.reads,jE:=L.writes m2 post,nw:=wY m2 nu post })
      | false=>none
   | none=>none
  | none=>none
def OL (c:Call):Option (List Prop×Ev):=
 match c.callee with
 | .value x=>match kG (ρ x),c.args.toList,c.argTypes.toList with
  | some (g,[],[]),[y,z],[T,_]=>match aj.ov g,ρ y,ρ z with
   | true,.vec s1 NT _ n1,.vec s2 nZ _ n2=>match rowOf st s1,rowOf st s2 with
    | some (k1,t1,_),some (_,t2,_)=>match !(Nat.beq s1 s2)&&(Nat.beq t1 NT&&(Nat.blt 0 NT&&(Nat.beq t2 nZ&&(Nat.blt 0 nZ&&(!k1.fz&&k1.agg))))) with
     | true=>some ([Yc P g T,0<n1,0<n2],{ dst:=o.dst,val:=.d (.con (.bool false)),iV:=[(s1,0),(s2,0)] })
     | false=>none
    | _,_=>none
   | _,_,_=>none
  | _,_,_=>none
 | _=>none
def Vq (c:Call):Option (List Prop×Ev):=
 match c.callee with
 | .value x=>match kG (ρ x) with
  | some (g,a1,a2)=>match pK (a1++(c.args.toList.map ρ++a2)) with
   | some ds=>match aj.d g ds with
    | some r=>some ([aA P G g ds r],{ dst:=o.dst,val:=.d r })
    | none=>Fv P G aj o st g (a1++(c.args.toList.map ρ++a2))
   | none=>orElse (Fv P G aj o st g (a1++(c.args.toList.map ρ++a2))) (match lZ st (a1++(c.args.toList.map ρ++a2)) with
    | some (xs,ss)=>match aj.d g xs with
     | some r=>match zF r with
      | true=>some ([aA P G g xs r],{ dst:=o.dst,val:=.d r,iV:=ss.map fun s=>(s,0) })
      | false=>match ss with
       | [s]=>some ([aA P G g xs r],{ dst:=o.dst,val:=.d r,iV:=[(s,0)],jE:=[(s,0,.dead)] })
       | _=>none
     | none=>none
    | none=>none)
  | none=>none
 | .builtin .append=>orElse (Io P o ρ st c) (Ed P o ρ st c)
 | .builtin .cap=>orElse (SH P o ρ st c) (mG P o ρ)
 | .builtin .copy=>OU P o ρ st c
 | .builtin .clear=>JQ P o ρ st c
 | .builtin .len=>match c.args.toList,c.argTypes.toList with
  | [x],[T]=>match ρ x,bF P T with
   | .d (.slc _ n _),some _=>some ([],{ dst:=o.dst,val:=.d (.con (.int .i64 n)) })
   | .vec _ _ _ n,some _=>some ([],{ dst:=o.dst,val:=.d (.con (.int .i64 n)) })
   | _,_=>mG P o ρ
  | _,_=>mG P o ρ
 | _=>mG P o ρ
def L9 (src dst:TypeId) (x:AV):Option (List Prop×Ev):=
 match x with
 | .d (.slc 1 n f)=>match isBytes P src&&isStr P dst with
  | true=>some ([BytesAt n f],{ dst:=o.dst,val:=.d (.con (.string ⟨(bytesOf n f).toArray⟩)) })
  | false=>none
 | .vec s sz lo n=>match isBytes P src&&(isStr P dst&&Nat.beq sz 1),rowOf st s with
  | true,some (_,sz',f)=>match Nat.beq sz' 1 with
   | true=>some ([BytesAt n (fun i=>f (lo+i))],{ dst:=o.dst,val:=.d (.con (.string ⟨(bytesOf n (fun i=>f (lo+i))).toArray⟩)),iV:=[(s,0)] })
   | false=>none
  | _,_=>none
 | .d (.con (.string b))=>match isStr P src&&isBytes P dst,o.dst,bF P dst with
  | true,some d,some E=>some ([],{ dst:=some d,val:=.vec d 1 0 b.size,nw:=[(d,[.arr ⟨false,E,false,none⟩ 1 (uw b)])] })
  | _,_,_=>none
 | _=>none
def mapOf (s:Nat):Option (Option IntKind×(Value→DV)×(Value→Bool)):=match st.box s with|some [.mp kd f has]=>some (kd,f,has)|_=>none
def VI:Option IntKind→Option IntKind→Bool
 | none,none=>true
 | some i,some j=>decide (i=j)
 | _,_=>false
def VB:Option Operand→Bool
 | none=>true
 | some x=>match ρ x with | .d (.con (.int _ _))=>true|_=>false
def Lm (T:TypeId) (r:Option Operand):Option (List Prop×Ev):=
 match o.dst,yJ P T,VB ρ r with
 | some d,some (kd,e),true=>match xQ P e with
  | some zd=>some ([],{ dst:=some d,val:=.jY d,nw:=[(d,[.mp kd (fun _=>zd) fun _=>false])] })
  | none=>none
 | _,_,_=>none
def OH (T:TypeId) (x i:AV) (ok:Bool):Option (List Prop×Ev):=
 match yJ P T with
 | some (kd,e)=>match xQ P e,i with
  | some zd,.d (.con key)=>match BZ kd key,x with
   | true,.jY s=>match mapOf st s with
    | some (kd',f,has)=>match VI kd kd' with
     | true=>some ([has key=false→DV.imp zd (f key)],{ dst:=o.dst,val:=.d (FD ok f has key),iV:=[(s,0)] })
     | false=>none
    | none=>none
   | true,.d (.mp kd' f has)=>match VI kd kd' with
    | true=>some ([has key=false→DV.imp zd (f key)],{ dst:=o.dst,val:=.d (FD ok f has key) })
    | false=>none
   | _,_=>none
  | _,_=>none
 | none=>none
def vW (T:TypeId) (m i x:AV):Option (List Prop×Ev):=
 match o.dst,yJ P T,m,i,x with
 | none,some (kd,_),.jY s,.d (.con key),.d d=>match mapOf st s with
  | some (kd',f,has)=>match VI kd kd'&&BZ kd key with
   | true=>some ([],{ dst:=none,val:=.any,jE:=[(s,0,.mp kd (Et key d f) (AZ key has))] })
   | false=>none
  | none=>none
 | _,_,_,_,_=>none
def RH (op:BinOp) (T:TypeId) (x y:AV):Option (List Prop×Ev):=
 match op,Pz P T&&Jc x,y with
 | .eql,true,.d (.con (.pointer none))=>some ([],{ dst:=o.dst,val:=.d (.con (.bool false)) })
 | .neq,true,.d (.con (.pointer none))=>some ([],{ dst:=o.dst,val:=.d (.con (.bool true)) })
 | _,_,_=>none
def Rx (op:BinOp) (T:TypeId) (x y:AV):Option (List Prop×Ev):=
 match op,yL P T,x,y with
 | .eql,true,.d (.slc _ n _),.d (.con (.slice none 0 0))=>some ([0<n],{ dst:=o.dst,val:=.d (.con (.bool false)) })
 | .eql,true,.vec _ _ _ n,.d (.con (.slice none 0 0))=>some ([0<n],{ dst:=o.dst,val:=.d (.con (.bool false)) })
 | _,_,_,_=>none
def evalOp:Option (List Prop×Ev):=
 match o.op with
 | .move x=>some ([],{ dst:=o.dst,val:=ρ x })
 | .assign x=>some ([],{ dst:=o.dst,val:=ρ x })
 | .alloc T=>QT P aj o T
 | .box _ x=>XH o (ρ x)
 | .build T parts=>Sj P o ρ T parts.toList
 | .buildSlice T n parts=>D9 P aj o ρ T n parts.toList
 | .load T p=>Vp P o st T (pt (ρ p))
 | .store T p x=>Q8 P o st T (pt (ρ p)) (pt (ρ x))
 | .nilCheck x=>XZ o (ρ x)
 | .fieldAddr T x i=>GR P o T (pt (ρ x)) i
 | .field T x i=>RD P o T (ρ x) i
 | .indexAddr T x i=>Gu P o T (ρ x) (ρ i)
 | .index T x i=>Rn P o T (ρ x) (ρ i)
 | .extract t i=>MC o (ρ t) i
 | .makeFunc f x c=>some ([],{ dst:=o.dst,val:=NK f (x.toList.map ρ) (c.toList.map ρ) })
 | .binOp op T x y _=>orElse (TB P aj o ρ op T x y) (orElse (Rx P o op T (ρ x) (ρ y)) (RH P o op T (ρ x) (ρ y)))
 | .unOp op _ x=>orElse (Uo o op (ρ x)) (mG P o ρ)
 | .makeSlice T l c=>Gl P o T (ρ l) (ρ c)
 | .slice T x lo hi none=>Rl P o ρ st T (ρ x) lo hi
 | .slice T x lo (some hi) (some mx)=>Ol P o ρ T (ρ x) lo hi mx
 | .call c=>orElse (OL P aj o ρ st c) (Vq P G aj o ρ st c)
 | .convert src dst x=>orElse (L9 P o st src dst (ρ x)) (mG P o ρ)
 | .makeMap T r=>Lm P o ρ T r
 | .lookup T x i ok=>OH P o st T (ρ x) (ρ i) ok
 | .mapUpdate T m i x=>vW P o st T (ρ m) (ρ i) (ρ x)
 | .insert T m i x=>vW P o st T (ρ m) (ρ i) (ρ x)
 | _=>mG P o ρ
end
section
variable {P:Program} {G:IH} {aj:dU} {o:Oper} {ρ:Operand→AV} {st:AS} {cs:List Prop} {e:Ev}
theorem iw {s:Nat} {a:RK} {sz:Nat} {f:Nat→DV} (h:rowOf st s=some (a,sz,f)):st.box s=some [.arr a sz f]:=by
 unfold rowOf at h
 split at h
 ·rename_i hb;simp only[aI,bg] at h;obtain ⟨rfl,rfl,rfl⟩:=h;exact hb
 ·cases h
theorem JE {s:Nat} {kd:Option IntKind} {f:Value→DV} {has:Value→Bool} (h:mapOf st s=some (kd,f,has)):st.box s=some [.mp kd f has]:=by
 unfold mapOf at h
 split at h
 ·rename_i hb;simp only[aI,bg] at h;obtain ⟨rfl,rfl,rfl⟩:=h;exact hb
 ·cases h
theorem Ob {a b:Option IntKind} (h:VI a b=true):a=b:=by
 unfold VI at h
 split at h
 ·rfl
 ·simp only[eF] at h;rw[h]
 ·cases h
theorem Am {T:TypeId} {m i x:Operand} (ho:NI o.op=some (T,m,i,x)) (h:vW P o st T (ρ m) (ρ i) (ρ x)=some (cs,e)):Core P G o ρ st e:=by
 unfold vW at h
 split at h
 ·rename_i kd e' s key d hd hT hm hi hx
  split at h
  ·rename_i kd' f has hmo
   split at h
   ·rename_i hc
    simp only[aY] at hc
    obtain ⟨h1,h2⟩:=hc
    obtain rfl:=Ob h1
    simp only[aI,bg] at h;obtain ⟨rfl,rfl⟩:=h
    exact Kw ho hd hT hm (JE hmo) hi h2 hx
   ·cases h
  ·cases h
 ·cases h
theorem Pm {a b:Bool} (h:Vf a b=true):a=b:=by cases a<;>cases b<;>simp_all [Vf]
theorem MQ {T:TypeId} {p x:Operand} {s sz i off:Nat} (ho:o.op=.store T p x) (hp:ρ p=.elem s sz i off) (h:Bo P o st T s sz i off (ρ x)=some (cs,e)):Core P G o ρ st e:=by
 unfold Bo at h
 split at h
 ·rename_i n l hd hz hcx
  split at h
  ·rename_i xs agg sz' f hxs hrow
   split at h
   ·rename_i hcond
    simp only[aY,Nat.beq_eq,Nat.ble_eq,Bool.not_eq_true'] at hcond
    obtain ⟨⟨hl,hs,hin⟩,hfz⟩:=hcond
    subst hs
    have hb:=iw hrow
    split at h
    ·rename_i hw
     simp only[aY,Nat.beq_eq] at hw
     obtain ⟨rfl,rfl⟩:=hw
     split at h
     ·simp only[aI,bg] at h;obtain ⟨rfl,rfl⟩:=h
      rename_i hag
      exact uN ho hd hp hb hfz hz hcx hl hin (fun β h v xv us _ k2 _ k4 k5 k6=>by rw[hag];exact Gf (agg:=true) (_fi:=f i) hcx hxs hl rfl k2 k4 k5 k6)
     ·simp only[aI,bg] at h;obtain ⟨rfl,rfl⟩:=h
      rename_i hag
      exact uN ho hd hp hb hfz hz hcx hl hin (fun β h v xv us _ k2 _ k4 k5 k6=>by rw[hag];exact Gf (agg:=false) (_fi:=f i) hcx hxs hl rfl k2 k4 k5 k6)
     ·cases h
    ·split at h
     ·rename_i fl hag hfl
      simp only[aI,bg] at h;obtain ⟨rfl,rfl⟩:=h
      exact uN ho hd hp hb hfz hz hcx hl hin (fun β h v xv us k1 k2 _ _ _ k6=>by rw[hag];exact SY (β:=β) hfl hxs hl hin k1 k2 k6)
     ·cases h
   ·cases h
  ·cases h
 ·cases h
theorem V5 {tx:TypeId} {agg:Bool} {sz:Nat} {x:AV} {k:Nat} {gs:Nat→DV} {rd:List (Nat×Nat)} (h:SK P st tx agg sz x=some (cs,k,gs,rd)) (hc:∀c∈cs,c):tH P G st rd sz tx agg x k gs:=by
 unfold SK at h
 split at h
 ·split at h
  ·rename_i E hE hs
   simp only[Nat.beq_eq] at hs;subst hs
   simp only[aI,bg] at h;obtain ⟨rfl,rfl,rfl,rfl⟩:=h
   exact RX hE (hc _ (List.mem_singleton.2 rfl))
  ·cases h
 ·split at h
  ·rename_i E agg' nZ f hE hrow
   split at h
   ·rename_i hcond
    simp only[aY,Nat.beq_eq] at hcond
    obtain ⟨h1,h2,h3⟩:=hcond
    have h3:=Pm h3
    subst h1;subst h2;subst h3
    simp only[aI,bg] at h;obtain ⟨rfl,rfl,rfl,rfl⟩:=h
    exact KG hE (iw hrow)
   ·cases h
  ·cases h
 ·split at h
  ·rename_i E hE
   simp only[aI,bg] at h;obtain ⟨rfl,rfl,rfl,rfl⟩:=h
   exact Y4 hE
  ·cases h
 ·split at h
  ·rename_i hcond
   simp only[aY,Nat.beq_eq,Bool.not_eq_true'] at hcond
   obtain ⟨h1,rfl,rfl⟩:=hcond
   simp only[aI,bg] at h;obtain ⟨rfl,rfl,rfl,rfl⟩:=h
   exact YI h1
  ·cases h
 ·cases h
theorem Ux {T:TypeId} (h:WB P T=true):∃k,P.underlying T=some (.int k):=by
 unfold WB at h
 split at h
 ·exact⟨_,by assumption⟩
 ·cases h
theorem EZ {tx E:TypeId} {z:List Value} {agg:Bool} {sz:Nat} {x:AV} {k:Nat} {gs:Nat→DV} {rd:List (Nat×Nat)} (hz:zeroOf P E=some z) (hzl:z.length=sz) (hone:z.all (·.oneCell')=true) (h:EG P st tx z agg sz x=some (cs,k,gs,rd)) (hc:∀c∈cs,c):Fg P G st rd E sz tx agg x k gs:=by
 unfold EG at h
 split at h
 ·rename_i r hr
  simp only[aI] at h;subst h
  exact(V5 hr hc).z
 ·split at h
  ·rename_i kq m hr
   split at h
   ·rename_i hcond
    simp only[aY,Nat.blt_eq] at hcond
    obtain ⟨hk,hp,hform⟩:=hcond
    simp only[aI,bg] at h;obtain ⟨rfl,rfl,rfl,rfl⟩:=h
    have hm:0<m:=hc _ (List.mem_singleton.2 rfl)
    obtain ⟨kn,hk⟩:=Ux hk
    obtain ⟨i,zv,hi,hzz,hzc⟩:=tq hz
    intro F w0 h0 st' β h tm w xv g _ hx
    simp only[AV.rel,DV.rel] at hx
    subst hx
    have hzv:zv.cells=z.toArray:=by rw[←hzc]
    have hcl:=Jf (h:=h) (agg:=agg) m.toNat hzl hp hone hform
    refine⟨_,.inr ⟨by omega,hp,kq,kn,i,zv,hk,?_,hi,hzz,by rw[hzv];simpa using hzl,by rw[hzv],hcl.one⟩,hcl⟩
    rw[Int.toNat_of_nonneg (by omega)]
   ·cases h
  ·cases h
theorem Qn {c:Call} (ho:o.op=.call c) (lg:c.callee=.builtin .append) (h:Io P o ρ st c=some (cs,e)) (hc:∀c∈cs,c):Core P G o ρ st e:=by
 unfold Io at h
 split at h
 ·rename_i sx x T tx d ha ht hd
  have ha':c.args=#[sx,x]:=by rw[←Array.toArray_toList (xs:=c.args),ha]
  have ht':c.argTypes=#[T,tx]:=by rw[←Array.toArray_toList (xs:=c.argTypes),ht]
  split at h
  ·rename_i E hE
   split at h
   ·rename_i sz z hsz hz
    split at h
    ·rename_i hcond
     simp only[aY,Nat.beq_eq,Nat.ble_eq] at hcond
     obtain ⟨hzl,hone,hby⟩:=hcond
     split at h
     ·rename_i s sz' lo n hs
      split at h
      ·rename_i agg nZ f hrow
       split at h
       ·rename_i lo' k hself
        split at h
        ·rename_i E' hE' hc1
         simp only[aY,Nat.beq_eq,Bool.not_eq_true'] at hc1
         obtain ⟨h1,h2,h3⟩:=hc1
         subst h1;subst h2
         unfold QN at hself
         split at hself
         ·rename_i s' sz' lo2 k2 hx
          split at hself
          ·rename_i hss
           simp only[aY,Nat.beq_eq] at hss
           obtain ⟨rfl,rfl⟩:=hss
           simp only[aI,bg] at hself;obtain ⟨rfl,rfl⟩:=hself
           simp only[aI,bg] at h;obtain ⟨rfl,rfl⟩:=h
           exact H8 ho lg ha' ht' hE hE' hd hsz h3 hs hx (iw hrow) (hc _ (List.mem_cons_self ..))
          ·cases hself
         ·cases hself
        ·cases h
       ·split at h
        ·rename_i cs' k gs rd hc1 hsrc
         simp only[aY,Nat.beq_eq,Bool.not_eq_true',Option.isNone_iff_eq_none] at hc1
         obtain ⟨h1,h2,h3,h4,h5,h5b,h6⟩:=hc1
         subst h1;subst h2;subst h3
         have h4:d≠s:=by intro hh;subst hh;simp at h4
         simp only[aI,bg] at h;obtain ⟨rfl,rfl⟩:=h
         exact Qu ho lg ha' ht' hE hd hsz hz hzl hone h5 h5b h6 hs (iw hrow) h4 hby (hc _ (List.mem_cons_self ..)) (EZ hz hzl hone hsrc fun q hq=>hc q (List.mem_cons_of_mem _ hq))
        ·cases h
      ·cases h
     ·rename_i hs
      split at h
      ·rename_i cs' k gs rd hsrc
       simp only[aI,bg] at h;obtain ⟨rfl,rfl⟩:=h
       exact I5 ho lg ha' ht' hE hd hsz hz hzl hone hs hby (hc _ (List.mem_cons_self ..)) (EZ hz hzl hone hsrc fun q hq=>hc q (List.mem_cons_of_mem _ hq))
      ·cases h
     ·cases h
    ·cases h
   ·cases h
  ·cases h
 ·cases h
theorem Vg {c:Call} (ho:o.op=.call c) (h:OL P aj o ρ st c=some (cs,e)) (hc:∀c∈cs,c):Core P G o ρ st e:=by
 unfold OL at h
 split at h
 ·rename_i x hcl
  split at h
  ·rename_i g y z T T' hx ha ht
   split at h
   ·rename_i s1 NT lo1 n1 s2 nZ lo2 n2 _ h1 h2
    split at h
    ·rename_i k1 t1 f1 k2 t2 f2 r1 r2
     split at h
     ·rename_i hcond
      simp only[aY,Nat.beq_eq,Nat.blt_eq,Bool.not_eq_true'] at hcond
      obtain ⟨c1,c2,c3,c4,c5,c6,c7⟩:=hcond
      simp only[aI,bg] at h;obtain ⟨rfl,rfl⟩:=h
      refine Ve ho hcl hx (by rw[←Array.toArray_toList (xs:=c.args),ha]) (hc _ (List.mem_cons_self ..)) h1 h2 (fun e=>?_) (iw r1) (iw r2) ⟨c2,c3⟩ ⟨c4,c5⟩ c6 c7 (hc _ (List.mem_cons_of_mem _ (List.mem_cons_self ..))) (hc _ (List.mem_cons_of_mem _ (List.mem_cons_of_mem _ (List.mem_cons_self ..))))
      subst e
      simp at c1
     ·cases h
    ·cases h
   ·cases h
  ·cases h
 ·cases h
theorem P9 {c:Call} (ho:o.op=.call c) (lg:c.callee=.builtin .append) (h:Ed P o ρ st c=some (cs,e)) (hc:∀c∈cs,c):Core P G o ρ st e:=by
 unfold Ed at h
 split at h
 ·rename_i sx x T tx d ha ht hd
  have ha':c.args=#[sx,x]:=by rw[←Array.toArray_toList (xs:=c.args),ha]
  have ht':c.argTypes=#[T,tx]:=by rw[←Array.toArray_toList (xs:=c.argTypes),ht]
  split at h
  ·rename_i E s sz lo n hE hs
   split at h
   ·rename_i agg nZ f sz' z hrow hsz hz
    split at h
    ·rename_i N cs' k gs rd hN hsrc
     split at h
     ·rename_i hcond
      simp only[aY,Nat.beq_eq,Nat.ble_eq] at hcond
      obtain ⟨hzl,hone,hby,h1,h2,h3,h4⟩:=hcond
      subst h1;subst h2;subst h3
      simp only[aI,bg] at h;obtain ⟨rfl,rfl⟩:=h
      exact JB ho lg ha' ht' hE hd hsz hz hzl hone h4 hN hs (iw hrow) hby (hc _ (List.mem_cons_self ..)) (hc _ (List.mem_cons_of_mem _ (List.mem_cons_self ..))) (EZ hz hzl hone hsrc fun q hq=>hc q (List.mem_cons_of_mem _ (List.mem_cons_of_mem _ hq)))
     ·cases h
    ·cases h
   ·cases h
  ·cases h
 ·cases h
theorem WJ {c:Call} (ho:o.op=.call c) (lg:c.callee=.builtin .cap) (h:SH P o ρ st c=some (cs,e)):Core P G o ρ st e:=by
 unfold SH at h
 split at h
 ·rename_i x T ha ht
  split at h
  ·rename_i E s sz lo n hE hx
   split at h
   ·rename_i N hN
    simp only[aI,bg] at h;obtain ⟨rfl,rfl⟩:=h
    unfold S9 at hN
    split at hN
    ·rename_i agg nZ f hrow
     exact Xv ho lg (by rw[←Array.toArray_toList (xs:=c.args),ha]) (by rw[←Array.toArray_toList (xs:=c.argTypes),ht]) hE hx (iw hrow) hN
    ·cases hN
   ·cases h
  ·cases h
 ·cases h
theorem Ug {tx:TypeId} {agg:Bool} {sz n:Nat} {x:AV} {k:Nat} {gs:Nat→DV} {rd:List (Nat×Nat)} (h:Kz P st tx agg sz n x=some (cs,k,gs,rd)) (hc:∀c∈cs,c) :
  ∃x',(∀β h0 v,x.rel β h0 v→∃p cp cp',v=.slice p k cp∧x'.rel β h0 (.slice p (min k n) cp'))∧tH P G st rd sz tx agg x' (min k n) gs:=by
 unfold Kz at h
 split at h
 ·split at h
  ·rename_i sz' k2 gs2 _ _ E hE hb
   simp only[aI,bg] at h;obtain ⟨rfl,rfl,rfl,rfl⟩:=h
   obtain rfl:=Nat.eq_of_beq_eq_true hb
   refine⟨.d (.slc _ (min k2 n) gs2),fun β h0 v hv=>?_,RX hE (hc _ (List.mem_singleton.2 rfl))⟩
   obtain ⟨p,cap,rfl,hcc,hr⟩:=hv
   refine⟨p,cap,cap,rfl,p,cap,rfl,by omega,?_⟩
   rcases hr with hr|⟨b,off,hp,hr⟩
   ·exact .inl (by omega)
   ·exact .inr ⟨b,off,hp,fun i hi=>hr i (by omega)⟩
  ·cases h
 ·split at h
  ·rename_i s sz' lo k2 _ _ E agg' nZ f hE hrow
   split at h
   ·rename_i hcond
    simp only[aY,Nat.beq_eq] at hcond
    obtain ⟨h1,h2,h3⟩:=hcond
    subst h1;subst h2
    simp only[aI,bg] at h;obtain ⟨rfl,rfl,rfl,rfl⟩:=h
    obtain rfl:=Pm h3
    refine⟨.vec s _ lo (min k2 n),fun β h0 v hv=>?_,KG hE (iw hrow)⟩
    obtain ⟨k1,k3,p,rfl,hp⟩:=hv
    exact⟨p,_,_,rfl,by omega,k3,p,rfl,hp⟩
   ·cases h
  ·cases h
 ·cases h
theorem VF {c:Call} (ho:o.op=.call c) (lg:c.callee=.builtin .copy) (h:OU P o ρ st c=some (cs,e)) (hc:∀c∈cs,c):Core P G o ρ st e:=by
 unfold OU at h
 split at h
 ·rename_i dx x T tx ha ht
  split at h
  ·rename_i E s sz lo n hE hd
   split at h
   ·rename_i agg nZ f sz' hrow hsz
    split at h
    ·rename_i cs' k gs rd hsrc
     split at h
     ·rename_i hcond
      simp only[aY,Nat.beq_eq,Bool.not_eq_true'] at hcond
      obtain ⟨h1,h2,h3⟩:=hcond
      subst h1;subst h2
      simp only[aI,bg] at h;obtain ⟨rfl,rfl⟩:=h
      obtain ⟨x',t1,t2⟩:=Ug (G:=G) hsrc hc
      exact UQ ho lg (by rw[←Array.toArray_toList (xs:=c.args),ha]) (by rw[←Array.toArray_toList (xs:=c.argTypes),ht]) hE hsz h3 hd (iw hrow) t1 t2
     ·cases h
    ·cases h
   ·cases h
  ·cases h
 ·cases h
theorem Tn {c:Call} (ho:o.op=.call c) (lg:c.callee=.builtin .clear) (h:JQ P o ρ st c=some (cs,e)) (hc:∀c∈cs,c):Core P G o ρ st e:=by
 unfold JQ at h
 split at h
 ·rename_i x T ha ht hd
  have ha':c.args=#[x]:=by rw[←Array.toArray_toList (xs:=c.args),ha]
  have ht':c.argTypes=#[T]:=by rw[←Array.toArray_toList (xs:=c.argTypes),ht]
  split at h
  ·rename_i E hE
   split at h
   ·rename_i sz z hsz hz
    split at h
    ·rename_i s sz' lo n hx
     split at h
     ·rename_i agg nZ f hrow
      split at h
      ·rename_i hcond
       simp only[aY,Nat.beq_eq,Nat.blt_eq,Bool.not_eq_true'] at hcond
       obtain ⟨h1,h2,h3,h4,h5,h6,h7⟩:=hcond
       subst h1;subst h2
       simp only[aI,bg] at h;obtain ⟨rfl,rfl⟩:=h
       exact TF ho lg hd ha' ht' hE hz h3 h4 h5 h6 h7 hx (iw hrow) (hc _ (List.mem_singleton.2 rfl))
      ·cases h
     ·cases h
    ·cases h
   ·cases h
  ·cases h
 ·cases h
theorem Jb {c:Call} (ho:o.op=.call c) {x:Operand} (lg:c.callee=.value x) {f:FuncId} {a1 a2:List AV} (hx:kG (ρ x)=some (f,a1,a2)) (h:Fv P G aj o st f (a1++(c.args.toList.map ρ++a2))=some (cs,e)) (hc:∀c∈cs,c):Core P G o ρ st e:=by
 unfold Fv at h
 simp only at h
 split at h
 ·rename_i L hL
  split at h
  ·rename_i r post hr
   split at h
   ·rename_i hok
    split at h
    ·simp only[aI,bg] at h;obtain ⟨rfl,rfl⟩:=h
     exact MV ho lg hx hL rfl hok (hc _ (List.mem_cons_self ..)) fun c hc'=>hc c (List.mem_cons_of_mem _ hc')
    ·simp only[aI,bg] at h;obtain ⟨rfl,rfl⟩:=h
     exact Jz ho lg hx hL rfl hok (hc _ (List.mem_singleton.2 rfl))
   ·cases h
  ·cases h
 ·cases h
theorem jC (h:mG P o ρ=some (cs,e)):Core P G o ρ st e:=by
 unfold mG at h
 split at h
 ·rename_i v h1 h2 h3
  simp only[aI,bg] at h
  obtain ⟨rfl,rfl⟩:=h
  exact VP h1 h2 h3
 ·cases h
theorem OI {rem:Bool} {T U:TypeId} {x y:Operand} (ho:o.op=.binOp (if rem then .rem else .quo) T x y U) (hy:∀n,uf y=some n→∀k q,ρ y=.d (.con (.int k q))→q=n)
  (h:vS o rem y (ρ x) (ρ y)=some (cs,e)) (hc:∀c∈cs,c):Core P G o ρ st e:=by
 cases hx:ρ x with
 | d a=>cases a with
  | con u=>cases u with
   | int j p=>cases hyv:ρ y with
    | d b=>cases b with
     | con v=>cases v with
      | int k q=>
       simp only[hx,hyv,vS] at h
       split at h
       ·rename_i hjk
        simp only[eF] at hjk;subst hjk
        split at h
        ·rename_i n hn
         obtain rfl:=hy n hn _ _ hyv
         split at h
         ·rename_i hn0
          simp only[decide_eq_false_iff_not] at hn0
          simp only[aI,bg] at h
          obtain ⟨rfl,rfl⟩:=h
          cases rem with
          | true=>exact OO (by simpa using ho) hx hyv hn0
          | false=>exact BX (by simpa using ho) hx hyv hn0
         ·cases h
        ·simp only[aI,bg] at h
         obtain ⟨rfl,rfl⟩:=h
         have h0:=hc _ (List.mem_singleton.2 rfl)
         cases rem with
         | true=>exact OO (by simpa using ho) hx hyv h0
         | false=>exact BX (by simpa using ho) hx hyv h0
       ·cases h
      | _=>simp[hx,hyv,vS] at h
     | _=>simp[hx,hyv,vS] at h
    | _=>simp[hx,hyv,vS] at h
   | _=>simp[hx,vS] at h
  | _=>simp[hx,vS] at h
 | _=>simp[hx,vS] at h
theorem uU {n:Int} (h:I64 n):IntKind.wrap .i64 n=n:=IntWalk.i64_in n ⟨h.1,h.2⟩
theorem SX {op:BinOp} {T U:TypeId} {x y:Operand} (ho:o.op=.binOp op T x y U) (h:KC o op (ρ x) (ρ y)=some (cs,e)) (hc:∀c∈cs,c):Core P G o ρ st e:=by
 unfold KC at h
 split at h
 ·rename_i p q hx hy
  have hval:∀β (k:IH) (a:Act),(∀z∈o.op.operands,(ρ z).rel β k (a.eval z))→a.eval x=.int .i64 p∧a.eval y=.int .i64 q:=by
   intro β k a hop
   have hxv:=hop x (by simp[ho,Op.operands])
   have hyv:=hop y (by simp[ho,Op.operands])
   rw[hx] at hxv;rw[hy] at hyv
   exact⟨hxv,hyv⟩
  split at h
  ·simp only[aI,bg] at h;obtain ⟨rfl,rfl⟩:=h
   have hr:=uU (hc _ (List.mem_singleton.2 rfl))
   exact bP fun β k a w _ _ hop=>by
    obtain ⟨h1,h2⟩:=hval β k a hop
    exact⟨_,by simp[execOp,ho,h1,h2,eqGuard,binOp,Op.intArith,hr],rfl⟩
  ·simp only[aI,bg] at h;obtain ⟨rfl,rfl⟩:=h
   have hr:=uU (hc _ (List.mem_singleton.2 rfl))
   exact bP fun β k a w _ _ hop=>by
    obtain ⟨h1,h2⟩:=hval β k a hop
    exact⟨_,by simp[execOp,ho,h1,h2,eqGuard,binOp,Op.intArith,hr],rfl⟩
  ·simp only[aI,bg] at h;obtain ⟨rfl,rfl⟩:=h
   have hr:=uU (hc _ (List.mem_singleton.2 rfl))
   exact bP fun β k a w _ _ hop=>by
    obtain ⟨h1,h2⟩:=hval β k a hop
    exact⟨_,by simp[execOp,ho,h1,h2,eqGuard,binOp,Op.intArith,hr],rfl⟩
  ·cases h
 ·cases h
theorem IX {op:BinOp} {T U:TypeId} {x y:Operand} (ho:o.op=.binOp op T x y U) (h:Fp o op (ρ x) (ρ y)=some (cs,e)) (hc:∀c∈cs,c):Core P G o ρ st e:=by
 unfold Fp at h
 split at h
 ·rename_i j p k' q hx hy
  have hval:∀β (k:IH) (a:Act),(∀z∈o.op.operands,(ρ z).rel β k (a.eval z))→a.eval x=.int j p∧a.eval y=.int k' q:=by
   intro β k a hop
   have hxv:=hop x (by simp[ho,Op.operands])
   have hyv:=hop y (by simp[ho,Op.operands])
   rw[hx] at hxv;rw[hy] at hyv
   exact⟨hxv,hyv⟩
  split at h
  ·simp only[aI,bg] at h;obtain ⟨rfl,rfl⟩:=h
   have hr:0≤q:=hc _ (List.mem_singleton.2 rfl)
   have hr:¬q<0:=by omega
   exact bP fun β k a w _ _ hop=>by
    obtain ⟨h1,h2⟩:=hval β k a hop
    exact⟨_,by simp[execOp,ho,h1,h2,eqGuard,binOp,Op.shift,hr],rfl⟩
  ·simp only[aI,bg] at h;obtain ⟨rfl,rfl⟩:=h
   have hr:0≤q:=hc _ (List.mem_singleton.2 rfl)
   have hr:¬q<0:=by omega
   exact bP fun β k a w _ _ hop=>by
    obtain ⟨h1,h2⟩:=hval β k a hop
    exact⟨_,by simp[execOp,ho,h1,h2,eqGuard,binOp,Op.shift,hr],rfl⟩
  ·cases h
 ·cases h
theorem WO {op:UnOp} {T:TypeId} {x:Operand} (ho:o.op=.unOp op T x) (h:Uo o op (ρ x)=some (cs,e)) (hc:∀c∈cs,c):Core P G o ρ st e:=by
 unfold Uo at h
 split at h
 ·rename_i p hx
  split at h
  ·simp only[aI,bg] at h;obtain ⟨rfl,rfl⟩:=h
   have hp:CS p:=hc _ (List.mem_singleton.2 rfl)
   have hr:IntKind.wrap .i64 (0-p) = -p:=by rw[uU ⟨by have:=hp.2;omega,by have:=hp.1;omega⟩];omega
   exact bP fun β k a w _ _ hop=>by
    have hxv:=hop x (by simp[ho,Op.operands])
    rw[hx] at hxv
    simp only[AV.rel,DV.rel] at hxv
    exact⟨_,by simp only[execOp,ho,hxv,Op.unary,Op.intArith,Sem.run_bind,Sem.run_pure,Result.andThen_ok,hr],rfl⟩
  ·cases h
 ·cases h
theorem OZ {p q:Int} (hp:CS p):I64 (p.tdiv q):=by
 have h1:(p.tdiv q).natAbs≤p.natAbs:=by rw[Int.natAbs_tdiv];exact Nat.div_le_self _ _
 have:=hp.1;have:=hp.2
 exact⟨by omega,by omega⟩
theorem TL {T U:TypeId} {x y:Operand} (ho:o.op=.binOp .quo T x y U) (hy:∀n,uf y=some n→∀k q,ρ y=.d (.con (.int k q))→q=n)
  (h:J6 o y (ρ x) (ρ y)=some (cs,e)) (hc:∀c∈cs,c):Core P G o ρ st e:=by
 unfold J6 at h
 split at h
 ·rename_i p q hx hyv
  split at h
  ·rename_i n hn
   obtain rfl:=hy n hn _ _ hyv
   split at h
   ·rename_i hn0
    simp only[decide_eq_false_iff_not] at hn0
    simp only[aI,bg] at h;obtain ⟨rfl,rfl⟩:=h
    have hr:=uU (OZ (q:=q) (hc _ (List.mem_singleton.2 rfl)))
    have:=BX (P:=P) (G:=G) (st:=st) ho hx hyv hn0
    rwa [hr] at this
   ·cases h
  ·simp only[aI,bg] at h;obtain ⟨rfl,rfl⟩:=h
   have hr:=uU (OZ (q:=q) (hc (CS p) (by simp)))
   have:=BX (P:=P) (G:=G) (st:=st) ho hx hyv (hc (q≠0) (by simp))
   rwa [hr] at this
 ·cases h
theorem Qo {T U:TypeId} {x y:Operand} (ho:o.op=.binOp .add T x y U) (h:Ia o (ρ x) (ρ y)=some (cs,e)) (hc:∀c∈cs,c):Core P G o ρ st e:=by
 unfold Ia at h
 split at h
 ·rename_i p q hx hy
  simp only[aI,bg] at h
  obtain ⟨rfl,rfl⟩:=h
  exact QA ho hx hy (hc _ (List.mem_singleton.2 rfl))
 ·cases h
theorem RF {neq:Bool} {T U:TypeId} {x y:Operand} (ho:o.op=.binOp (if neq then .neq else .eql) T x y U) (h:Uk P o neq T (ρ x) (ρ y)=some (cs,e)):Core P G o ρ st e:=by
 unfold Uk at h
 split at h
 ·rename_i fs xs ys h1 h2 h3
  split at h
  ·rename_i c h4
   simp only[aI,bg] at h
   obtain ⟨rfl,rfl⟩:=h
   exact YZ ho h1 h2 h3 h4
  ·cases h
 ·cases h
theorem jd {a b:Option (List Prop×Ev)} {x:List Prop×Ev} (h:orElse a b=some x):a=some x∨b=some x:=by
 cases a with
 | some y=>exact .inl h
 | none=>exact .inr h
theorem G7 {op:BinOp} {T U:TypeId} {x y:Operand} (ho:o.op=.binOp op T x y U) (h:Jp aj o op (ρ x) (ρ y)=some (cs,e)) (hc:∀c∈cs,c):Core P G o ρ st e:=by
 unfold Jp at h
 split at h
 ·cases h
 ·exact SX ho h hc
theorem Xi {op:BinOp} {T U:TypeId} {x y:Operand} (ho:o.op=.binOp op T x y U) (hy:∀n,uf y=some n→∀k q,ρ y=.d (.con (.int k q))→q=n)
  (h:TB P aj o ρ op T x y=some (cs,e)) (hc:∀c∈cs,c):Core P G o ρ st e:=by
 unfold TB at h
 split at h
 ·rcases jd h with h|h
  ·exact TL ho hy h hc
  ·exact OI (rem:=false) ho hy h hc
 ·exact OI (rem:=true) ho hy h hc
 ·rcases jd h with h|h
  ·exact Qo ho h hc
  ·rcases jd h with h|h
   ·exact G7 ho h hc
   ·exact jC h
 ·rcases jd h with h|h
  ·exact G7 ho h hc
  ·exact jC h
 ·rcases jd h with h|h
  ·exact G7 ho h hc
  ·exact jC h
 ·rcases jd h with h|h
  ·exact RF (neq:=false) ho h
  ·exact jC h
 ·rcases jd h with h|h
  ·exact RF (neq:=true) ho h
  ·exact jC h
 ·exact IX ho h hc
 ·exact IX ho h hc
 ·exact jC h
theorem Vt (hlit:∀(y:Operand) n,uf y=some n→∀k q,ρ y=.d (.con (.int k q))→q=n) (h:evalOp P G aj o ρ st=some (cs,e)) (hc:∀c∈cs,c):Core P G o ρ st e:=by
 unfold evalOp at h
 split at h
 case h_1 x ho=>simp only[aI,bg] at h;obtain ⟨rfl,rfl⟩:=h;exact MF (.inl ho)
 case h_2 x ho=>simp only[aI,bg] at h;obtain ⟨rfl,rfl⟩:=h;exact MF (.inr ho)
 case h_3 T ho=>
  unfold QT at h
  split at h
  ·rename_i s l hs hz
   split at h
   ·simp only[aI,bg] at h;obtain ⟨rfl,rfl⟩:=h
    exact Qz ho hs hz
   ·simp only[aI,bg] at h;obtain ⟨rfl,rfl⟩:=h
    exact TG ho hs hz
  ·cases h
 case h_4 T x ho=>
  unfold XH at h
  split at h
  ·rename_i s l hs hz
   split at h
   ·rename_i hf
    simp only[aI,bg] at h;obtain ⟨rfl,rfl⟩:=h
    exact Xn ho hs hz hf
   ·cases h
  ·cases h
 case h_5 T parts ho=>
  unfold Sj at h
  split at h
  ·rename_i z pl m h1 h2 h3
   split at h
   ·rename_i l hl
    simp only[aI,bg] at h;obtain ⟨rfl,rfl⟩:=h
    exact Uc ho h1 h2 h3 hl
   ·cases h
  ·cases h
 case h_6 T n parts ho=>
  unfold D9 at h
  split at h
  ·rename_i hem
   unfold OY at hem
   split at hem
   ·rename_i hp
    unfold NV at h
    split at h
    ·rename_i d E hd hE
     split at h
     ·rename_i sz hsz
      simp only[aI,bg] at h;obtain ⟨rfl,rfl⟩:=h
      exact Ho ho hp hE hsz hd
     ·cases h
    ·cases h
   ·cases hem
  split at h
  ·rename_i E hE
   split at h
   ·rename_i sz z m h1 h2 h3
    split at h
    ·rename_i l hl
     split at h
     ·rename_i ds hd
      split at h
      ·rename_i hcond
       simp only[aY,Bool.or_eq_true,Nat.beq_eq] at hcond
       split at h
       ·rename_i d hdst
        split at h
        ·rename_i hrow
         simp only[aY,Bool.or_eq_true,Nat.beq_eq] at hrow
         simp only[aI,bg] at h;obtain ⟨rfl,rfl⟩:=h
         exact MS ho hE h1 hcond.1 h2 h3 hl hd hcond.2.1 hrow.2.1 hrow.2.2 hdst
        ·simp only[aI,bg] at h;obtain ⟨rfl,rfl⟩:=h
         rename_i afv _
         rw[hdst]
         have:=yQ (st:=st) (G:=G) ho hE h1 hcond.1 h2 h3 hl hd hcond.2.1 hcond.2.2
         rwa [hdst] at this
       ·simp only[aI,bg] at h;obtain ⟨rfl,rfl⟩:=h
        exact yQ ho hE h1 hcond.1 h2 h3 hl hd hcond.2.1 hcond.2.2
      ·cases h
     ·cases h
    ·cases h
   ·cases h
  ·cases h
 case h_7 T p ho=>
  refine Core.pt ?_
  unfold Vp at h
  split at h
  ·rename_i n hu hz
   split at h
   ·rename_i s off hp
    split at h
    ·rename_i l hb
     split at h
     ·rename_i x hn hx
      simp only[aY,Nat.beq_eq] at hn
      simp only[aI,bg] at h;obtain ⟨rfl,rfl⟩:=h
      exact MR ho hp hu hz hb hn.1 hn.2 hx
     ·cases h
    ·cases h
   ·rename_i l hp
    split at h
    ·rename_i x hn hx
     simp only[Nat.beq_eq] at hn
     simp only[aI,bg] at h;obtain ⟨rfl,rfl⟩:=h
     exact MO ho hp hu hz hn hx
    ·cases h
   ·rename_i s sz i off hp
    split at h
    ·rename_i agg sz' f hrow
     split at h
     ·rename_i hw
      simp only[aY,Nat.beq_eq] at hw
      obtain ⟨h1,h2,h3,h4⟩:=hw
      subst h1;subst h2;subst h3
      simp only[aI,bg] at h;obtain ⟨rfl,rfl⟩:=h
      exact JX ho hp (iw hrow) hu hz (Pm h4)
     ·split at h
      ·rename_i l hl
       split at h
       ·rename_i x hn hx
        simp only[aY,Nat.beq_eq] at hn
        obtain ⟨h1,h2⟩:=hn
        subst h2
        simp only[aI,bg] at h;obtain ⟨rfl,rfl⟩:=h
        exact KQ ho hp (iw hrow) hu hz hl h1 hx
       ·cases h
      ·cases h
    ·cases h
   ·cases h
  ·cases h
 case h_8 T p x ho=>
  refine Core.pt ?_
  unfold Q8 at h
  split at h
  ·rename_i s sz i off hp
   exact MQ (ρ:=fun x=>pt (ρ x)) ho hp h
  ·split at h
   ·rename_i n s off l hd hz hp hcx
    split at h
    ·rename_i lb hb
     split at h
     ·rename_i hcond
      simp only[aY,Nat.beq_eq,Nat.ble_eq] at hcond
      simp only[aI,bg] at h;obtain ⟨rfl,rfl⟩:=h
      exact Sr ho hd hp hz hcx hcond.1 hb hcond.2.1 hcond.2.2
     ·cases h
    ·cases h
   ·cases h
 case h_9 x ho=>
  unfold XZ at h
  split at h
  ·rename_i hn
   simp only[aI,bg] at h;obtain ⟨rfl,rfl⟩:=h
   exact MP ho hn
  ·cases h
 case h_10 T x i ho=>
  refine Core.pt ?_
  unfold GR at h
  split at h
  ·rename_i f hf
   split at h
   ·rename_i n y hz hy
    simp only[aI,bg] at h;obtain ⟨rfl,rfl⟩:=h
    exact J4 ho hf hz (by omega) hy
   ·cases h
  ·cases h
 case h_11 T x i ho=>
  unfold RD at h
  split at h
  ·rename_i f hf
   split at h
   ·rename_i n l hu hz hl
    split at h
    ·rename_i y hy
     simp only[aI,bg] at h;obtain ⟨rfl,rfl⟩:=h
     exact SG ho hf hu hz hl hy
    ·cases h
   ·cases h
  ·cases h
 case h_12 T x i ho=>
  unfold Gu at h
  split at h
  ·rename_i E s sz lo n k m hE hx hi
   split at h
   ·rename_i sz' hz
    split at h
    ·rename_i hs
     simp only[Nat.beq_eq] at hs;subst hs
     simp only[aI,bg] at h;obtain ⟨rfl,rfl⟩:=h
     exact DY ho hE hx hz hi (hc _ (List.mem_singleton.2 rfl))
    ·cases h
   ·cases h
  ·rename_i E sz n f k m hE hx hi
   split at h
   ·rename_i sz' l hz hl
    split at h
    ·rename_i hs
     simp only[Nat.beq_eq] at hs;subst hs
     simp only[aI,bg] at h;obtain ⟨rfl,rfl⟩:=h
     exact KY ho hE hx hz hi (hc _ (List.mem_singleton.2 rfl)) hl
    ·cases h
   ·cases h
  ·cases h
 case h_13 T x i ho=>
  unfold Rn at h
  split at h
  ·rename_i s k m hT hx hi
   simp only[aI,bg] at h;obtain ⟨rfl,rfl⟩:=h
   exact KR ho hT hx hi (hc _ (List.mem_singleton.2 rfl))
  ·rename_i k m hT hi
   split at h
   ·rename_i n e hT2
    split at h
    ·rename_i sz l hu hz hl
     split at h
     ·rename_i y hy
      simp only[aI,bg] at h;obtain ⟨rfl,rfl⟩:=h
      exact Ku ho hT2 hu hz hl hi (hc _ (List.mem_singleton.2 rfl)) hy
     ·cases h
    ·cases h
   ·cases h
  ·cases h
 case h_14 t i ho=>
  unfold MC at h
  split at h
  ·rename_i l hl
   split at h
   ·rename_i y hy
    simp only[aI,bg] at h;obtain ⟨rfl,rfl⟩:=h
    exact NZ ho hl hy
   ·cases h
  ·cases h
 case h_15 f x c ho=>simp only[aI,bg] at h;obtain ⟨rfl,rfl⟩:=h;exact MW ho
 case h_16 op T x y U ho=>
  unfold orElse at h
  split at h
  ·rename_i v hv
   simp only[aI] at h;subst h
   exact Xi ho (hlit y) hv hc
  ·rcases jd h with h|h
   ·unfold Rx at h
    split at h
    ·rename_i hT hx hy _ _
     simp only[aI,bg] at h;obtain ⟨rfl,rfl⟩:=h
     exact Qk ho hT hx hy (hc _ (List.mem_singleton.2 rfl))
    ·rename_i hT hx hy _ _
     simp only[aI,bg] at h;obtain ⟨rfl,rfl⟩:=h
     exact Jh ho hT hx hy (hc _ (List.mem_singleton.2 rfl))
    ·cases h
   ·unfold RH at h
    split at h
    ·rename_i hT hy _ _
     simp only[aY] at hT
     simp only[aI,bg] at h;obtain ⟨rfl,rfl⟩:=h
     exact Eb (neq:=false) ho hT.1 hT.2 hy
    ·rename_i hT hy _ _
     simp only[aY] at hT
     simp only[aI,bg] at h;obtain ⟨rfl,rfl⟩:=h
     exact Eb (neq:=true) ho hT.1 hT.2 hy
    ·cases h
 case h_17 op T x ho=>
  rcases jd h with h|h
  ·exact WO ho h hc
  ·exact jC h
 case h_18 T lx cx ho=>
  unfold Gl at h
  split at h
  ·rename_i d E kl n kc c hd hE hl hcx
   split at h
   ·rename_i sz z hsz hz
    split at h
    ·rename_i hcond
     simp only[aY,Nat.beq_eq,Nat.blt_eq] at hcond
     obtain ⟨h1,h2,h3,h4⟩:=hcond
     simp only[aI,bg] at h;obtain ⟨rfl,rfl⟩:=h
     exact Ko ho hd hE hsz hz h1 h2 h3 h4 hl hcx (hc _ (List.mem_singleton.2 rfl))
    ·cases h
   ·cases h
  ·cases h
 case h_19 T x lo hi ho=>
  unfold Rl at h
  split at h
  ·rename_i s hx
   split at h
   ·rename_i l m hT hl hm
    simp only[aI,bg] at h;obtain ⟨rfl,rfl⟩:=h
    exact J5 ho hT hx hl hm (hc _ (List.mem_singleton.2 rfl))
   ·cases h
  ·rename_i sz n f hx
   split at h
   ·rename_i E l m hT hl hm
    split at h
    ·rename_i sz' hz
     split at h
     ·rename_i hs
      simp only[Nat.beq_eq] at hs;subst hs
      simp only[aI,bg] at h;obtain ⟨rfl,rfl⟩:=h
      exact JZ ho hT hx hz hl hm (hc _ (List.mem_singleton.2 rfl))
     ·cases h
    ·cases h
   ·cases h
  ·rename_i s sz pR n hx
   split at h
   ·rename_i E l m hT hl hm
    split at h
    ·rename_i sz' hz
     split at h
     ·rename_i hs
      simp only[Nat.beq_eq] at hs;subst hs
      split at h
      ·rename_i N hN
       simp only[aI,bg] at h;obtain ⟨rfl,rfl⟩:=h
       unfold S9 at hN
       split at hN
       ·rename_i a nZ f hrow
        exact IQ ho hT hx hz (iw hrow) hN hl hm (hc _ (List.mem_singleton.2 rfl))
       ·cases hN
      ·simp only[aI,bg] at h;obtain ⟨rfl,rfl⟩:=h
       exact KP ho hT hx hz hl hm (hc _ (List.mem_singleton.2 rfl))
     ·cases h
    ·cases h
   ·cases h
  ·cases h
 case h_20 T x lo hi mx ho=>
  unfold Ol at h
  split at h
  ·rename_i s sz pR n hx
   split at h
   ·rename_i E l m M hT hl hm hM
    split at h
    ·rename_i sz' hz
     split at h
     ·rename_i hs
      simp only[Nat.beq_eq] at hs;subst hs
      simp only[aI,bg] at h;obtain ⟨rfl,rfl⟩:=h
      exact Qj ho hT hx hz rfl hl hm hM (hc _ (List.mem_singleton.2 rfl))
     ·cases h
    ·cases h
   ·cases h
  ·cases h
 case h_21 c ho=>
  rcases jd h with h|h
  ·exact Vg ho h hc
  unfold Vq at h
  split at h
  ·rename_i x hcl
   split at h
   ·rename_i g a1 a2 hx
    split at h
    ·rename_i ds hd
     split at h
     ·rename_i r hr
      simp only[aI,bg] at h;obtain ⟨rfl,rfl⟩:=h
      exact Qm ho hcl hx hd (hc _ (List.mem_singleton.2 rfl))
     ·exact Jb ho hcl hx h hc
    ·rcases jd h with h|h
     ·exact Jb ho hcl hx h hc
     split at h
     ·rename_i xs ss hl
      split at h
      ·rename_i r hr
       split at h
       ·rename_i hfl
        simp only[aI,bg] at h;obtain ⟨rfl,rfl⟩:=h
        exact Np ho hcl hx hl (hc _ (List.mem_singleton.2 rfl)) hfl
       ·split at h
        ·rename_i s
         simp only[aI,bg] at h;obtain ⟨rfl,rfl⟩:=h
         exact Na ho hcl hx hl (hc _ (List.mem_singleton.2 rfl))
        ·cases h
      ·cases h
     ·cases h
   ·cases h
  ·rename_i hcl
   rcases jd h with h|h
   ·exact Qn ho hcl h hc
   ·exact P9 ho hcl h hc
  ·rename_i hcl
   rcases jd h with h|h
   ·exact WJ ho hcl h
   ·exact jC h
  ·rename_i hcl
   exact VF ho hcl h hc
  ·rename_i hcl
   exact Tn ho hcl h hc
  ·rename_i hcl
   split at h
   ·rename_i x T ha ht
    split at h
    ·rename_i sz n f E hx hE
     simp only[aI,bg] at h;obtain ⟨rfl,rfl⟩:=h
     exact WZ ho hcl (by rw[←Array.toArray_toList (xs:=c.args),ha]) (by rw[←Array.toArray_toList (xs:=c.argTypes),ht]) hE hx
    ·rename_i s sz lo n E hx hE
     simp only[aI,bg] at h;obtain ⟨rfl,rfl⟩:=h
     exact Oe ho hcl (by rw[←Array.toArray_toList (xs:=c.args),ha]) (by rw[←Array.toArray_toList (xs:=c.argTypes),ht]) hE hx
    ·exact jC h
   ·exact jC h
  ·exact jC h
 case h_22 src dst x ho=>
  rcases jd h with h|h
  ·unfold L9 at h
   split at h
   ·rename_i n f hx
    split at h
    ·rename_i hcond
     simp only[aY] at hcond
     simp only[aI,bg] at h;obtain ⟨rfl,rfl⟩:=h
     exact Nc ho hcond.1 hcond.2 hx (hc _ (List.mem_singleton.2 rfl))
    ·cases h
   ·rename_i s sz lo n hx
    split at h
    ·rename_i agg sz' f hcond hrow
     simp only[aY,Nat.beq_eq] at hcond
     obtain ⟨h1,h2,h3⟩:=hcond
     subst h3
     split at h
     ·rename_i hs
      simp only[Nat.beq_eq] at hs;subst hs
      simp only[aI,bg] at h;obtain ⟨rfl,rfl⟩:=h
      exact Qr ho h1 h2 hx (iw hrow) (hc _ (List.mem_singleton.2 rfl))
     ·cases h
    ·cases h
   ·rename_i b hx
    split at h
    ·rename_i d E0 hcond hd hE0
     simp only[aY] at hcond
     simp only[aI,bg] at h;obtain ⟨rfl,rfl⟩:=h
     exact Qi ho hcond.1 hcond.2 hE0 hd hx
    ·cases h
   ·cases h
  ·exact jC h
 case h_23 T r ho=>
  unfold Lm at h
  split at h
  ·rename_i d kd e' hd hT hr
   split at h
   ·rename_i zd hz
    simp only[aI,bg] at h;obtain ⟨rfl,rfl⟩:=h
    refine NS ho hd hT (fun x hx=>?_) _
    subst hx
    unfold VB at hr
    simp only at hr
    split at hr
    ·rename_i k n hh;exact⟨k,n,hh⟩
    ·cases hr
   ·cases h
  ·cases h
 case h_24 T x i ok ho=>
  unfold OH at h
  split at h
  ·rename_i kd e' hT
   split at h
   ·rename_i zd key hz hi
    split at h
    ·rename_i s hk hx
     split at h
     ·rename_i kd' f has hmo
      split at h
      ·rename_i h1
       obtain rfl:=Ob h1
       simp only[aI,bg] at h;obtain ⟨rfl,rfl⟩:=h
       exact Qp ho hT hz hx (JE hmo) hi hk (hc _ (List.mem_singleton.2 rfl))
      ·cases h
     ·cases h
    ·rename_i kd' f has hk hx
     split at h
     ·rename_i h1
      obtain rfl:=Ob h1
      simp only[aI,bg] at h;obtain ⟨rfl,rfl⟩:=h
      exact OD ho hT hz hx hi hk (hc _ (List.mem_singleton.2 rfl))
     ·cases h
    ·cases h
   ·cases h
  ·cases h
 case h_25 T m i x ho=>exact Am (by rw[ho];rfl) h
 case h_26 T m i x ho=>exact Am (by rw[ho];rfl) h
 case h_27=>exact jC h
end
end Go.Ab
namespace Go.Ab
open Go Go.RowKit
def AS.ev (st:AS):Operand→AV
 | .tmp t=>st.reg t
 | .const v=>BP v
 | .func f=>.d (.con (.func (.func f) #[] #[]))
 | .global _=>.any
theorem aO.ev {G:IH} {F:Fr} {w0:World} {h0:IH} {st:AS} {β:Nat→Nat} {h:IH} {a:Act} {w:World} (g:aO G F w0 h0 st β h a.tmps w) (x:Operand):(st.ev x).rel β h (a.eval x):=by
 cases x with
 | tmp t=>
  simp only[AS.ev,AS.reg]
  cases hr:st.regs[t]? with
  | none=>trivial
  | some y=>
   obtain ⟨v,hv,hy⟩:=g.regs t y hr
   simpa [Act.eval,Array.getD_eq_getD_getElem?,hv] using hy
 | const v=>exact LQ β h v
 | func f=>rfl
 | global _=>trivial
def yt:AV→AV
 | .gate _ _ _ x=>x
 | x=>x
def Glob (G:IH) (g:Nat) (l:List DV):Prop:=∃vs:List Value,DV.aF G l vs∧∀i,i<vs.length→G.cell g i=vs[i]?
def IV (aj:dU) (x:Operand) (y:AV):AV:=match x with
 | .global g=>match aj.gl g with|some l=>.d (.ptr l)|none=>y
 | _=>y
def zk (G:IH) (aj:dU):List Operand→List Prop
 | []=>[]
 | .global g :: l=>match aj.gl g with|some d=>Glob G g d :: zk G aj l|none=>zk G aj l
 | _ :: l=>zk G aj l
theorem Le {G:IH} {aj:dU}:∀{l:List Operand},(∀c∈zk G aj l,c)→∀{x:Operand} {y:AV} {β:Nat→Nat} {h:IH} {a:Act},x∈l→G.le h→y.rel β h (a.eval x)→(IV aj x y).rel β h (a.eval x)
 | [],_,_,_,_,_,_,hx=>by simp at hx
 | z :: l,hc,x,y,β,h,a,hx=>fun hG hr=>by
  have hl:∀c∈zk G aj l,c:=fun c h1=>by
   refine hc c ?_
   unfold zk
   split
   ·rename_i h2;cases h2
   ·rename_i h2;injection h2 with h3 h4;subst h4
    split
    ·exact List.mem_cons_of_mem _ h1
    ·exact h1
   ·rename_i h2;injection h2 with h3 h4;subst h4;exact h1
  rcases List.mem_cons.1 hx with rfl|hx
  ·cases x with
   | global g=>
    unfold IV
    cases hg:aj.gl g with
    | none=>simp only[hg];exact hr
    | some d=>
     simp only[hg]
     have:Glob G g d:=hc _ (by unfold zk;simp only[hg];exact List.mem_cons_self ..)
     obtain ⟨vs,h1,h2⟩:=this
     simp only[AV.rel,DV.rel]
     refine⟨g,0,rfl,vs,DV.aF.mono hG _ _ h1,fun i hi=>?_⟩
     have h3:=h2 i hi
     have h4:vs[i]?=some vs[i]:=gy hi
     rw[Nat.zero_add,h4]
     exact hG.1 g i _ (h3.trans h4)
   | _=>exact hr
  ·exact Le hl hx hG hr
def oW:AV→Bool
 | .gate ..=>true
 | _=>false
abbrev Key:=Option (Nat×Bool)
def sameKey (k:Key) (s:Nat) (w:Bool):Bool:=match k with|some (s',w')=>Nat.beq s' s&&(match w,w' with|true,true=>true|false,false=>true|_,_=>false)|none=>false
theorem sameKey_eq {k:Key} {s:Nat} {w:Bool} (h:sameKey k s w=true):k=some (s,w):=by
 cases k with
 | none=>simp[sameKey] at h
 | some p=>
  obtain ⟨s',w'⟩:=p
  simp only[sameKey,aY,Nat.beq_eq] at h
  obtain ⟨rfl,h⟩:=h
  cases w<;>cases w'<;>simp_all
def lN (x:AV) (want:Bool):Option Bool:=
 match x with
 | .d (.con (.bool b))=>some (match want with|true=>b|false=>!b)
 | .gate _ _ g (.d (.con (.bool b)))=>some (match want with|true=>g&&b|false=>g&&!b)
 | _=>none
def Good (st:AS):Prop:=∀(t s:Nat) (w b:Bool) (x:AV),st.regs[t]?=some (.gate s w b x)→lN (st.reg s) w=some b
def qw (k:Key):List AV→List Prop
 | []=>[]
 | .gate s w g _ :: l=>match sameKey k s w with|true=>qw k l|false=>(g=true) :: qw k l
 | _ :: l=>qw k l
theorem rW {k:Key}:∀{l:List AV} (_:∀c∈qw k l,c) {s:Nat} {w g:Bool} {x:AV},AV.gate s w g x∈l→sameKey k s w=true∨g=true
 | [],_,_,_,_,_,h=>by simp at h
 | y :: l,hc,s,w,g,x,h=>by
  cases y with
  | gate s' w' g' z=>
   simp only[qw] at hc
   simp only[List.mem_cons] at h
   cases hk:sameKey k s' w' with
   | true=>
    rw[hk] at hc
    rcases h with h|h
    ·injection h with h1 h2 _ _;subst h1 h2;exact .inl hk
    ·exact rW hc h
   | false=>
    rw[hk] at hc
    simp only[List.mem_cons] at hc
    rcases h with h|h
    ·injection h with _ _ h1 _;subst h1;exact .inr (hc _ (.inl rfl))
    ·exact rW (fun c hc'=>hc c (.inr hc')) h
  | _=>
   simp only[qw] at hc
   simp only[List.mem_cons,reduceCtorEq,false_or] at h
   exact rW hc h
def qB:AV→Option (Option (Nat×Bool×Bool)×Bool)
 | .d (.con (.bool x))=>some (none,x)
 | .gate s w g (.d (.con (.bool x)))=>some (some (s,w,g),x)
 | _=>none
def xK (k:Key) (c:Option (Nat×Bool×Bool)) (p:Prop):List Prop:=match c with|none=>[] | some (s,w,g)=>match sameKey k s w with|true=>[] | false=>[p→g=true]
def Ak (c:Operand) (w:Bool):Key:=match c with | .tmp t=>some (t,w)|_=>none
def OQ (k:Key) (raw:Operand→AV) (dst:Option Nat) (c a b:Operand):Option (List Prop×Ev):=
 match qB (raw c) with
 | some (gc,b0)=>
  match b with
  | .const (.bool false)=>match qB (raw a) with
   | some (ga,x)=>some (xK k gc True++xK (Ak c true) ga (b0=true),{ dst:=dst,val:=.d (.con (.bool (b0&&x))) })
   | none=>none
  | b=>match a with
   | .const (.bool true)=>match qB (raw b) with
    | some (gb,y)=>some (xK k gc True++xK (Ak c false) gb (b0=false),{ dst:=dst,val:=.d (.con (.bool (b0||y))) })
    | none=>none
   | _=>none
 | none=>none
theorem xq {x:AV} {g:Option (Nat×Bool×Bool)} {b:Bool} (hb:qB x=some (g,b)) {β:Nat→Nat} {h:IH} {v:Value} (hr:x.rel β h v) (hg:∀s w c,g=some (s,w,c)→c=true):v=.bool b:=by
 unfold qB at hb
 split at hb
 ·simp only[aI,bg] at hb;obtain ⟨rfl,rfl⟩:=hb;exact hr
 ·simp only[aI,bg] at hb;obtain ⟨rfl,rfl⟩:=hb
  exact hr.1 (hg _ _ _ rfl)
 ·cases hb
theorem vU {k:Key} {g:Option (Nat×Bool×Bool)} {p:Prop} (hk:∀s w c,g=some (s,w,c)→sameKey k s w=true→c=true) (hp:p) (hc:∀c∈xK k g p,c):∀s w c,g=some (s,w,c)→c=true:=by
 rintro s w c rfl
 cases hs:sameKey k s w with
 | true=>exact hk s w c rfl hs
 | false=>
  simp only[xK,hs,List.mem_singleton,forall_eq] at hc
  exact hc hp
theorem F6 {x:AV} {s:Nat} {w g b:Bool} (h:qB x=some (some (s,w,g),b)):x=.gate s w g (.d (.con (.bool b))):=by
 unfold qB at h
 split at h
 ·simp at h
 ·simp only[aI,bg] at h;obtain ⟨⟨rfl,rfl,rfl⟩,rfl⟩:=h;rfl
 ·cases h
theorem U3 {P:Program} {G:IH} {o:Oper} {st:AS} {cs:List Prop} {e:Ev} {c a b:Operand} {k:Key} (hgood:Good st) (hkey:∀s w,k=some (s,w)→lN (st.reg s) w=some true) (ho:o.op=.pick c a b) (h:OQ k st.ev o.dst c a b=some (cs,e)) (hc:∀c∈cs,c):Core P G o st.ev st e:=by
 have hev:∀(x:Operand) (s:Nat) (w g:Bool) (y:AV),st.ev x=.gate s w g y→lN (st.reg s) w=some g:=by
  intro x s w g y hx
  cases x with
  | tmp t=>
   simp only[AS.ev,AS.reg] at hx
   cases hr:st.regs[t]? with
   | none=>simp[hr] at hx
   | some z=>simp only[hr,Option.getD_some] at hx;subst hx;exact hgood t s w g y hr
  | const v=>simp only[AS.ev] at hx;cases v<;>simp[BP] at hx
  | func f=>simp[AS.ev] at hx
  | global g=>simp[AS.ev] at hx
 have hck:∀gc b0,qB (st.ev c)=some (gc,b0)→∀s w d,gc=some (s,w,d)→sameKey k s w=true→d=true:=by
  intro gc b0 hb s w d hgc hs
  subst hgc
  have h1:=hev c s w d _ (F6 hb)
  have h2:=hkey s w (sameKey_eq hs)
  rw[h1] at h2;exact Option.some.inj h2
 have hself:∀(x:Operand) gx b gc b0 (want:Bool),qB (st.ev c)=some (gc,b0)→qB (st.ev x)=some (gx,b)→(∀s w d,gc=some (s,w,d)→d=true)→b0=want→∀s w d,gx=some (s,w,d)→sameKey (Ak c want) s w=true→d=true:=by
  intro x gx b gc b0 want hb hx hgc hb0 s w d hgx hs
  subst hgx
  have h1:=hev x s w d _ (F6 hx)
  have h2:=sameKey_eq hs
  cases c with
  | tmp t=>
   simp only[Ak,aI,bg] at h2
   obtain ⟨rfl,rfl⟩:=h2
   unfold qB at hb
   simp only[AS.ev] at hb
   unfold lN at h1
   split at hb
   ·rename_i y hy
    simp only[aI,bg] at hb;obtain ⟨_,hb2⟩:=hb
    rw[hy] at h1
    simp only[aI] at h1
    rw[←h1,hb2,hb0]
    cases want<;>rfl
   ·rename_i s' w' g' y hy
    simp only[aI,bg] at hb;obtain ⟨hb1,hb2⟩:=hb
    have hg':=hgc _ _ _ hb1.symm
    rw[hy] at h1
    simp only[aI] at h1
    rw[←h1,hg',hb2,hb0]
    cases want<;>rfl
   ·cases hb
  | _=>simp[Ak] at h2
 unfold OQ at h
 split at h
 ·rename_i gc b0 hb0
  split at h
  ·split at h
   ·rename_i ga x hx
    simp only[aI,bg] at h;obtain ⟨rfl,rfl⟩:=h
    refine bP fun β k' a' w _ _ hop=>⟨_,?_,rfl⟩
    have hgc:=vU (hck gc b0 hb0) trivial (fun q hq=>hc q (List.mem_append_left _ hq))
    have h1:=xq hb0 (hop c (by simp[ho,Op.operands])) hgc
    have hra:=hop a (by simp[ho,Op.operands])
    simp only[execOp,ho,Sem.run_bind,h1,asBool,Sem.run_pure,Result.andThen_ok]
    cases hb:b0 with
    | false=>simp[Act.eval]
    | true=>
     have h2:=xq hx hra (vU (hself a ga x gc b0 true hb0 hx hgc hb) hb (fun q hq=>hc q (List.mem_append_right _ hq)))
     simp[h2]
   ·cases h
  ·split at h
   ·split at h
    ·rename_i gb y hy
     simp only[aI,bg] at h;obtain ⟨rfl,rfl⟩:=h
     refine bP fun β k' a' w _ _ hop=>⟨_,?_,rfl⟩
     have hgc:=vU (hck gc b0 hb0) trivial (fun q hq=>hc q (List.mem_append_left _ hq))
     have h1:=xq hb0 (hop c (by simp[ho,Op.operands])) hgc
     have hrb:=hop b (by simp[ho,Op.operands])
     simp only[execOp,ho,Sem.run_bind,h1,asBool,Sem.run_pure,Result.andThen_ok]
     cases hb:b0 with
     | true=>simp[Act.eval]
     | false=>
      have h2:=xq hy hrb (vU (hself b gb y gc b0 false hb0 hy hgc hb) hb (fun q hq=>hc q (List.mem_append_right _ hq)))
      simp[h2]
    ·cases h
   ·cases h
 ·cases h
def guardOf (ops:List Oper) (o:Oper) (st:AS):Option (Option (Nat×Bool×Bool)):=
 match o.guard with
 | none=>some none
 | some (j,want)=>match ops[j]? with
  | some q=>match q.dst with
   | some g=>match lN (st.reg g) want with
    | some b=>some (some (g,want,b))
    | none=>none
   | none=>none
  | none=>none
def keyOf (γ:Option (Nat×Bool×Bool)):Key:=match γ with|some (s,w,_)=>some (s,w)|none=>none
def NQ (P:Program) (G:IH) (aj:dU) (k:Key) (o:Oper) (st:AS):Option (List Prop×Ev):=
 match o.op with
 | .pick c a b=>OQ k st.ev o.dst c a b
 | _=>match evalOp P G aj o (fun x=>IV aj x (yt (st.ev x))) st with
  | some (cs,e)=>some (qw k (o.op.operands.toList.map st.ev)++(zk G aj o.op.operands.toList++cs),e)
  | none=>none
def EP (b:Bool):List Prop→List Prop
 | []=>[]
 | c :: cs=>(b=true→c) :: EP b cs
theorem Jd {b:Bool} (hb:b=true):∀{cs:List Prop} (_:∀c∈EP b cs,c) (c:Prop) (_:c∈cs),c
 | [],_,_,h=>by simp at h
 | d :: cs,hc,c,h=>by
  simp only[EP,List.mem_cons] at hc
  simp only[List.mem_cons] at h
  rcases h with rfl|h
  ·exact hc _ (.inl rfl) hb
  ·exact Jd hb (fun c hc'=>hc c (.inr hc')) c h
def Uf:Option Nat→Option Nat→Bool
 | some a,some b=>Nat.beq a b
 | none,none=>true
 | _,_=>false
theorem Wp {a b:Option Nat} (h:Uf a b=true):a=b:=by
 cases a<;>cases b<;>simp_all [Uf]
def pz (d:Option Nat) (l:List AV):Bool:=match d with|none=>true|some d=>l.all fun x=>match x with | .gate s _ _ _=>!(Nat.beq s d)|_=>true
def xG (d:Option Nat) (s:Nat):Bool:=match d with|none=>true|some d=>!(Nat.beq d s)
def Dx (P:Program) (G:IH) (aj:dU) (ops:List Oper) (o:Oper) (st:AS):Option (List Prop×Ev):=
 match guardOf ops o st with
 | none=>none
 | some γ=>match NQ P G aj (keyOf γ) o st with
  | none=>none
  | some (cs,e)=>match oW e.val,pz e.dst st.regs with
   | false,true=>match γ with
    | none=>some (cs,e)
    | some (s,w,b)=>match e.jE,e.nw,Uf e.dst o.dst&&xG e.dst s with
     | [],[],true=>some (EP b cs,{ dst:=e.dst,val:=.gate s w b e.val,iV:=e.iV })
     | _,_,_=>none
   | _,_=>none
def Az (P:Program) (G:IH) (aj:dU) (ops:List Oper) (o:Oper) (st:AS):Option (List Prop×Ev):=
 match guardOf ops o st with
 | some (some (s,w,b))=>match NQ P G aj (some (s,w)) o st with
  | some (cs,e)=>match oW e.val,pz e.dst st.regs with
   | false,true=>match b with
    | true=>some (cs,e)
    | false=>none
   | _,_=>none
  | none=>none
 | _=>none
def evalSkip (ops:List Oper) (o:Oper) (st:AS):Option (List Prop×Ev):=
 match guardOf ops o st with
 | some (some (s,w,b))=>match pz o.dst st.regs&&xG o.dst s,b with
  | true,false=>some ([],{ dst:=o.dst,val:=.gate s w false (.d (.con (.bool false))) })
  | _,_=>none
 | _=>none
def BD (P:Program) (G:IH) (aj:dU) (ops:List Oper) (o:Oper) (st:AS):Option (List Prop×Ev):=
 match Dx P G aj ops o st with
 | some r=>some r
 | none=>match Az P G aj ops o st with
  | some r=>some r
  | none=>evalSkip ops o st
theorem oK {l:List AV} {d:Option Nat} {x:AV} {s:Nat} (h:d≠some s):(kF l d x)[s]?=l[s]?:=by rw[fC,if_neg h]
theorem Qq {P:Program} {G:IH} {aj:dU} {ops:List Oper} {o:Oper} {st:AS} {cs:List Prop} {e:Ev} (h:Dx P G aj ops o st=some (cs,e)) (hg:Good st):Good (e.app st):=by
 unfold Dx at h
 split at h
 ·cases h
 ·rename_i γ hγ
  split at h
  ·cases h
  ·rename_i cs' e' he
   split at h
   ·rename_i hgate hfree
    have hd:e.dst=e'.dst:=by
     cases γ with
     | none=>simp only[aI,bg] at h;obtain ⟨_,rfl⟩:=h;rfl
     | some p=>
      obtain ⟨s,w,b⟩:=p
      simp only at h
      split at h
      ·simp only[aI,bg] at h;obtain ⟨_,rfl⟩:=h;rfl
      ·cases h
    have hne:∀(t s:Nat) (w b:Bool) (x:AV),st.regs[t]?=some (.gate s w b x)→e'.dst≠some s:=by
     intro t s w b x ht hs
     simp only[pz,hs,List.all_eq_true] at hfree
     have:=hfree _ (List.mem_of_getElem? ht)
     simp at this
    intro t s w b x ht
    simp only[Ev.app] at ht
    rw[fC] at ht
    split at ht
    ·rename_i hdt
     have hval:e.val=.gate s w b x:=by
      cases hr:st.regs[t]? with
      | none=>simp[hr] at ht
      | some y=>simpa [hr] using ht
     cases γ with
     | none=>
      simp only[aI,bg] at h;obtain ⟨_,rfl⟩:=h
      rw[hval] at hgate;simp[oW] at hgate
     | some p=>
      obtain ⟨s',w',b'⟩:=p
      simp only at h
      split at h
      ·rename_i h1 h2 h3
       simp only[aI,bg] at h;obtain ⟨_,rfl⟩:=h
       simp only[AV.gate.injEq] at hval
       obtain ⟨rfl,rfl,rfl,rfl⟩:=hval
       simp only[aY] at h3
       have hns:e'.dst≠some s':=by
        intro hs
        simp[xG,hs] at h3
       have hguard:lN (st.reg s') w'=some b':=by
        unfold guardOf at hγ
        split at hγ
        ·simp at hγ
        ·split at hγ
         ·split at hγ
          ·split at hγ
           ·rename_i hb
            simp only[aI,bg] at hγ
            obtain ⟨rfl,rfl,rfl⟩:=hγ
            exact hb
           ·cases hγ
          ·cases hγ
         ·cases hγ
       simp only[AS.reg,Ev.app] at hguard⊢
       rw[oK hns];exact hguard
      ·cases h
    ·have hs:=hne t s w b x ht
     have:=hg t s w b x ht
     simp only[AS.reg,Ev.app] at this⊢
     rw[hd,oK hs];exact this
   ·cases h
theorem PL {P:Program} {G:IH} {aj:dU} {ops:List Oper} {o:Oper} {st:AS} {cs:List Prop} {e:Ev} (h:Az P G aj ops o st=some (cs,e)) (hg:Good st):Good (e.app st):=by
 unfold Az at h
 split at h
 ·split at h
  ·rename_i e' he
   split at h
   ·rename_i hgate hfree
    split at h
    ·simp only[aI,bg] at h;obtain ⟨_,rfl⟩:=h
     intro t s w b x ht
     simp only[Ev.app] at ht
     rw[fC] at ht
     split at ht
     ·exfalso
      have hval:e'.val=.gate s w b x:=by
       cases hr:st.regs[t]? with
       | none=>simp[hr] at ht
       | some y=>simpa [hr] using ht
      rw[hval] at hgate;simp[oW] at hgate
     ·have hs:e'.dst≠some s:=by
       intro hs
       simp only[pz,hs,List.all_eq_true] at hfree
       have:=hfree _ (List.mem_of_getElem? ht)
       simp at this
      have:=hg t s w b x ht
      simp only[AS.reg,Ev.app] at this⊢
      rw[oK hs];exact this
    ·cases h
   ·cases h
  ·cases h
 ·cases h
theorem Vo {ops:List Oper} {o:Oper} {st:AS} {s:Nat} {w b:Bool} (hγ:guardOf ops o st=some (some (s,w,b))):lN (st.reg s) w=some b:=by
 unfold guardOf at hγ
 split at hγ
 ·simp at hγ
 ·split at hγ
  ·split at hγ
   ·split at hγ
    ·rename_i hb
     simp only[aI,bg] at hγ
     obtain ⟨rfl,rfl,rfl⟩:=hγ
     exact hb
    ·cases hγ
   ·cases hγ
  ·cases hγ
theorem Nl {ops:List Oper} {o:Oper} {st:AS} {cs:List Prop} {e:Ev} (h:evalSkip ops o st=some (cs,e)) (hg:Good st):Good (e.app st):=by
 unfold evalSkip at h
 split at h
 ·rename_i s' w' b' hγ
  split at h
  ·rename_i hcond
   simp only[aY] at hcond
   obtain ⟨hfree,hns⟩:=hcond
   simp only[aI,bg] at h;obtain ⟨_,rfl⟩:=h
   have hns:o.dst≠some s':=by
    intro hs
    simp[xG,hs] at hns
   intro t s w b x ht
   simp only[Ev.app] at ht
   rw[fC] at ht
   split at ht
   ·have hval:AV.gate s' w' false (.d (.con (.bool false)))=.gate s w b x:=by
     cases hr:st.regs[t]? with
     | none=>simp[hr] at ht
     | some y=>simpa [hr] using ht
    simp only[AV.gate.injEq] at hval
    obtain ⟨rfl,rfl,rfl,rfl⟩:=hval
    have:=Vo hγ
    simp only[AS.reg,Ev.app] at this⊢
    rw[oK hns];exact this
   ·have hs:o.dst≠some s:=by
     intro hs
     simp only[pz,hs,List.all_eq_true] at hfree
     have:=hfree _ (List.mem_of_getElem? ht)
     simp at this
    have:=hg t s w b x ht
    simp only[AS.reg,Ev.app] at this⊢
    rw[oK hs];exact this
  ·cases h
 ·cases h
theorem Cj {P:Program} {G:IH} {aj:dU} {ops:List Oper} {o:Oper} {st:AS} {cs:List Prop} {e:Ev} (h:BD P G aj ops o st=some (cs,e)) (hg:Good st):Good (e.app st):=by
 unfold BD at h
 split at h
 ·rename_i r hr
  simp only[aI] at h;subst h
  exact Qq hr hg
 ·split at h
  ·rename_i r hr
   simp only[aI] at h;subst h
   exact PL hr hg
  ·exact Nl h hg
section
variable {P:Program} {G:IH} {aj:dU} {ops:List Oper} {o:Oper} {st:AS} {cs:List Prop} {e:Ev}
theorem TI {x:AV} {β:Nat→Nat} {h:IH} {v:Value} (hr:x.rel β h v) (hg:∀s w g y,x=.gate s w g y→g=true):(yt x).rel β h v:=by
 cases x with
 | gate s w g y=>exact hr.1 (hg s w g y rfl)
 | _=>exact hr
theorem Ht {k:Key} (hgood:Good st) (hkey:∀s w,k=some (s,w)→lN (st.reg s) w=some true) (h:NQ P G aj k o st=some (cs,e)) (hc:∀c∈cs,c):Core P G o st.ev st e:=by
 unfold NQ at h
 split at h
 ·rename_i c a b ho
  exact U3 hgood hkey ho h hc
 ·split at h
  ·rename_i cs' e' he
   simp only[aI,bg] at h;obtain ⟨rfl,rfl⟩:=h
   have hcore:=Vt (ρ:=fun x=>IV aj x (yt (st.ev x))) (fun y n hn k q hq=>by
    cases y with
    | const v=>
     cases v with
     | int j m=>
      simp only[uf,aI] at hn
      subst hn
      simp only[AS.ev,BP,yt,IV] at hq
      injection hq with hq;injection hq with hq;injection hq with _ hq
      exact hq.symm
     | _=>simp[uf] at hn
    | _=>simp[uf] at hn) he (fun c hc'=>hc c (List.mem_append_right _ (List.mem_append_right _ hc')))
   intro F w0 h0 st' β h a w K Q hlen hag hfr g hd hop hK
   refine hcore F w0 h0 st' β h a w K Q hlen hag hfr g hd (fun x hx=>Le (fun c hc'=>hc c (List.mem_append_right _ (List.mem_append_left _ hc'))) (by simpa using hx) g.glob (TI (hop x hx) fun s v b y Jm=>?_)) hK
   rcases rW (fun c hc'=>hc c (List.mem_append_left _ hc')) (s:=s) (w:=v) (g:=b) (x:=y) (by rw[←Jm];exact List.mem_map.2 ⟨x,by simpa using hx,rfl⟩) with h1|h1
   ·have h2:=hkey s v (sameKey_eq h1)
    cases x with
    | tmp t=>
     simp only[AS.ev,AS.reg] at Jm
     cases hr:st.regs[t]? with
     | none=>simp[hr] at Jm
     | some z=>
      simp only[hr,Option.getD_some] at Jm;subst Jm
      rw[hgood t s v b y hr] at h2;exact Option.some.inj h2
    | const u=>simp only[AS.ev] at Jm;cases u<;>simp[BP] at Jm
    | func f=>simp[AS.ev] at Jm
    | global f=>simp[AS.ev] at Jm
   ·exact h1
  ·cases h
theorem He {st':AS} (hag:∀p,touches ops o e p=true→st'.at_ p=st.at_ p) {x:Operand} (hx:x∈o.op.operands):st'.ev x=st.ev x:=by
 cases x with
 | tmp t=>
  have:=hag (.reg t) (by
   simp only[touches,looks,List.any_append,Bool.or_eq_true]
   refine .inl (List.any_eq_true.2 ⟨.reg t,?_,by simp[Loc.hits]⟩)
   simp only[slots,List.mem_filterMap]
   exact⟨.tmp t,by simpa using hx,rfl⟩)
  simp only[AS.at_,bg,and_true] at this
  simp[AS.ev,AS.reg,this]
 | _=>rfl
theorem MN {F:Fr} {w0:World} {h0:IH} {st':AS} {β:Nat→Nat} {h1:IH} {a:Act} {w:World} {s:Nat} {want b:Bool} (hγ:guardOf ops o st=some (some (s,want,b))) (hag:∀p,touches ops o e p=true→st'.at_ p=st.at_ p) (g:aO G F w0 h0 st' β h1 a.tmps w) :
  Region.wanted o (yielded ops.toArray a.tmps)=b:=by
 unfold guardOf at hγ
 cases hgd:o.guard with
 | none=>simp[hgd] at hγ
 | some jw=>
  obtain ⟨j,want'⟩:=jw
  simp only[hgd] at hγ
  split at hγ
  ·rename_i q hq
   split at hγ
   ·rename_i s' hs
    split at hγ
    case h_2=>cases hγ
    rename_i b' hb
    simp only[aI,bg] at hγ
    obtain ⟨rfl,rfl,rfl⟩:=hγ
    have uh:st'.reg s'=st.reg s':=by
     have:=hag (.reg s') (by
      simp only[touches,looks,List.any_append,Bool.or_eq_true,hgd,hq,Option.bind_some,hs]
      exact .inr (.inl (by simp[Loc.hits])))
     simp only[AS.at_,bg,and_true] at this
     simp[AS.reg,this]
    have hval:(st.reg s').rel β h1 (a.tmps.getD s' undef)∧(st.reg s'≠.any→∃v,a.tmps[s']?=some v):=by
     rw[←uh]
     refine⟨g.ev (.tmp s'),fun hne=>?_⟩
     cases hr:st'.regs[s']? with
     | none=>exact absurd (by simp[AS.reg,hr]) hne
     | some y=>obtain ⟨v,hv,_⟩:=g.regs s' y hr;exact⟨v,hv⟩
    have ES:∀c:Bool,a.tmps.getD s' undef=.bool c→(st.reg s'≠.any)→yielded ops.toArray a.tmps j=some c:=by
     intro c hcv hne
     obtain ⟨v,hv⟩:=hval.2 hne
     simp only[Array.getD_eq_getD_getElem?,hv,Option.getD_some] at hcv
     simp[yielded,hq,hs,hv,hcv]
    have KH:a.tmps.getD s' undef=undef→(st.reg s'≠.any)→yielded ops.toArray a.tmps j=none:=by
     intro hcv hne
     obtain ⟨v,hv⟩:=hval.2 hne
     simp only[Array.getD_eq_getD_getElem?,hv,Option.getD_some] at hcv
     simp[yielded,hq,hs,hv,hcv,undef]
    have JO:Region.wanted o (yielded ops.toArray a.tmps)=b':=by
     simp only[Region.wanted,hgd]
     have hb0:=hb
     unfold lN at hb0
     split at hb0
     ·rename_i c hcv
      rw[hcv] at hval
      rw[ES c hval.1 (by rw[hcv];simp)]
      simp only[aI] at hb0
      cases want'<;>cases c<;>simp_all
     ·rename_i g' c hcv
      rw[hcv] at hval
      simp only[aI] at hb0
      cases hg':g' with
      | false=>
       rw[KH (hval.1.2 hg') (by rw[hcv];simp)]
       cases want'<;>simp_all
      | true=>
       rw[ES c (hval.1.1 hg') (by rw[hcv];simp)]
       cases want'<;>cases c<;>simp_all
     ·cases hb0
    exact JO
   ·cases hγ
  ·cases hγ
theorem UD (hgood:Good st) (h:Dx P G aj ops o st=some (cs,e)) (hc:∀c∈cs,c):EX P G ops o st e:=by
 intro F w0 h0 st' β h1 a w K Q hlen hag hfr g hd hK
 unfold Dx at h
 split at h
 ·cases h
 ·rename_i γ hγ
  split at h
  ·cases h
  ·rename_i cs' e' he
   split at h
   case h_2=>cases h
   have hrel:∀x∈o.op.operands,(st.ev x).rel β h1 (a.eval x):=fun x hx=>by rw[←He hag hx];exact g.ev x
   cases γ with
   | none=>
    simp only[aI,bg] at h;obtain ⟨rfl,rfl⟩:=h
    have hw:Region.wanted o (yielded ops.toArray a.tmps)=true:=by
     unfold guardOf at hγ
     cases hgd:o.guard with
     | none=>simp[Region.wanted,hgd]
     | some jw=>
      exfalso
      obtain ⟨j,want⟩:=jw
      simp only[hgd] at hγ
      split at hγ
      ·split at hγ
       ·split at hγ<;>simp at hγ
       ·cases hγ
      ·cases hγ
    rw[if_pos hw]
    exact Ht hgood (by simp[keyOf]) he hc F w0 h0 st' β h1 a w K Q hlen (fun p hp=>hag p (by
     simp only[touches,looks,List.any_append,Bool.or_eq_true] at hp⊢;exact .inr (.inr hp))) hfr g hd hrel hK
   | some γ'=>
    obtain ⟨s,want,b⟩:=γ'
    have hes:∃_:e'.jE=[]∧e'.nw=[]∧e'.dst=o.dst,cs=EP b cs'∧e={ dst:=e'.dst,val:=.gate s want b e'.val,iV:=e'.iV }:=by
     simp only at h
     split at h
     ·rename_i h1 h2 h3
      simp only[aI,bg] at h
      simp only[aY] at h3
      exact⟨⟨h1,h2,Wp h3.1⟩,h.1.symm,h.2.symm⟩
     ·cases h
    obtain ⟨⟨hw1,hw2,hw3⟩,rfl,rfl⟩:=hes
    -- what the guard's temporary holds
    unfold guardOf at hγ
    cases hgd:o.guard with
    | none=>simp[hgd] at hγ
    | some jw=>
     obtain ⟨j,want'⟩:=jw
     simp only[hgd] at hγ
     split at hγ
     ·rename_i q hq
      split at hγ
      ·rename_i s' hs
       split at hγ
       case h_2=>cases hγ
       rename_i b' hb
       simp only[aI,bg] at hγ
       obtain ⟨rfl,rfl,rfl⟩:=hγ
       have uh:st'.reg s'=st.reg s':=by
        have:=hag (.reg s') (by
         simp only[touches,looks,List.any_append,Bool.or_eq_true,hgd,hq,Option.bind_some,hs]
         exact .inr (.inl (by simp[Loc.hits])))
        simp only[AS.at_,bg,and_true] at this
        simp[AS.reg,this]
       have hval:(st.reg s').rel β h1 (a.tmps.getD s' undef)∧(st.reg s'≠.any→∃v,a.tmps[s']?=some v):=by
        rw[←uh]
        refine⟨g.ev (.tmp s'),fun hne=>?_⟩
        cases hr:st'.regs[s']? with
        | none=>exact absurd (by simp[AS.reg,hr]) hne
        | some y=>obtain ⟨v,hv,_⟩:=g.regs s' y hr;exact⟨v,hv⟩
       have ES:∀c:Bool,a.tmps.getD s' undef=.bool c→(st.reg s'≠.any)→yielded ops.toArray a.tmps j=some c:=by
        intro c hcv hne
        obtain ⟨v,hv⟩:=hval.2 hne
        simp only[Array.getD_eq_getD_getElem?,hv,Option.getD_some] at hcv
        simp[yielded,hq,hs,hv,hcv]
       have KH:a.tmps.getD s' undef=undef→(st.reg s'≠.any)→yielded ops.toArray a.tmps j=none:=by
        intro hcv hne
        obtain ⟨v,hv⟩:=hval.2 hne
        simp only[Array.getD_eq_getD_getElem?,hv,Option.getD_some] at hcv
        simp[yielded,hq,hs,hv,hcv,undef]
       have JO:Region.wanted o (yielded ops.toArray a.tmps)=b':=by
        simp only[Region.wanted,hgd]
        have hb0:=hb
        unfold lN at hb0
        split at hb0
        ·rename_i c hcv
         rw[hcv] at hval
         rw[ES c hval.1 (by rw[hcv];simp)]
         simp only[aI] at hb0
         cases want'<;>cases c<;>simp_all
        ·rename_i g' c hcv
         rw[hcv] at hval
         simp only[aI] at hb0
         cases hg':g' with
         | false=>
          rw[KH (hval.1.2 hg') (by rw[hcv];simp)]
          cases want'<;>simp_all
         | true=>
          rw[ES c (hval.1.1 hg') (by rw[hcv];simp)]
          cases want'<;>cases c<;>simp_all
        ·cases hb0
       rw[JO]
       have happ:∀zL:AS,e'.app zL=⟨kF zL.regs e'.dst e'.val,zL.boxes⟩:=fun zL=>by simp[Ev.app,hw1,hw2,fF]
       cases b' with
       | true=>
        rw[if_pos rfl]
        refine Ht hgood (fun s w hsw=>?_) he (Jd rfl hc) F w0 h0 st' β h1 a w K Q hlen (fun p hp=>hag p ?_) (by simp[hw2]) g hd hrel fun a' w' β' h' hd' g'=>hK a' w' β' h' hd' ?_
        ·simp only[keyOf,aI,bg] at hsw
         obtain ⟨rfl,rfl⟩:=hsw
         exact hb
        ·simp only[touches,looks,List.any_append,Bool.or_eq_true] at hp⊢
         refine .inr (.inr (hp.imp id fun hp=>?_))
         simp only[Ev.writes,hw1,hw2] at hp⊢
         exact hp
        ·rw[happ] at g'
         refine⟨g'.glob,g'.holds,g'.ext,g'.old,g'.kept,g'.fix,?_,?_,g'.box,g'.inj⟩
         ·rw[g'.size];simp only[Ev.app];cases e'.dst<;>simp[kF]
         ·intro t x hx
          simp only[Ev.app,fC] at hx
          have:=g'.regs t
          simp only[fC] at this
          split at hx
          ·rename_i ht
           rw[if_pos ht] at this
           cases hr:st'.regs[t]? with
           | none=>simp[hr] at hx
           | some z=>
            simp only[hr,Option.map_some,aI] at hx this
            subst hx
            obtain ⟨v,hv,lC⟩:=this _ rfl
            exact⟨v,hv,fun _=>lC,fun hf=>by cases hf⟩
          ·rename_i ht
           rw[if_neg ht] at this
           exact this x hx
       | false=>
        rw[if_neg (by simp)]
        refine hK _ _ β h1 (by rw[put_defers];exact hd) ?_
        rw[dK]
        have g':=g.put (t:=o.dst) (x:=.gate s' want' false e'.val) (v:=undef) ⟨(fun hf=>by cases hf),fun _=>rfl⟩
        rw[←hw3] at g'⊢
        simpa [Ev.app,hw1,hw2,fF] using g'
      ·cases hγ
     ·cases hγ
theorem TW (hgood:Good st) (h:Az P G aj ops o st=some (cs,e)) (hc:∀c∈cs,c):EX P G ops o st e:=by
 intro F w0 h0 st' β h1 a w K Q hlen hag hfr g hd hK
 unfold Az at h
 split at h
 ·rename_i s wt b hγ
  split at h
  ·rename_i cs' e' he
   split at h
   ·split at h
    ·simp only[aI,bg] at h;obtain ⟨rfl,rfl⟩:=h
     have hrel:∀x∈o.op.operands,(st.ev x).rel β h1 (a.eval x):=fun x hx=>by rw[←He hag hx];exact g.ev x
     rw[if_pos (MN hγ hag g)]
     refine Ht hgood (fun s' w' hsw=>?_) he hc F w0 h0 st' β h1 a w K Q hlen (fun p hp=>hag p (by
      simp only[touches,looks,List.any_append,Bool.or_eq_true] at hp⊢;exact .inr (.inr hp))) hfr g hd hrel hK
     simp only[aI,bg] at hsw
     obtain ⟨rfl,rfl⟩:=hsw
     unfold guardOf at hγ
     split at hγ
     ·simp at hγ
     ·split at hγ
      ·split at hγ
       ·split at hγ
        ·rename_i hb
         simp only[aI,bg] at hγ
         obtain ⟨rfl,rfl,rfl⟩:=hγ
         exact hb
        ·cases hγ
       ·cases hγ
      ·cases hγ
    ·cases h
   ·cases h
  ·cases h
 ·cases h
theorem Qs (h:evalSkip ops o st=some (cs,e)):EX P G ops o st e:=by
 intro F w0 h0 st' β h1 a w K Q hlen hag hfr g hd hK
 unfold evalSkip at h
 split at h
 ·rename_i s' wt b hγ
  split at h
  ·simp only[aI,bg] at h;obtain ⟨rfl,rfl⟩:=h
   rw[if_neg (by rw[MN hγ hag g];decide)]
   refine hK _ _ β h1 (by rw[put_defers];exact hd) ?_
   rw[dK]
   have g':=g.put (t:=o.dst) (x:=.gate s' wt false (.d (.con (.bool false)))) (v:=undef) ⟨(fun hf=>by cases hf),fun _=>rfl⟩
   simpa [Ev.app,fF] using g'
  ·cases h
 ·cases h
theorem G6 (hgood:Good st) (h:BD P G aj ops o st=some (cs,e)) (hc:∀c∈cs,c):EX P G ops o st e:=by
 unfold BD at h
 split at h
 ·rename_i r hr
  simp only[aI] at h;subst h
  exact UD hgood hr hc
 ·split at h
  ·rename_i r hr
   simp only[aI] at h;subst h
   exact TW hgood hr hc
  ·exact Qs h
end
end Go.Ab
namespace Go.Ab
open Go Go.RowKit
def vJ (P:Program) (G:IH) (aj:dU) (all:List Oper):List Oper→AS→Option (List Prop×List Ev×AS)
 | [],st=>some ([],[],st)
 | o :: os,st=>match BD P G aj all o st with
  | some (cs,e)=>match vJ P G aj all os (e.app st) with
   | some (ds,es,st')=>some (cs++ds,e :: es,st')
   | none=>none
  | none=>none
def VK:AV→AV
 | .gate ..=>.any
 | x=>x
def AS.clear (st:AS):AS:=⟨st.regs.map VK,st.boxes⟩
theorem wZ (st:AS):Good st.clear:=by
 intro t s w b x h
 simp only[AS.clear,List.getElem?_map] at h
 cases hr:st.regs[t]? with
 | none=>simp[hr] at h
 | some y=>rw[hr] at h;simp only[Option.map_some,aI] at h;cases y<;>simp[VK] at h
def wW (P:Program) (G:IH) (aj:dU) (draw:Bool) (ops:List Oper) (st:AS):Option (List Prop×AS):=
 match vJ P G aj ops ops st.clear with
 | some (cs,es,st')=>match Ik draw ops es st.clear with
  | true=>some (cs,st')
  | false=>none
 | none=>none
theorem aO.clear {G:IH} {F:Fr} {w0:World} {h0:IH} {st:AS} {β:Nat→Nat} {h:IH} {tm:Array Value} {w:World} (g:aO G F w0 h0 st β h tm w):aO G F w0 h0 st.clear β h tm w:=
 ⟨g.glob,g.holds,g.ext,g.old,g.kept,g.fix,by simpa [AS.clear] using g.size,fun t x hx=>by
  simp only[AS.clear,List.getElem?_map] at hx
  cases hr:st.regs[t]? with
  | none=>simp[hr] at hx
  | some y=>
   rw[hr] at hx
   simp only[Option.map_some,aI] at hx
   obtain ⟨v,hv,hy⟩:=g.regs t y hr
   refine⟨v,hv,?_⟩
   subst hx
   cases y<;>first|exact hy|trivial,g.box,g.inj⟩
section
variable {P:Program} {G:IH} {aj:dU}
theorem BA {all:List Oper}:∀{os:List Oper} {st:AS} {cs:List Prop} {es:List Ev} {st':AS},vJ P G aj all os st=some (cs,es,st')→Good st→(∀c∈cs,c)→kH P G all os es st∧st'=iK es st
 | [],st,cs,es,st',h,_,_=>by
  simp only[vJ,aI,bg] at h
  obtain ⟨rfl,rfl,rfl⟩:=h
  exact⟨rfl,rfl⟩
 | o :: os,st,cs,es,st',h,hg,hc=>by
  simp only[vJ] at h
  split at h
  ·rename_i cs1 e he
   split at h
   ·rename_i ds es' zL hos
    simp only[aI,bg] at h
    obtain ⟨rfl,rfl,rfl⟩:=h
    obtain ⟨h1,h2⟩:=BA hos (Cj he hg) fun c hc'=>hc c (List.mem_append_right _ hc')
    exact⟨⟨e,es',rfl,G6 hg he fun c hc'=>hc c (List.mem_append_left _ hc'),h1⟩,h2⟩
   ·cases h
  ·cases h
theorem CV {draw:Bool} {ops:List Oper} {st st':AS} {cs:List Prop} (hm:P.follows .mixedOrders=true) (h:wW P G aj draw ops st=some (cs,st')) (hc:∀c∈cs,c) {id:Nat}
  {F:Fr} {w0:World} {h0:IH} {β:Nat→Nat} {k:IH} {a:Act} {w:World} {Q:Exit→Act→World→Prop} (g:aO G F w0 h0 st β k a.tmps w) (hd:a.defers=[])
  (hQ:∀(a':Act) (w':World) (β':Nat→Nat) (h':IH),a'.defers=[]→aO G F w0 h0 st' β' h' a'.tmps w'→Q .normal a' w'):(Code.region id ops.toArray draw).wp P Q a w:=by
 unfold wW at h
 split at h
 ·rename_i cs' es zL hos
  split at h
  ·rename_i hok
   simp only[aI,bg] at h
   obtain ⟨rfl,rfl⟩:=h
   obtain ⟨h1,rfl⟩:=BA hos (wZ st) hc
   exact O9 hm h1 hok (aO.clear g) hd hQ
  ·cases h
 ·cases h
end
def yR (ks:List Nat):Nat→List AV→List AV
 | _,[]=>[]
 | i,x :: l=>(bif ks.any (Nat.beq i) then x else .any) :: yR ks (i+1) l
def AS.keep (st:AS) (ks:List Nat):AS:=match ks with | []=>st|_=>⟨yR ks 0 st.regs,st.boxes⟩
theorem MH (ks:List Nat):∀(l:List AV) (i t:Nat),(yR ks i l)[t]?=l[t]?∨(t<l.length∧(yR ks i l)[t]?=some .any)
 | [],_,_=>.inl rfl
 | x :: l,i,t=>by
  cases t with
  | zero=>
   simp only[yR]
   cases ks.any (Nat.beq i)
   ·exact .inr ⟨by simp,rfl⟩
   ·exact .inl rfl
  | succ t=>
   simp only[yR,List.getElem?_cons_succ,List.length_cons]
   rcases MH ks l (i+1) t with h|⟨h1,h2⟩
   ·exact .inl h
   ·exact .inr ⟨by omega,h2⟩
theorem Dz (ks:List Nat):∀(l:List AV) (i:Nat),(yR ks i l).length=l.length
 | [],_=>rfl
 | _ :: l,i=>by simp[yR,Dz ks l]
theorem aO.keep {G:IH} {F:Fr} {w0:World} {h0:IH} {st:AS} {β:Nat→Nat} {h:IH} {tm:Array Value} {w:World} (g:aO G F w0 h0 st β h tm w) (ks:List Nat):aO G F w0 h0 (st.keep ks) β h tm w:=by
 unfold AS.keep
 split
 ·exact g
 ·refine⟨g.glob,g.holds,g.ext,g.old,g.kept,g.fix,by simp only[Dz];exact g.size,fun t x hx=>?_,g.box,g.inj⟩
  rcases MH _ st.regs 0 t with h1|⟨h1,h2⟩
  ·exact g.regs t x (by rw[←h1];exact hx)
  ·simp only at hx
   rw[h2] at hx
   simp only[aI] at hx;subst hx
   have:t<tm.size:=by rw[g.size];exact h1
   exact⟨tm[t],by simp[this],trivial⟩
inductive It where
 | code (c:Code)
 | blk (id:Nat)
 | scp
def wpS (P:Program):List It→(Exit→Act→World→Prop)→Exit→Act→World→Prop
 | [],Q=>Q
 | .code c :: k,Q=>fun e a w=>match e with | .normal=>c.wp P (wpS P k Q) a w|e=>wpS P k Q e a w
 | .blk id :: k,Q=>fun e a w=>match e with | .exit i=>(if i=id then wpS P k Q .normal a w else wpS P k Q (.exit i) a w)|e=>wpS P k Q e a w
 | .scp :: k,Q=>fun e a w=>match e with | .goto _=>False|e=>wpS P k Q e a w
def Ends (G:IH) (F:Fr) (w0:World) (h0:IH) (Q:Exit→AS→Prop) (e:Exit) (a:Act) (w:World):Prop:=∃st β h,Q e st∧aO G F w0 h0 st β h a.tmps w∧a.defers=[]
def aX (P:Program) (G:IH) (k:List It) (st:AS) (Q:Exit→AS→Prop):Prop:=
 ∀(F:Fr) (w0:World) (h0:IH) (β:Nat→Nat) (h:IH) (a:Act) (w:World),aO G F w0 h0 st β h a.tmps w→a.defers=[]→wpS P k (Ends G F w0 h0 Q) .normal a w
def wX (id:Nat):List It→Option (List It)
 | []=>none
 | .code _ :: k=>wX id k
 | .scp :: k=>wX id k
 | .blk i :: k=>match Nat.beq i id with|true=>some k|false=>wX id k
inductive Tree where
 | leaf (e:Exit) (st:AS)
 | br (b:Bool) (t f:Tree)
 | need (ps:List Prop) (t:Tree)
 | stop (k:List It) (st:AS)
 | bad (region:Nat)
def needs (cs:List Prop) (t:Tree):Tree:=match cs with | []=>t|c :: cs=>.need (c :: cs) t
def cutAt (cuts:List Nat):List It→Bool
 | .code (.region id _ _) :: _=>cuts.any (Nat.beq id)
 | .code (.seq (.region id _ _) _) :: _=>cuts.any (Nat.beq id)
 | .code (.loop _) :: _=>true
 | _=>false
def mO (P:Program) (G:IH) (aj:dU) (keep cuts:List Nat):Nat→List It→AS→Tree
 | 0,k,st=>.stop k st
 | n+1,k,st=>match cutAt cuts k with
  | true=>.stop k st
  | false=>match k with
   | []=>.leaf .normal st
   | .blk _ :: k=>mO P G aj keep cuts n k st
   | .scp :: k=>mO P G aj keep cuts n k st
   | .code (.scope c) :: k=>mO P G aj keep cuts n (.code c :: .scp :: k) st
   | .code .skip :: k=>mO P G aj keep cuts n k st
   | .code (.label _) :: k=>mO P G aj keep cuts n k st
   | .code (.seq a b) :: k=>mO P G aj keep cuts n (.code a :: .code b :: k) st
   | .code (.block id c) :: k=>mO P G aj keep cuts n (.code c :: .blk id :: k) st
   | .code (.region id ops draw) :: k=>match wW P G aj draw ops.toList st with
    | some (cs,st')=>needs cs (mO P G aj keep cuts n k (st'.keep keep))
    | none=>.bad id
   | .code (.cond x a b) :: k=>match yt (st.ev x) with
    | .d (.con (.bool y))=>match oW (st.ev x) with
     | true=>.bad 0
     | false=>.br y (mO P G aj keep cuts n (.code a :: k) st) (mO P G aj keep cuts n (.code b :: k) st)
    | _=>.bad 1
   | .code (.exit id) :: k=>match wX id k with
    | some k'=>mO P G aj keep cuts n k' st
    | none=>.leaf (.exit id) st
   | .code .ret :: _=>.leaf .ret st
   | .code c :: k=>.stop (.code c :: k) st
def J7:List Prop→Prop
 | []=>True
 | [c]=>c
 | c :: cs=>c∧J7 cs
theorem vG:∀{cs:List Prop},J7 cs→∀c∈cs,c
 | [],_,_,h=>by simp at h
 | [c],hc,d,h=>by rw[List.mem_singleton.1 h];exact hc
 | c :: c' :: cs,hc,d,h=>by
  simp only[List.mem_cons] at h
  rcases h with rfl|h
  ·exact hc.1
  ·exact vG hc.2 d (by simpa using h)
def Tree.ok (P:Program) (G:IH) (Q:Exit→AS→Prop):Tree→Prop
 | .leaf e st=>Q e st
 | .br b t f=>(b=true→t.ok P G Q)∧(b=false→f.ok P G Q)
 | .need ps t=>J7 ps∧t.ok P G Q
 | .stop k st=>aX P G k st Q
 | .bad _=>False
section
variable {P:Program} {G:IH} {aj:dU} {Q:Exit→AS→Prop}
theorem FB {k:List It} {R:Exit→Act→World→Prop} {e:Exit} {a:Act} {w:World} (he:(∀id,e≠.exit id)∧e≠.normal∧∀l,e≠.goto l) (h:R e a w):wpS P k R e a w:=by
 induction k with
 | nil=>exact h
 | cons x k ih=>
  cases x with
  | code c=>cases e<;>first|exact ih|(exact absurd rfl he.2.1)
  | scp=>cases e<;>first|exact ih|(exact absurd rfl (he.2.2 _))
  | blk id=>cases e<;>first|exact ih|(exact absurd rfl (he.1 _))
theorem nV {R:Exit→Act→World→Prop} {id:Nat} {a:Act} {w:World}:∀{k:List It},(match wX id k with|some k'=>wpS P k' R .normal a w|none=>R (.exit id) a w)→wpS P k R (.exit id) a w
 | [],h=>h
 | .code _ :: k,h=>nV (k:=k) h
 | .scp :: k,h=>nV (k:=k) h
 | .blk i :: k,h=>by
  simp only[wX] at h
  simp only[wpS]
  by_cases hi:id=i
  ·subst hi;simp only[fP] at h;rw[if_pos rfl];exact h
  ·rw[aQ (Ne.symm hi)] at h;rw[if_neg hi];exact nV (k:=k) h
theorem kQ {c:Code} {R R':Exit→Act→World→Prop} {a:Act} {w:World} (h:c.wp P R a w) (hr:∀e a w,R e a w→R' e a w):c.wp P R' a w:=wp_mono h hr
theorem jR (hm:P.follows .mixedOrders=true) {keep cuts:List Nat}:∀(n:Nat) (k:List It) (st:AS),(mO P G aj keep cuts n k st).ok P G Q→aX P G k st Q
 | 0,_,_,h=>h
 | n+1,k,st,h=>by
  unfold mO at h
  split at h
  ·exact h
  ·rename_i hcut
   clear hcut
   split at h
   ·exact fun F w0 h0 β h1 a w g hd=>⟨st,β,h1,h,g,hd⟩
   ·exact fun F w0 h0 β h1 a w g hd=>jR hm n _ st h F w0 h0 β h1 a w g hd
   ·exact fun F w0 h0 β h1 a w g hd=>jR hm n _ st h F w0 h0 β h1 a w g hd
   ·intro F w0 h0 β h1 a w g hd
    refine wp_scope_straight (kQ (jR hm n _ st h F w0 h0 β h1 a w g hd) fun e a w he=>?_)
    cases e<;>exact he
   ·exact fun F w0 h0 β h1 a w g hd=>wp_skip (jR hm n _ st h F w0 h0 β h1 a w g hd)
   ·exact fun F w0 h0 β h1 a w g hd=>wp_label (jR hm n _ st h F w0 h0 β h1 a w g hd)
   ·intro F w0 h0 β h1 a w g hd
    refine wp_seq (kQ (jR hm n _ st h F w0 h0 β h1 a w g hd) fun e a w he=>?_)
    cases e<;>exact he
   ·intro F w0 h0 β h1 a w g hd
    refine wp_block (kQ (jR hm n _ st h F w0 h0 β h1 a w g hd) fun e a w he=>?_)
    cases e<;>exact he
   ·rename_i id ops draw k'
    split at h
    ·rename_i cs st' hr
     have hcs:(∀c∈cs,c)∧(mO P G aj keep cuts n k' (st'.keep keep)).ok P G Q:=by
      unfold needs at h
      split at h
      ·exact⟨by simp,h⟩
      ·exact⟨vG h.1,h.2⟩
     intro F w0 h0 β h1 a w g hd
     have:=CV (id:=id) (Q:=wpS P k' (Ends G F w0 h0 Q)) hm hr hcs.1 g hd fun a' w' β' h' hd' g'=>jR hm n k' (st'.keep keep) hcs.2 F w0 h0 β' h' a' w' (aO.keep g' keep) hd'
     simpa [wpS] using this
    ·exact h.elim
   ·rename_i x c1 c2 k'
    split at h
    ·rename_i y hy
     split at h
     ·exact h.elim
     ·rename_i Ad
      intro F w0 h0 β h1 a w g hd
      have hx:=g.ev x
      have hy':st.ev x=.d (.con (.bool y)):=by
       cases hs:st.ev x with
       | gate s w b z=>rw[hs] at Ad;simp[oW] at Ad
       | _=>rw[hs] at hy;exact hy
      rw[hy'] at hx
      refine wp_cond_split (t:=y) hx (fun ht=>?_) fun hf=>?_
      ·exact jR hm n _ st (h.1 ht) F w0 h0 β h1 a w g hd
      ·exact jR hm n _ st (h.2 hf) F w0 h0 β h1 a w g hd
    ·exact h.elim
   ·rename_i id k'
    intro F w0 h0 β h1 a w g hd
    refine wp_exit (nV ?_)
    split at h
    ·rename_i k2 hk;exact jR hm n k2 st h F w0 h0 β h1 a w g hd
    ·exact⟨st,β,h1,h,g,hd⟩
   ·intro F w0 h0 β h1 a w g hd
    exact wp_ret (FB ⟨by simp,by simp,by simp⟩ ⟨st,β,h1,h,g,hd⟩)
   ·exact h
def wC:List AV→List AV→Prop
 | [],[]=>True
 | x :: l,y :: m=>(match y with | .any=>wC l m|y=>x=y∧wC l m)
 | _,_=>False
theorem GK:∀{l m:List AV},wC l m→l.length=m.length∧∀(t:Nat) (y:AV),m[t]?=some y→y=.any∨l[t]?=some y
 | [],[],_=>⟨rfl,fun t y h=>by simp at h⟩
 | x :: l,y :: m,h=>by
  have:(y=.any∨x=y)∧wC l m:=by
   unfold wC at h
   split at h
   ·exact⟨.inl rfl,h⟩
   ·exact⟨.inr h.1,h.2⟩
  obtain ⟨h1,h2⟩:=this
  obtain ⟨h3,h4⟩:=GK h2
  refine⟨by simp[h3],fun t z hz=>?_⟩
  cases t with
  | zero=>
   simp at hz;subst hz
   rcases h1 with h1|h1
   ·exact .inl h1
   ·exact .inr (by simp[h1])
  | succ t=>simpa using h4 t z (by simpa using hz)
 | [],_ :: _,h=>h.elim
 | _ :: _,[],h=>h.elim
def xH (b:List (Nat×List AV)):List (Nat×List AV)→Prop
 | []=>True
 | (s,l) :: r=>look b s=some l∧xH b r
theorem yE {b:List (Nat×List AV)}:∀{c:List (Nat×List AV)},xH b c→∀s l,look c s=some l→look b s=some l
 | [],_,_,_,h=>by simp[look] at h
 | (k,m) :: r,hc,s,l,h=>by
  simp only[look] at h
  by_cases hk:k=s
  ·subst hk
   simp only[fP,cond_true,aI] at h
   subst h;exact hc.1
  ·rw[aQ hk,cond_false] at h
   exact yE hc.2 s l h
def AS.le (st st':AS):Prop:=wC st.regs st'.regs∧xH st.boxes st'.boxes
theorem aO.weaken {F:Fr} {w0:World} {h0:IH} {st st':AS} {β:Nat→Nat} {h:IH} {tm:Array Value} {w:World} (g:aO G F w0 h0 st β h tm w) (hl:st.le st'):aO G F w0 h0 st' β h tm w:=by
 obtain ⟨h1,h2⟩:=GK hl.1
 have h3:=yE hl.2
 exact⟨g.glob,g.holds,g.ext,g.old,g.kept,g.fix,g.size.trans h1,fun t x hx=>by
  rcases h2 t x hx with rfl|h
  ·have hlt:t<tm.size:=by rw[g.size,h1];exact(List.getElem?_eq_some_iff.1 hx).1
   exact⟨tm[t],by simp[hlt],trivial⟩
  ·exact g.regs t x h,fun s l hb=>g.box s l (h3 s l hb),fun s s' l l' hb hb'=>g.inj s s' l l' (h3 s l hb) (h3 s' l' hb')⟩
theorem aX.weaken {k:List It} {st st':AS} (hl:st.le st') (h:aX P G k st' Q):aX P G k st Q:=
 fun F w0 h0 β h1 a w g hd=>h F w0 h0 β h1 a w (g.weaken hl) hd
def AS.cO (st st':AS):Prop:=∀(G:IH) (F:Fr) (w0:World) (h0:IH) (β:Nat→Nat) (h:IH) (tm:Array Value) (w:World),aO G F w0 h0 st β h tm w→∃β',aO G F w0 h0 st' β' h tm w
theorem AS.cO.of_le {st st':AS} (h:st.le st'):st.cO st':=fun _ _ _ _ β _ _ _ g=>⟨β,g.weaken h⟩
theorem AS.cO.trans {a b c:AS} (h:a.cO b) (k:b.cO c):a.cO c:=fun G F w0 h0 β h1 tm w g=>let ⟨β',g'⟩:=h G F w0 h0 β h1 tm w g;k G F w0 h0 β' h1 tm w g'
theorem aX.pre {k:List It} {st st':AS} (hle:st.cO st') (h:aX P G k st' Q):aX P G k st Q:=fun F w0 h0 β h1 a w g hd=>
 let ⟨β',g'⟩:=hle G F w0 h0 β h1 a.tmps w g;h F w0 h0 β' h1 a w g' hd
def fU (s:Nat) (x:AV):AV:=bif AV.free s x then x else .any
def AS.forget (st:AS) (s:Nat):AS:=⟨st.regs.map (fU s),(st.boxes.filter fun b=>!(Nat.beq b.1 s)).map fun b=>(b.1,b.2.map (fU s))⟩
theorem nU {β:Nat→Nat} {h:IH} {s:Nat} {x:AV} {v:Value} (r:x.rel β h v):(fU s x).rel β h v:=by
 unfold fU
 cases AV.free s x
 ·trivial
 ·exact r
theorem xM {β:Nat→Nat} {h:IH} {s:Nat}:∀{l:List AV} {vs:List Value},AV.aF β h l vs→AV.aF β h (l.map (fU s)) vs
 | [],_,r=>r
 | _ :: _,_,⟨v,vs',e,r,rs⟩=>⟨v,vs',e,nU r,xM rs⟩
theorem OV (s:Nat) (x:AV):(fU s x).free s=true:=by
 unfold fU
 cases h:AV.free s x
 ·rfl
 ·exact h
theorem rO (s t:Nat):∀b:List (Nat×List AV),look ((b.filter fun b=>!(Nat.beq b.1 s)).map fun b=>(b.1,b.2.map (fU s))) t=if t=s then none else (look b t).map (·.map (fU s))
 | []=>by simp[look]
 | (k,c) :: b=>by
  have ih:=rO s t b
  by_cases hk:k=s
  ·subst hk
   simp only[List.filter_cons,fP,Bool.not_true,Bool.false_eq_true,if_false,ih]
   by_cases ht:t=k
   ·rw[if_pos ht,if_pos ht]
   ·rw[if_neg ht,if_neg ht];simp only[look,aQ (Ne.symm ht),cond_false]
  ·simp only[List.filter_cons,aQ hk,Bool.not_false,if_true,List.map_cons,look]
   by_cases ht:k=t
   ·subst ht;simp[hk]
   ·simp only[aQ ht,cond_false,ih]
theorem qC {s:Nat} {l:List AV} (h:bU l=false):l.map (fU s)=l:=by
 rcases dN h with ⟨a,b,c,rfl⟩|rfl|⟨a,b,c,rfl⟩<;>rfl
theorem AS.cO.forget (st:AS) (s:Nat):st.cO (st.forget s):=by
 intro G F w0 h0 β h tm w g
 have hbox:∀t l,(st.forget s).box t=some l→∃l0,st.box t=some l0∧l=l0.map (fU s):=by
  intro t l hl
  simp only[AS.forget,AS.box,rO] at hl
  split at hl
  ·cases hl
  ·cases hh:look st.boxes t with
   | none=>simp[hh] at hl
   | some l0=>simp[hh] at hl;exact⟨l0,hh,hl.symm⟩
 have hlive:∀t l,Live β t (l.map (fU s))→Live β t l:=by
  intro t l hl
  cases hp:bU l with
  | true=>exact Live.plain hp
  | false=>rw[qC hp] at hl;exact hl
 refine⟨β,g.glob,g.holds,g.ext,g.old,g.kept,g.fix,by simpa [AS.forget] using g.size,fun t x hx=>?_,fun t l hl=>?_,fun t t' l l' hl hl' k1 k2 he=>?_⟩
 ·simp only[AS.forget,List.getElem?_map] at hx
  cases hr:st.regs[t]? with
  | none=>simp[hr] at hx
  | some y=>
   simp only[hr,Option.map_some,aI] at hx
   subst hx
   obtain ⟨v,hv,hy⟩:=g.regs t y hr
   exact⟨v,hv,nU hy⟩
 ·obtain ⟨l0,hl0,rfl⟩:=hbox t l hl
  obtain ⟨h1,h2⟩:=g.box t l0 hl0
  refine⟨fun k=>h1 (hlive t l0 k),?_⟩
  cases hp:bU l0 with
  | true=>
   rw[Own.plain hp] at h2
   obtain ⟨T,vs,e,r⟩:=h2
   exact Own.of (T:=T.1) T.2 e (xM r)
  | false=>rw[qC hp];exact h2
 ·obtain ⟨l0,hl0,rfl⟩:=hbox t l hl
  obtain ⟨l1,hl1,rfl⟩:=hbox t' l' hl'
  exact g.inj t t' l0 l1 hl0 hl1 (hlive t l0 k1) (hlive t' l1 k2) he
mutual
def AV.ren (s t:Nat):AV→AV
 | .box u off=>.box (bif Nat.beq u s then t else u) off
 | .vec u sz lo n=>.vec (bif Nat.beq u s then t else u) sz lo n
 | .elem u sz i off=>.elem (bif Nat.beq u s then t else u) sz i off
 | .agg l=>.agg (AV.pJ s t l)
 | .aN l=>.aN (AV.pJ s t l)
 | .clo f a c=>.clo f (AV.pJ s t a) (AV.pJ s t c)
 | .gate a w b x=>.gate a w b (AV.ren s t x)
 | .any=>.any
 | .d x=>.d x
 | .arr a sz f=>.arr a sz f
 | .tb u off T=>.tb (bif Nat.beq u s then t else u) off T
 | .dead=>.dead
 | .mp a b c=>.mp a b c
 | .jY u=>.jY (bif Nat.beq u s then t else u)
def AV.pJ (s t:Nat):List AV→List AV
 | []=>[]
 | x :: l=>AV.ren s t x :: AV.pJ s t l
end
theorem Gj (s t:Nat):∀l:List AV,(AV.pJ s t l).length=l.length
 | []=>rfl
 | _ :: l=>by simp[AV.pJ,Gj s t l]
theorem Oj (s t:Nat):∀(l:List AV) (i:Nat),(AV.pJ s t l)[i]?=(l[i]?).map (AV.ren s t)
 | [],_=>by simp[AV.pJ]
 | x :: l,i=>by
  cases i with
  | zero=>simp[AV.pJ]
  | succ i=>simpa [AV.pJ] using Oj s t l i
section
variable {β:Nat→Nat} {h:IH} {s t:Nat}
theorem sQ {u:Nat} (hu:u≠t):blk (upd β t (blk β s) (room β s) (many β s)) (bif Nat.beq u s then t else u)=blk β u:=by
 by_cases hs:u=s
 ·subst hs;rw[fP,cond_true,aT]
 ·rw[aQ hs,cond_false,aZ hu]
theorem vH {u:Nat} (hu:u≠t):room (upd β t (blk β s) (room β s) (many β s)) (bif Nat.beq u s then t else u)=room β u:=by
 by_cases hs:u=s
 ·subst hs;rw[fP,cond_true,aH]
 ·rw[aQ hs,cond_false,bI hu]
theorem Hz {u:Nat} (hu:u≠t):many (upd β t (blk β s) (room β s) (many β s)) (bif Nat.beq u s then t else u)=many β u:=by
 by_cases hs:u=s
 ·subst hs;rw[fP,cond_true,bH]
 ·rw[aQ hs,cond_false,iy hu]
end
theorem jL {u t:Nat} (h:(!(Nat.beq u t))=true):u≠t:=by intro e;subst e;simp at h
mutual
theorem AV.JU {β:Nat→Nat} {h:IH} {s t:Nat}:∀(x:AV) (v:Value),x.free t=true→x.rel β h v→(x.ren s t).rel (upd β t (blk β s) (room β s) (many β s)) h v
 | .any,_,_,_=>trivial
 | AV.d _,_,_,e=>e
 | .box u _,_,f,e=>by
  simp only[AV.rel,AV.ren] at e⊢
  rw[sQ (jL f)];exact e
 | .vec u _ _ _,_,f,e=>by
  simp only[AV.rel,AV.ren] at e⊢
  rw[sQ (jL f),vH (jL f),Hz (jL f)];exact e
 | .elem u _ _ _,_,f,e=>by
  simp only[AV.rel,AV.ren] at e⊢
  rw[sQ (jL f),vH (jL f),Hz (jL f)];exact e
 | .agg l,_,f,⟨us,e,r⟩=>⟨us,e,AV.uO l us f r⟩
 | .aN l,_,f,⟨us,e,r⟩=>⟨us,e,AV.uO l us f r⟩
 | .clo _ a c,_,f,⟨ua,uc,e,ra,rc⟩=>by
  simp only[AV.free,aY] at f
  exact⟨ua,uc,e,AV.uO a ua f.1 ra,AV.uO c uc f.2 rc⟩
 | .gate _ _ _ x,v,f,⟨e,e'⟩=>⟨fun hb=>AV.JU x v f (e hb),e'⟩
 | .tb u _ _,_,f,e=>by
  simp only[AV.rel,AV.ren] at e⊢
  rw[sQ (jL f),vH (jL f)];exact e
 | .arr _ _ _,_,_,e=>e.elim
 | .dead,_,_,e=>e.elim
 | .mp _ _ _,_,_,e=>e.elim
 | .jY u,_,f,e=>by
  have hu:=jL f
  simp only[AV.rel,AV.ren] at e⊢
  rw[sQ hu];exact e
theorem AV.uO {β:Nat→Nat} {h:IH} {s t:Nat}:∀(l:List AV) (us:List Value),AV.frees t l=true→AV.aF β h l us→AV.aF (upd β t (blk β s) (room β s) (many β s)) h (AV.pJ s t l) us
 | [],_,_,e=>e
 | y :: l,_,f,⟨v,us',e,r,rs⟩=>by
  simp only[AV.frees,aY] at f
  exact⟨v,us',e,AV.JU y v f.1 r,AV.uO l us' f.2 rs⟩
end
def AS.ren (st:AS) (s t:Nat):AS:=⟨AV.pJ s t st.regs,st.boxes.map fun b=>(bif Nat.beq b.1 s then t else b.1,AV.pJ s t b.2)⟩
theorem A8 {s t:Nat}:∀{b:List (Nat×List AV)},look b t=none→∀(q:Nat) (l:List AV),look (b.map fun b=>(bif Nat.beq b.1 s then t else b.1,AV.pJ s t b.2)) q=some l→∃u l0,look b u=some l0∧u≠t∧l=AV.pJ s t l0∧q=(bif Nat.beq u s then t else u)
 | [],_,_,_,h=>by simp[look] at h
 | (k,c) :: b,hn,q,l,h=>by
  simp only[look] at hn
  have hkt:k≠t:=by intro e;subst e;simp at hn
  rw[aQ hkt,cond_false] at hn
  simp only[List.map_cons,look] at h
  by_cases hq:(bif Nat.beq k s then t else k)=q
  ·rw[hq,fP,cond_true,aI] at h
   exact⟨k,c,by simp[look],hkt,h.symm,hq.symm⟩
  ·rw[aQ hq,cond_false] at h
   obtain ⟨u,l0,h1,h2,h3,h4⟩:=A8 hn q l h
   refine⟨u,l0,?_,h2,h3,h4⟩
   have CU:k≠u:=by intro e;subst e;exact hq h4.symm
   simp only[look,aQ CU,cond_false];exact h1
theorem Iu {s t:Nat} {l:List AV} (h:bU l=false):AV.pJ s t l=l:=by
 rcases dN h with ⟨a,b,c,rfl⟩|rfl|⟨a,b,c,rfl⟩<;>rfl
theorem AS.cO.ren (st:AS) (s t:Nat) (_:s≠t) (hf:st.free t=true) (hn:st.box t=none):st.cO (st.ren s t):=by
 intro G F w0 h0 β h tm w g
 refine⟨upd β t (blk β s) (room β s) (many β s),g.glob,g.holds,g.ext,g.old,g.kept,g.W9 hf,by simpa [AS.ren,Gj] using g.size,fun q x hx=>?_,fun q l hl=>?_,fun q q' l l' hl hl' k1 k2 he=>?_⟩
 ·simp only[AS.ren,Oj] at hx
  cases hr:st.regs[q]? with
  | none=>simp[hr] at hx
  | some y=>
   simp only[hr,Option.map_some,aI] at hx
   subst hx
   obtain ⟨v,hv,hy⟩:=g.regs q y hr
   exact⟨v,hv,AV.JU y v (BG hf hr) hy⟩
 all_goals
  have hlive:∀u l,u≠t→Live (upd β t (blk β s) (room β s) (many β s)) (bif Nat.beq u s then t else u) (AV.pJ s t l)→Live β u l:=by
   intro u l hu hl
   cases hp:bU l with
   | true=>exact Live.plain hp
   | false=>
    rw[Iu hp] at hl
    rcases dN hp with ⟨a,b,c,rfl⟩|rfl|⟨a,b,c,rfl⟩
    ·simp only[Live,vH hu] at hl⊢;exact hl
    ·exact hl
    ·trivial
 ·obtain ⟨u,l0,h1,h2,rfl,rfl⟩:=A8 hn q l hl
  obtain ⟨a1,a2⟩:=g.box u l0 h1
  rw[sQ h2]
  refine⟨fun k=>a1 (hlive u l0 h2 k),?_⟩
  cases hp:bU l0 with
  | true=>
   rw[Own.plain hp] at a2
   obtain ⟨T,us,e,r⟩:=a2
   exact Own.of (T:=T.1) (T.2.trans (vH h2).symm) e (AV.uO _ _ (AX hf h1) r)
  | false=>
   rw[Iu hp]
   rcases dN hp with ⟨a,b,c,rfl⟩|rfl|⟨a,b,c,rfl⟩
   ·simp only[Own,vH h2,Hz h2] at a2⊢;exact a2
   ·trivial
   ·exact a2
 ·obtain ⟨u,l0,h1,h2,rfl,rfl⟩:=A8 hn q l hl
  obtain ⟨u',l1,h1',h2',rfl,rfl⟩:=A8 hn q' l' hl'
  rw[sQ h2,sQ h2'] at he
  rw[g.inj u u' l0 l1 h1 h1' (hlive u l0 h2 k1) (hlive u' l1 h2' k2) he]
def AS.move (st:AS) (s t:Nat):AS:=(st.forget t).ren s t
theorem AS.cO.move (st:AS) (s t:Nat) (hst:s≠t) (ht:t<K0):st.cO (st.move s t):=by
 refine(AS.cO.forget st t).trans (AS.cO.ren _ s t hst ?_ ?_)
 ·simp only[AS.free,AS.forget,aY,List.all_map,List.all_eq_true]
  have hl:∀l:List AV,AV.frees t (l.map (fU t))=true:=by
   intro l
   induction l with
   | nil=>rfl
   | cons x l ih=>simp[AV.frees,OV,ih]
  exact⟨by rw[Nat.blt_eq];exact ht,hl _,fun b _=>hl _⟩
 ·simp[AS.box,AS.forget,rO]
def AS.moves (st:AS):List (Nat×Nat)→AS
 | []=>st
 | (s,t) :: r=>(st.move s t).moves r
theorem AS.cO.moves:∀(r:List (Nat×Nat)) (st:AS),(r.all fun p=>!(Nat.beq p.1 p.2)&&Nat.blt p.2 K0)=true→st.cO (st.moves r)
 | [],st,_=>fun _ _ _ _ β _ _ _ g=>⟨β,g⟩
 | (s,t) :: r,st,h=>by
  simp only[List.all_cons,aY,Nat.blt_eq] at h
  exact(AS.cO.move st s t (jL h.1.1) h.1.2).trans (AS.cO.moves r _ h.2)
def AS.nilRow (st:AS) (i s sz:Nat) (agg:RK) (f:Nat→DV):AS:=⟨st.regs.set i (.vec s sz 0 0),(s,[.arr agg sz f]) :: st.boxes⟩
def isNil (x:AV):Bool:=match x with | .d (.con (.slice none 0 0))=>true|_=>false
theorem AS.cO.nilRow (st:AS) (i s sz:Nat) (agg:RK) (f:Nat→DV) (hn:(isNil (st.reg i)&&agg.mn.isNone)=true) (hf:st.free s=true):st.cO (st.nilRow i s sz agg f):=by
 simp only[aY,Option.isNone_iff_eq_none] at hn
 obtain ⟨hn,hmn⟩:=hn
 intro G F w0 h0 β h tm w g
 have g1:=g.adopt (d:=s) (b:=0) (c:=0) (m:=0) (l:=[.arr agg sz f]) hf (by simp only[Own,aH,bH];exact⟨⟨Nat.le_refl _,by rw[hmn];exact fun _ h=>by cases h⟩,.inl rfl⟩) (fun hl=>by simp only[Live,aH] at hl;omega)
 refine⟨_,g1.glob,g1.holds,g1.ext,g1.old,g1.kept,g1.fix,by simpa [AS.nilRow] using g1.size,fun t x hx=>?_,g1.box,g1.inj⟩
 simp only[AS.nilRow] at hx
 by_cases ht:i=t
 ·subst ht
  have hlt:i<st.regs.length:=by
   have:=(List.getElem?_eq_some_iff.1 hx).1
   simpa using this
  rw[List.getElem?_set_self hlt,aI] at hx
  subst hx
  obtain ⟨v,hv,hr⟩:=g.regs i st.regs[i] (by simp[hlt])
  refine⟨v,hv,?_⟩
  have:st.reg i=st.regs[i]:=by simp[AS.reg,hlt]
  rw[this] at hn
  unfold isNil at hn
  split at hn
  ·rename_i he
   rw[he] at hr
   simp only[AV.rel,DV.rel] at hr
   subst hr
   simp only[AV.rel,aH,bH]
   exact⟨Nat.le_refl _,Nat.le_refl _,none,rfl,.inr (Nat.zero_le _)⟩
  ·cases hn
 ·rw[List.getElem?_set_ne ht] at hx
  exact g1.regs t x hx
def AS.Aq (st:AS) (b i s sz:Nat) (k:RK) (f:Nat→DV):AS:=⟨st.regs,(s,[.arr k sz f]) :: setCells b i (.vec s sz 0 0) st.boxes⟩
def XJ (st:AS) (b i s sz:Nat) (k:RK):Bool:=match st.box b with
 | some l=>match l[i]? with|some x=>k.mn.isNone&&isNil x&&(bU l&&(bU (l.set i (.vec s sz 0 0))&&!(Nat.beq b s)))|none=>false
 | none=>false
theorem AS.cO.Aq (st:AS) (b i s sz:Nat) (k:RK) (f:Nat→DV) (hn:XJ st b i s sz k=true) (hf:st.free s=true):st.cO (st.Aq b i s sz k f):=by
 unfold XJ at hn
 split at hn
 case h_2=>cases hn
 rename_i l hb
 split at hn
 case h_2=>cases hn
 rename_i x hx
 simp only[aY,Bool.not_eq_true'] at hn
 simp only[Option.isNone_iff_eq_none] at hn
 obtain ⟨⟨hmn,hnil⟩,hpl,hps,hbs⟩:=hn
 have hne:s≠b:=by
  rintro rfl
  simp at hbs
 intro G F w0 h0 β h tm w g
 have g1:=g.adopt (d:=s) (b:=0) (c:=0) (m:=0) (l:=[.arr k sz f]) hf (by simp only[Own,aH,bH];exact⟨⟨Nat.le_refl _,by rw[hmn];exact fun _ h=>by cases h⟩,.inl rfl⟩) (fun hl=>by simp only[Live,aH] at hl;omega)
 have hb1:look ((s,[AV.arr k sz f]) :: st.boxes) b=some l:=by
  simp only[look]
  rw[aQ hne,cond_false];exact hb
 obtain ⟨p1,p2⟩:=g1.box b l hb1
 rw[Own.plain hpl] at p2
 obtain ⟨T,vs,e1,e2⟩:=p2
 obtain ⟨v,hv,hr⟩:=e2.get hx
 have hv2:v=.slice none 0 0:=by
  unfold isNil at hnil
  split at hnil
  ·simp only[AV.rel,DV.rel] at hr;exact hr
  ·cases hnil
 subst hv2
 have lC:(AV.vec s sz 0 0).rel (upd β s 0 0 0) h (.slice none 0 0):=by
  simp only[AV.rel,aH,bH]
  exact⟨Nat.le_refl _,Nat.le_refl _,none,rfl,.inr (Nat.zero_le _)⟩
 have hset:AV.aF (upd β s 0 0 0) h (l.set i (.vec s sz 0 0)) vs:=by
  have h1:=Ba (i:=i) e2 lC
  have h2:vs.set i (.slice none 0 0)=vs:=by
   obtain ⟨h3,h4⟩:=List.getElem?_eq_some_iff.1 hv
   rw[←h4,List.set_getElem_self]
  rwa [h2] at h1
 have key:∀t m,look ((s,[AV.arr k sz f]) :: setCells b i (.vec s sz 0 0) st.boxes) t=some m→(t=b∧m=l.set i (.vec s sz 0 0))∨(t≠b∧look ((s,[AV.arr k sz f]) :: st.boxes) t=some m):=by
  intro t m hm
  by_cases hts:s=t
  ·subst hts
   simp only[look,fP,cond_true] at hm⊢
   exact .inr ⟨hne,hm⟩
  ·simp only[look] at hm⊢
   rw[aQ hts,cond_false] at hm⊢
   exact eG hb t m hm
 refine⟨_,g1.glob,g1.holds,g1.ext,g1.old,g1.kept,g1.fix,g1.size,g1.regs,fun t m hm=>?_,fun t t' m m' hm hm' hl hl' he=>?_⟩
 ·rcases key t m hm with ⟨rfl,rfl⟩|⟨_,hm⟩
  ·exact⟨fun _=>p1 (Live.plain hpl),Own.of T.2 e1 hset⟩
  ·exact g1.box t m hm
 ·have conv:∀t m,look ((s,[AV.arr k sz f]) :: setCells b i (.vec s sz 0 0) st.boxes) t=some m→Live (upd β s 0 0 0) t m→∃m2,look ((s,[AV.arr k sz f]) :: st.boxes) t=some m2∧Live (upd β s 0 0 0) t m2:=by
   intro t m hm hl
   rcases key t m hm with ⟨rfl,rfl⟩|⟨_,hm⟩
   ·exact⟨l,hb1,Live.plain hpl⟩
   ·exact⟨m,hm,hl⟩
  obtain ⟨m1,a1,a2⟩:=conv t m hm hl
  obtain ⟨m2,b1,b2⟩:=conv t' m' hm' hl'
  exact g1.inj t t' m1 m2 a1 b1 a2 b2 he
def known:List (Nat×AV)→Nat→AV
 | [],_=>.any
 | (k,x) :: r,i=>bif Nat.beq k i then x else known r i
def regs (n:Nat) (l:List (Nat×AV)):List AV:=(List.range n).map (known l)
def Sl (P:Program) (G:IH) (k:List It) (Q:Exit→AS→Prop):Exit→AS→Prop
 | .exit id,st=>match wX id k with|some k'=>aX P G k' st Q|none=>Q (.exit id) st
 | .goto _,_=>False
 | e,st=>Q e st
theorem Yw {k:List It} {F:Fr} {w0:World} {h0:IH} {e:Exit} {a:Act} {w:World} (he:e≠.normal) (h:Ends G F w0 h0 (Sl P G k Q) e a w):wpS P k (Ends G F w0 h0 Q) e a w:=by
 obtain ⟨st,β,h1,hq,g,hd⟩:=h
 cases e with
 | normal=>exact absurd rfl he
 | exit id=>
  refine nV ?_
  simp only[Sl] at hq
  split at hq
  ·exact hq F w0 h0 β h1 a w g hd
  ·exact⟨st,β,h1,hq,g,hd⟩
 | goto l=>exact hq.elim
 | _=>exact FB ⟨by simp,by simp,by simp⟩ ⟨st,β,h1,hq,g,hd⟩
theorem qJ {p:Nat→Prop} (h:∃n,p n):∃n,p n∧∀m,p m→n≤m:=by
 obtain ⟨n,hn⟩:=h
 induction n using Nat.strongRecOn with
 | _ n ih=>
  by_cases hm:∃m,m<n∧p m
  ·obtain ⟨m,hlt,hp⟩:=hm;exact ih m hlt hp
  ·exact⟨n,hn,fun m hp=>Nat.le_of_not_lt fun hlt=>hm ⟨m,hlt,hp⟩⟩
def Again {σ:Type} (S:σ→AS) (I:σ→Prop) (μ:σ→Nat) (x:σ) (st':AS):Prop:=∃x',st'.cO (S x')∧I x'∧μ x' < μ x
theorem Again.mk {σ:Type} {S:σ→AS} {I:σ→Prop} {μ:σ→Nat} {x:σ} {st':AS} (x':σ) (h:st'.le (S x')) (hI:I x') (hμ:μ x' < μ x):Again S I μ x st':=⟨x',.of_le h,hI,hμ⟩
theorem Again.X4 {σ:Type} {S:σ→AS} {I:σ→Prop} {μ:σ→Nat} {x:σ} {st':AS} (r:List (Nat×Nat)) (hr:(r.all fun p=>!(Nat.beq p.1 p.2)&&Nat.blt p.2 K0)=true) (x':σ) (h:(st'.moves r).le (S x')) (hI:I x') (hμ:μ x' < μ x):Again S I μ x st':=⟨x',(AS.cO.moves r st' hr).trans (.of_le h),hI,hμ⟩
def yg {σ:Type} (P:Program) (G:IH) (k:List It) (Q:Exit→AS→Prop) (S:σ→AS) (I:σ→Prop) (μ:σ→Nat) (x:σ) (e:Exit) (st':AS):Prop:=
 match e with | .normal=>Again S I μ x st' | e=>Sl P G k Q e st'
theorem aX.loop {σ:Type} {cd c:Code} {k:List It} {st:AS} (hc:cd=.loop c) (S:σ→AS) (I:σ→Prop) (μ:σ→Nat) (x0:σ) (hst:st.le (S x0)) (hI:I x0)
  (round:∀x,I x→aX P G [.code c] (S x) (yg P G k Q S I μ x)):aX P G (.code cd :: k) st Q:=by
 subst hc
 intro F w0 h0 β h a w g hd
 classical
 let inv:Act→World→Prop:=fun a w=>∃x β h,I x∧aO G F w0 h0 (S x) β h a.tmps w∧a.defers=[]
 let m:Act→World→Nat:=fun a w=>if hn:∃n,∃x β h,I x∧aO G F w0 h0 (S x) β h a.tmps w∧a.defers=[]∧μ x=n then Classical.choose (qJ hn) else 0
 refine wp_loop inv m ⟨x0,β,h,hI,g.weaken hst,hd⟩ fun a w hinv=>?_
 have hn:∃n,∃x β h,I x∧aO G F w0 h0 (S x) β h a.tmps w∧a.defers=[]∧μ x=n:=let ⟨x,β,h,hx,g,hd⟩:=hinv;⟨_,x,β,h,hx,g,hd,rfl⟩
 obtain ⟨x,β,h,hx,g,hd,hμ⟩:=(Classical.choose_spec (qJ hn)).1
 have hma:m a w=μ x:=by simp only[m,dif_pos hn];exact hμ.symm
 refine kQ (round x hx F w0 h0 β h a w g hd) fun e a' w' he=>?_
 by_cases hen:e=.normal
 ·subst hen
  obtain ⟨st',β',h',⟨x',hle,hI',hlt⟩,g',hd'⟩:=he
  obtain ⟨β'',g''⟩:=hle G F w0 h0 β' h' a'.tmps w' g'
  refine⟨⟨x',β'',h',hI',g'',hd'⟩,?_⟩
  have hn':∃n,∃x β h,I x∧aO G F w0 h0 (S x) β h a'.tmps w'∧a'.defers=[]∧μ x=n:=⟨_,x',β'',h',hI',g'',hd',rfl⟩
  have:m a' w'≤μ x':=by simp only[m,dif_pos hn'];exact(Classical.choose_spec (qJ hn')).2 _ ⟨x',β'',h',hI',g'',hd',rfl⟩
  omega
 ·have he':Ends G F w0 h0 (Sl P G k Q) e a' w':=by
   obtain ⟨st',β',h',hq,g',hd'⟩:=he
   refine⟨st',β',h',?_,g',hd'⟩
   cases e<;>first|exact hq|exact absurd rfl hen
  have:=Yw hen he'
  cases e<;>first|exact this|exact absurd rfl hen
end
end Go.Ab
namespace Go.Ab
open Go Go.RowKit
def uy (f:AV→Option DV):List AV→Option (List DV)
 | []=>some []
 | x :: l=>match f x,uy f l with|some y,some m=>some (y :: m)|_,_=>none
def pF:Nat→List (Nat×List AV)→AV→Option DV
 | 0,_,_=>none
 | n+1,b,x=>match x with
  | .d y=>some y
  | .box s off=>match look b s with
   | some l=>match bU l,uy (pF n b) (l.drop off) with|true,some m=>some (.ptr m)|_,_=>none
   | none=>none
  | .vec s sz lo k=>match look b s with
   | some [.arr _ sz' f]=>match Nat.beq sz sz' with|true=>some (.slc sz k fun i=>f (lo+i))|false=>none
   | _=>none
  | .jY s=>match look b s with|some [.mp kd f has]=>some (.mp kd f has)|_=>none
  | .agg l=>match uy (pF n b) l with|some m=>some (.agg m)|none=>none
  | .aN l=>match uy (pF n b) l with|some m=>some (.aN m)|none=>none
  | .clo f a c=>match uy (pF n b) a,uy (pF n b) c with|some x,some y=>some (.clo f x y)|_,_=>none
  | _=>none
theorem qG {f:AV→Option DV} {β:Nat→Nat} {h k:IH} (hf:∀(x:AV) (y:DV) (v:Value),f x=some y→x.rel β h v→y.rel k v):∀{l:List AV} {m:List DV} {vs:List Value},uy f l=some m→AV.aF β h l vs→DV.aF k m vs
 | [],m,vs,ho,hr=>by simp only[uy,aI] at ho;subst ho;exact hr
 | x :: l,m,vs,ho,⟨v,vs',e,hx,hr⟩=>by
  simp only[uy] at ho
  split at ho
  ·rename_i y m' hy hm
   simp only[aI] at ho;subst ho
   exact⟨v,vs',e,hf x y v hy hx,qG hf hm hr⟩
  ·cases ho
theorem zT {β:Nat→Nat} {h k:IH} (hk:h.le k) {b:List (Nat×List AV)} (hb:∀s l,look b s=some l→bU l=true→∃vs,AV.aF β h l vs∧∀i,i<vs.length→k.cell (blk β s) i=vs[i]?)
  (hv:∀s agg sz f,look b s=some [.arr agg sz f]→many β s≤room β s∧(0<room β s→∀i,i<many β s→∃v,(f i).rel h v∧v.cells.size=sz∧∀j,j<sz→k.cell (blk β s) (i*sz+j)=v.cells[j]?))
  (hm:∀s kd f has,look b s=some [.mp kd f has]→∃es c,k.obj (blk β s)=some (.map es c)∧qN h kd f has (some (.map es c))) :
  ∀(n:Nat) (x:AV) (y:DV) (v:Value),pF n b x=some y→x.rel β h v→y.rel k v
 | 0,_,_,_,hc,_=>by simp[pF] at hc
 | n+1,x,y,v,hc,hr=>by
  have ih:=zT hk hb hv hm n
  simp only[pF] at hc
  split at hc
  ·simp only[aI] at hc;subst hc;exact DV.rel.mono hk _ _ hr
  ·rename_i s off
   split at hc
   ·rename_i l hl
    split at hc
    ·rename_i m hpl hm
     simp only[aI] at hc;subst hc
     obtain ⟨vs,hvs,hcell⟩:=hb s l hl hpl
     refine⟨blk β s,off,hr,vs.drop off,qG ih hm (hvs.drop off),fun i hi=>?_⟩
     simp only[List.length_drop] at hi
     rw[hcell _ (by omega)];simp
    ·cases hc
   ·cases hc
  ·rename_i s sz lo kk
   split at hc
   ·rename_i agg sz' f hl
    split at hc
    ·rename_i hs
     simp only[Nat.beq_eq] at hs;subst hs
     simp only[aI] at hc;subst hc
     obtain ⟨h1,h2,h3⟩:=hr
     obtain ⟨_,h4⟩:=hv s agg sz f hl
     obtain ⟨p,rfl,hp⟩:=h3
     refine⟨p,room β s-lo,rfl,by omega,?_⟩
     rcases hp with rfl|hp
     ·by_cases hz:kk=0
      ·exact .inl hz
      ·refine .inr ⟨blk β s,lo*sz,rfl,fun i hi=>?_⟩
       obtain ⟨v,hv1,hv2,hv3⟩:=h4 (by omega) (lo+i) (by omega)
       refine⟨v,DV.rel.mono hk _ _ hv1,hv2,fun j hj=>?_⟩
       rw[←hv3 j hj,Nat.add_mul]
     ·exact .inl (by omega)
    ·cases hc
   ·cases hc
  ·rename_i s
   split at hc
   ·rename_i kd f has hl
    simp only[aI] at hc;subst hc
    obtain ⟨es,c,q1,es',c',e,q2,q3,q4⟩:=hm s kd f has hl
    simp only[aI,Obj.map.injEq] at e
    obtain ⟨rfl,rfl⟩:=e
    exact⟨_,_,_,hr,q1,fun e he=>⟨(q3 e he).1,(q3 e he).2.1,DV.rel.mono hk _ _ (q3 e he).2.2⟩,q4⟩
   ·cases hc
  ·split at hc
   ·rename_i m hm
    simp only[aI] at hc;subst hc
    obtain ⟨vs,e,hvs⟩:=hr
    exact⟨vs,e,qG ih hm hvs⟩
   ·cases hc
  ·split at hc
   ·rename_i m hm
    simp only[aI] at hc;subst hc
    obtain ⟨vs,e,hvs⟩:=hr
    exact⟨vs,e,qG ih hm hvs⟩
   ·cases hc
  ·split at hc
   ·rename_i x' y' hx hy
    simp only[aI] at hc;subst hc
    obtain ⟨va,vc,e,ha,hcc⟩:=hr
    exact⟨va,vc,e,qG ih hx ha,qG ih hy hcc⟩
   ·cases hc
  ·cases hc
def Oq (P:Program) (st:AS):ResultVar→Option AV
 | .tmp t=>some (st.reg t)
 | .cell a T=>match oQ P T,sizeT P T,st.reg a with
  | true,some n,.box s off=>match st.box s with
   | some l=>match Nat.beq ((l.drop off).take n).length n&&bU l with
    | true=>oh (dH P T) ((l.drop off).take n)
    | false=>none
   | none=>none
  | _,_,_=>none
def iM (P:Program) (st:AS):List ResultVar→Option (List AV)
 | []=>some []
 | r :: rs=>match Oq P st r,iM P st rs with|some x,some l=>some (x :: l)|_,_=>none
def Ua (P:Program) (rs:List ResultVar) (st:AS):Option DV:=
 match iM P st rs with
 | some [x]=>pF 8 st.boxes x
 | some l=>pF 9 st.boxes (.aN l)
 | none=>none
section
variable {P:Program} {G:IH}
theorem rE {F:Fr} {w0:World} {h0:IH} {st:AS} {β:Nat→Nat} {h:IH} {tm:Array Value} {w:World} (g:aO G F w0 h0 st β h tm w):∀{rs:List ResultVar} {l:List AV},iM P st rs=some l→
  ∃vs:List Value,(rs.mapM fun | .tmp t=>pure (tm.getD t undef) | .cell a t=>do loadVar t (←asAddr (tm.getD a undef)):Sem (List Value)).run P w=.ok vs w∧AV.aF β h l vs
 | [],l,hl=>by simp only[iM,aI] at hl;subst hl;exact⟨[],by simp,rfl⟩
 | r :: rs,l,hl=>by
  simp only[iM] at hl
  split at hl
  ·rename_i x l' hx hl'
   simp only[aI] at hl;subst hl
   obtain ⟨vs,hrun,hr⟩:=rE g hl'
   have uh:∀t,(st.reg t).rel β h (tm.getD t undef):=fun t=>g.ev (a:=⟨tm,[]⟩) (.tmp t)
   cases r with
   | tmp t=>
    simp only[Oq,aI] at hx;subst hx
    refine⟨tm.getD t undef :: vs,?_,⟨_,_,rfl,uh t,hr⟩⟩
    simp only[List.mapM_cons,Sem.run_bind,Sem.run_pure,Result.andThen_ok]
    rw[hrun];rfl
   | cell a T=>
    simp only[Oq] at hx
    split at hx
    ·rename_i n s off hu hz hs
     split at hx
     ·rename_i lb hb
      split at hx
      ·rename_i hn
       simp only[aY,Nat.beq_eq] at hn
       obtain ⟨hn,hpl⟩:=hn
       obtain ⟨us,hus,hcell⟩:=g.cells hb hpl off n
       obtain ⟨v,hv,lC⟩:=lS hu hz hn hus hcell hx
       have ha:=uh a
       rw[hs] at ha
       simp only[AV.rel] at ha
       have aed:(asAddr (tm.getD a undef)).run P w=.ok ⟨blk β s,off,none⟩ w:=by rw[ha];rfl
       refine⟨v :: vs,?_,⟨_,_,rfl,lC,hr⟩⟩
       simp only[List.mapM_cons,Sem.run_bind,Sem.run_pure,Result.andThen_ok,aed,hv]
       rw[hrun];rfl
      ·cases hx
     ·cases hx
    ·cases hx
  ·cases hl
def entry (args:List DV) (n:Nat):AS:=⟨args.map .d++List.replicate (n-args.length) .any,[]⟩
def vP:Exit→Bool
 | .normal | .ret=>true
 | _=>false
def JK (P:Program) (fn:Func) (r:DV) (e:Exit) (st:AS):Prop:=match vP e,Ua P fn.results.toList st with|true,some d=>d=r|_,_=>False
theorem Wq {P:Program} {fn:Func} {r:DV} {e:Exit} {st:AS} (h:JK P fn r e st):vP e=true∧Ua P fn.results.toList st=some r:=by
 unfold JK at h
 split at h
 ·rename_i h1 h2;exact⟨h1,by rw[h2,h]⟩
 ·exact h.elim
def aU:Code→List Nat→Code
 | c,[]=>c
 | .seq a b,i :: r=>match i with|0=>aU a r|_=>aU b r
 | .cond _ a b,i :: r=>match i with|0=>aU a r|_=>aU b r
 | .block _ c,_ :: r=>aU c r
 | .loop c,_ :: r=>aU c r
 | .scope c,_ :: r=>aU c r
 | c,_=>c
def au (fn:Func):Code:=match fn.body with|some c=>c|none=>.skip
theorem aA.dA {f:FuncId} {fn:Func} {args:List DV} {r:DV} (hf:P.funcs[f]?=some fn) (hb:fn.body.isSome=true) (hcall:∀(vs:Array Value) (w:World),(callFunc f vs).run P w=.ok (.enter f vs) w)
  (h:aX P G [.code (au fn)] (entry args fn.ntmps) (JK P fn r)):aA P G f args r:=by
 have hb':fn.body=some (au fn):=by
  unfold au
  cases hh:fn.body with
  | none=>simp[hh] at hb
  | some c=>rfl
 refine⟨hcall,fun w h0 vs hG hw hvs=>calls_of_wp hf hb' ?_⟩
 have hvl:=hvs.length
 have g0:aO G ⟨fun _=>False,fun _=>0⟩ w h0 (entry args fn.ntmps) (fun _=>0) h0 (vs.toArray++Array.replicate (fn.ntmps-vs.toArray.size) undef) w:=by
  refine⟨hG,hw,IH.le.refl _,fun _ _ _=>⟨fun _=>rfl,rfl⟩,Kept.refl _ _,fun _ _=>⟨rfl,rfl,rfl⟩,by simp[entry,hvl],fun t x hx=>?_,fun s l hb=>by simp[entry,AS.box,look] at hb,fun s s' l l' hb=>by simp[entry,AS.box,look] at hb⟩
  simp only[entry,List.getElem?_append,List.length_map] at hx
  split at hx
  ·rename_i ht
   obtain ⟨v,hv,hr⟩:=((AV.gZ (β:=fun _=>0)).2 hvs).get hx
   exact⟨v,by rw[Array.getElem?_append_left (by simpa [hvl] using ht)];simpa using hv,hr⟩
  ·rename_i ht
   rw[List.getElem?_replicate] at hx
   split at hx
   ·rename_i ht'
    simp only[aI] at hx;subst hx
    exact⟨undef,by rw[Array.getElem?_append_right (by simp[hvl];omega)];simp[hvl,ht'],trivial⟩
   ·cases hx
 have:=h ⟨fun _=>False,fun _=>0⟩ w h0 (fun _=>0) h0 ⟨_,[]⟩ w g0 rfl
 refine kQ this fun e a w' he=>?_
 obtain ⟨st,β,h',hret,g,hd⟩:=he
 obtain ⟨he',hr⟩:=Wq hret
 -- the walk's own blocks,given away
 classical
 let k:IH:=⟨fun b o=>if ∃s l,st.box s=some l∧Live β s l∧blk β s=b then w'.cell? ⟨b,o,none⟩ else h'.cell b o,fun b=>if ∃s l,st.box s=some l∧Live β s l∧blk β s=b then w'.heap[b]? else h'.obj b⟩
 have hk:h'.le k:=by
  refine⟨fun b o v e=>?_,fun b o e=>?_⟩
  ·simp only[k]
   split
   ·exact g.holds.1 b o v e
   ·exact e
  ·simp only[k]
   split
   ·exact g.holds.2 b o e
   ·exact e
 have hkh:k.holds w':=by
  refine⟨fun b o v e=>?_,fun b o e=>?_⟩
  ·simp only[k] at e
   split at e
   ·exact e
   ·exact g.holds.1 b o v e
  ·simp only[k] at e
   split at e
   ·exact e
   ·exact g.holds.2 b o e
 have hold:∀b,b<w.heap.size→(∀o,k.cell b o=h0.cell b o)∧k.obj b=h0.obj b:=by
  intro b hb
  have h1:=g.old b hb id
  have hno:¬∃s l,st.box s=some l∧Live β s l∧blk β s=b:=by
   rintro ⟨s,l,hbx,hl,rfl⟩
   obtain ⟨h2,_⟩:=(g.box s l hbx).1 hl
   rcases h2 with h2|h2
   ·exact h2
   ·omega
  refine⟨fun o=>?_,?_⟩
  ·simp only[k]
   rw[if_neg hno]
   exact h1.1 o
  ·simp only[k]
   rw[if_neg hno]
   exact h1.2
 have hbox:∀s l,look st.boxes s=some l→bU l=true→∃vs,AV.aF β h' l vs∧∀i,i<vs.length→k.cell (blk β s) i=vs[i]?:=by
  intro s l hbx hpl
  obtain ⟨_,_,_,T,vs,hh,hrs⟩:=g.zJ hbx hpl
  refine⟨vs,hrs,fun i hi=>?_⟩
  simp only[k]
  rw[if_pos ⟨s,l,hbx,Live.plain hpl,rfl⟩]
  simp[World.cell?,hh]
 have hrow:∀s agg sz f,look st.boxes s=some [.arr agg sz f]→many β s≤room β s∧(0<room β s→∀i,i<many β s→∃v,(f i).rel h' v∧v.cells.size=sz∧∀j,j<sz→k.cell (blk β s) (i*sz+j)=v.cells[j]?):=by
  intro s agg sz f hbx
  obtain ⟨h1,h2⟩:=(g.box s _ hbx).2
  refine⟨h1.1,fun hpos i hi=>?_⟩
  rcases h2 with h2|⟨fr,vs,hh,hfr,hl,ho,hel⟩
  ·omega
  ·obtain ⟨v,a1,_,a2,a3⟩:=hel i hi
   refine⟨v,a1,a2,fun j hj=>?_⟩
   rw[←a3 j hj]
   simp only[k]
   rw[if_pos ⟨s,_,hbx,hpos,rfl⟩]
   simp[World.cell?,hh]
 have hmap:∀s kd f has,look st.boxes s=some [.mp kd f has]→∃es c,k.obj (blk β s)=some (.map es c)∧qN h' kd f has (some (.map es c)):=by
  intro s kd f has hbx
  have hO:=(g.box s _ hbx).2
  obtain ⟨es,c,hh,_⟩:=id hO
  refine⟨es,c,?_,by rw[←hh];exact hO⟩
  simp only[k]
  rw[if_pos ⟨s,_,hbx,trivial,rfl⟩,hh]
 have hpost:∃v,(results fn a.tmps).run P w'=.ok v w'∧DV.rel k r v:=by
  simp only[Ua] at hr
  have hres:∀l,iM P st fn.results.toList=some l→∃vs:List Value,(results fn a.tmps).run P w'=.ok (if h:vs.toArray.size=1 then vs.toArray[0] else .tuple vs.toArray) w'∧AV.aF β h' l vs:=by
   intro l hl
   obtain ⟨vs,hrun,hrs⟩:=rE (P:=P) g hl
   refine⟨vs,?_,hrs⟩
   simp only[results,Sem.run_bind]
   rw[Array.mapM_eq_mapM_toList,Sem.run_map]
   erw [hrun]
   rfl
  split at hr
  ·rename_i x hl
   obtain ⟨vs,hrun,hrs⟩:=hres _ hl
   obtain ⟨v,vs',e,hx,hrest⟩:=hrs
   simp only[AV.aF] at hrest
   subst hrest;subst e
   exact⟨v,by rw[hrun];simp,zT hk hbox hrow hmap _ _ _ _ hr hx⟩
  ·rename_i l hne hl
   obtain ⟨vs,hrun,hrs⟩:=hres _ hl
   refine⟨.tuple vs.toArray,?_,zT hk hbox hrow hmap 9 (.aN l) r _ hr ⟨vs,rfl,hrs⟩⟩
   rw[hrun]
   have:vs.length≠1:=by
    rw[hrs.length]
    intro h1
    match l,h1 with
    | [x],_=>exact hne x rfl
   simp[this]
  ·cases hr
 obtain ⟨v,hrun,hv⟩:=hpost
 cases e<;>first
  | exact⟨hd,v,hrun,v,k,rfl,hv,g.ext.trans hk,hkh,g.kept.mono fun _ h=>h,hold⟩
  | (simp[vP] at he')
end
def uz (args:List AV) (pre:List (Nat×List AV)) (n:Nat):AS:=⟨args++List.replicate (n-args.length) .any,pre⟩
def Xx (P:Program) (rs:List ResultVar) (st:AS):Option AV:=match iM P st rs with
 | some [x]=>some x
 | some l=>some (SA l)
 | none=>none
def DJ (P:Program) (fn:Func) (mv:List (Nat×Nat)) (r:AV) (post:List (Nat×List AV)) (e:Exit) (st:AS):Prop:=
 match vP e,Xx P fn.results.toList (st.moves mv) with|true,some x=>x=r∧xH (st.moves mv).boxes post|_,_=>False
theorem VU {P:Program} {fn:Func} {mv:List (Nat×Nat)} {r:AV} {post:List (Nat×List AV)} {e:Exit} {st:AS} (h:DJ P fn mv r post e st):vP e=true∧Xx P fn.results.toList (st.moves mv)=some r∧xH (st.moves mv).boxes post:=by
 unfold DJ at h
 split at h
 ·rename_i h1 h2;exact⟨h1,by rw[h2,h.1],h.2⟩
 ·exact h.elim
theorem dD.dA {P:Program} {G:IH} {f:FuncId} {fn:Func} {args:List AV} {pre post:List (Nat×List AV)} {r:AV} {mv:List (Nat×Nat)} (hmv:(mv.all fun p=>!(Nat.beq p.1 p.2)&&Nat.blt p.2 K0)=true) (hf:P.funcs[f]?=some fn) (hb:fn.body.isSome=true)
  (hcall:∀(us:Array Value) (w:World),(callFunc f us).run P w=.ok (.enter f us) w) (h:aX P G [.code (au fn)] (uz args pre fn.ntmps) (DJ P fn mv r post)):dD P G f args pre r post:=by
 have hb':fn.body=some (au fn):=by
  unfold au
  cases hh:fn.body with
  | none=>simp[hh] at hb
  | some c=>rfl
 refine⟨hcall,fun F w h0 β us g=>calls_of_wp hf hb' ?_⟩
 have g0:aO G F w h0 (uz args pre fn.ntmps) β h0 (us++Array.replicate (fn.ntmps-us.size) undef) w:=by
  refine⟨g.glob,g.holds,g.ext,g.old,g.kept,g.fix,?_,fun t x hx=>?_,g.box,g.inj⟩
  ·have:=g.size
   simp[uz,this]
  ·simp only[uz,List.getElem?_append] at hx
   have hs:us.size=args.length:=g.size
   split at hx
   ·rename_i ht
    obtain ⟨v,hv,hr⟩:=g.regs t x hx
    exact⟨v,by rw[Array.getElem?_append_left (by omega)];exact hv,hr⟩
   ·rename_i ht
    rw[List.getElem?_replicate] at hx
    split at hx
    ·rename_i ht'
     simp only[aI] at hx;subst hx
     exact⟨undef,by rw[Array.getElem?_append_right (by omega),Array.getElem?_replicate,if_pos (by omega)],trivial⟩
    ·cases hx
 have:=h F w h0 β h0 ⟨_,[]⟩ w g0 rfl
 refine kQ this fun e a w' he=>?_
 obtain ⟨st,β',h',hret,g1,hd⟩:=he
 obtain ⟨he',hr,hle⟩:=VU hret
 obtain ⟨β2,g2⟩:=AS.cO.moves mv st hmv G F w h0 β' h' a.tmps w' g1
 have hpost:∃v,(results fn a.tmps).run P w'=.ok v w'∧r.rel β2 h' v:=by
  unfold Xx at hr
  have hres:∀l,iM P (st.moves mv) fn.results.toList=some l→∃us:List Value,(results fn a.tmps).run P w'=.ok (if h:us.toArray.size=1 then us.toArray[0] else .tuple us.toArray) w'∧AV.aF β2 h' l us:=by
   intro l hl
   obtain ⟨us,hrun,hrs⟩:=rE (P:=P) g2 hl
   refine⟨us,?_,hrs⟩
   simp only[results,Sem.run_bind]
   rw[Array.mapM_eq_mapM_toList,Sem.run_map]
   erw [hrun]
   rfl
  split at hr
  ·rename_i x hl
   obtain ⟨us,hrun,hrs⟩:=hres _ hl
   obtain ⟨v,us',e,hx,hrest⟩:=hrs
   simp only[AV.aF] at hrest
   subst hrest;subst e
   simp only[aI] at hr;subst hr
   exact⟨v,by rw[hrun];simp,hx⟩
  ·rename_i l hne hl
   obtain ⟨us,hrun,hrs⟩:=hres _ hl
   simp only[aI] at hr;subst hr
   refine⟨.tuple us.toArray,?_,Vs.2 ⟨us,rfl,hrs⟩⟩
   rw[hrun]
   have:us.length≠1:=by
    rw[hrs.length]
    intro h1
    match l,h1 with
    | [x],_=>exact hne x rfl
   simp[this]
  ·cases hr
 obtain ⟨v,hrun,hv⟩:=hpost
 have h3:=yE hle
 have gf:aO G F w h0 ⟨[r],post⟩ β2 h' #[v] w':=
  ⟨g2.glob,g2.holds,g2.ext,g2.old,g2.kept,g2.fix,rfl,fun t x hx=>by
   cases t with
   | zero=>simp at hx;subst hx;exact⟨v,rfl,hv⟩
   | succ t=>simp at hx,fun s l hl=>g2.box s l (h3 s l hl),fun s s' l l' hl hl'=>g2.inj s s' l l' (h3 s l hl) (h3 s' l' hl')⟩
 cases e<;>first
  | exact⟨hd,v,hrun,v,β2,h',rfl,gf⟩
  | (simp[vP] at he')
end Go.Ab
namespace Go.Ab
open Go Go.RowKit
@[match_pattern] abbrev di (n:Int):DV:=.con (.int .i64 n)
@[match_pattern] abbrev db (b:Bool):DV:=.con (.bool b)
@[match_pattern] abbrev ds (s:ByteArray):DV:=.con (.string s)
@[match_pattern] abbrev vi (n:Int):AV:=.d (.con (.int .i64 n))
@[match_pattern] abbrev vb (b:Bool):AV:=.d (.con (.bool b))
@[match_pattern] abbrev vs (s:ByteArray):AV:=.d (.con (.string s))
section
variable {P:Program} {G:IH}
theorem Qy {h:IH} {w w':World} (hw:h.holds w) (hb:Below w.heap.size w w'):h.holds w':=by
 refine⟨fun b o v e=>?_,fun b o e=>?_⟩
 ·have:=hw.1 b o v e
  have hlt:b<w.heap.size:=by
   simp only[World.cell?] at this
   split at this
   ·rename_i hh;exact lt_of_heap hh
   ·simp at this
  rw[hb.cell (p:=⟨b,o,none⟩) hlt];exact this
 ·have:=hw.2 b o e
  rw[hb.block b (lt_of_heap this)];exact this
theorem aA.Wv {f:FuncId} {args:List Value} {v:Value} (hcall:∀(vs:Array Value) (w:World),(callFunc f vs).run P w=.ok (.enter f vs) w)
  (h:∀w,G.holds w→Calls P f args.toArray w fun e w'=>e=.returned v∧Below w.heap.size w w'):aA P G f (args.map .con) (.con v):=by
 refine⟨hcall,fun w k vs hG hw hvs=>?_⟩
 have hv:vs=args:=by
  have:∀(l:List Value) (vs:List Value),DV.aF k (l.map .con) vs→vs=l:=by
   intro l
   induction l with
   | nil=>intro vs h;exact h
   | cons x l ih=>
    intro vs h
    obtain ⟨v,vs',e,hx,hr⟩:=h
    simp only[DV.rel] at hx
    rw[e,hx,ih vs' hr]
  exact this args vs hvs
 subst hv
 refine(h w ⟨fun b o v e=>hw.1 b o v (hG.1 b o v e),fun b o e=>hw.2 b o (hG.2 b o e)⟩).mono ?_
 rintro e w' ⟨rfl,hb⟩
 exact⟨v,k,rfl,rfl,IH.le.refl _,Qy hw hb,⟨hb.os,hb.tape,hb.output,hb.size,fun i hi _=>hb.block i hi⟩,fun _ _=>⟨fun _=>rfl,rfl⟩⟩
theorem below_grow (w:World) (q:Nat) (os:Array Obj):Below w.heap.size w (Sort.grow (w.drewN q) os):=by
 refine⟨rfl,rfl,rfl,by simp[Sort.grow,World.drewN],fun k hk=>?_⟩
 simp only[Sort.grow,World.drewN]
 rw[Array.getElem?_append_left hk]
end
end Go.Ab
namespace Go.Ab
open Go Go.RowKit
structure Holds (p:Prop):Prop where
 h:p
theorem iG {a b:Prop} (h:a=b) (hb:b):Holds a:=⟨h▸hb⟩
section
variable {P:Program} {G:IH} {aj:dU} {Q:Exit→AS→Prop}
theorem walk (hm:P.follows .mixedOrders=true) {keep cuts:List Nat} {n:Nat} {k:List It} {st:AS} (h:Holds ((mO P G aj keep cuts n k st).ok P G Q)):aX P G k st Q:=
 jR hm n k st h.h
theorem aA.walk {aj:dU} {keep:List Nat} {f:FuncId} {fn:Func} {args:List DV} {r:DV} (hm:P.follows .mixedOrders=true) (hf:P.funcs[f]?=some fn) (hb:fn.body.isSome=true) (hcall:∀(vs:Array Value) (w:World),(callFunc f vs).run P w=.ok (.enter f vs) w)
  (h:Holds ((mO P G aj keep [] 1000 [.code (au fn)] (entry args fn.ntmps)).ok P G (JK P fn r))):aA P G f args r:=
 aA.dA hf hb hcall (jR hm _ _ _ h.h)
theorem dD.walk {aj:dU} {keep:List Nat} {f:FuncId} {fn:Func} {args:List AV} {pre post:List (Nat×List AV)} {r:AV} (mv:List (Nat×Nat)) (hm:P.follows .mixedOrders=true) (hmv:(mv.all fun p=>!(Nat.beq p.1 p.2)&&Nat.blt p.2 K0)=true) (hf:P.funcs[f]?=some fn) (hb:fn.body.isSome=true)
  (hcall:∀(us:Array Value) (w:World),(callFunc f us).run P w=.ok (.enter f us) w)
  (h:Holds ((mO P G aj keep [] 1000 [.code (au fn)] (uz args pre fn.ntmps)).ok P G (DJ P fn mv r post))):dD P G f args pre r post:=
 dD.dA hmv hf hb hcall (jR hm _ _ _ h.h)
end
end Go.Ab
namespace Go.Ab
theorem je {α0:Type} {a:Prop} (x0:α0) (f:α0→Prop) (h:a=f x0) (hb:f x0):Holds a:=⟨h▸hb⟩
theorem qL {α0 α1:Type} {a:Prop} (x0:α0) (x1:α1) (f:α0→α1→Prop) (h:a=f x0 x1) (hb:f x0 x1):Holds a:=⟨h▸hb⟩
theorem Yr {α0 α1 α2:Type} {a:Prop} (x0:α0) (x1:α1) (x2:α2) (f:α0→α1→α2→Prop) (h:a=f x0 x1 x2) (hb:f x0 x1 x2):Holds a:=⟨h▸hb⟩
theorem KA {α0 α1 α2 α3:Type} {a:Prop} (x0:α0) (x1:α1) (x2:α2) (x3:α3) (f:α0→α1→α2→α3→Prop) (h:a=f x0 x1 x2 x3) (hb:f x0 x1 x2 x3):Holds a:=⟨h▸hb⟩
theorem YO {α0 α1 α2 α3 α4:Type} {a:Prop} (x0:α0) (x1:α1) (x2:α2) (x3:α3) (x4:α4) (f:α0→α1→α2→α3→α4→Prop) (h:a=f x0 x1 x2 x3 x4) (hb:f x0 x1 x2 x3 x4):Holds a:=⟨h▸hb⟩
theorem Y8 {α0 α1 α2 α3 α4 α5:Type} {a:Prop} (x0:α0) (x1:α1) (x2:α2) (x3:α3) (x4:α4) (x5:α5) (f:α0→α1→α2→α3→α4→α5→Prop) (h:a=f x0 x1 x2 x3 x4 x5) (hb:f x0 x1 x2 x3 x4 x5):Holds a:=⟨h▸hb⟩
theorem tu {α0 α1 α2 α3 α4 α5 α6:Type} {a:Prop} (x0:α0) (x1:α1) (x2:α2) (x3:α3) (x4:α4) (x5:α5) (x6:α6) (f:α0→α1→α2→α3→α4→α5→α6→Prop) (h:a=f x0 x1 x2 x3 x4 x5 x6) (hb:f x0 x1 x2 x3 x4 x5 x6):Holds a:=⟨h▸hb⟩
theorem Y3 {α0 α1 α2 α3 α4 α5 α6 α7:Type} {a:Prop} (x0:α0) (x1:α1) (x2:α2) (x3:α3) (x4:α4) (x5:α5) (x6:α6) (x7:α7) (f:α0→α1→α2→α3→α4→α5→α6→α7→Prop) (h:a=f x0 x1 x2 x3 x4 x5 x6 x7) (hb:f x0 x1 x2 x3 x4 x5 x6 x7):Holds a:=⟨h▸hb⟩
theorem Fz {α0 α1 α2 α3 α4 α5 α6 α7 α8:Type} {a:Prop} (x0:α0) (x1:α1) (x2:α2) (x3:α3) (x4:α4) (x5:α5) (x6:α6) (x7:α7) (x8:α8) (f:α0→α1→α2→α3→α4→α5→α6→α7→α8→Prop) (h:a=f x0 x1 x2 x3 x4 x5 x6 x7 x8) (hb:f x0 x1 x2 x3 x4 x5 x6 x7 x8):Holds a:=⟨h▸hb⟩
end Go.Ab
