import Derived.Test.YtflgdeobcgmgnaaGreatDoorAcD
import Derived.Test.YtflgdeobcgmgnaaGreatDoorAcE
import Derived.Test.YtflgdeobcgmgnaaGreatDoorG9
import Derived.Test.YtflgdeobcgmgnaaGreatDoorG6
import Derived.Test.YtflgdeobcgmgnaaGreatDoorG8
import Derived.Test.YtflgdeobcgmgnaaGreatDoorRows
import Derived.Lib.LaidTab
import Derived.ProofKit
import Derived.LaidMore
import Derived.OpenShut
import Derived.Stop.Joined
import Derived.Test.YtflgdeobcgmgnaaGreatDoorG0
import Derived.LaidLaws
set_option autoImplicit false
set_option maxHeartbeats 4000000
set_option maxRecDepth 100000
namespace Go.Proofs
open Go Go.Ab Go.RowKit
variable {G:IH} {w:World}
noncomputable def CJ (b:Bk) (e:Ev) (V:Nat→Option Addr×Nat) (i:Nat):AS:=⟨(Et b e (V 1) i).regs,(1000001,[.arr gU 7 (bM V b.es)]) :: (Et b e (V 1) i).boxes⟩
def XR (n:Nat) (x:En):Nat→Option AV
 | 62=>some (.vec 1000001 7 0 n)
 | 68=>some (.d (kT x.gs))
 | 73=>some (.d (iM x.ah))
 | 81=>some (.d (iM x.ah))
 | 126=>some (.d (kT x.gs))
 | _=>none
noncomputable def CB (b:Bk) (e:Ev) (V:Nat→Option Addr×Nat) (i:Nat):AS:=⟨regs Tryz.f46.ntmps [(2,.box 2 0),(3,.box 3 0),(4,.box 4 0),(5,vi 0),(7,.elem 1000001 7 i 0),(8,vi (b.es.getD i en0).gs.length),(9,vi (b.es.getD i en0).ah.length),(10,vb (bW (b.es.getD i en0)))],(CJ b e V i).boxes⟩
noncomputable def qJ (b:Bk) (e:Ev) (V:Nat→Option Addr×Nat) (i:Nat):AS:=⟨regs Tryz.f46.ntmps [(2,.box 2 0),(3,.box 3 0),(4,.box 4 0),(5,vi 0),(7,.elem 1000001 7 i 0),(9,vi (b.es.getD i en0).ah.length)],(CJ b e V i).boxes⟩
noncomputable abbrev mX:List It:=[.blk 0,cd Tryz.f46 [1,1,1,1,1,1,1,1,1,1,1]]
def Zv (k:IH) (F:Fr) (V:Nat→Option Addr×Nat) (i:Nat) (x:En):Prop:=bT k F (.d (.con (sv V (2*i+2) x.gs.length))) (.d (kT x.gs))∧bT k F (.d (.con (sv V (2*i+3) x.ah.length))) (.d (iM x.ah))
theorem aaw {b:Bk} {e:Ev} {w0 w:World} {h0 kk:IH} {F:Fr} {V:Nat→Option Addr×Nat} {i:Nat} (hk:e.kind≠0) (hf:lY e)
  (K1:e.kind=1→aH Tryz.prog kk F w kk (cd Tryz.f46 [1,1,1,1,1,1,1,1,1,1,0,0,1,1,1,1,1,0] :: mX) (qJ b e V i) (aO Tryz.prog Tryz.f46 (jd b e w0 h0)))
  (K2:e.kind=2→aH Tryz.prog kk F w kk (cd Tryz.f46 [1,1,1,1,1,1,1,1,1,1,0,0,1,1,1,1,1,1,1,0] :: mX) (qJ b e V i) (aO Tryz.prog Tryz.f46 (jd b e w0 h0)))
  (K3:e.kind=3→aH Tryz.prog kk F w kk (cd Tryz.f46 [1,1,1,1,1,1,1,1,1,1,0,0,1,1,1,1,1,1,1,1] :: mX) (qJ b e V i) (aO Tryz.prog Tryz.f46 (jd b e w0 h0))) :
  aH Tryz.prog kk F w kk (cd Tryz.f46 [1,1,1,1,1,1,1,1,1,1,0,0,1,1,1,1] :: mX) (CB b e V i) (aO Tryz.prog Tryz.f46 (jd b e w0 h0)):=by
 refine dH (aj:={ d:=bU }) follows (fun _=>none) (cuts:=[18,28,30]) (n:=1000) ?_
 refine JY ((.d (.con (.slice (V 1).fst b.es.length (V 1).snd))):AV) ((.arr gq 7 (bM V b.es)):AV) (aO Tryz.prog Tryz.f46 (jd b e w0 h0)) (vi (↑(b.es.getD i en0).ah.length)) (fun Za Zb Zc Zd=>((((e.kind==1)=true)→aH Tryz.prog kk F w kk [cd Tryz.f46 [1,1,1,1,1,1,1,1,1,1,0,0,1,1,1,1,1,0],(.blk 0),cd Tryz.f46 [1,1,1,1,1,1,1,1,1,1,1]] ⟨regs 211 [(2,(.box 2 0)),(3,(.box 3 0)),(4,(.box 4 0)),(5,(vi 0)),(7,(.elem 1000001 7 i 0)),(8,(vi (↑(b.es.getD i en0).gs.length))),(9,Zd),(10,(vb (bW (b.es.getD i en0)))),(170,(vb (e.kind==1))),(171,(.box 3 0)),(172,(vi e.kind)),(173,(vb (e.kind==1)))],[(1000001,[Zb]),(2,[(vi e.t),Za]),(3,fJ e),(4,[(vi 0),(.d bY)])]⟩ Zc)∧(((e.kind==1)=false)→((((e.kind==2)=true)→aH Tryz.prog kk F w kk [cd Tryz.f46 [1,1,1,1,1,1,1,1,1,1,0,0,1,1,1,1,1,1,1,0],(.blk 0),cd Tryz.f46 [1,1,1,1,1,1,1,1,1,1,1]] ⟨regs 211 [(2,(.box 2 0)),(3,(.box 3 0)),(4,(.box 4 0)),(5,(vi 0)),(7,(.elem 1000001 7 i 0)),(8,(vi (↑(b.es.getD i en0).gs.length))),(9,Zd),(10,(vb (bW (b.es.getD i en0)))),(170,(vb (e.kind==1))),(171,(.box 3 0)),(172,(vi e.kind)),(173,(vb (e.kind==1))),(192,(vb (e.kind==2))),(193,(.box 3 0)),(194,(vi e.kind)),(195,(vb (e.kind==2)))],[(1000001,[Zb]),(2,[(vi e.t),Za]),(3,fJ e),(4,[(vi 0),(.d bY)])]⟩ Zc)∧(((e.kind==2)=false)→aH Tryz.prog kk F w kk [cd Tryz.f46 [1,1,1,1,1,1,1,1,1,1,0,0,1,1,1,1,1,1,1,1],(.blk 0),cd Tryz.f46 [1,1,1,1,1,1,1,1,1,1,1]] ⟨regs 211 [(2,(.box 2 0)),(3,(.box 3 0)),(4,(.box 4 0)),(5,(vi 0)),(7,(.elem 1000001 7 i 0)),(8,(vi (↑(b.es.getD i en0).gs.length))),(9,Zd),(10,(vb (bW (b.es.getD i en0)))),(170,(vb (e.kind==1))),(171,(.box 3 0)),(172,(vi e.kind)),(173,(vb (e.kind==1))),(192,(vb (e.kind==2))),(193,(.box 3 0)),(194,(vi e.kind)),(195,(vb (e.kind==2)))],[(1000001,[Zb]),(2,[(vi e.t),Za]),(3,fJ e),(4,[(vi 0),(.d bY)])]⟩ Zc))))) (by kernel_rfl) ?_
 refine⟨fun c=>?_,fun c=>⟨fun c2=>?_,fun c2=>?_⟩⟩
 ·refine aH.weaken (st':=qJ b e V i) ?_ (K1 (by simpa using c))
  exact AS.bJ (by kernel_rfl)
 ·refine aH.weaken (st':=qJ b e V i) ?_ (K2 (by simpa using c2))
  exact AS.bJ (by kernel_rfl)
 ·have c1:e.kind≠1:=by simpa using c
  have c2:e.kind≠2:=by simpa using c2
  refine aH.weaken (st':=qJ b e V i) ?_ (K3 (((hf.1.resolve_left hk).resolve_left c1).resolve_left c2))
  exact AS.bJ (by kernel_rfl)
theorem abd {b:Bk} {e:Ev} {w0 w:World} {h0 kk:IH} {F:Fr} {V:Nat→Option Addr×Nat} {i:Nat} (o:zC w0 h0 kk w F.on) (hA:jA b e=zT (b.es.getD i en0) e) (hn:¬(e.kind=1∧wR (b.es.getD i en0) e.v=true∨e.kind=2∧((b.es.getD i en0).gs.length=0∨bW (b.es.getD i en0)=true)∨e.kind=3∧¬bW (b.es.getD i en0)=true))
  (K:jA b e=0→aH Tryz.prog kk F w kk (cd Tryz.f46 [1,1,1,1,1,1,1,1,1,1,0,0,1,1,1,1] :: mX) (CB b e V i) (aO Tryz.prog Tryz.f46 (jd b e w0 h0))) :
  aH Tryz.prog kk F w kk (cd Tryz.f46 [1,1,1,1,1,1,1,1,1,1,0,0,1,1,0] :: cd Tryz.f46 [1,1,1,1,1,1,1,1,1,1,0,0,1,1,1] :: mX) (CB b e V i) (aO Tryz.prog Tryz.f46 (jd b e w0 h0)):=by
 refine dH (aj:={ d:=bU }) follows (fun _=>none) (cuts:=[27]) (n:=1000) ?_
 refine YP (e.kind==1&&(↑(b.es.getD i en0).gs.length:Int)==16) (e.kind==2&&(↑(b.es.getD i en0).ah.length:Int)==16) ((.d (.con (.slice (V 1).fst b.es.length (V 1).snd))):AV) (vi (↑(b.es.getD i en0).ah.length)) ((.arr gq 7 (bM V b.es)):AV) (vi (↑(b.es.getD i en0).gs.length)) (aO Tryz.prog Tryz.f46 (jd b e w0 h0)) (vb (bW (b.es.getD i en0))) (fun Za Zb Zc Zd Ze Zf Zg Zh=>(((Za=true)→(((Za=true)→aK kk F w kk Zg .ret ⟨regs 211 [(2,(.box 2 0)),(3,(.box 3 0)),(4,(.box 4 0)),(5,(vi 8)),(7,(.elem 1000001 7 i 0)),(8,Zf),(9,Zd),(10,Zh),(154,(vb Za)),(155,(.box 3 0)),(156,(vi e.kind)),(157,(vb (e.kind==1))),(158,(vb (e.kind==1))),(161,(vb Za)),(169,(.d (.agg [(di 0),bY])))],[(1000001,[Ze]),(2,[(vi e.t),Zc]),(3,fJ e),(4,[(vi 0),(.d bY)])]⟩)∧((Za=false)→aH Tryz.prog kk F w kk [cd Tryz.f46 [1,1,1,1,1,1,1,1,1,1,0,0,1,1,1,1],(.blk 0),cd Tryz.f46 [1,1,1,1,1,1,1,1,1,1,1]] ⟨regs 211 [(2,(.box 2 0)),(3,(.box 3 0)),(4,(.box 4 0)),(5,(vi 0)),(7,(.elem 1000001 7 i 0)),(8,Zf),(9,Zd),(10,Zh),(154,(vb Za)),(155,(.box 3 0)),(156,(vi e.kind)),(157,(vb (e.kind==1))),(158,(vb (e.kind==1))),(159,(.gate 158 true (e.kind==1) Zf)),(160,(.gate 158 true (e.kind==1) (vb ((↑(b.es.getD i en0).gs.length:Int)==16)))),(161,(vb Za))],[(1000001,[Ze]),(2,[(vi e.t),Zc]),(3,fJ e),(4,[(vi 0),(.d bY)])]⟩ Zg)))∧((Za=false)→(((Zb=true)→aK kk F w kk Zg .ret ⟨regs 211 [(2,(.box 2 0)),(3,(.box 3 0)),(4,(.box 4 0)),(5,(vi 8)),(7,(.elem 1000001 7 i 0)),(8,Zf),(9,Zd),(10,Zh),(154,(vb Zb)),(155,(.box 3 0)),(156,(vi e.kind)),(157,(vb (e.kind==1))),(158,(vb (e.kind==1))),(161,(vb Za)),(162,(.box 3 0)),(163,(vi e.kind)),(164,(vb (e.kind==2))),(165,(vb (e.kind==2))),(168,(vb Zb)),(169,(.d (.agg [(di 0),bY])))],[(1000001,[Ze]),(2,[(vi e.t),Zc]),(3,fJ e),(4,[(vi 0),(.d bY)])]⟩)∧((Zb=false)→aH Tryz.prog kk F w kk [cd Tryz.f46 [1,1,1,1,1,1,1,1,1,1,0,0,1,1,1,1],(.blk 0),cd Tryz.f46 [1,1,1,1,1,1,1,1,1,1,1]] ⟨regs 211 [(2,(.box 2 0)),(3,(.box 3 0)),(4,(.box 4 0)),(5,(vi 0)),(7,(.elem 1000001 7 i 0)),(8,Zf),(9,Zd),(10,Zh),(154,(vb Zb)),(155,(.box 3 0)),(156,(vi e.kind)),(157,(vb (e.kind==1))),(158,(vb (e.kind==1))),(161,(vb Za)),(162,(.box 3 0)),(163,(vi e.kind)),(164,(vb (e.kind==2))),(165,(vb (e.kind==2))),(166,(.gate 165 true (e.kind==2) Zd)),(167,(.gate 165 true (e.kind==2) (vb ((↑(b.es.getD i en0).ah.length:Int)==16)))),(168,(vb Zb))],[(1000001,[Ze]),(2,[(vi e.t),Zc]),(3,fJ e),(4,[(vi 0),(.d bY)])]⟩ Zg))))) (by kernel_rfl) ?_
 try dsimp only
 have hA:jA b e=if e.kind=1∧(b.es.getD i en0).gs.length=16∨e.kind=2∧(b.es.getD i en0).ah.length=16 then 8 else 0:=by rw[hA];exact if_neg hn
 have d (n:Nat) (m:Int):(e.kind==m&&(n:Int)==16)=true↔e.kind=m∧n=16:=by
  rw[aV,beq_iff_eq,beq_iff_eq];exact and_congr Iff.rfl ⟨fun q=>by omega,fun q=>by omega⟩
 refine⟨fun c=>⟨fun _=>?_,fun c'=>?_⟩,fun c=>⟨fun c2=>?_,fun c2=>?_⟩⟩
 ·exact uf (code:=8) o rfl (by rw[hA];exact if_pos (.inl ((d _ _).1 c))) (by decide)
 ·rw[c] at c';cases c'
 ·exact uf (code:=8) o rfl (by rw[hA];exact if_pos (.inr ((d _ _).1 c2))) (by decide)
 ·refine aH.weaken (st':=CB b e V i) ?_ (K ?_)
  ·exact AS.bJ (by kernel_rfl)
  ·rw[hA,if_neg]
   rintro (q|q)
   ·rw[(d _ _).2 q] at c;cases c
   ·rw[(d _ _).2 q] at c2;cases c2
theorem aag {b:Bk} {e:Ev} {w0 w:World} {h0 kk:IH} {F:Fr} {V:Nat→Option Addr×Nat} {i:Nat} (hi:i<b.es.length) (hs:iY b.es) (o:zC w0 h0 kk w F.on) (hg:Zv kk F V i (b.es.getD i en0)) (hA:jA b e=zT (b.es.getD i en0) e)
  (K:jA b e=0→aH Tryz.prog kk F w kk (cd Tryz.f46 [1,1,1,1,1,1,1,1,1,1,0,0,1,1,1,1] :: mX) (CB b e V i) (aO Tryz.prog Tryz.f46 (jd b e w0 h0))) :
  aH Tryz.prog kk F w kk (cd Tryz.f46 [1,1,1,1,1,1,1,1,1,1,0,0,0] :: cd Tryz.f46 [1,1,1,1,1,1,1,1,1,1,0,0,1] :: mX) (CB b e V i) (aO Tryz.prog Tryz.f46 (jd b e w0 h0)):=by
 have hsi:=hs.2 i hi
 refine dH (aj:={ d:=bU }) follows (XR b.es.length (b.es.getD i en0)) (cuts:=[24]) (n:=1000) ?_
 refine FD (↑(b.es.getD i en0).gs.length:Int) (vi (↑(b.es.getD i en0).gs.length)) ((.d (.con (.slice (V 1).fst b.es.length (V 1).snd))):AV) ((.arr gq 7 (bM V b.es)):AV) (vb (bW (b.es.getD i en0))) (aO Tryz.prog Tryz.f46 (jd b e w0 h0)) (e.kind==3&&!bW (b.es.getD i en0)) (vi (↑(b.es.getD i en0).ah.length)) ((.d (.agg [(di 0),bY])):AV) (fun Za Zb Zc Zd Ze Zf Zg Zh Zi=>((bT kk F (.d (.con (.slice (V (2*i+2)).fst (b.es.getD i en0).gs.length (V (2*i+2)).snd))) (.d (.slc 4 (b.es.getD i en0).gs.length (dX (b.es.getD i en0).gs)))∧(((e.kind==1&&decide (Za>0))=true)→(I64 (↑(b.es.getD i en0).gs.length-1)))∧(((e.kind==1&&decide (Za>0))=true)→((0≤Za-1)∧(Za-1<↑(b.es.getD i en0).gs.length))))∧(((e.kind==1&&decide (Za>0)&&decide (((b.es.getD i en0).gs.getD (Za-1).toNat fC).v≥e.v))=true)→((((e.kind==1&&decide (Za>0)&&decide (((b.es.getD i en0).gs.getD (Za-1).toNat fC).v≥e.v))=true)→aK kk F w kk Zf .ret ⟨regs 211 [(2,(.box 2 0)),(3,(.box 3 0)),(4,(.box 4 0)),(5,(vi 9)),(7,(.elem 1000001 7 i 0)),(8,Zb),(9,Zh),(10,Ze),(114,(vb (e.kind==1&&decide (Za>0)&&decide (((b.es.getD i en0).gs.getD (Za-1).toNat fC).v≥e.v)))),(115,(.box 3 0)),(116,(vi e.kind)),(117,(vb (e.kind==1))),(118,(vb (e.kind==1))),(121,(vb (e.kind==1&&decide (Za>0)))),(122,(vb (e.kind==1&&decide (Za>0)))),(135,(vb (e.kind==1&&decide (Za>0)&&decide (((b.es.getD i en0).gs.getD (Za-1).toNat fC).v≥e.v)))),(153,Zi)],[(1000001,[Zd]),(2,[(vi e.t),Zc]),(3,fJ e),(4,[(vi 0),(.d bY)])]⟩)∧(((e.kind==1&&decide (Za>0)&&decide (((b.es.getD i en0).gs.getD (Za-1).toNat fC).v≥e.v))=false)→aH Tryz.prog kk F w kk [cd Tryz.f46 [1,1,1,1,1,1,1,1,1,1,0,0,1,1,0],cd Tryz.f46 [1,1,1,1,1,1,1,1,1,1,0,0,1,1,1],(.blk 0),cd Tryz.f46 [1,1,1,1,1,1,1,1,1,1,1]] ⟨regs 211 [(2,(.box 2 0)),(3,(.box 3 0)),(4,(.box 4 0)),(5,(vi 0)),(7,(.elem 1000001 7 i 0)),(8,Zb),(9,Zh),(10,Ze),(114,(vb (e.kind==1&&decide (Za>0)&&decide (((b.es.getD i en0).gs.getD (Za-1).toNat fC).v≥e.v)))),(115,(.box 3 0)),(116,(vi e.kind)),(117,(vb (e.kind==1))),(118,(vb (e.kind==1))),(119,(.gate 118 true (e.kind==1) Zb)),(120,(.gate 118 true (e.kind==1) (vb (decide (Za>0))))),(121,(vb (e.kind==1&&decide (Za>0)))),(122,(vb (e.kind==1&&decide (Za>0)))),(123,(.gate 122 true (e.kind==1&&decide (Za>0)) (.elem 1000001 7 i 0))),(124,(.gate 122 true (e.kind==1&&decide (Za>0)) (.elem 1000001 7 i 0))),(125,(.gate 122 true (e.kind==1&&decide (Za>0)) (.elem 1000001 7 i 5))),(126,(.gate 122 true (e.kind==1&&decide (Za>0)) (.d (.slc 4 (b.es.getD i en0).gs.length (dX (b.es.getD i en0).gs))))),(127,(.gate 122 true (e.kind==1&&decide (Za>0)) Zb)),(128,(.gate 122 true (e.kind==1&&decide (Za>0)) (vi (↑(b.es.getD i en0).gs.length-1)))),(129,(.gate 122 true (e.kind==1&&decide (Za>0)) (.d (.ptr [(di ((b.es.getD i en0).gs.getD (Za-1).toNat fC).v),(di ((b.es.getD i en0).gs.getD (Za-1).toNat fC).h),(di ((b.es.getD i en0).gs.getD (Za-1).toNat fC).t),(ds ((b.es.getD i en0).gs.getD (Za-1).toNat fC).s)])))),(130,(.gate 122 true (e.kind==1&&decide (Za>0)) (.d (.ptr [(di ((b.es.getD i en0).gs.getD (Za-1).toNat fC).v),(di ((b.es.getD i en0).gs.getD (Za-1).toNat fC).h),(di ((b.es.getD i en0).gs.getD (Za-1).toNat fC).t),(ds ((b.es.getD i en0).gs.getD (Za-1).toNat fC).s)])))),(131,(.gate 122 true (e.kind==1&&decide (Za>0)) (vi ((b.es.getD i en0).gs.getD (Za-1).toNat fC).v))),(132,(.gate 122 true (e.kind==1&&decide (Za>0)) (.box 3 5))),(133,(.gate 122 true (e.kind==1&&decide (Za>0)) (vi e.v))),(134,(.gate 122 true (e.kind==1&&decide (Za>0)) (vb (decide (((b.es.getD i en0).gs.getD (Za-1).toNat fC).v≥e.v))))),(135,(vb (e.kind==1&&decide (Za>0)&&decide (((b.es.getD i en0).gs.getD (Za-1).toNat fC).v≥e.v))))],[(1000001,[Zd]),(2,[(vi e.t),Zc]),(3,fJ e),(4,[(vi 0),(.d bY)])]⟩ Zf)))∧(((e.kind==1&&decide (Za>0)&&decide (((b.es.getD i en0).gs.getD (Za-1).toNat fC).v≥e.v))=false)→((((e.kind==2&&(Za==0||bW (b.es.getD i en0)))=true)→((((e.kind==2&&(Za==0||bW (b.es.getD i en0)))=true)→aK kk F w kk Zf .ret ⟨regs 211 [(2,(.box 2 0)),(3,(.box 3 0)),(4,(.box 4 0)),(5,(vi 9)),(7,(.elem 1000001 7 i 0)),(8,Zb),(9,Zh),(10,Ze),(114,(vb (e.kind==2&&(Za==0||bW (b.es.getD i en0))))),(115,(.box 3 0)),(116,(vi e.kind)),(117,(vb (e.kind==1))),(118,(vb (e.kind==1))),(121,(vb (e.kind==1&&decide (Za>0)))),(122,(vb (e.kind==1&&decide (Za>0)))),(135,(vb (e.kind==1&&decide (Za>0)&&decide (((b.es.getD i en0).gs.getD (Za-1).toNat fC).v≥e.v)))),(136,(.box 3 0)),(137,(vi e.kind)),(138,(vb (e.kind==2))),(139,(vb (e.kind==2))),(145,(vb (e.kind==2&&(Za==0||bW (b.es.getD i en0))))),(153,Zi)],[(1000001,[Zd]),(2,[(vi e.t),Zc]),(3,fJ e),(4,[(vi 0),(.d bY)])]⟩)∧(((e.kind==2&&(Za==0||bW (b.es.getD i en0)))=false)→aH Tryz.prog kk F w kk [cd Tryz.f46 [1,1,1,1,1,1,1,1,1,1,0,0,1,1,0],cd Tryz.f46 [1,1,1,1,1,1,1,1,1,1,0,0,1,1,1],(.blk 0),cd Tryz.f46 [1,1,1,1,1,1,1,1,1,1,1]] ⟨regs 211 [(2,(.box 2 0)),(3,(.box 3 0)),(4,(.box 4 0)),(5,(vi 0)),(7,(.elem 1000001 7 i 0)),(8,Zb),(9,Zh),(10,Ze),(114,(vb (e.kind==2&&(Za==0||bW (b.es.getD i en0))))),(115,(.box 3 0)),(116,(vi e.kind)),(117,(vb (e.kind==1))),(118,(vb (e.kind==1))),(121,(vb (e.kind==1&&decide (Za>0)))),(122,(vb (e.kind==1&&decide (Za>0)))),(135,(vb (e.kind==1&&decide (Za>0)&&decide (((b.es.getD i en0).gs.getD (Za-1).toNat fC).v≥e.v)))),(136,(.box 3 0)),(137,(vi e.kind)),(138,(vb (e.kind==2))),(139,(vb (e.kind==2))),(140,(.gate 139 true (e.kind==2) Zb)),(141,(.gate 139 true (e.kind==2) (vb (Za==0)))),(142,(.gate 139 true (e.kind==2) (vb (Za==0)))),(143,(.gate 142 false (e.kind==2&&!Za==0) Ze)),(144,(.gate 139 true (e.kind==2) (vb (Za==0||bW (b.es.getD i en0))))),(145,(vb (e.kind==2&&(Za==0||bW (b.es.getD i en0)))))],[(1000001,[Zd]),(2,[(vi e.t),Zc]),(3,fJ e),(4,[(vi 0),(.d bY)])]⟩ Zf)))∧(((e.kind==2&&(Za==0||bW (b.es.getD i en0)))=false)→(((Zg=true)→aK kk F w kk Zf .ret ⟨regs 211 [(2,(.box 2 0)),(3,(.box 3 0)),(4,(.box 4 0)),(5,(vi 9)),(7,(.elem 1000001 7 i 0)),(8,Zb),(9,Zh),(10,Ze),(114,(vb Zg)),(115,(.box 3 0)),(116,(vi e.kind)),(117,(vb (e.kind==1))),(118,(vb (e.kind==1))),(121,(vb (e.kind==1&&decide (Za>0)))),(122,(vb (e.kind==1&&decide (Za>0)))),(135,(vb (e.kind==1&&decide (Za>0)&&decide (((b.es.getD i en0).gs.getD (Za-1).toNat fC).v≥e.v)))),(136,(.box 3 0)),(137,(vi e.kind)),(138,(vb (e.kind==2))),(139,(vb (e.kind==2))),(145,(vb (e.kind==2&&(Za==0||bW (b.es.getD i en0))))),(146,(.box 3 0)),(147,(vi e.kind)),(148,(vb (e.kind==3))),(149,(vb (e.kind==3))),(152,(vb Zg)),(153,Zi)],[(1000001,[Zd]),(2,[(vi e.t),Zc]),(3,fJ e),(4,[(vi 0),(.d bY)])]⟩)∧((Zg=false)→aH Tryz.prog kk F w kk [cd Tryz.f46 [1,1,1,1,1,1,1,1,1,1,0,0,1,1,0],cd Tryz.f46 [1,1,1,1,1,1,1,1,1,1,0,0,1,1,1],(.blk 0),cd Tryz.f46 [1,1,1,1,1,1,1,1,1,1,1]] ⟨regs 211 [(2,(.box 2 0)),(3,(.box 3 0)),(4,(.box 4 0)),(5,(vi 0)),(7,(.elem 1000001 7 i 0)),(8,Zb),(9,Zh),(10,Ze),(114,(vb Zg)),(115,(.box 3 0)),(116,(vi e.kind)),(117,(vb (e.kind==1))),(118,(vb (e.kind==1))),(121,(vb (e.kind==1&&decide (Za>0)))),(122,(vb (e.kind==1&&decide (Za>0)))),(135,(vb (e.kind==1&&decide (Za>0)&&decide (((b.es.getD i en0).gs.getD (Za-1).toNat fC).v≥e.v)))),(136,(.box 3 0)),(137,(vi e.kind)),(138,(vb (e.kind==2))),(139,(vb (e.kind==2))),(145,(vb (e.kind==2&&(Za==0||bW (b.es.getD i en0))))),(146,(.box 3 0)),(147,(vi e.kind)),(148,(vb (e.kind==3))),(149,(vb (e.kind==3))),(150,(.gate 149 true (e.kind==3) Ze)),(151,(.gate 149 true (e.kind==3) (vb (!bW (b.es.getD i en0))))),(152,(vb Zg))],[(1000001,[Zd]),(2,[(vi e.t),Zc]),(3,fJ e),(4,[(vi 0),(.d bY)])]⟩ Zf))))))) (by kernel_rfl) ?_
 try dsimp only
 have hlow:(decide (((b.es.getD i en0).gs.length:Int)>0)&&decide (((b.es.getD i en0).gs.getD (((b.es.getD i en0).gs.length:Int)-1).toNat fC).v≥e.v))=wR (b.es.getD i en0) e.v:=Vy _ _
 rw[Bool.and_assoc,hlow]
 have hp:∀n:Nat,(decide ((n:Int)>0))=true→0<n:=fun n c=>by have:=dW c;omega
 have c9:(e.kind=1∧wR (b.es.getD i en0) e.v=true∨e.kind=2∧((b.es.getD i en0).gs.length=0∨bW (b.es.getD i en0)=true)∨e.kind=3∧¬bW (b.es.getD i en0)=true)→jA b e=9:=fun q=>by rw[hA];exact if_pos q
 have d1:(e.kind==1&&wR (b.es.getD i en0) e.v)=true↔e.kind=1∧wR (b.es.getD i en0) e.v=true:=by simp
 have d2:(e.kind==2&&(((b.es.getD i en0).gs.length:Int)==0||bW (b.es.getD i en0)))=true↔e.kind=2∧((b.es.getD i en0).gs.length=0∨bW (b.es.getD i en0)=true):=by
  rw[aV,Bool.or_eq_true,beq_iff_eq,beq_iff_eq];exact and_congr Iff.rfl (or_congr ⟨fun q=>by omega,fun q=>by omega⟩ Iff.rfl)
 have d3:(e.kind==3&&!bW (b.es.getD i en0))=true↔e.kind=3∧¬bW (b.es.getD i en0)=true:=by simp
 refine⟨⟨hg.1,fun c=>?_,fun c=>?_⟩,fun c=>⟨fun _=>?_,fun c'=>?_⟩,fun c=>⟨fun c2=>⟨fun _=>?_,fun c'=>?_⟩,fun c2=>⟨fun c3=>?_,fun c3=>?_⟩⟩⟩
 ·have:=hp _ (Bool.and_eq_true_iff.1 c).2;have:=hsi.1;exact⟨by omega,by omega⟩
 ·have:=hp _ (Bool.and_eq_true_iff.1 c).2;exact⟨by omega,by omega⟩
 ·exact uf (code:=9) o rfl (c9 (.inl (d1.1 c))) (by decide)
 ·rw[c] at c';cases c'
 ·exact uf (code:=9) o rfl (c9 (.inr (.inl (d2.1 c2)))) (by decide)
 ·rw[c2] at c';cases c'
 ·exact uf (code:=9) o rfl (c9 (.inr (.inr (d3.1 c3)))) (by decide)
 ·refine aH.weaken (st':=CB b e V i) ?_ (abd o hA (fun q=>?_) K)
  ·exact AS.bJ (by kernel_rfl)
  ·rcases q with q|q|q
   ·rw[d1.2 q] at c;cases c
   ·rw[d2.2 q] at c2;cases c2
   ·rw[d3.2 q] at c3;cases c3
theorem abn {b:Bk} {e:Ev} {w0 w:World} {h0 kk:IH} {F:Fr} {V:Nat→Option Addr×Nat} {i:Nat} (hi:i<b.es.length) (hs:iY b.es) (hv:bT kk F (.d (.con (sv V 1 b.es.length))) (.vec 1000001 7 0 b.es.length)) (hg:Zv kk F V i (b.es.getD i en0))
  (K:aH Tryz.prog kk F w kk (cd Tryz.f46 [1,1,1,1,1,1,1,1,1,1,0,0,0] :: cd Tryz.f46 [1,1,1,1,1,1,1,1,1,1,0,0,1] :: mX) (CB b e V i) (aO Tryz.prog Tryz.f46 (jd b e w0 h0))) :
  aH Tryz.prog kk F w kk [cd Tryz.f46 [1,1,1,1,1,1,1]] (CJ b e V i) (aO Tryz.prog Tryz.f46 (jd b e w0 h0)):=by
 have hsi:=(hs.2 i hi).2
 refine dH (aj:={ d:=bU }) follows (XR b.es.length (b.es.getD i en0)) (cuts:=[20]) (n:=1000) ?_
 refine Y9 (↑(b.es.getD i en0).ah.length:Int) ((.elem 1000001 7 (0+(↑i:Int).toNat) 0):AV) ((.d (.slc 6 (b.es.getD i en0).ah.length (dN (b.es.getD i en0).ah))):AV) ((.d (.con (.slice (V (2*(0+(↑i:Int).toNat)+3)).fst (b.es.getD (0+(↑i:Int).toNat) en0).ah.length (V (2*(0+(↑i:Int).toNat)+3)).snd))):AV) (vi (↑(b.es.getD i en0).ah.length)) (fun Za Zb Zc Zd Ze=>((bT kk F (.d (.con (.slice (V 1).fst b.es.length (V 1).snd))) (.vec 1000001 7 0 b.es.length)∧(0≤(↑i:Int))∧((↑i:Int)<↑b.es.length))∧(bT kk F (.d (.con (.slice (V (2*(0+(↑i:Int).toNat)+2)).fst (b.es.getD (0+(↑i:Int).toNat) en0).gs.length (V (2*(0+(↑i:Int).toNat)+2)).snd))) (.d (.slc 4 (b.es.getD i en0).gs.length (dX (b.es.getD i en0).gs)))∧bT kk F Zd Zc)∧(bT kk F Zd Zc∧(((decide (Za>0))=true)→(I64 (↑(b.es.getD i en0).ah.length-1)))∧(((decide (Za>0))=true)→((0≤Za-1)∧(Za-1<↑(b.es.getD i en0).ah.length))))∧aH Tryz.prog kk F w kk [cd Tryz.f46 [1,1,1,1,1,1,1,1,1,1,0,0,0],cd Tryz.f46 [1,1,1,1,1,1,1,1,1,1,0,0,1],(.blk 0),cd Tryz.f46 [1,1,1,1,1,1,1,1,1,1,1]] ⟨regs 211 [(2,(.box 2 0)),(3,(.box 3 0)),(4,(.box 4 0)),(5,(vi 0)),(6,(vi (↑i))),(7,Zb),(8,(vi (↑(b.es.getD i en0).gs.length))),(9,Ze),(10,(vb (decide (Za>0)&&!((b.es.getD i en0).ah.getD (Za-1).toNat cu).dec))),(61,(.box 2 1)),(62,(.vec 1000001 7 0 b.es.length)),(63,(vi (↑i))),(64,Zb),(65,Zb),(66,Zb),(67,(.elem 1000001 7 (0+(↑i:Int).toNat) 5)),(68,(.d (.slc 4 (b.es.getD i en0).gs.length (dX (b.es.getD i en0).gs)))),(69,(vi (↑(b.es.getD i en0).gs.length))),(70,Zb),(71,Zb),(72,(.elem 1000001 7 (0+(↑i:Int).toNat) 6)),(73,Zc),(74,Ze),(75,Ze),(76,(vb (decide (Za>0)))),(77,(vb (decide (Za>0)))),(78,(.gate 77 true (decide (Za>0)) Zb)),(79,(.gate 77 true (decide (Za>0)) Zb)),(80,(.gate 77 true (decide (Za>0)) (.elem 1000001 7 (0+(↑i:Int).toNat) 6))),(81,(.gate 77 true (decide (Za>0)) Zc)),(82,(.gate 77 true (decide (Za>0)) Ze)),(83,(.gate 77 true (decide (Za>0)) (vi (↑(b.es.getD i en0).ah.length-1)))),(84,(.gate 77 true (decide (Za>0)) (.d (.ptr [(di ((b.es.getD i en0).ah.getD (Za-1).toNat cu).t),(ds ((b.es.getD i en0).ah.getD (Za-1).toNat cu).s),(db ((b.es.getD i en0).ah.getD (Za-1).toNat cu).dec),(db ((b.es.getD i en0).ah.getD (Za-1).toNat cu).acc),(di ((b.es.getD i en0).ah.getD (Za-1).toNat cu).at_),(ds ((b.es.getD i en0).ah.getD (Za-1).toNat cu).ans)])))),(85,(.gate 77 true (decide (Za>0)) (.d (.ptr [(db ((b.es.getD i en0).ah.getD (Za-1).toNat cu).dec),(db ((b.es.getD i en0).ah.getD (Za-1).toNat cu).acc),(di ((b.es.getD i en0).ah.getD (Za-1).toNat cu).at_),(ds ((b.es.getD i en0).ah.getD (Za-1).toNat cu).ans)])))),(86,(.gate 77 true (decide (Za>0)) (vb ((b.es.getD i en0).ah.getD (Za-1).toNat cu).dec))),(87,(.gate 77 true (decide (Za>0)) (vb (!((b.es.getD i en0).ah.getD (Za-1).toNat cu).dec)))),(88,(vb (decide (Za>0)&&!((b.es.getD i en0).ah.getD (Za-1).toNat cu).dec)))],[(1000001,[(.arr gq 7 (bM V b.es))]),(2,[(vi e.t),(.d (.con (.slice (V 1).fst b.es.length (V 1).snd)))]),(3,fJ e),(4,[(vi 0),(.d bY)])]⟩ (aO Tryz.prog Tryz.f46 (jd b e w0 h0)))) (by kernel_rfl) ?_
 try dsimp only
 have e0:0+((i:Int)).toNat=i:=by omega
 have hp:∀n:Nat,(decide ((n:Int)>0))=true→0<n:=fun n c=>by have:=dW c;omega
 rw[e0]
 refine⟨⟨hv,by omega,by omega⟩,hg,⟨hg.2,fun c=>?_,fun c=>?_⟩,?_⟩
 ·have:=hp _ c;exact⟨by omega,by omega⟩
 ·have:=hp _ c;exact⟨by omega,by omega⟩
 refine aH.weaken (st':=CB b e V i) ?_ K
 refine AS.leZ [7] [] (b:=((T0∧T0∧T0∧T0∧T0∧T0∧T0∧((vb (decide ((↑(b.es.getD i en0).ah.length:Int)>0)&&!((b.es.getD i en0).ah.getD ((↑(b.es.getD i en0).ah.length:Int)-1).toNat cu).dec)):AV)=(vb (bW (b.es.getD i en0)))∧True)∧T0∧T0∧T0∧T0∧True)) (by kernel_rfl) (by kernel_rfl) ?_
 rw[←RD]
 exact⟨⟨rfl,rfl,rfl,rfl,rfl,rfl,rfl,rfl,trivial⟩,rfl,rfl,rfl,rfl,trivial⟩
theorem cO.moved {h k:IH} {K:RK} {sz n:Nat} {f:Nat→DV} {bk c:Nat} {v:Value} {o o':Option Obj} (hv:cO h K sz n f bk c v o) (hf:∀i,(f i).flat=true) (he:0<c→o'=o):cO k K sz n f bk c v o':=by
 refine⟨hv.val,dA.flat (fun i _=>hf i) (h:=h) ⟨hv.row.1,?_⟩⟩
 by_cases h1:0<c
 ·rw[he h1];exact hv.row.2
 ·exact .inl (by omega)
structure XY (b:Bk) (e:Ev) (w0:World) (h0 h:IH) (β:Nat→Nat) (V:Nat→Option Addr×Nat) (w2 w4:World) (s m:Nat) (F:Fr):Prop where
 ex:∃(gQ:Nat→Prop) (bb:Nat),lJ b w0 h0 h β V w2 gQ∧(0<room β 1→bb=blk β 1)∧(¬0<room β 1→bb=w2.heap.size)∧Kept (fun c=>gQ c∨c=bb) w2 w4
 on:NZ b w0 w2 β s F.on
 n1:(0<room β 1→blk F.β0 1000001=blk β 1)∧room F.β0 1000001=room β 1∧many F.β0 1000001=b.es.length
 n2:(0<room β s→blk F.β0 1000002=blk β s)∧room F.β0 1000002=room β s∧many F.β0 1000002=m
 hc:jA b e=0
noncomputable def ZB (b:Bk) (e:Ev) (V:Nat→Option Addr×Nat) (i:Nat) (x:List AV):AS:=⟨(qJ b e V i).regs,(1000002,x) :: (qJ b e V i).boxes⟩
def abX (m:Nat):Nat→Option AV
 | 178=>some (.vec 1000002 4 0 m)
 | _=>none
noncomputable def WO (b:Bk) (e:Ev) (V:Nat→Option Addr×Nat) (i:Nat):AS:=⟨regs Tryz.f46.ntmps [(2,.box 2 0),(3,.box 3 0),(4,.box 4 0),(5,vi 0),(189,.vec 189 4 0 ((b.es.getD i en0).gs.length+1)),(191,.elem 1000001 7 i 5)],(189,[.arr ku 4 (yH (b.es.getD i en0).gs e)]) :: (CJ b e V i).boxes⟩
noncomputable def TV (b:Bk) (e:Ev) (V:Nat→Option Addr×Nat) (f:Nat→DV) (x:List AV):AS:=⟨regs Tryz.f46.ntmps [(2,.box 2 0),(4,.box 4 0)],[(1000002,x),(1000001,[.arr gU 7 f]),(2,[.d (di e.t),.d (.con (.slice (V 1).1 b.es.length (V 1).2))]),(4,CO)]⟩
theorem TL {b:Bk} {e:Ev} {w0 w2 w4 w5:World} {h0 h h5:IH} {F F5:Fr} {β:Nat→Nat} {V:Nat→Option Addr×Nat} {i s m:Nat} {K:RK} {sz:Nat} {g:Nat→DV} (hi:i<b.es.length) (hs:s=2*i+2∨s=2*i+3) (q:XY b e w0 h0 h β V w2 w4 s m F) (hk5:Kept F.on w4 w5) (hh5:∀c,c<w4.heap.size→¬F.on c→(∀o,h5.cell c o=h.cell c o)∧h5.obj c=h.obj c) (hon:∀c,F5.on c→F.on c∨w4.heap.size≤c)
  (n1:blk F5.β0 1000001=blk F.β0 1000001∧room F5.β0 1000001=room F.β0 1000001∧many F5.β0 1000001=many F.β0 1000001) {x':En} {p:Option Addr} {c bk:Nat} (n3:(0<c→blk F5.β0 1000002=bk)∧room F5.β0 1000002=c) {f:Nat→DV} (hf:∀j,j<b.es.length→f j=bM (fA V s (p,c)) (b.es.set i x') j)
  (hg:∀(β6:Nat→Nat) (k6:IH) (tm:Array Value) (w6:World) (st:AS),aN h F5 w5 h5 st β6 k6 tm w6→st.box 1000002=some [.arr K sz g]→(∀t,2≤t→t<2*b.es.length+2→t≠s→0<room β t→w6.heap[blk β t]?=w2.heap[blk β t]?)→cO k6 ku 4 x'.gs.length (dX x'.gs) (blk (upd β s bk c 0) (2*i+2)) (room (upd β s bk c 0) (2*i+2)) (sv (fA V s (p,c)) (2*i+2) x'.gs.length) w6.heap[blk (upd β s bk c 0) (2*i+2)]?)
  (ha:∀(β6:Nat→Nat) (k6:IH) (tm:Array Value) (w6:World) (st:AS),aN h F5 w5 h5 st β6 k6 tm w6→st.box 1000002=some [.arr K sz g]→(∀t,2≤t→t<2*b.es.length+2→t≠s→0<room β t→w6.heap[blk β t]?=w2.heap[blk β t]?)→cO k6 jh 6 x'.ah.length (dN x'.ah) (blk (upd β s bk c 0) (2*i+3)) (room (upd β s bk c 0) (2*i+3)) (sv (fA V s (p,c)) (2*i+3) x'.ah.length) w6.heap[blk (upd β s bk c 0) (2*i+3)]?)
  (hB:rB b e=⟨e.t,b.es.set i x'⟩) {its:List It} (hits:its=mX∨its=[cd Tryz.f46 [1,1,1,1,1,1,1,1,1,1,1]]) :
  aH Tryz.prog h F5 w5 h5 its (TV b e V f [.arr K sz g]) (aO Tryz.prog Tryz.f46 (jd b e w0 h0)):=by
 obtain ⟨gQ,bb,b2,hb1,hb2,hk⟩:=q.ex
 have s24:=hk.size
 have s02:=b2.kept.size
 have Ia:NZ b w0 w2 β s F5.on:=by
  refine⟨fun c hc=>?_,fun c hc t t1 t2 t3 t4=>?_⟩
  ·rcases hon c hc with r|r
   ·exact q.on.new c r
   ·omega
  ·rcases hon c hc with r|r
   ·exact q.on.ap c r t t1 t2 t3 t4
   ·have:=b2.q.lt t (by omega) t2 t4;omega
 have hL:∀st:AS,iP Tryz.prog st Tryz.f46.results.toList=some [.d (.agg [di e.t,.con (.slice (V 1).1 b.es.length (V 1).2)]),.d (di 0)]→st.box 1000001=some [.arr gU 7 f]→st.box 1000002=some [.arr K sz g]→aK h F5 w5 h5 (aO Tryz.prog Tryz.f46 (jd b e w0 h0)) .ret st:=by
  intro st hr e1 e2
  refine qy (x:=.d (.agg [di e.t,.con (.slice (V 1).1 b.es.length (V 1).2)])) (y:=.d (di 0)) rfl hr fun β6 k6 tm w6 v u g6 hv hu=>?_
  have hu:u=.int .i64 0:=hu
  obtain ⟨vs,rfl,v0,vs1,rfl,r0,v1,vs2,rfl,r1,r2⟩:=hv
  have r0:v0=.int .i64 e.t:=r0
  have r1:v1=sv V 1 b.es.length:=r1
  have r2:vs2=[]:=r2
  subst hu r0 r1 r2
  refine Zz b2 hb1 hb2 hi hs Ia hk hk5 q.on hh5 g6 ⟨fun h1=>n1.1.trans (q.n1.1 h1),n1.2.1.trans q.n1.2.1,n1.2.2.trans q.n1.2.2⟩ e1 hf (hg _ _ _ _ _ g6 e2) (ha _ _ _ _ _ g6 e2) (fun h1=>?_) hB q.hc
  obtain ⟨d1,d2,_⟩:=g6.fix 1000002 (by decide)
  have hl:Live β6 1000002 [.arr K sz g]:=by
   show 0<room β6 1000002
   rw[d2,n3.2];exact h1
  obtain ⟨z1,z2,_⟩:=(g6.box 1000002 _ e2).1 hl
  rw[d1,n3.1 h1] at z1 z2
  exact⟨z2,z1.elim (fun r=>Ia.new _ r) fun r=>by have:=hk5.size;have r:w5.heap.size≤bk:=r;omega⟩
 rcases hits with rfl|rfl
 ·refine dH (aj:={ d:=bU }) follows (fun _=>none) (cuts:=[]) (n:=1000) ?_
  refine iZ ((.con (.slice (V 1).fst b.es.length (V 1).snd)):DV) (fun Za=>aK h F5 w5 h5 (aO Tryz.prog Tryz.f46 (jd b e w0 h0)) .ret ⟨regs 211 [(2,(.box 2 0)),(4,(.box 4 0)),(5,(vi 0)),(210,(.d (.agg [(di e.t),Za])))],[(1000002,[(.arr K sz g)]),(1000001,[(.arr gq 7 f)]),(2,[(vi e.t),(.d Za)]),(4,[(vi e.t),(.d Za)])]⟩) (by kernel_rfl) ?_
  exact hL _ rfl rfl rfl
 ·refine dH (aj:={ d:=bU }) follows (fun _=>none) (cuts:=[]) (n:=1000) ?_
  refine iZ ((.con (.slice (V 1).fst b.es.length (V 1).snd)):DV) (fun Za=>aK h F5 w5 h5 (aO Tryz.prog Tryz.f46 (jd b e w0 h0)) .ret ⟨regs 211 [(2,(.box 2 0)),(4,(.box 4 0)),(5,(vi 0)),(210,(.d (.agg [(di e.t),Za])))],[(1000002,[(.arr K sz g)]),(1000001,[(.arr gq 7 f)]),(2,[(vi e.t),(.d Za)]),(4,[(vi e.t),(.d Za)])]⟩) (by kernel_rfl) ?_
  exact hL _ rfl rfl rfl
theorem ab9 {b:Bk} {e:Ev} {w0 w2 w4:World} {h0 h:IH} {F:Fr} {β:Nat→Nat} {V:Nat→Option Addr×Nat} {i:Nat} (hi:i<b.es.length) (hs:iY b.es) (q:XY b e w0 h0 h β V w2 w4 (2*i+2) (b.es.getD i en0).gs.length F) (hB:rB b e=⟨e.t,b.es.set i (DK (b.es.getD i en0) e)⟩) :
  aH Tryz.prog h F w4 h (cd Tryz.f46 [1,1,1,1,1,1,1,1,1,1,0,0,1,1,1,1,1,0] :: mX) (ZB b e V i [.arr ku 4 (dX (b.es.getD i en0).gs)]) (aO Tryz.prog Tryz.f46 (jd b e w0 h0)):=by
 have hsi:=(hs.2 i hi).1
 obtain ⟨gQ,bb,b2,hb1,hb2,hk⟩:=q.ex
 refine aH.tail (aj:={ d:=bU,rows:=fun n=>Nat.beq n 188 }) follows (abX (b.es.getD i en0).gs.length) 18 (by kernel_rfl) ?_
 refine iZ (opsOf (aU (ak Tryz.f46) [1,1,1,1,1,1,1,1,1,1,0,0,1,1,1,1,1,0])) (fun Za=>((bT h F (.d (.con (.slice (V (2*i+2)).fst (b.es.getD i en0).gs.length (V (2*i+2)).snd))) (.vec 1000002 4 0 (b.es.getD i en0).gs.length)∧(((b.es.getD i en0).gs.length+1)*40≤1099511627776)∧((b.es.getD i en0).gs.length+1≤1099511627776))∧aK h F w4 h (iQ Tryz.prog Za.toList 18 (Za.toList.length-18) (wpS Tryz.prog mX (aO Tryz.prog Tryz.f46 (jd b e w0 h0)))) .normal ⟨regs 211 [(2,(.box 2 0)),(3,(.box 3 0)),(4,(.box 4 0)),(5,(vi 0)),(7,(.elem 1000001 7 i 0)),(9,(vi (↑(b.es.getD i en0).ah.length))),(174,(.elem 1000001 7 i 0)),(175,(.elem 1000001 7 i 0)),(176,(.elem 1000001 7 i 0)),(177,(.elem 1000001 7 i 5)),(178,(.vec 1000002 4 0 (b.es.getD i en0).gs.length)),(179,(.box 3 5)),(180,(vi e.v)),(181,(.box 3 6)),(182,(vi e.h)),(183,(.box 3 4)),(184,(vi e.t)),(185,(.box 3 7)),(186,(vs e.s)),(187,(.d (.agg [(di e.v),(di e.h),(di e.t),(ds e.s)]))),(188,(.vec 188 4 0 1)),(189,(.vec 189 4 0 ((b.es.getD i en0).gs.length+1))),(190,(.elem 1000001 7 i 0)),(191,(.elem 1000001 7 i 5))],[(189,[(.arr rE 4 (fun o7=>bif o7.blt (b.es.getD i en0).gs.length then dX (b.es.getD i en0).gs o7 else aY true 4 [di e.v,di e.h,di e.t,ds e.s] (0+(o7-(b.es.getD i en0).gs.length))))]),(188,[(.arr rE 4 (aY true 4 [(di e.v),(di e.h),(di e.t),(ds e.s)]))]),(1000002,[.dead]),(1000001,[(.arr gq 7 (bM V b.es))]),(2,[(vi e.t),(.d (.con (.slice (V 1).fst b.es.length (V 1).snd)))]),(3,fJ e),(4,[(vi 0),(.d bY)])]⟩)) (by kernel_rfl) ?_
 refine⟨⟨Bz (p:=V (2*i+2)) (b2.q.gr i hi) (by decide) q.n2.1 q.n2.2.1 q.n2.2.2,by omega,by omega⟩,?_⟩
 intro β3 h3 a3 w3 g3 hd3
 have g4:=g3.weaken (st':=WO b e V i) (by refine AS.leZ [] [] (b:=((T0∧T0∧T0∧T0∧T0∧T0∧True)∧T0∧T0∧T0∧T0∧T0∧True)) (by kernel_rfl) (by kernel_rfl) ?_;exact⟨⟨rfl,rfl,rfl,rfl,rfl,rfl,trivial⟩,rfl,rfl,rfl,rfl,rfl,trivial⟩)
 obtain ⟨p,hpv,hp,hm,g5⟩:=g4.shift (q:=189) (m:=(b.es.getD i en0).gs.length+1) (e:=1000002) (on:=fun c=>∃s l,Go.Ab.look (WO b e V i).boxes s=some l∧Live β3 s l∧blk β3 s=c) (by kernel_rfl) (by kernel_rfl) (by kernel_rfl) (by kernel_rfl) fun s l q1 q2=>⟨s,l,q1,q2,rfl⟩
 rw[show (opsOf (aU (ak Tryz.f46) [1,1,1,1,1,1,1,1,1,1,0,0,1,1,1,1,1,0])).toList.length-18=1+0 from by kernel_rfl]
 refine(dQ.tree (aj:={ d:=bU }) ?_:dQ Tryz.prog h _ w3 h3 (opsOf (aU (ak Tryz.f46) [1,1,1,1,1,1,1,1,1,1,0,0,1,1,1,1,1,0])).toList 18 (1+0) _ _) _ _ _ _ g5 hd3
 refine iZ (jD (b.es.getD i en0) (sv V (2*i+2) (b.es.getD i en0).gs.length) (sv V (2*i+3) (b.es.getD i en0).ah.length)) (fun Za=>aK h (Fr.mk (fun c=>∃s l,Ab.look (WO b e V i).boxes s=some l∧Live β3 s l∧blk β3 s=c) (upd β3 1000002 (blk β3 189) (room β3 189) (many β3 189))) w3 h3 (iQ Tryz.prog (opsOf (aU (ak Tryz.f46) [1,1,1,1,1,1,1,1,1,1,0,0,1,1,1,1,1,0])).toList (18+1) 0 (wpS Tryz.prog mX (aO Tryz.prog Tryz.f46 (jd b e w0 h0)))) .normal ⟨regs 211 [(2,(.box 2 0)),(3,(.box 3 0)),(4,(.box 4 0)),(5,(vi 0)),(189,(.d (.con (.slice p ((b.es.getD i en0).gs.length+1) (β3 (3*189+1)))))),(191,(.elem 1000001 7 i 5))],[(1000002,[(.arr rE 4 (yH (b.es.getD i en0).gs e))]),(1000001,[(.arr gq 7 (fun j=>bif j.beq i then DV.agg (List.take 5 Za++[DV.con (Value.slice p ((b.es.getD i en0).gs.length+1) (β3 (3*189+1)))]++List.drop (5+1) Za) else bM V b.es j))]),(2,[(vi e.t),(.d (.con (.slice (V 1).fst b.es.length (V 1).snd)))]),(3,fJ e),(4,[(vi 0),(.d bY)])]⟩) (by kernel_rfl) ?_
 refine aK.jV ?_
 refine aH.weaken (st':=TV b e V (fun j=>bif j.beq i then .agg (List.take 5 (jD (b.es.getD i en0) (sv V (2*i+2) (b.es.getD i en0).gs.length) (sv V (2*i+3) (b.es.getD i en0).ah.length))++[.con (.slice p ((b.es.getD i en0).gs.length+1) (room β3 189))]++List.drop 6 (jD (b.es.getD i en0) (sv V (2*i+2) (b.es.getD i en0).gs.length) (sv V (2*i+3) (b.es.getD i en0).ah.length))) else bM V b.es j) [.arr ku 4 (yH (b.es.getD i en0).gs e)]) ?_ ?_
 ·exact AS.bJ (by kernel_rfl)
 obtain ⟨f1,f2,f3⟩:=g4.fix 1000001 (by decide)
 have hl:(DK (b.es.getD i en0) e).gs.length=(b.es.getD i en0).gs.length+1:=iT _ _
 refine TL hi (.inl rfl) q (x':=DK (b.es.getD i en0) e) (p:=p) (c:=room β3 189) (bk:=blk β3 189) g3.kept (fun c hc hn=>g3.old c hc hn) ?_ ⟨by rw[←f1];exact aZ (by decide),by rw[←f2];exact bI (by decide),by rw[←f3];exact iJ (by decide)⟩ ⟨fun _=>aQ,aF⟩ (fun j hj=>Qd (x':=DK (b.es.getD i en0) e) (p:=(p,room β3 189)) hi (iT _ _) rfl rfl rfl rfl j) (fun β6 k6 tm w6 st g6 hb6 _=>?_) (fun β6 k6 tm w6 st g6 hb6 hsm=>?_) hB (.inl rfl)
 ·rintro c ⟨t,l,hl,hv,rfl⟩
  exact((g4.box t l hl).1 hv).1
 ·rw[aQ,aF,jv]
  exact mJ g6 (e:=1000002) (by decide) aQ aF (by rw[hl,bH];exact hm) hb6 rfl (fun j=>lN _ j) (UO _ e) hp
 ·rw[aZ (by omega),bI (by omega),dY _ (by omega)]
  exact(b2.q.ap i hi).moved (fun j=>kM _ j) fun h1=>hsm _ (by omega) (by omega) (by omega) h1
def acB (m:Nat):Nat→Option AV
 | 200=>some (.vec 1000002 6 0 m)
 | _=>none
noncomputable def Tq (b:Bk) (e:Ev) (V:Nat→Option Addr×Nat) (i:Nat):AS:=⟨regs Tryz.f46.ntmps [(2,.box 2 0),(3,.box 3 0),(4,.box 4 0),(5,vi 0),(207,.vec 207 6 0 ((b.es.getD i en0).ah.length+1)),(209,.elem 1000001 7 i 6)],(207,[.arr jh 6 (wu (b.es.getD i en0).ah e)]) :: (CJ b e V i).boxes⟩
theorem Zy {b:Bk} {e:Ev} {w0 w2 w4:World} {h0 h:IH} {F:Fr} {β:Nat→Nat} {V:Nat→Option Addr×Nat} {i:Nat} (hi:i<b.es.length) (hs:iY b.es) (q:XY b e w0 h0 h β V w2 w4 (2*i+3) (b.es.getD i en0).ah.length F) (hB:rB b e=⟨e.t,b.es.set i (DF (b.es.getD i en0) e)⟩) :
  aH Tryz.prog h F w4 h (cd Tryz.f46 [1,1,1,1,1,1,1,1,1,1,0,0,1,1,1,1,1,1,1,0] :: mX) (ZB b e V i [.arr jh 6 (dN (b.es.getD i en0).ah)]) (aO Tryz.prog Tryz.f46 (jd b e w0 h0)):=by
 have hsi:=(hs.2 i hi).2
 obtain ⟨gQ,bb,b2,hb1,hb2,hk⟩:=q.ex
 refine aH.tail (aj:={ d:=bU,rows:=fun n=>Nat.beq n 206 }) follows (acB (b.es.getD i en0).ah.length) 14 (by kernel_rfl) ?_
 refine iZ (opsOf (aU (ak Tryz.f46) [1,1,1,1,1,1,1,1,1,1,0,0,1,1,1,1,1,1,1,0])) (fun Za=>((bT h F (.d (.con (.slice (V (2*i+3)).fst (b.es.getD i en0).ah.length (V (2*i+3)).snd))) (.vec 1000002 6 0 (b.es.getD i en0).ah.length)∧(((b.es.getD i en0).ah.length+1)*56≤1099511627776)∧((b.es.getD i en0).ah.length+1≤1099511627776))∧aK h F w4 h (iQ Tryz.prog Za.toList 14 (Za.toList.length-14) (wpS Tryz.prog mX (aO Tryz.prog Tryz.f46 (jd b e w0 h0)))) .normal ⟨regs 211 [(2,(.box 2 0)),(3,(.box 3 0)),(4,(.box 4 0)),(5,(vi 0)),(7,(.elem 1000001 7 i 0)),(9,(vi (↑(b.es.getD i en0).ah.length))),(196,(.elem 1000001 7 i 0)),(197,(.elem 1000001 7 i 0)),(198,(.elem 1000001 7 i 0)),(199,(.elem 1000001 7 i 6)),(200,(.vec 1000002 6 0 (b.es.getD i en0).ah.length)),(201,(.box 3 4)),(202,(vi e.t)),(203,(.box 3 7)),(204,(vs e.s)),(205,(.d (.agg [(di e.t),(ds e.s),(db false),(db false),(di 0),(ds (ByteArray.mk #[]))]))),(206,(.vec 206 6 0 1)),(207,(.vec 207 6 0 ((b.es.getD i en0).ah.length+1))),(208,(.elem 1000001 7 i 0)),(209,(.elem 1000001 7 i 6))],[(207,[(.arr oC 6 (fun o7=>bif o7.blt (b.es.getD i en0).ah.length then dN (b.es.getD i en0).ah o7 else aY true 6 [di e.t,ds e.s,DV.con (Value.bool false),DV.con (Value.bool false),di 0,ds (ByteArray.mk #[])] (0+(o7-(b.es.getD i en0).ah.length))))]),(206,[(.arr oC 6 (aY true 6 [(di e.t),(ds e.s),(db false),(db false),(di 0),(ds (ByteArray.mk #[]))]))]),(1000002,[.dead]),(1000001,[(.arr gq 7 (bM V b.es))]),(2,[(vi e.t),(.d (.con (.slice (V 1).fst b.es.length (V 1).snd)))]),(3,fJ e),(4,[(vi 0),(.d bY)])]⟩)) (by kernel_rfl) ?_
 refine⟨⟨Bz (p:=V (2*i+3)) (b2.q.ap i hi) (by decide) q.n2.1 q.n2.2.1 q.n2.2.2,by omega,by omega⟩,?_⟩
 intro β3 h3 a3 w3 g3 hd3
 have g4:=g3.weaken (st':=Tq b e V i) (by refine AS.leZ [] [0] (b:=((T0∧T0∧T0∧T0∧T0∧T0∧True)∧((some [(.arr oC 6 (fun o7=>bif o7.blt (b.es.getD i en0).ah.length then dN (b.es.getD i en0).ah o7 else aY true 6 [di e.t,ds e.s,DV.con (Value.bool false),DV.con (Value.bool false),di 0,ds (ByteArray.mk #[])] (0+(o7-(b.es.getD i en0).ah.length))))]):fO)=(some [(.arr oC 6 (wu (b.es.getD i en0).ah e))])∧T0∧T0∧T0∧T0∧True)) (by kernel_rfl) (by kernel_rfl) ?_;exact⟨⟨rfl,rfl,rfl,rfl,rfl,rfl,trivial⟩,rfl,rfl,rfl,rfl,rfl,trivial⟩)
 obtain ⟨p,hpv,hp,hm,g5⟩:=g4.shift (q:=207) (m:=(b.es.getD i en0).ah.length+1) (e:=1000002) (on:=fun c=>∃s l,Go.Ab.look (Tq b e V i).boxes s=some l∧Live β3 s l∧blk β3 s=c) (by kernel_rfl) (by kernel_rfl) (by kernel_rfl) (by kernel_rfl) fun s l q1 q2=>⟨s,l,q1,q2,rfl⟩
 rw[show (opsOf (aU (ak Tryz.f46) [1,1,1,1,1,1,1,1,1,1,0,0,1,1,1,1,1,1,1,0])).toList.length-14=1+0 from by kernel_rfl]
 refine(dQ.tree (aj:={ d:=bU }) ?_:dQ Tryz.prog h _ w3 h3 (opsOf (aU (ak Tryz.f46) [1,1,1,1,1,1,1,1,1,1,0,0,1,1,1,1,1,1,1,0])).toList 14 (1+0) _ _) _ _ _ _ g5 hd3
 refine iZ (jD (b.es.getD i en0) (sv V (2*i+2) (b.es.getD i en0).gs.length) (sv V (2*i+3) (b.es.getD i en0).ah.length)) (fun Za=>aK h (Fr.mk (fun c=>∃s l,Ab.look (Tq b e V i).boxes s=some l∧Live β3 s l∧blk β3 s=c) (upd β3 1000002 (blk β3 207) (room β3 207) (many β3 207))) w3 h3 (iQ Tryz.prog (opsOf (aU (ak Tryz.f46) [1,1,1,1,1,1,1,1,1,1,0,0,1,1,1,1,1,1,1,0])).toList (14+1) 0 (wpS Tryz.prog mX (aO Tryz.prog Tryz.f46 (jd b e w0 h0)))) .normal ⟨regs 211 [(2,(.box 2 0)),(3,(.box 3 0)),(4,(.box 4 0)),(5,(vi 0)),(207,(.d (.con (.slice p ((b.es.getD i en0).ah.length+1) (β3 (3*207+1)))))),(209,(.elem 1000001 7 i 6))],[(1000002,[(.arr oC 6 (wu (b.es.getD i en0).ah e))]),(1000001,[(.arr gq 7 (fun j=>bif j.beq i then DV.agg (List.take 6 Za++[DV.con (Value.slice p ((b.es.getD i en0).ah.length+1) (β3 (3*207+1)))]++List.drop (6+1) Za) else bM V b.es j))]),(2,[(vi e.t),(.d (.con (.slice (V 1).fst b.es.length (V 1).snd)))]),(3,fJ e),(4,[(vi 0),(.d bY)])]⟩) (by kernel_rfl) ?_
 refine aK.jV ?_
 refine aH.weaken (st':=TV b e V (fun j=>bif j.beq i then .agg (List.take 6 (jD (b.es.getD i en0) (sv V (2*i+2) (b.es.getD i en0).gs.length) (sv V (2*i+3) (b.es.getD i en0).ah.length))++[.con (.slice p ((b.es.getD i en0).ah.length+1) (room β3 207))]++List.drop 7 (jD (b.es.getD i en0) (sv V (2*i+2) (b.es.getD i en0).gs.length) (sv V (2*i+3) (b.es.getD i en0).ah.length))) else bM V b.es j) [.arr jh 6 (wu (b.es.getD i en0).ah e)]) ?_ ?_
 ·exact AS.bJ (by kernel_rfl)
 obtain ⟨f1,f2,f3⟩:=g4.fix 1000001 (by decide)
 have hl:(DF (b.es.getD i en0) e).ah.length=(b.es.getD i en0).ah.length+1:=iT _ _
 refine TL hi (.inr rfl) q (x':=DF (b.es.getD i en0) e) (p:=p) (c:=room β3 207) (bk:=blk β3 207) g3.kept (fun c hc hn=>g3.old c hc hn) ?_ ⟨by rw[←f1];exact aZ (by decide),by rw[←f2];exact bI (by decide),by rw[←f3];exact iJ (by decide)⟩ ⟨fun _=>aQ,aF⟩ (fun j hj=>Qb (x':=DF (b.es.getD i en0) e) (p:=(p,room β3 207)) hi (iT _ _) rfl rfl rfl rfl j) (fun β6 k6 tm w6 st g6 hb6 hsm=>?_) (fun β6 k6 tm w6 st g6 hb6 _=>?_) hB (.inl rfl)
 ·rintro c ⟨t,l,hl,hv,rfl⟩
  exact((g4.box t l hl).1 hv).1
 ·rw[aZ (by omega),bI (by omega),dY _ (by omega)]
  exact(b2.q.gr i hi).moved (fun j=>lN _ j) fun h1=>hsm _ (by omega) (by omega) (by omega) h1
 ·rw[aQ,aF,jv]
  exact mJ g6 (e:=1000002) (by decide) aQ aF (by rw[hl,bH];exact hm) hb6 rfl (fun j=>kM _ j) (UW _ e) hp
def acr (n:Nat):Nat→Option AV
 | 92=>some (.vec 1000002 6 0 n)
 | _=>none
noncomputable def Sv (b:Bk) (e:Ev) (V:Nat→Option Addr×Nat) (i n:Nat):AS:=⟨regs Tryz.f46.ntmps [(2,.box 2 0),(3,.box 3 0),(4,.box 4 0),(5,vi 0),(7,.elem 1000001 7 i 0),(9,vi n)],(1000002,[.arr jh 6 (dN (b.es.getD i en0).ah)]) :: (CJ b e V i).boxes⟩
noncomputable def adU (b:Bk) (e:Ev) (V:Nat→Option Addr×Nat) (i m:Nat):AS:=⟨regs Tryz.f46.ntmps [(2,.box 2 0),(3,.box 3 0),(4,.box 4 0),(5,vi 0),(7,.elem 1000001 7 i 0),(9,vi ((m+1:Nat):Int)),(11,.elem 1000002 6 m 0),(89,.elem 1000001 7 i 0),(90,.elem 1000001 7 i 0),(91,.elem 1000001 7 i 6),(92,.vec 1000002 6 0 (m+1)),(93,vi ((m+1:Nat):Int)),(94,vi m),(95,.elem 1000002 6 m 0),(96,.elem 1000002 6 m 0),(97,.elem 1000002 6 m 0),(98,.elem 1000002 6 m 0),(99,.elem 1000002 6 m 0),(100,.box 3 8),(101,vb e.acc),(102,.box 3 4),(103,vi e.t),(104,.box 3 7),(105,vs e.s),(106,.elem 1000002 6 m 0),(107,.elem 1000002 6 m 2),(108,.elem 1000002 6 m 0),(109,.elem 1000002 6 m 3),(110,.elem 1000002 6 m 0),(111,.elem 1000002 6 m 4),(112,.elem 1000002 6 m 0),(113,.elem 1000002 6 m 5)],(1000002,[.arr jh 6 fun j=>gD (b.es.getD i en0).ah e m j]) :: (CJ b e V i).boxes⟩
def N46 (b:Bk) (e:Ev) (w0:World) (h0 h:IH) (F:Fr) (w4:World) (V:Nat→Option Addr×Nat) (i m:Nat):Prop:=(bT h F (.d (.con (sv V (2*i+3) (b.es.getD i en0).ah.length))) (.vec 1000002 6 0 (m+1))∧I64 (((m+1:Nat):Int)-1)∧(0≤((m+1:Nat):Int)-1)∧(((m+1:Nat):Int)-1<((m+1:Nat):Int)))∧
 aH Tryz.prog h F w4 h [cd Tryz.f46 [1,1,1,1,1,1,1,1,1,1,1]] (adU b e V i m) (aO Tryz.prog Tryz.f46 (jd b e w0 h0))
theorem abC {b:Bk} {e:Ev} {w0 w4:World} {h0 h:IH} {F:Fr} {V:Nat→Option Addr×Nat} {i m:Nat} (hm:m<16) (hN:N46 b e w0 h0 h F w4 V i m) :
  aH Tryz.prog h F w4 h (cd Tryz.f46 [1,1,1,1,1,1,1,1,1,1,0,0,1,1,1,1,1,1,1,1] :: mX) (Sv b e V i (m+1)) (aO Tryz.prog Tryz.f46 (jd b e w0 h0)):=by
 have h16:m=0∨m=1∨m=2∨m=3∨m=4∨m=5∨m=6∨m=7∨m=8∨m=9∨m=10∨m=11∨m=12∨m=13∨m=14∨m=15:=by omega
 refine dH (aj:={ d:=bU }) follows (acr (m+1)) (cuts:=[31]) (n:=1000) ?_
 refine iZ m (N46 b e w0 h0 h F w4 V i) ?_ hN
 clear hN hm
 rcases h16 with rfl|rfl|rfl|rfl|rfl|rfl|rfl|rfl|rfl|rfl|rfl|rfl|rfl|rfl|rfl|rfl<;>kernel_rfl
theorem aaZ {b:Bk} {e:Ev} {w0 w2 w4:World} {h0 h:IH} {F:Fr} {β:Nat→Nat} {V:Nat→Option Addr×Nat} {i m:Nat} (hi:i<b.es.length) (hm:(b.es.getD i en0).ah.length=m+1) (Iw:m<16) (q:XY b e w0 h0 h β V w2 w4 (2*i+3) (b.es.getD i en0).ah.length F) (hB:rB b e=⟨e.t,b.es.set i (yS (b.es.getD i en0) e)⟩) :
  aH Tryz.prog h F w4 h (cd Tryz.f46 [1,1,1,1,1,1,1,1,1,1,0,0,1,1,1,1,1,1,1,1] :: mX) (Sv b e V i (m+1)) (aO Tryz.prog Tryz.f46 (jd b e w0 h0)):=by
 obtain ⟨gQ,bb,b2,hb1,hb2,hk⟩:=q.ex
 refine abC Iw ⟨⟨hm▸Bz (p:=V (2*i+3)) (b2.q.ap i hi) (by decide) q.n2.1 q.n2.2.1 q.n2.2.2,⟨by omega,by omega⟩,by omega,by omega⟩,?_⟩
 refine aH.weaken (st':=TV b e V (bM V b.es) [.arr jh 6 fun j=>gD (b.es.getD i en0).ah e m j]) ?_ ?_
 ·exact AS.bJ (by kernel_rfl)
 obtain ⟨hl,hat⟩:=VL hm e
 have hcap:V (2*i+3)=((V (2*i+3)).1,room β (2*i+3)):=by
  obtain ⟨p,hp,_⟩:=(b2.q.ap i hi).val
  simp only[Value.slice.injEq,true_and] at hp
  rw[←hp.2]
 have hpp:(V (2*i+3)).1=some ⟨blk β (2*i+3),0,none⟩∨room β (2*i+3)=0:=by
  obtain ⟨p,hp,hq⟩:=(b2.q.ap i hi).val
  simp only[Value.slice.injEq,true_and] at hp
  rw[hp.1];exact hq
 have hput:∀t n,sv (fA V (2*i+3) ((V (2*i+3)).1,room β (2*i+3))) t n=sv V t n:=fun t n=>by
  by_cases c:t=2*i+3
  ·subst c;rw[jv,←hcap]
  ·rw[dY _ c]
 refine TL hi (.inr rfl) q (x':=yS (b.es.getD i en0) e) (p:=(V (2*i+3)).1) (c:=room β (2*i+3)) (bk:=blk β (2*i+3)) (Kept.refl _ _) (fun _ _ _=>⟨fun _=>rfl,rfl⟩) (fun _ hc=>.inl hc) ⟨rfl,rfl,rfl⟩ ⟨q.n2.1,q.n2.2.1⟩ (fun j hj=>?_) (fun β6 k6 tm w6 st g6 hb6 hsm=>?_) (fun β6 k6 tm w6 st g6 hb6 _=>?_) hB (.inr rfl)
 ·unfold bM
  by_cases c:j=i
  ·subst c
   have ex:(b.es.set j (yS (b.es.getD j en0) e)).getD j en0=yS (b.es.getD j en0) e:=by rw[List.getD,List.getElem?_set_self hi];rfl
   rw[ex,hput,hput,hl,←hm]
   rfl
  ·rw[List.getD,List.getD,List.getElem?_set_ne (Ne.symm c)]
   simp only[hput]
 ·rw[aZ (by omega),bI (by omega),dY _ (by omega)]
  exact(b2.q.gr i hi).moved (fun j=>lN _ j) fun h1=>hsm _ (by omega) (by omega) (by omega) h1
 ·rw[aQ,aF,jv,hl]
  by_cases h1:0<room β (2*i+3)
  ·refine mJ g6 (e:=1000002) (by decide) (q.n2.1 h1) q.n2.2.1 (by rw[q.n2.2.2,hm];exact Nat.le_refl _) hb6 rfl (fun j=>kM _ j) (fun j hj=>?_) hpp
   show gD (b.es.getD i en0).ah e m j=.agg (Ef ((yS (b.es.getD i en0) e).ah.getD j cu))
   rw[hat j hj]
   by_cases c:j=m
   ·subst c;rw[if_pos rfl];exact X9
   ·rw[if_neg c];exact Ya c
  ·have:=(b2.q.ap i hi).row.1.1
   omega
theorem VE {x:List AV} {y:List AV} {z:List AV} (hx:pY x) (hy:pY y) (hz:pY z):∀s l,Go.Ab.look [(2,x),(3,y),(4,z)] s=some l→pY l:=by
 intro s l hl
 simp only[Go.Ab.look] at hl
 by_cases e1:(2:Nat)=s
 ·subst e1;simp at hl;subst hl;exact hx
 ·rw[aP e1,cond_false] at hl
  by_cases e2:(3:Nat)=s
  ·subst e2;simp at hl;subst hl;exact hy
  ·rw[aP e2,cond_false] at hl
   by_cases e3:(4:Nat)=s
   ·subst e3;simp at hl;subst hl;exact hz
   ·rw[aP e3,cond_false] at hl;cases hl
theorem KF {b:Bk} {e:Ev} {V:Nat→Option Addr×Nat} {i:Nat}:∀s l,Go.Ab.look (CJ b e V i).boxes s=some l→pY l:=by
 intro s l hl
 simp only[CJ,Go.Ab.look] at hl
 by_cases e2:(1000001:Nat)=s
 ·subst e2;simp at hl;subst hl;exact fun i=>mO V b.es i
 ·rw[aP e2,cond_false] at hl
  exact VE (x:=[.d (di e.t),.d (.con (.slice (V 1).1 b.es.length (V 1).2))]) (y:=(kC e).map .d) (z:=CO) rfl rfl rfl s l hl
theorem ZX {b:Bk} {e:Ev} {w0 w:World} {h0 h:IH} {β β1:Nat→Nat} {V:Nat→Option Addr×Nat} {on:Nat→Prop} (hs:iY b.es) (hb:qX b.es) (ht:¬e.t<b.t) (hf:lY e) (hk:e.kind≠0) {i:Nat} (hfi:dB b.es e.k=some i) (hi:i<b.es.length) (a:lJ b w0 h0 h β V w on) :
  aH Tryz.prog (IH.add h (ru β b.es.length) w) ⟨on,β1⟩ w (IH.add h (ru β b.es.length) w) [cd Tryz.f46 [1,1,1,1,1,1,1]] (Et b e (V 1) i) (aO Tryz.prog Tryz.f46 (jd b e w0 h0)):=by
 intro β2 k2 a2 w2 g2 hd2
 obtain ⟨gQ,bb,hb1,hb2,b2,g5⟩:=a.read (rs:=(Et b e (V 1) i).regs) (bs:=(Et b e (V 1) i).boxes) rfl g2 (by kernel_rfl) (VE rfl rfl rfl) (by kernel_rfl) (by kernel_rfl)
 obtain ⟨l1,l2⟩:=b2.q.lists
 have hnew2:∀c,(gQ c∨c=bb)→w0.heap.size≤c:=by
  rintro c (q|rfl)
  ·exact(b2.new _ q).1
  ·by_cases h1:0<room β 1
   ·rw[hb1 h1];exact b2.xW _ ⟨1,by omega,by omega,h1,rfl⟩
   ·rw[hb2 h1];exact b2.kept.size
 have o:zC w0 h0 (IH.add h (DN β b.es.length) w2) w2 (fun c=>gQ c∨c=bb):=by
  refine⟨b2.le.trans l1,b2.kept,fun c hlt=>?_,hnew2⟩
  have hn:¬DN β b.es.length c:=fun ⟨t,t1,t2,t3,t4⟩=>by have:=b2.xW c ⟨t,by omega,t2,t3,t4⟩;omega
  exact⟨fun o=>by rw[IH.jY hn];exact(b2.old c hlt).1 o,by rw[IH.xJ];exact(b2.old c hlt).2⟩
 have hA:jA b e=zT (b.es.getD i en0) e:=by unfold jA;rw[if_neg ht,if_neg hk,hfi]
 have hin:∀s,2≤s→s<2*b.es.length+2→0<room β s→∀o,(IH.add h (DN β b.es.length) w2).cell (blk β s) o=w2.cell? ⟨blk β s,o,none⟩:=fun s s1 s2 s3 o=>IH.ou ⟨s,s1,s2,s3,rfl⟩
 have hgs:Zv (IH.add h (DN β b.es.length) w2) ⟨fun c=>gQ c∨c=bb,upd β2 1000001 bb (room β 1) b.es.length⟩ V i (b.es.getD i en0):=by
  refine⟨fun β4 h4 v hG _ r=>?_,fun β4 h4 v hG _ r=>?_⟩
  ·have r:v=sv V (2*i+2) (b.es.getD i en0).gs.length:=r
   subst r
   exact DV.rel.mono hG _ _ ((b2.q.gr i hi).slc l1 fun h0 o=>hin _ (by omega) (by omega) h0 o)
  ·have r:v=sv V (2*i+3) (b.es.getD i en0).ah.length:=r
   subst r
   exact DV.rel.mono hG _ _ ((b2.q.ap i hi).slc l1 fun h0 o=>hin _ (by omega) (by omega) h0 o)
 have hB:∀x',iE (b.es.getD i en0) e=x'→jA b e=0→rB b e=⟨e.t,b.es.set i x'⟩:=fun x' hx hc=>by
  unfold rB fK eu
  rw[if_pos hc,if_neg hk,hfi,←hx]
 have hn1:∀{st:AS} {β3:Nat→Nat} {k3:IH} {tm:Array Value} {w3:World} (g3:aN (IH.add h (DN β b.es.length) w2) ⟨fun c=>gQ c∨c=bb,upd β2 1000001 bb (room β 1) b.es.length⟩ w2 (IH.add h (DN β b.es.length) w2) st β3 k3 tm w3) (bc c m:Nat),(0<room β 1→blk (upd β3 1000002 bc c m) 1000001=blk β 1)∧room (upd β3 1000002 bc c m) 1000001=room β 1∧many (upd β3 1000002 bc c m) 1000001=b.es.length:=by
  intro st β3 k3 tm w3 g3 bc c m
  obtain ⟨f1,f2,f3⟩:=g3.fix 1000001 (by decide)
  rw[aZ (by decide),bI (by decide),iJ (by decide),f1,f2,f3]
  exact⟨fun h1=>aQ.trans (hb1 h1),aF,bH⟩
 refine(abn hi hs (Bz (p:=V 1) b2.q.ent (by decide) (fun h0=>by rw[aQ];exact hb1 h0) aF bH) hgs (aag hi hs o hgs hA fun hc=>aaw hk hf (fun k1=>?_) (fun k2=>?_) (fun k3=>?_))) _ _ a2 w2 g5 hd2
 ·intro β3 k3 a3 w3 g3 hd3
  obtain ⟨Si,bc,c1,OE,hw3,hk3,g4⟩:=b2.list hb1 hb2 rfl (rs:=(qJ b e V i).regs) (bs:=(qJ b e V i).boxes) g3 (by kernel_rfl) KF (s:=2*i+2) (by omega) (by omega) (b2.q.gr i hi) (by kernel_rfl) (by kernel_rfl)
  refine ab9 hi hs ⟨⟨gQ,bb,b2,hb1,hb2,hk3⟩,OE,hn1 g3 _ _ _,⟨fun h1=>aQ.trans (c1 h1),aF,bH⟩,hc⟩ (hB _ ?_ hc) _ _ a3 w3 g4 hd3
  unfold iE DK
  rw[if_pos k1]
 ·intro β3 k3 a3 w3 g3 hd3
  obtain ⟨Si,bc,c1,OE,hw3,hk3,g4⟩:=b2.list hb1 hb2 rfl (rs:=(qJ b e V i).regs) (bs:=(qJ b e V i).boxes) g3 (by kernel_rfl) KF (s:=2*i+3) (by omega) (by omega) (b2.q.ap i hi) (by kernel_rfl) (by kernel_rfl)
  refine Zy hi hs ⟨⟨gQ,bb,b2,hb1,hb2,hk3⟩,OE,hn1 g3 _ _ _,⟨fun h1=>aQ.trans (c1 h1),aF,bH⟩,hc⟩ (hB _ ?_ hc) _ _ a3 w3 g4 hd3
  unfold iE DF
  rw[if_neg (by omega),if_pos k2]
 ·obtain ⟨m,hm⟩:∃m,(b.es.getD i en0).ah.length=m+1:=by
   have ho:bW (b.es.getD i en0)=true:=by
    cases q:bW (b.es.getD i en0) with
    | true=>rfl
    | false=>
     exfalso
     rw[hA] at hc
     unfold zT at hc
     rw[if_pos (.inr (.inr ⟨k3,by rw[q];exact Bool.false_ne_true⟩))] at hc
     exact absurd hc (by decide)
   unfold bW at ho
   cases hl:(b.es.getD i en0).ah with
   | nil=>rw[hl] at ho;cases ho
   | cons a l=>exact⟨l.length,rfl⟩
  have Iw:m<16:=by
   have hb:=hb i hi
   simp only[uT,aV,eF] at hb
   omega
  intro β3 kk3 a3 w3 g3 hd3
  obtain ⟨Si,bc,c1,OE,hw3,hk3,g4⟩:=b2.list hb1 hb2 rfl (rs:=(qJ b e V i).regs) (bs:=(qJ b e V i).boxes) g3 (by kernel_rfl) KF (s:=2*i+3) (by omega) (by omega) (b2.q.ap i hi) (by kernel_rfl) (by kernel_rfl)
  have hS:(⟨(qJ b e V i).regs,(1000002,[.arr jh 6 (dN (b.es.getD i en0).ah)]) :: (qJ b e V i).boxes⟩:AS)=Sv b e V i (m+1):=by
   unfold qJ Sv
   rw[hm]
  rw[hS] at g4
  refine aaZ hi hm Iw ⟨⟨gQ,bb,b2,hb1,hb2,hk3⟩,OE,hn1 g3 _ _ _,⟨fun h1=>aQ.trans (c1 h1),aF,bH⟩,hc⟩ (hB _ ?_ hc) _ _ a3 w3 g4 hd3
  unfold iE yS
  rw[if_neg (by omega),if_neg (by omega)]
theorem abP (b:Bk) (e:Ev) (hs:iY b.es) (hb:qX b.es) (hf:lY e) (hw:G.holds w) {u x:Value} (hu:DV.rel G (eY b) u) (hx:DV.rel G (fQ e) x):Calls Tryz.prog 46 #[u,x] w fun r w'=>∃v,r=.returned v∧jd b e w G v w':=by
 have g:=aN.bare (G:=G) (rs:=[.d (eY b),.d (fQ e)]) (β:=fun _=>0) (tm:=#[u,x]) (IH.le.refl G) hw rfl (fun t y hy=>by
  rcases t with _|_|t
  ·simp at hy;subst hy;exact⟨_,rfl,hu⟩
  ·simp at hy;subst hy;exact⟨_,rfl,hx⟩
  ·simp at hy) (fun _=>False)
 refine Calls.Af Tryz.func46 rfl g ?_
 refine dH (aj:={ d:=bU }) follows (fun _=>none) (cuts:=[3]) (n:=1000) ?_
 refine qR ((.d (.agg [(di e.kind),(ds e.k.st),(ds e.k.ex),(di e.k.n),(di e.t),(di e.v),(di e.h),(ds e.s),(db e.acc)])):AV) ((.slc 7 b.es.length (dM b.es)):DV) (fun Za Zb=>((((decide (e.t<b.t))=true)→aK G (Fr.mk (fun x=>False) fun x=>0) w G (aO Tryz.prog Tryz.f46 (jd b e w G)) .ret ⟨regs 211 [(0,(.d (.agg [(di b.t),Zb]))),(1,Za),(2,(.box 2 0)),(3,(.box 3 0)),(4,(.box 4 0)),(5,(vi 2)),(12,(.box 3 4)),(13,(vi e.t)),(14,(.box 2 0)),(15,(vi b.t)),(16,(vb (decide (e.t<b.t)))),(17,(.d (.agg [(di 0),bY])))],[(4,[(vi 0),(.d bY)]),(3,fJ e),(2,[(vi b.t),(.d Zb)])]⟩)∧(((decide (e.t<b.t))=false)→aH Tryz.prog G (Fr.mk (fun x=>False) fun x=>0) w G [cd Tryz.f46 [1,1]] ⟨regs 211 [(0,(.d (.agg [(di b.t),Zb]))),(1,Za),(2,(.box 2 0)),(3,(.box 3 0)),(4,(.box 4 0)),(5,(vi 0)),(12,(.box 3 4)),(13,(vi e.t)),(14,(.box 2 0)),(15,(vi b.t)),(16,(vb (decide (e.t<b.t))))],[(4,[(vi 0),(.d bY)]),(3,fJ e),(2,[(vi b.t),(.d Zb)])]⟩ (aO Tryz.prog Tryz.f46 (jd b e w G))))) (by kernel_rfl) ?_
 refine⟨fun c=>?_,fun c=>?_⟩
 ·have ht:e.t<b.t:=dW c
  exact uf (F:=⟨fun _=>False,fun _=>0⟩) (code:=2) ⟨IH.le.refl _,Kept.refl _ _,fun _ _=>⟨fun _=>rfl,rfl⟩,fun _ hc=>hc.elim⟩ rfl (by unfold jA;rw[if_pos ht]) (by decide)
 have ht:¬e.t<b.t:=of_decide_eq_false c
 refine aH.weaken (st':=X4 b e) ?_ ?_
 ·exact AS.bJ (by kernel_rfl)
 refine aH.seq (a:=aU (ak Tryz.f46) [1,1,0]) (b:=aU (ak Tryz.f46) [1,1,1]) (by kernel_rfl) ?_
 refine aH.qc (aj:={ d:=bU }) follows (fun _=>none) 1 (by kernel_rfl) ?_
 refine iq (b:=aK G (Fr.mk (fun x=>False) fun x=>0) w G (iQ Tryz.prog (opsOf (aU (ak Tryz.f46) [1,1,0])).toList 1 ((opsOf (aU (ak Tryz.f46) [1,1,0])).toList.length-1) (wpS Tryz.prog [It.code (aU (ak Tryz.f46) [1,1,1])] (aO Tryz.prog Tryz.f46 (jd b e w G)))) .normal ⟨regs 211 [(2,(.box 2 0)),(3,(.box 3 0)),(4,(.box 4 0)),(5,(vi 0)),(18,(.d (.agg [(di b.t),(.slc 7 b.es.length (dM b.es))])))],[(2,[(vi b.t),(.d (.slc 7 b.es.length (dM b.es)))]),(3,fJ e),(4,[(vi 0),(.d bY)])]⟩) (by kernel_rfl) ?_
 intro β3 h3 a3 w3 g3 hd3
 have g4:=g3.weaken (st':=WW b e) (by refine AS.leZ [] [] (b:=((T0∧T0∧T0∧T0∧T0∧True)∧T0∧T0∧T0∧True)) (by kernel_rfl) (by kernel_rfl) ?_;exact⟨⟨rfl,rfl,rfl,rfl,rfl,trivial⟩,rfl,rfl,rfl,trivial⟩)
 exact acj hs (fun h2 w3 w F β V q hh hon hk hle hold=>abS q hh hs ht hon hk hle hold (fun k0 hc h β V w on β1 a=>aa1 hs k0 hc a) fun k0 i hi h β V w on β1 a=>ZX hs hb ht hf k0 hi (jg hi).1 a) _ _ _ _ g4 hd3
theorem h46:OW G:=by
 intro b e hs hb ok
 refine⟨Tryz.call46,fun w h vs hG hw hr=>?_⟩
 obtain ⟨u,vs1,rfl,r,x,vs2,rfl,r2,hn⟩:=hr
 have hn:vs2=[]:=hn
 subst hn
 refine(abP (G:=h) b e hs hb (jX ok) hw r r2).mono ?_
 rintro _ w' ⟨v,rfl,u',k,rfl,hu,hle,hkw,hk,hold⟩
 exact⟨_,k,rfl,⟨_,rfl,_,_,rfl,hu,_,_,rfl,rfl,rfl⟩,hle,hkw,hk,hold⟩
end Go.Proofs
namespace Go.Proofs
open Go Go.Ab Go.RowKit
variable {G:IH}
theorem ady (b:Bk) (h:iY b.es):au Tryz.prog G 17 [eY b,eY b] (db true):=by
 have:=f17 (G:=G) b b h
 rwa [decide_eq_true rfl] at this
noncomputable def abt (few:Bool) (D:ByteArray) (x:Ev):iw:=fun f a=>match f,a with
 | 11,_=>some (db true)
 | 12,_=>some (db few)
 | 38,[y]=>some (.aC [ds (encS (jH y)),di (gI (jH y))])
 | 39,_=>some (.aC [ds (encS x),di (gI x)])
 | 40,[.con (.string s)]=>some (.aC [fQ (aX s),di (jQ s)])
 | 41,_=>some (.aC [fQ (aX D),di (jQ D)])
 | 42,_=>some (.aC [eY (nX D),di (qW D)])
 | 43,_=>some (.aC [eY (nX D),di (qW D)])
 | 17,_=>some (db true)
 | 30,_=>some (.aC [ds (iG (nX D)),di (gB (nX D))])
 | _,_=>none
noncomputable def aef (few:Bool) (D:ByteArray) (x:Ev):eU:={ d:=abt few D x,rows:=fun n=>Nat.beq n 26 }
theorem Pq:∀{l:List ByteArray} {a c:Bk},dh aS a=true→nV l a=some c→dh aS c=true
 | [],_,_,g,h=>by
  have h:some _=some _:=h
  cases h;exact g
 | s :: l,a,c,g,h=>by
  have h:(if fF s=true∧cZ a (aX s)=0 then nV l (fK a (aX s)) else none)=some c:=h
  split at h
  ·rename_i q
   exact Pq (Df (fun _=>jX) g (xH q.1) q.2) h
  ·cases h
theorem Y4 (D:ByteArray):dh aS (nX D)=true:=by
 unfold nX
 split
 ·rename_i h
  unfold qY at h
  cases hr:nV (aW D.data.toList) eP with
  | none=>rw[hr,Bool.and_false] at h;cases h
  | some c=>exact Pq Lc hr
 ·exact Lc
theorem f9 (h46:OW G) (hT:Tab G) (hE:Errs G) (x:Ev) (D:ByteArray) (hD:D.size≤9223372036854775807):au Tryz.prog G 9 [fQ x,ds D] (db true):=by
 refine au.zX (aj:=aef (sN [x] 1) D x) (keep:=[]) follows Tryz.func9 rfl Tryz.call9 ?_
 refine aJ (fun _ _ _ ZK=>(fun Za Zb Zc Zd Ze Zf=>(ZK 11 [] (db true)∧((false=true)→(((db false):DV)=(db true)))∧((false=false)→(ZK 12 [(.slc 9 1 (fun i=>aY true 9 [di x.kind,ds x.k.st,ds x.k.ex,di x.k.n,di x.t,di x.v,di x.h,ds x.s,DV.con (Value.bool x.acc)] (0+i))),(di 1)] (db (sN [x] 1))∧(((!sN [x] 1||decide ((↑D.size:Int)>600))=true)→(ZS ((db true):DV)))∧(((!sN [x] 1||decide ((↑D.size:Int)>600))=false)→(ZK 38 [Zf] (.aC [(ds (encS Za)),(di (gI Za))])∧ZK 39 [Zf] (.aC [(ds (encS x)),(di (gI x))])∧ZK 40 [(ds D)] (.aC [Zd,(di (jQ D))])∧ZK 41 [(ds D)] (.aC [Zd,(di (jQ D))])∧ZK 42 [(ds D)] (.aC [Ze,(di (qW D))])∧ZK 43 [(ds D)] (.aC [Ze,(di (qW D))])∧(((!(!(encS Za).toList==(encS x).toList||gI Za != gI x||!Bool.rec false Zc ((aX D).kind==(aX D).kind)||jQ D != jQ D))=true)→ZK 17 [Ze,Ze] (db true))∧(((!(encS Za).toList==(encS x).toList||gI Za != gI x||!Bool.rec false Zc ((aX D).kind==(aX D).kind)||jQ D != jQ D||!true||qW D != qW D)=true)→(((db false):DV)=(db true)))∧(((!(encS Za).toList==(encS x).toList||gI Za != gI x||!Bool.rec false Zc ((aX D).kind==(aX D).kind)||jQ D != jQ D||!true||qW D != qW D)=false)→(ZK 40 [(ds (encS Za))] (.aC [(.agg [(di (aX (encS Za)).kind),(ds (aX (encS Za)).k.st),(ds (aX (encS Za)).k.ex),(di (aX (encS Za)).k.n),(di (aX (encS Za)).t),(di (aX (encS Za)).v),(di (aX (encS Za)).h),(ds (aX (encS Za)).s),(db (aX (encS Za)).acc)]),(di (jQ (encS Za)))])∧(((gI Za==0&&(jQ (encS Za) != 0||!Bool.rec false ((aX (encS Za)).k.st.toList==x.k.st.toList&&((aX (encS Za)).k.ex.toList==x.k.ex.toList&&(aX (encS Za)).k.n==x.k.n)&&((aX (encS Za)).t==x.t&&((aX (encS Za)).v==x.v&&((aX (encS Za)).h==x.h&&((aX (encS Za)).s.toList==x.s.toList&&(aX (encS Za)).acc==x.acc))))) ((aX (encS Za)).kind==x.kind)))=true)→(((db false):DV)=(db true)))∧(((gI Za==0&&(jQ (encS Za) != 0||!Bool.rec false ((aX (encS Za)).k.st.toList==x.k.st.toList&&((aX (encS Za)).k.ex.toList==x.k.ex.toList&&(aX (encS Za)).k.n==x.k.n)&&((aX (encS Za)).t==x.t&&((aX (encS Za)).v==x.v&&((aX (encS Za)).h==x.h&&((aX (encS Za)).s.toList==x.s.toList&&(aX (encS Za)).acc==x.acc))))) ((aX (encS Za)).kind==x.kind)))=false)→(ZK 38 [Zd] (.aC [(ds (encS Zb)),(di (gI Zb))])∧(((jQ D==0&&(gI Zb != 0||!(encS Zb).toList==D.toList))=true)→(((db false):DV)=(db true)))∧(((jQ D==0&&(gI Zb != 0||!(encS Zb).toList==D.toList))=false)→(ZK 30 [Ze] (.aC [(ds (iG (nX D))),(di (gB (nX D)))])∧((db (qW D != 0||gB (nX D)==0&&(iG (nX D)).toList==D.toList)):DV)=(db true))))))))))))) (jH (DV.agg [di x.kind,ds x.k.st,ds x.k.ex,di x.k.n,di x.t,di x.v,di x.h,ds x.s,DV.con (Value.bool x.acc)])) (jH (DV.agg [DV.con (Value.int IntKind.i64 (aX D).kind),DV.con (Value.string (aX D).k.st),DV.con (Value.string (aX D).k.ex),DV.con (Value.int IntKind.i64 (aX D).k.n),DV.con (Value.int IntKind.i64 (aX D).t),DV.con (Value.int IntKind.i64 (aX D).v),DV.con (Value.int IntKind.i64 (aX D).h),DV.con (Value.string (aX D).s),DV.con (Value.bool (aX D).acc)])) ((aX D).k.st.toList==(aX D).k.st.toList&&((aX D).k.ex.toList==(aX D).k.ex.toList&&(aX D).k.n==(aX D).k.n)&&((aX D).t==(aX D).t&&((aX D).v==(aX D).v&&((aX D).h==(aX D).h&&((aX D).s.toList==(aX D).s.toList&&(aX D).acc==(aX D).acc))))) ((.agg [(di (aX D).kind),(ds (aX D).k.st),(ds (aX D).k.ex),(di (aX D).k.n),(di (aX D).t),(di (aX D).v),(di (aX D).h),(ds (aX D).s),(db (aX D).acc)]):DV) ((.agg [(di (nX D).t),(.slc 7 (nX D).es.length (dM (nX D).es))]):DV) ((.agg [(di x.kind),(ds x.k.st),(ds x.k.ex),(di x.k.n),(di x.t),(di x.v),(di x.h),(ds x.s),(db x.acc)]):DV)) (by kernel_rfl) ?_
 try dsimp only
 simp only[VX,nY,OH]
 simp only[dO,decide_true,bne_self_eq_false,Bool.not_true,Bool.not_false,Bool.or_self]
 refine⟨f11 hT,fun c=>(by cases c),fun _=>⟨ade x rfl,fun _=>trivial,fun c=>?_⟩⟩
 obtain ⟨c1,c2⟩:=Bool.or_eq_false_iff.1 c
 have hx:sN [x] 1=true:=by simpa using c1
 have hD:D.size≤600:=by have:=of_decide_eq_false c2;omega
 obtain ⟨x1,x2⟩:=Zo hx
 have hv:=Y4 D
 have hb:=vH hv
 have hes:(encS x).size≤8000:=by
  cases q:aS x with
  | false=>unfold encS;rw[q];exact Nat.zero_le _
  | true=>
   obtain ⟨_,q2,q3⟩:=yP q
   rw[q2,dR];omega
 have hdz:(aX D).k.st.size≤1000000∧(aX D).k.ex.size≤1000000:=by
  cases q:fF D with
  | false=>
   unfold aX
   rw[q]
   exact⟨Nat.zero_le _,Nat.zero_le _⟩
  | true=>
   obtain ⟨z1,z2⟩:=yw (xH q)
   exact⟨by omega,by omega⟩
 refine⟨f38 hT x x1 x2,f39 x x1 x2,f40 hT hE D (by omega),f41 D (by omega),f42 hT hE D (by omega),f43 h46 D (by omega),fun _=>ady _ hb.sz,fun c=>(by cases c),fun _=>⟨f40 hT hE _ hes,fun c=>?_,fun _=>⟨f38 hT _ hdz.1 hdz.2,fun c=>?_,fun _=>⟨f30 hT _ hb,congrArg db ?_⟩⟩⟩⟩
 ·exfalso
  rw[aV] at c
  obtain ⟨c3,c4⟩:=c
  have c3:gI x=0:=by simpa using c3
  have ok:aS x=true:=by
   cases q:aS x with
   | true=>rfl
   | false=>unfold gI at c3;rw[q] at c3;exact absurd (show (1:Int)=0 from c3) (by decide)
  obtain ⟨d1,d2⟩:=Yt ok
  rw[yX,if_pos d1,d2,decide_eq_true rfl] at c4
  exact absurd c4 (by decide)
 ·exfalso
  rw[aV] at c
  obtain ⟨c3,c4⟩:=c
  have c3:jQ D=0:=by simpa using c3
  have ok:fF D=true:=by
   cases q:fF D with
   | true=>rfl
   | false=>rw[yX,q] at c3;exact absurd c3 (by decide)
  have hV:aX D=sJ (aW D.data.toList):=by unfold aX;rw[if_pos ok]
  unfold fF at ok
  simp only[aV,eF] at ok
  rw[hV,ok.2.2.1,ok.2.2.2,decide_eq_true rfl] at c4
  exact absurd c4 (by decide)
 ·cases q:qY D with
  | false=>
   have:qW D=11:=by unfold qW;rw[q];rfl
   rw[this];rfl
  | true=>
   have hB:nX D=(nV (aW D.data.toList) eP).getD eP:=by unfold nX;rw[if_pos q]
   unfold qY at q
   rw[aV] at q
   cases hr:nV (aW D.data.toList) eP with
   | none=>rw[hr] at q;cases q.2
   | some b=>
    rw[hr] at q hB
    have hB:nX D=b:=hB
    obtain ⟨_,q2⟩:=q
    rw[aV,eF,eF] at q2
    rw[hB,q2.1,q2.2,decide_eq_true rfl]
    simp
end Go.Proofs
namespace Go.Proofs.YtflgdeobcgmgnaaGreatDoor
open Go Go.Ab Go.ChangeShapes Go.WideShapes Go.ChangeAt Go.RowKit
theorem own:ownKnob Tryz.prog.godebug=none:=by kernel_rfl
theorem laidOut:laidOutB Tryz.prog=true:=by kernel_rfl
theorem aad : Tryz.prog.globalNamed "internal/strconv.uint64pow10" = some 2 := by kernel_rfl
theorem ad4:(Tryz.prog.globals[2]?).map (·.type)=some 185:=by kernel_rfl
theorem yV {P:Program} {W:World}:∀{l:List (String×DataW Unit)} {ps:List MemPlace},DataW.LaidVars P W l ps→
  ∀{i:Nat} {n:String} {d:DataW Unit},l[i]?=some (n,d)→∃g t cs fuel p,P.globalNamed n=some g∧(P.globals[g]?).map (·.type)=some t∧W.var? P n=some cs∧DataW.trod (fun _=>()) P W 0 (fun _=>true) false fuel t cs.toList=some (d,p)
 | [],ps,h,i,n,d,h1=>by simp at h1
 | (m,e) :: l,ps,⟨g,t,cs,fuel,p,q,a1,a2,a3,a4,a5,a6⟩,i,n,d,h1=>by
  cases i with
  | zero=>
   simp at h1;obtain ⟨rfl,rfl⟩:=h1
   exact⟨g,t,cs,fuel,p,a1,a2,a3,a4⟩
  | succ i=>exact yV a5 (i:=i) (by simpa using h1)
theorem Qn {laid : List (String × DataW Unit)} {W : World} (h : laidMetH Tryz.prog laid W) (hm : laidMetH Tryz.prog laid W = laidMet Tryz.prog laid W) {i : Nat} (hi : laid[i]? = some ("internal/strconv.uint64pow10", Rows.laid_internal_strconv_uint64pow10)) : Tab (allOf W) := by
 rw[hm] at h
 obtain ⟨ps,h,_⟩:=h
 obtain ⟨g2,t2,cs2,f2,p2,hg2,ht2,hv2,hd2⟩:=yV h hi
 obtain rfl:=Option.some.inj (aad.symm.trans hg2)
 obtain rfl:=Option.some.inj (ad4.symm.trans ht2)
 have hT : Lib.TabIs Tryz.prog W "internal/strconv.uint64pow10" .u64 Lib.pow10Tab := by
  unfold Lib.TabIs
  rw[hv2,←Lib.cells_of_tab Tryz.underlying185 (by kernel_rfl) (by kernel_rfl) (by kernel_rfl) (k:=.u64) (zs:=Lib.pow10Tab) hd2]
 intro w hw
 unfold Lib.TabIs at hT⊢
 rw[←hT]
 unfold World.var? at hT⊢
 rw[aad] at hT⊢
 simp only[Option.bind_some] at hT⊢
 cases ho:W.heap[2]? with
 | none=>rw[ho] at hT;cases hT
 | some o=>rw[hw.2 2 o ho]
theorem adz : Tryz.prog.globalNamed "strconv.ErrSyntax" = some 0 := by kernel_rfl
theorem adS : Tryz.prog.globalNamed "strconv.ErrRange" = some 1 := by kernel_rfl
theorem adl:(Tryz.prog.globals[0]?).map (·.type)=some 98:=by kernel_rfl
theorem acY:(Tryz.prog.globals[1]?).map (·.type)=some 98:=by kernel_rfl
theorem G6 {laid:List (String×DataW Unit)} {W:World} {ps:List MemPlace} (h:DataW.LaidVars Tryz.prog W laid ps) {i g:Nat} {nm ty:String} {d:DataW Unit} (hi:laid[i]?=some (nm,.iface ty d)) (hg:Tryz.prog.globalNamed nm=some g) (ht:(Tryz.prog.globals[g]?).map (·.type)=some 98):∃te pe,W.cell? ⟨g,0,none⟩=some (.iface te pe):=by
 obtain ⟨g2,t2,cs2,f2,p2,hg2,ht2,hv2,hd2⟩:=yV h hi
 obtain rfl:=Option.some.inj (hg.symm.trans hg2)
 obtain rfl:=Option.some.inj (ht.symm.trans ht2)
 obtain ⟨_,u,v,hc,_,_⟩:=iface_of_trod Tryz.underlying98 hd2
 refine⟨u,v,?_⟩
 rw[World.var?_cell hg hv2 0,←Array.getElem?_toList,hc]
 rfl
theorem Qk {laid : List (String × DataW Unit)} {W : World} (h : laidMetH Tryz.prog laid W) (hm : laidMetH Tryz.prog laid W = laidMet Tryz.prog laid W) {i j : Nat} (hi : laid[i]? = some ("strconv.ErrRange", Rows.laid_strconv_ErrRange)) (hj : laid[j]? = some ("strconv.ErrSyntax", Rows.laid_strconv_ErrSyntax)) : Errs (allOf W) := by
 rw[hm] at h
 obtain ⟨ps,h,_⟩:=h
 have h3:=G6 h hi adS acY
 have h2:=G6 h hj adz adl
 intro w hw
 have key:∀g,(∃te pe,W.cell? ⟨g,0,none⟩=some (.iface te pe))→∃te pe,w.cell? ⟨g,0,none⟩=some (.iface te pe):=by
  rintro g ⟨te,pe,hc⟩
  refine⟨te,pe,?_⟩
  unfold World.cell? at hc⊢
  cases ho:W.heap[g]? with
  | none=>rw[ho] at hc;cases hc
  | some o=>rw[hw.2 g o ho,←ho];exact hc
 exact⟨key 0 h2,key 1 h3⟩
end Go.Proofs.YtflgdeobcgmgnaaGreatDoor
