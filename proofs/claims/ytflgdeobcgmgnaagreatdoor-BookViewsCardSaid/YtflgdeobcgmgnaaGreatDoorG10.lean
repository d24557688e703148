import Derived.Test.YtflgdeobcgmgnaaGreatDoorAcD
import Derived.Test.YtflgdeobcgmgnaaGreatDoorAcE
import Derived.Test.YtflgdeobcgmgnaaGreatDoorG9
import Derived.Test.YtflgdeobcgmgnaaGreatDoorG6
set_option autoImplicit false
set_option maxHeartbeats 4000000
set_option maxRecDepth 100000
namespace Go.Proofs
open Go Go.Ab Go.RowKit
variable {G:IH} {w:World}
noncomputable def Bf (b:Bk) (e:Ev) (V:Nat→Option Addr×Nat) (i:Nat):AS:=⟨(EO b e (V 1) i).regs,(1000001,[.arr fO 7 (bJ V b.es)]) :: (EO b e (V 1) i).boxes⟩
def X8 (n:Nat) (x:En):Nat→Option AV
 | 62=>some (.vec 1000001 7 0 n)
 | 68=>some (.d (jZ x.gs))
 | 73=>some (.d (iD x.ah))
 | 81=>some (.d (iD x.ah))
 | 126=>some (.d (jZ x.gs))
 | _=>none
noncomputable def BL (b:Bk) (e:Ev) (V:Nat→Option Addr×Nat) (i:Nat):AS:=⟨regs Tryz.f46.ntmps [(2,.box 2 0),(3,.box 3 0),(4,.box 4 0),(5,vi 0),(7,.elem 1000001 7 i 0),(8,vi (b.es.getD i en0).gs.length),(9,vi (b.es.getD i en0).ah.length),(10,vb (bV (b.es.getD i en0)))],(Bf b e V i).boxes⟩
noncomputable def qy (b:Bk) (e:Ev) (V:Nat→Option Addr×Nat) (i:Nat):AS:=⟨regs Tryz.f46.ntmps [(2,.box 2 0),(3,.box 3 0),(4,.box 4 0),(5,vi 0),(7,.elem 1000001 7 i 0),(9,vi (b.es.getD i en0).ah.length)],(Bf b e V i).boxes⟩
noncomputable abbrev mP:List It:=[.blk 0,cd Tryz.f46 [1,1,1,1,1,1,1,1,1,1,1]]
def BGs (k:IH) (F:Fr) (V:Nat→Option Addr×Nat) (i:Nat) (x:En):Prop:=bT k F (.d (.con (sv V (2*i+2) x.gs.length))) (.d (jZ x.gs))∧bT k F (.d (.con (sv V (2*i+3) x.ah.length))) (.d (iD x.ah))
theorem Z7 {b:Bk} {e:Ev} {w0 w:World} {h0 kk:IH} {F:Fr} {V:Nat→Option Addr×Nat} {i:Nat} (hk:e.kind≠0) (hf:lU e)
  (K1:e.kind=1→aK Tryz.prog kk F w kk (cd Tryz.f46 [1,1,1,1,1,1,1,1,1,1,0,0,1,1,1,1,1,0] :: mP) (qy b e V i) (aS Tryz.prog Tryz.f46 (iU b e w0 h0)))
  (K2:e.kind=2→aK Tryz.prog kk F w kk (cd Tryz.f46 [1,1,1,1,1,1,1,1,1,1,0,0,1,1,1,1,1,1,1,0] :: mP) (qy b e V i) (aS Tryz.prog Tryz.f46 (iU b e w0 h0)))
  (K3:e.kind=3→aK Tryz.prog kk F w kk (cd Tryz.f46 [1,1,1,1,1,1,1,1,1,1,0,0,1,1,1,1,1,1,1,1] :: mP) (qy b e V i) (aS Tryz.prog Tryz.f46 (iU b e w0 h0))) :
  aK Tryz.prog kk F w kk (cd Tryz.f46 [1,1,1,1,1,1,1,1,1,1,0,0,1,1,1,1] :: mP) (BL b e V i) (aS Tryz.prog Tryz.f46 (iU b e w0 h0)):=by
 refine dX (aj:={ d:=bG }) follows (fun _=>none) (cuts:=[18,28,30]) (n:=1000) ?_
 refine KA ((.d (.con (.slice (V 1).fst b.es.length (V 1).snd))):AV) ((.arr eP 7 (bJ V b.es)):AV) (aS Tryz.prog Tryz.f46 (iU b e w0 h0)) (vi (↑(b.es.getD i en0).ah.length)) (fun Za Zb Zc Zd=>((((e.kind==1)=true)→aK Tryz.prog kk F w kk [cd Tryz.f46 [1,1,1,1,1,1,1,1,1,1,0,0,1,1,1,1,1,0],(.blk 0),cd Tryz.f46 [1,1,1,1,1,1,1,1,1,1,1]] ⟨regs 211 [(2,(.box 2 0)),(3,(.box 3 0)),(4,(.box 4 0)),(5,(vi 0)),(7,(.elem 1000001 7 i 0)),(8,(vi (↑(b.es.getD i en0).gs.length))),(9,Zd),(10,(vb (bV (b.es.getD i en0)))),(170,(vb (e.kind==1))),(171,(.box 3 0)),(172,(vi e.kind)),(173,(vb (e.kind==1)))],[(1000001,[Zb]),(2,[(vi e.t),Za]),(3,fJ e),(4,[(vi 0),(.d dG)])]⟩ Zc)∧(((e.kind==1)=false)→((((e.kind==2)=true)→aK Tryz.prog kk F w kk [cd Tryz.f46 [1,1,1,1,1,1,1,1,1,1,0,0,1,1,1,1,1,1,1,0],(.blk 0),cd Tryz.f46 [1,1,1,1,1,1,1,1,1,1,1]] ⟨regs 211 [(2,(.box 2 0)),(3,(.box 3 0)),(4,(.box 4 0)),(5,(vi 0)),(7,(.elem 1000001 7 i 0)),(8,(vi (↑(b.es.getD i en0).gs.length))),(9,Zd),(10,(vb (bV (b.es.getD i en0)))),(170,(vb (e.kind==1))),(171,(.box 3 0)),(172,(vi e.kind)),(173,(vb (e.kind==1))),(192,(vb (e.kind==2))),(193,(.box 3 0)),(194,(vi e.kind)),(195,(vb (e.kind==2)))],[(1000001,[Zb]),(2,[(vi e.t),Za]),(3,fJ e),(4,[(vi 0),(.d dG)])]⟩ Zc)∧(((e.kind==2)=false)→aK Tryz.prog kk F w kk [cd Tryz.f46 [1,1,1,1,1,1,1,1,1,1,0,0,1,1,1,1,1,1,1,1],(.blk 0),cd Tryz.f46 [1,1,1,1,1,1,1,1,1,1,1]] ⟨regs 211 [(2,(.box 2 0)),(3,(.box 3 0)),(4,(.box 4 0)),(5,(vi 0)),(7,(.elem 1000001 7 i 0)),(8,(vi (↑(b.es.getD i en0).gs.length))),(9,Zd),(10,(vb (bV (b.es.getD i en0)))),(170,(vb (e.kind==1))),(171,(.box 3 0)),(172,(vi e.kind)),(173,(vb (e.kind==1))),(192,(vb (e.kind==2))),(193,(.box 3 0)),(194,(vi e.kind)),(195,(vb (e.kind==2)))],[(1000001,[Zb]),(2,[(vi e.t),Za]),(3,fJ e),(4,[(vi 0),(.d dG)])]⟩ Zc))))) (by kernel_rfl) ?_
 refine⟨fun c=>?_,fun c=>⟨fun c2=>?_,fun c2=>?_⟩⟩
 ·refine aK.weaken (st':=qy b e V i) ?_ (K1 (by simpa using c))
  exact AS.bD (by kernel_rfl)
 ·refine aK.weaken (st':=qy b e V i) ?_ (K2 (by simpa using c2))
  exact AS.bD (by kernel_rfl)
 ·have c1:e.kind≠1:=by simpa using c
  have c2:e.kind≠2:=by simpa using c2
  refine aK.weaken (st':=qy b e V i) ?_ (K3 (((hf.1.resolve_left hk).resolve_left c1).resolve_left c2))
  exact AS.bD (by kernel_rfl)
theorem ZJ {b:Bk} {e:Ev} {w0 w:World} {h0 kk:IH} {F:Fr} {V:Nat→Option Addr×Nat} {i:Nat} (o:yY w0 h0 kk w F.on) (hA:jm b e=zC (b.es.getD i en0) e) (hn:¬(e.kind=1∧wL (b.es.getD i en0) e.v=true∨e.kind=2∧((b.es.getD i en0).gs.length=0∨bV (b.es.getD i en0)=true)∨e.kind=3∧¬bV (b.es.getD i en0)=true))
  (K:jm b e=0→aK Tryz.prog kk F w kk (cd Tryz.f46 [1,1,1,1,1,1,1,1,1,1,0,0,1,1,1,1] :: mP) (BL b e V i) (aS Tryz.prog Tryz.f46 (iU b e w0 h0))) :
  aK Tryz.prog kk F w kk (cd Tryz.f46 [1,1,1,1,1,1,1,1,1,1,0,0,1,1,0] :: cd Tryz.f46 [1,1,1,1,1,1,1,1,1,1,0,0,1,1,1] :: mP) (BL b e V i) (aS Tryz.prog Tryz.f46 (iU b e w0 h0)):=by
 refine dX (aj:={ d:=bG }) follows (fun _=>none) (cuts:=[27]) (n:=1000) ?_
 refine Y3 (e.kind==1&&(↑(b.es.getD i en0).gs.length:Int)==16) (e.kind==2&&(↑(b.es.getD i en0).ah.length:Int)==16) ((.d (.con (.slice (V 1).fst b.es.length (V 1).snd))):AV) (vi (↑(b.es.getD i en0).ah.length)) ((.arr eP 7 (bJ V b.es)):AV) (vi (↑(b.es.getD i en0).gs.length)) (aS Tryz.prog Tryz.f46 (iU b e w0 h0)) (vb (bV (b.es.getD i en0))) (fun Za Zb Zc Zd Ze Zf Zg Zh=>(((Za=true)→(((Za=true)→aP kk F w kk Zg .ret ⟨regs 211 [(2,(.box 2 0)),(3,(.box 3 0)),(4,(.box 4 0)),(5,(vi 8)),(7,(.elem 1000001 7 i 0)),(8,Zf),(9,Zd),(10,Zh),(154,(vb Za)),(155,(.box 3 0)),(156,(vi e.kind)),(157,(vb (e.kind==1))),(158,(vb (e.kind==1))),(161,(vb Za)),(169,(.d (.agg [(di 0),dG])))],[(1000001,[Ze]),(2,[(vi e.t),Zc]),(3,fJ e),(4,[(vi 0),(.d dG)])]⟩)∧((Za=false)→aK Tryz.prog kk F w kk [cd Tryz.f46 [1,1,1,1,1,1,1,1,1,1,0,0,1,1,1,1],(.blk 0),cd Tryz.f46 [1,1,1,1,1,1,1,1,1,1,1]] ⟨regs 211 [(2,(.box 2 0)),(3,(.box 3 0)),(4,(.box 4 0)),(5,(vi 0)),(7,(.elem 1000001 7 i 0)),(8,Zf),(9,Zd),(10,Zh),(154,(vb Za)),(155,(.box 3 0)),(156,(vi e.kind)),(157,(vb (e.kind==1))),(158,(vb (e.kind==1))),(159,(.gate 158 true (e.kind==1) Zf)),(160,(.gate 158 true (e.kind==1) (vb ((↑(b.es.getD i en0).gs.length:Int)==16)))),(161,(vb Za))],[(1000001,[Ze]),(2,[(vi e.t),Zc]),(3,fJ e),(4,[(vi 0),(.d dG)])]⟩ Zg)))∧((Za=false)→(((Zb=true)→aP kk F w kk Zg .ret ⟨regs 211 [(2,(.box 2 0)),(3,(.box 3 0)),(4,(.box 4 0)),(5,(vi 8)),(7,(.elem 1000001 7 i 0)),(8,Zf),(9,Zd),(10,Zh),(154,(vb Zb)),(155,(.box 3 0)),(156,(vi e.kind)),(157,(vb (e.kind==1))),(158,(vb (e.kind==1))),(161,(vb Za)),(162,(.box 3 0)),(163,(vi e.kind)),(164,(vb (e.kind==2))),(165,(vb (e.kind==2))),(168,(vb Zb)),(169,(.d (.agg [(di 0),dG])))],[(1000001,[Ze]),(2,[(vi e.t),Zc]),(3,fJ e),(4,[(vi 0),(.d dG)])]⟩)∧((Zb=false)→aK Tryz.prog kk F w kk [cd Tryz.f46 [1,1,1,1,1,1,1,1,1,1,0,0,1,1,1,1],(.blk 0),cd Tryz.f46 [1,1,1,1,1,1,1,1,1,1,1]] ⟨regs 211 [(2,(.box 2 0)),(3,(.box 3 0)),(4,(.box 4 0)),(5,(vi 0)),(7,(.elem 1000001 7 i 0)),(8,Zf),(9,Zd),(10,Zh),(154,(vb Zb)),(155,(.box 3 0)),(156,(vi e.kind)),(157,(vb (e.kind==1))),(158,(vb (e.kind==1))),(161,(vb Za)),(162,(.box 3 0)),(163,(vi e.kind)),(164,(vb (e.kind==2))),(165,(vb (e.kind==2))),(166,(.gate 165 true (e.kind==2) Zd)),(167,(.gate 165 true (e.kind==2) (vb ((↑(b.es.getD i en0).ah.length:Int)==16)))),(168,(vb Zb))],[(1000001,[Ze]),(2,[(vi e.t),Zc]),(3,fJ e),(4,[(vi 0),(.d dG)])]⟩ Zg))))) (by kernel_rfl) ?_
 try dsimp only
 have hA:jm b e=if e.kind=1∧(b.es.getD i en0).gs.length=16∨e.kind=2∧(b.es.getD i en0).ah.length=16 then 8 else 0:=by rw[hA];exact if_neg hn
 have d (n:Nat) (m:Int):(e.kind==m&&(n:Int)==16)=true↔e.kind=m∧n=16:=by
  rw[aY,beq_iff_eq,beq_iff_eq];exact and_congr Iff.rfl ⟨fun q=>by omega,fun q=>by omega⟩
 refine⟨fun c=>⟨fun _=>?_,fun c'=>?_⟩,fun c=>⟨fun c2=>?_,fun c2=>?_⟩⟩
 ·exact um (code:=8) o rfl (by rw[hA];exact if_pos (.inl ((d _ _).1 c))) (by decide)
 ·rw[c] at c';cases c'
 ·exact um (code:=8) o rfl (by rw[hA];exact if_pos (.inr ((d _ _).1 c2))) (by decide)
 ·refine aK.weaken (st':=BL b e V i) ?_ (K ?_)
  ·exact AS.bD (by kernel_rfl)
  ·rw[hA,if_neg]
   rintro (q|q)
   ·rw[(d _ _).2 q] at c;cases c
   ·rw[(d _ _).2 q] at c2;cases c2
theorem Zr {b:Bk} {e:Ev} {w0 w:World} {h0 kk:IH} {F:Fr} {V:Nat→Option Addr×Nat} {i:Nat} (hi:i<b.es.length) (hs:gq b.es) (o:yY w0 h0 kk w F.on) (hg:BGs kk F V i (b.es.getD i en0)) (hA:jm b e=zC (b.es.getD i en0) e)
  (K:jm b e=0→aK Tryz.prog kk F w kk (cd Tryz.f46 [1,1,1,1,1,1,1,1,1,1,0,0,1,1,1,1] :: mP) (BL b e V i) (aS Tryz.prog Tryz.f46 (iU b e w0 h0))) :
  aK Tryz.prog kk F w kk (cd Tryz.f46 [1,1,1,1,1,1,1,1,1,1,0,0,0] :: cd Tryz.f46 [1,1,1,1,1,1,1,1,1,1,0,0,1] :: mP) (BL b e V i) (aS Tryz.prog Tryz.f46 (iU b e w0 h0)):=by
 have hsi:=hs.2 i hi
 refine dX (aj:={ d:=bG }) follows (X8 b.es.length (b.es.getD i en0)) (cuts:=[24]) (n:=1000) ?_
 refine Fz (↑(b.es.getD i en0).gs.length:Int) (vi (↑(b.es.getD i en0).gs.length)) ((.d (.con (.slice (V 1).fst b.es.length (V 1).snd))):AV) ((.arr eP 7 (bJ V b.es)):AV) (vb (bV (b.es.getD i en0))) (aS Tryz.prog Tryz.f46 (iU b e w0 h0)) (e.kind==3&&!bV (b.es.getD i en0)) (vi (↑(b.es.getD i en0).ah.length)) ((.d (.agg [(di 0),dG])):AV) (fun Za Zb Zc Zd Ze Zf Zg Zh Zi=>((bT kk F (.d (.con (.slice (V (2*i+2)).fst (b.es.getD i en0).gs.length (V (2*i+2)).snd))) (.d (.slc 4 (b.es.getD i en0).gs.length (dP (b.es.getD i en0).gs)))∧(((e.kind==1&&decide (Za>0))=true)→(I64 (↑(b.es.getD i en0).gs.length-1)))∧(((e.kind==1&&decide (Za>0))=true)→((0≤Za-1)∧(Za-1<↑(b.es.getD i en0).gs.length))))∧(((e.kind==1&&decide (Za>0)&&decide (((b.es.getD i en0).gs.getD (Za-1).toNat dR).v≥e.v))=true)→((((e.kind==1&&decide (Za>0)&&decide (((b.es.getD i en0).gs.getD (Za-1).toNat dR).v≥e.v))=true)→aP kk F w kk Zf .ret ⟨regs 211 [(2,(.box 2 0)),(3,(.box 3 0)),(4,(.box 4 0)),(5,(vi 9)),(7,(.elem 1000001 7 i 0)),(8,Zb),(9,Zh),(10,Ze),(114,(vb (e.kind==1&&decide (Za>0)&&decide (((b.es.getD i en0).gs.getD (Za-1).toNat dR).v≥e.v)))),(115,(.box 3 0)),(116,(vi e.kind)),(117,(vb (e.kind==1))),(118,(vb (e.kind==1))),(121,(vb (e.kind==1&&decide (Za>0)))),(122,(vb (e.kind==1&&decide (Za>0)))),(135,(vb (e.kind==1&&decide (Za>0)&&decide (((b.es.getD i en0).gs.getD (Za-1).toNat dR).v≥e.v)))),(153,Zi)],[(1000001,[Zd]),(2,[(vi e.t),Zc]),(3,fJ e),(4,[(vi 0),(.d dG)])]⟩)∧(((e.kind==1&&decide (Za>0)&&decide (((b.es.getD i en0).gs.getD (Za-1).toNat dR).v≥e.v))=false)→aK Tryz.prog kk F w kk [cd Tryz.f46 [1,1,1,1,1,1,1,1,1,1,0,0,1,1,0],cd Tryz.f46 [1,1,1,1,1,1,1,1,1,1,0,0,1,1,1],(.blk 0),cd Tryz.f46 [1,1,1,1,1,1,1,1,1,1,1]] ⟨regs 211 [(2,(.box 2 0)),(3,(.box 3 0)),(4,(.box 4 0)),(5,(vi 0)),(7,(.elem 1000001 7 i 0)),(8,Zb),(9,Zh),(10,Ze),(114,(vb (e.kind==1&&decide (Za>0)&&decide (((b.es.getD i en0).gs.getD (Za-1).toNat dR).v≥e.v)))),(115,(.box 3 0)),(116,(vi e.kind)),(117,(vb (e.kind==1))),(118,(vb (e.kind==1))),(119,(.gate 118 true (e.kind==1) Zb)),(120,(.gate 118 true (e.kind==1) (vb (decide (Za>0))))),(121,(vb (e.kind==1&&decide (Za>0)))),(122,(vb (e.kind==1&&decide (Za>0)))),(123,(.gate 122 true (e.kind==1&&decide (Za>0)) (.elem 1000001 7 i 0))),(124,(.gate 122 true (e.kind==1&&decide (Za>0)) (.elem 1000001 7 i 0))),(125,(.gate 122 true (e.kind==1&&decide (Za>0)) (.elem 1000001 7 i 5))),(126,(.gate 122 true (e.kind==1&&decide (Za>0)) (.d (.slc 4 (b.es.getD i en0).gs.length (dP (b.es.getD i en0).gs))))),(127,(.gate 122 true (e.kind==1&&decide (Za>0)) Zb)),(128,(.gate 122 true (e.kind==1&&decide (Za>0)) (vi (↑(b.es.getD i en0).gs.length-1)))),(129,(.gate 122 true (e.kind==1&&decide (Za>0)) (.d (.ptr [(di ((b.es.getD i en0).gs.getD (Za-1).toNat dR).v),(di ((b.es.getD i en0).gs.getD (Za-1).toNat dR).h),(di ((b.es.getD i en0).gs.getD (Za-1).toNat dR).t),(ds ((b.es.getD i en0).gs.getD (Za-1).toNat dR).s)])))),(130,(.gate 122 true (e.kind==1&&decide (Za>0)) (.d (.ptr [(di ((b.es.getD i en0).gs.getD (Za-1).toNat dR).v),(di ((b.es.getD i en0).gs.getD (Za-1).toNat dR).h),(di ((b.es.getD i en0).gs.getD (Za-1).toNat dR).t),(ds ((b.es.getD i en0).gs.getD (Za-1).toNat dR).s)])))),(131,(.gate 122 true (e.kind==1&&decide (Za>0)) (vi ((b.es.getD i en0).gs.getD (Za-1).toNat dR).v))),(132,(.gate 122 true (e.kind==1&&decide (Za>0)) (.box 3 5))),(133,(.gate 122 true (e.kind==1&&decide (Za>0)) (vi e.v))),(134,(.gate 122 true (e.kind==1&&decide (Za>0)) (vb (decide (((b.es.getD i en0).gs.getD (Za-1).toNat dR).v≥e.v))))),(135,(vb (e.kind==1&&decide (Za>0)&&decide (((b.es.getD i en0).gs.getD (Za-1).toNat dR).v≥e.v))))],[(1000001,[Zd]),(2,[(vi e.t),Zc]),(3,fJ e),(4,[(vi 0),(.d dG)])]⟩ Zf)))∧(((e.kind==1&&decide (Za>0)&&decide (((b.es.getD i en0).gs.getD (Za-1).toNat dR).v≥e.v))=false)→((((e.kind==2&&(Za==0||bV (b.es.getD i en0)))=true)→((((e.kind==2&&(Za==0||bV (b.es.getD i en0)))=true)→aP kk F w kk Zf .ret ⟨regs 211 [(2,(.box 2 0)),(3,(.box 3 0)),(4,(.box 4 0)),(5,(vi 9)),(7,(.elem 1000001 7 i 0)),(8,Zb),(9,Zh),(10,Ze),(114,(vb (e.kind==2&&(Za==0||bV (b.es.getD i en0))))),(115,(.box 3 0)),(116,(vi e.kind)),(117,(vb (e.kind==1))),(118,(vb (e.kind==1))),(121,(vb (e.kind==1&&decide (Za>0)))),(122,(vb (e.kind==1&&decide (Za>0)))),(135,(vb (e.kind==1&&decide (Za>0)&&decide (((b.es.getD i en0).gs.getD (Za-1).toNat dR).v≥e.v)))),(136,(.box 3 0)),(137,(vi e.kind)),(138,(vb (e.kind==2))),(139,(vb (e.kind==2))),(145,(vb (e.kind==2&&(Za==0||bV (b.es.getD i en0))))),(153,Zi)],[(1000001,[Zd]),(2,[(vi e.t),Zc]),(3,fJ e),(4,[(vi 0),(.d dG)])]⟩)∧(((e.kind==2&&(Za==0||bV (b.es.getD i en0)))=false)→aK Tryz.prog kk F w kk [cd Tryz.f46 [1,1,1,1,1,1,1,1,1,1,0,0,1,1,0],cd Tryz.f46 [1,1,1,1,1,1,1,1,1,1,0,0,1,1,1],(.blk 0),cd Tryz.f46 [1,1,1,1,1,1,1,1,1,1,1]] ⟨regs 211 [(2,(.box 2 0)),(3,(.box 3 0)),(4,(.box 4 0)),(5,(vi 0)),(7,(.elem 1000001 7 i 0)),(8,Zb),(9,Zh),(10,Ze),(114,(vb (e.kind==2&&(Za==0||bV (b.es.getD i en0))))),(115,(.box 3 0)),(116,(vi e.kind)),(117,(vb (e.kind==1))),(118,(vb (e.kind==1))),(121,(vb (e.kind==1&&decide (Za>0)))),(122,(vb (e.kind==1&&decide (Za>0)))),(135,(vb (e.kind==1&&decide (Za>0)&&decide (((b.es.getD i en0).gs.getD (Za-1).toNat dR).v≥e.v)))),(136,(.box 3 0)),(137,(vi e.kind)),(138,(vb (e.kind==2))),(139,(vb (e.kind==2))),(140,(.gate 139 true (e.kind==2) Zb)),(141,(.gate 139 true (e.kind==2) (vb (Za==0)))),(142,(.gate 139 true (e.kind==2) (vb (Za==0)))),(143,(.gate 142 false (e.kind==2&&!Za==0) Ze)),(144,(.gate 139 true (e.kind==2) (vb (Za==0||bV (b.es.getD i en0))))),(145,(vb (e.kind==2&&(Za==0||bV (b.es.getD i en0)))))],[(1000001,[Zd]),(2,[(vi e.t),Zc]),(3,fJ e),(4,[(vi 0),(.d dG)])]⟩ Zf)))∧(((e.kind==2&&(Za==0||bV (b.es.getD i en0)))=false)→(((Zg=true)→aP kk F w kk Zf .ret ⟨regs 211 [(2,(.box 2 0)),(3,(.box 3 0)),(4,(.box 4 0)),(5,(vi 9)),(7,(.elem 1000001 7 i 0)),(8,Zb),(9,Zh),(10,Ze),(114,(vb Zg)),(115,(.box 3 0)),(116,(vi e.kind)),(117,(vb (e.kind==1))),(118,(vb (e.kind==1))),(121,(vb (e.kind==1&&decide (Za>0)))),(122,(vb (e.kind==1&&decide (Za>0)))),(135,(vb (e.kind==1&&decide (Za>0)&&decide (((b.es.getD i en0).gs.getD (Za-1).toNat dR).v≥e.v)))),(136,(.box 3 0)),(137,(vi e.kind)),(138,(vb (e.kind==2))),(139,(vb (e.kind==2))),(145,(vb (e.kind==2&&(Za==0||bV (b.es.getD i en0))))),(146,(.box 3 0)),(147,(vi e.kind)),(148,(vb (e.kind==3))),(149,(vb (e.kind==3))),(152,(vb Zg)),(153,Zi)],[(1000001,[Zd]),(2,[(vi e.t),Zc]),(3,fJ e),(4,[(vi 0),(.d dG)])]⟩)∧((Zg=false)→aK Tryz.prog kk F w kk [cd Tryz.f46 [1,1,1,1,1,1,1,1,1,1,0,0,1,1,0],cd Tryz.f46 [1,1,1,1,1,1,1,1,1,1,0,0,1,1,1],(.blk 0),cd Tryz.f46 [1,1,1,1,1,1,1,1,1,1,1]] ⟨regs 211 [(2,(.box 2 0)),(3,(.box 3 0)),(4,(.box 4 0)),(5,(vi 0)),(7,(.elem 1000001 7 i 0)),(8,Zb),(9,Zh),(10,Ze),(114,(vb Zg)),(115,(.box 3 0)),(116,(vi e.kind)),(117,(vb (e.kind==1))),(118,(vb (e.kind==1))),(121,(vb (e.kind==1&&decide (Za>0)))),(122,(vb (e.kind==1&&decide (Za>0)))),(135,(vb (e.kind==1&&decide (Za>0)&&decide (((b.es.getD i en0).gs.getD (Za-1).toNat dR).v≥e.v)))),(136,(.box 3 0)),(137,(vi e.kind)),(138,(vb (e.kind==2))),(139,(vb (e.kind==2))),(145,(vb (e.kind==2&&(Za==0||bV (b.es.getD i en0))))),(146,(.box 3 0)),(147,(vi e.kind)),(148,(vb (e.kind==3))),(149,(vb (e.kind==3))),(150,(.gate 149 true (e.kind==3) Ze)),(151,(.gate 149 true (e.kind==3) (vb (!bV (b.es.getD i en0))))),(152,(vb Zg))],[(1000001,[Zd]),(2,[(vi e.t),Zc]),(3,fJ e),(4,[(vi 0),(.d dG)])]⟩ Zf))))))) (by kernel_rfl) ?_
 try dsimp only
 have hlow:(decide (((b.es.getD i en0).gs.length:Int)>0)&&decide (((b.es.getD i en0).gs.getD (((b.es.getD i en0).gs.length:Int)-1).toNat dR).v≥e.v))=wL (b.es.getD i en0) e.v:=VW _ _
 rw[Bool.and_assoc,hlow]
 have hp:∀n:Nat,(decide ((n:Int)>0))=true→0<n:=fun n c=>by have:=dn c;omega
 have c9:(e.kind=1∧wL (b.es.getD i en0) e.v=true∨e.kind=2∧((b.es.getD i en0).gs.length=0∨bV (b.es.getD i en0)=true)∨e.kind=3∧¬bV (b.es.getD i en0)=true)→jm b e=9:=fun q=>by rw[hA];exact if_pos q
 have d1:(e.kind==1&&wL (b.es.getD i en0) e.v)=true↔e.kind=1∧wL (b.es.getD i en0) e.v=true:=by simp
 have d2:(e.kind==2&&(((b.es.getD i en0).gs.length:Int)==0||bV (b.es.getD i en0)))=true↔e.kind=2∧((b.es.getD i en0).gs.length=0∨bV (b.es.getD i en0)=true):=by
  rw[aY,Bool.or_eq_true,beq_iff_eq,beq_iff_eq];exact and_congr Iff.rfl (or_congr ⟨fun q=>by omega,fun q=>by omega⟩ Iff.rfl)
 have d3:(e.kind==3&&!bV (b.es.getD i en0))=true↔e.kind=3∧¬bV (b.es.getD i en0)=true:=by simp
 refine⟨⟨hg.1,fun c=>?_,fun c=>?_⟩,fun c=>⟨fun _=>?_,fun c'=>?_⟩,fun c=>⟨fun c2=>⟨fun _=>?_,fun c'=>?_⟩,fun c2=>⟨fun c3=>?_,fun c3=>?_⟩⟩⟩
 ·have:=hp _ (Bool.and_eq_true_iff.1 c).2;have:=hsi.1;exact⟨by omega,by omega⟩
 ·have:=hp _ (Bool.and_eq_true_iff.1 c).2;exact⟨by omega,by omega⟩
 ·exact um (code:=9) o rfl (c9 (.inl (d1.1 c))) (by decide)
 ·rw[c] at c';cases c'
 ·exact um (code:=9) o rfl (c9 (.inr (.inl (d2.1 c2)))) (by decide)
 ·rw[c2] at c';cases c'
 ·exact um (code:=9) o rfl (c9 (.inr (.inr (d3.1 c3)))) (by decide)
 ·refine aK.weaken (st':=BL b e V i) ?_ (ZJ o hA (fun q=>?_) K)
  ·exact AS.bD (by kernel_rfl)
  ·rcases q with q|q|q
   ·rw[d1.2 q] at c;cases c
   ·rw[d2.2 q] at c2;cases c2
   ·rw[d3.2 q] at c3;cases c3
theorem Z5 {b:Bk} {e:Ev} {w0 w:World} {h0 kk:IH} {F:Fr} {V:Nat→Option Addr×Nat} {i:Nat} (hi:i<b.es.length) (hs:gq b.es) (hv:bT kk F (.d (.con (sv V 1 b.es.length))) (.vec 1000001 7 0 b.es.length)) (hg:BGs kk F V i (b.es.getD i en0))
  (K:aK Tryz.prog kk F w kk (cd Tryz.f46 [1,1,1,1,1,1,1,1,1,1,0,0,0] :: cd Tryz.f46 [1,1,1,1,1,1,1,1,1,1,0,0,1] :: mP) (BL b e V i) (aS Tryz.prog Tryz.f46 (iU b e w0 h0))) :
  aK Tryz.prog kk F w kk [cd Tryz.f46 [1,1,1,1,1,1,1]] (Bf b e V i) (aS Tryz.prog Tryz.f46 (iU b e w0 h0)):=by
 have hsi:=(hs.2 i hi).2
 refine dX (aj:={ d:=bG }) follows (X8 b.es.length (b.es.getD i en0)) (cuts:=[20]) (n:=1000) ?_
 refine YO (↑(b.es.getD i en0).ah.length:Int) ((.elem 1000001 7 (0+(↑i:Int).toNat) 0):AV) ((.d (.slc 6 (b.es.getD i en0).ah.length (dI (b.es.getD i en0).ah))):AV) ((.d (.con (.slice (V (2*(0+(↑i:Int).toNat)+3)).fst (b.es.getD (0+(↑i:Int).toNat) en0).ah.length (V (2*(0+(↑i:Int).toNat)+3)).snd))):AV) (vi (↑(b.es.getD i en0).ah.length)) (fun Za Zb Zc Zd Ze=>((bT kk F (.d (.con (.slice (V 1).fst b.es.length (V 1).snd))) (.vec 1000001 7 0 b.es.length)∧(0≤(↑i:Int))∧((↑i:Int)<↑b.es.length))∧(bT kk F (.d (.con (.slice (V (2*(0+(↑i:Int).toNat)+2)).fst (b.es.getD (0+(↑i:Int).toNat) en0).gs.length (V (2*(0+(↑i:Int).toNat)+2)).snd))) (.d (.slc 4 (b.es.getD i en0).gs.length (dP (b.es.getD i en0).gs)))∧bT kk F Zd Zc)∧(bT kk F Zd Zc∧(((decide (Za>0))=true)→(I64 (↑(b.es.getD i en0).ah.length-1)))∧(((decide (Za>0))=true)→((0≤Za-1)∧(Za-1<↑(b.es.getD i en0).ah.length))))∧aK Tryz.prog kk F w kk [cd Tryz.f46 [1,1,1,1,1,1,1,1,1,1,0,0,0],cd Tryz.f46 [1,1,1,1,1,1,1,1,1,1,0,0,1],(.blk 0),cd Tryz.f46 [1,1,1,1,1,1,1,1,1,1,1]] ⟨regs 211 [(2,(.box 2 0)),(3,(.box 3 0)),(4,(.box 4 0)),(5,(vi 0)),(6,(vi (↑i))),(7,Zb),(8,(vi (↑(b.es.getD i en0).gs.length))),(9,Ze),(10,(vb (decide (Za>0)&&!((b.es.getD i en0).ah.getD (Za-1).toNat bZ).dec))),(61,(.box 2 1)),(62,(.vec 1000001 7 0 b.es.length)),(63,(vi (↑i))),(64,Zb),(65,Zb),(66,Zb),(67,(.elem 1000001 7 (0+(↑i:Int).toNat) 5)),(68,(.d (.slc 4 (b.es.getD i en0).gs.length (dP (b.es.getD i en0).gs)))),(69,(vi (↑(b.es.getD i en0).gs.length))),(70,Zb),(71,Zb),(72,(.elem 1000001 7 (0+(↑i:Int).toNat) 6)),(73,Zc),(74,Ze),(75,Ze),(76,(vb (decide (Za>0)))),(77,(vb (decide (Za>0)))),(78,(.gate 77 true (decide (Za>0)) Zb)),(79,(.gate 77 true (decide (Za>0)) Zb)),(80,(.gate 77 true (decide (Za>0)) (.elem 1000001 7 (0+(↑i:Int).toNat) 6))),(81,(.gate 77 true (decide (Za>0)) Zc)),(82,(.gate 77 true (decide (Za>0)) Ze)),(83,(.gate 77 true (decide (Za>0)) (vi (↑(b.es.getD i en0).ah.length-1)))),(84,(.gate 77 true (decide (Za>0)) (.d (.ptr [(di ((b.es.getD i en0).ah.getD (Za-1).toNat bZ).t),(ds ((b.es.getD i en0).ah.getD (Za-1).toNat bZ).s),(db ((b.es.getD i en0).ah.getD (Za-1).toNat bZ).dec),(db ((b.es.getD i en0).ah.getD (Za-1).toNat bZ).acc),(di ((b.es.getD i en0).ah.getD (Za-1).toNat bZ).at_),(ds ((b.es.getD i en0).ah.getD (Za-1).toNat bZ).ans)])))),(85,(.gate 77 true (decide (Za>0)) (.d (.ptr [(db ((b.es.getD i en0).ah.getD (Za-1).toNat bZ).dec),(db ((b.es.getD i en0).ah.getD (Za-1).toNat bZ).acc),(di ((b.es.getD i en0).ah.getD (Za-1).toNat bZ).at_),(ds ((b.es.getD i en0).ah.getD (Za-1).toNat bZ).ans)])))),(86,(.gate 77 true (decide (Za>0)) (vb ((b.es.getD i en0).ah.getD (Za-1).toNat bZ).dec))),(87,(.gate 77 true (decide (Za>0)) (vb (!((b.es.getD i en0).ah.getD (Za-1).toNat bZ).dec)))),(88,(vb (decide (Za>0)&&!((b.es.getD i en0).ah.getD (Za-1).toNat bZ).dec)))],[(1000001,[(.arr eP 7 (bJ V b.es))]),(2,[(vi e.t),(.d (.con (.slice (V 1).fst b.es.length (V 1).snd)))]),(3,fJ e),(4,[(vi 0),(.d dG)])]⟩ (aS Tryz.prog Tryz.f46 (iU b e w0 h0)))) (by kernel_rfl) ?_
 try dsimp only
 have e0:0+((i:Int)).toNat=i:=by omega
 have hp:∀n:Nat,(decide ((n:Int)>0))=true→0<n:=fun n c=>by have:=dn c;omega
 rw[e0]
 refine⟨⟨hv,by omega,by omega⟩,hg,⟨hg.2,fun c=>?_,fun c=>?_⟩,?_⟩
 ·have:=hp _ c;exact⟨by omega,by omega⟩
 ·have:=hp _ c;exact⟨by omega,by omega⟩
 refine aK.weaken (st':=BL b e V i) ?_ K
 refine AS.leZ [7] [] (b:=((T0∧T0∧T0∧T0∧T0∧T0∧T0∧((vb (decide ((↑(b.es.getD i en0).ah.length:Int)>0)&&!((b.es.getD i en0).ah.getD ((↑(b.es.getD i en0).ah.length:Int)-1).toNat bZ).dec)):AV)=(vb (bV (b.es.getD i en0)))∧True)∧T0∧T0∧T0∧T0∧True)) (by kernel_rfl) (by kernel_rfl) ?_
 rw[←Rj]
 exact⟨⟨rfl,rfl,rfl,rfl,rfl,rfl,rfl,rfl,trivial⟩,rfl,rfl,rfl,rfl,trivial⟩
theorem cZ.moved {h k:IH} {K:RK} {sz n:Nat} {f:Nat→DV} {bk c:Nat} {v:Value} {o o':Option Obj} (hv:cZ h K sz n f bk c v o) (hf:∀i,(f i).flat=true) (he:0<c→o'=o):cZ k K sz n f bk c v o':=by
 refine⟨hv.val,dw.flat (fun i _=>hf i) (h:=h) ⟨hv.row.1,?_⟩⟩
 by_cases h1:0<c
 ·rw[he h1];exact hv.row.2
 ·exact .inl (by omega)
structure XM (b:Bk) (e:Ev) (w0:World) (h0 h:IH) (β:Nat→Nat) (V:Nat→Option Addr×Nat) (w2 w4:World) (s m:Nat) (F:Fr):Prop where
 ex:∃(fV:Nat→Prop) (bb:Nat),lD b w0 h0 h β V w2 fV∧(0<room β 1→bb=blk β 1)∧(¬0<room β 1→bb=w2.heap.size)∧Kept (fun c=>fV c∨c=bb) w2 w4
 on:O6 b w0 w2 β s F.on
 n1:(0<room β 1→blk F.β0 1000001=blk β 1)∧room F.β0 1000001=room β 1∧many F.β0 1000001=b.es.length
 n2:(0<room β s→blk F.β0 1000002=blk β s)∧room F.β0 1000002=room β s∧many F.β0 1000002=m
 hc:jm b e=0
noncomputable def ZG (b:Bk) (e:Ev) (V:Nat→Option Addr×Nat) (i:Nat) (x:List AV):AS:=⟨(qy b e V i).regs,(1000002,x) :: (qy b e V i).boxes⟩
def ab4 (m:Nat):Nat→Option AV
 | 178=>some (.vec 1000002 4 0 m)
 | _=>none
noncomputable def V8 (b:Bk) (e:Ev) (V:Nat→Option Addr×Nat) (i:Nat):AS:=⟨regs Tryz.f46.ntmps [(2,.box 2 0),(3,.box 3 0),(4,.box 4 0),(5,vi 0),(189,.vec 189 4 0 ((b.es.getD i en0).gs.length+1)),(191,.elem 1000001 7 i 5)],(189,[.arr jU 4 (yh (b.es.getD i en0).gs e)]) :: (Bf b e V i).boxes⟩
noncomputable def SC (b:Bk) (e:Ev) (V:Nat→Option Addr×Nat) (f:Nat→DV) (x:List AV):AS:=⟨regs Tryz.f46.ntmps [(2,.box 2 0),(4,.box 4 0)],[(1000002,x),(1000001,[.arr fO 7 f]),(2,[.d (di e.t),.d (.con (.slice (V 1).1 b.es.length (V 1).2))]),(4,Bv)]⟩
theorem TP {b:Bk} {e:Ev} {w0 w2 w4 w5:World} {h0 h h5:IH} {F F5:Fr} {β:Nat→Nat} {V:Nat→Option Addr×Nat} {i s m:Nat} {K:RK} {sz:Nat} {g:Nat→DV} (hi:i<b.es.length) (hs:s=2*i+2∨s=2*i+3) (q:XM b e w0 h0 h β V w2 w4 s m F) (hk5:Kept F.on w4 w5) (hh5:∀c,c<w4.heap.size→¬F.on c→(∀o,h5.cell c o=h.cell c o)∧h5.obj c=h.obj c) (hon:∀c,F5.on c→F.on c∨w4.heap.size≤c)
  (n1:blk F5.β0 1000001=blk F.β0 1000001∧room F5.β0 1000001=room F.β0 1000001∧many F5.β0 1000001=many F.β0 1000001) {x':En} {p:Option Addr} {c bk:Nat} (n3:(0<c→blk F5.β0 1000002=bk)∧room F5.β0 1000002=c) {f:Nat→DV} (hf:∀j,j<b.es.length→f j=bJ (eU V s (p,c)) (b.es.set i x') j)
  (hg:∀(β6:Nat→Nat) (k6:IH) (tm:Array Value) (w6:World) (st:AS),aO h F5 w5 h5 st β6 k6 tm w6→st.box 1000002=some [.arr K sz g]→(∀t,2≤t→t<2*b.es.length+2→t≠s→0<room β t→w6.heap[blk β t]?=w2.heap[blk β t]?)→cZ k6 jU 4 x'.gs.length (dP x'.gs) (blk (upd β s bk c 0) (2*i+2)) (room (upd β s bk c 0) (2*i+2)) (sv (eU V s (p,c)) (2*i+2) x'.gs.length) w6.heap[blk (upd β s bk c 0) (2*i+2)]?)
  (ha:∀(β6:Nat→Nat) (k6:IH) (tm:Array Value) (w6:World) (st:AS),aO h F5 w5 h5 st β6 k6 tm w6→st.box 1000002=some [.arr K sz g]→(∀t,2≤t→t<2*b.es.length+2→t≠s→0<room β t→w6.heap[blk β t]?=w2.heap[blk β t]?)→cZ k6 iZ 6 x'.ah.length (dI x'.ah) (blk (upd β s bk c 0) (2*i+3)) (room (upd β s bk c 0) (2*i+3)) (sv (eU V s (p,c)) (2*i+3) x'.ah.length) w6.heap[blk (upd β s bk c 0) (2*i+3)]?)
  (hB:rB b e=⟨e.t,b.es.set i x'⟩) {its:List It} (hits:its=mP∨its=[cd Tryz.f46 [1,1,1,1,1,1,1,1,1,1,1]]) :
  aK Tryz.prog h F5 w5 h5 its (SC b e V f [.arr K sz g]) (aS Tryz.prog Tryz.f46 (iU b e w0 h0)):=by
 obtain ⟨fV,bb,b2,hb1,hb2,hk⟩:=q.ex
 have s24:=hk.size
 have s02:=b2.kept.size
 have Ih:O6 b w0 w2 β s F5.on:=by
  refine⟨fun c hc=>?_,fun c hc t t1 t2 t3 t4=>?_⟩
  ·rcases hon c hc with r|r
   ·exact q.on.new c r
   ·omega
  ·rcases hon c hc with r|r
   ·exact q.on.ap c r t t1 t2 t3 t4
   ·have:=b2.q.lt t (by omega) t2 t4;omega
 have hL:∀st:AS,iM Tryz.prog st Tryz.f46.results.toList=some [.d (.agg [di e.t,.con (.slice (V 1).1 b.es.length (V 1).2)]),.d (di 0)]→st.box 1000001=some [.arr fO 7 f]→st.box 1000002=some [.arr K sz g]→aP h F5 w5 h5 (aS Tryz.prog Tryz.f46 (iU b e w0 h0)) .ret st:=by
  intro st hr e1 e2
  refine vN (x:=.d (.agg [di e.t,.con (.slice (V 1).1 b.es.length (V 1).2)])) (y:=.d (di 0)) rfl hr fun β6 k6 tm w6 v u g6 hv hu=>?_
  have hu:u=.int .i64 0:=hu
  obtain ⟨vs,rfl,v0,vs1,rfl,r0,v1,vs2,rfl,r1,r2⟩:=hv
  have r0:v0=.int .i64 e.t:=r0
  have r1:v1=sv V 1 b.es.length:=r1
  have r2:vs2=[]:=r2
  subst hu r0 r1 r2
  refine ZB b2 hb1 hb2 hi hs Ih hk hk5 q.on hh5 g6 ⟨fun h1=>n1.1.trans (q.n1.1 h1),n1.2.1.trans q.n1.2.1,n1.2.2.trans q.n1.2.2⟩ e1 hf (hg _ _ _ _ _ g6 e2) (ha _ _ _ _ _ g6 e2) (fun h1=>?_) hB q.hc
  obtain ⟨d1,d2,_⟩:=g6.fix 1000002 (by decide)
  have hl:Live β6 1000002 [.arr K sz g]:=by
   show 0<room β6 1000002
   rw[d2,n3.2];exact h1
  obtain ⟨z1,z2,_⟩:=(g6.box 1000002 _ e2).1 hl
  rw[d1,n3.1 h1] at z1 z2
  exact⟨z2,z1.elim (fun r=>Ih.new _ r) fun r=>by have:=hk5.size;have r:w5.heap.size≤bk:=r;omega⟩
 rcases hits with rfl|rfl
 ·refine dX (aj:={ d:=bG }) follows (fun _=>none) (cuts:=[]) (n:=1000) ?_
  refine je ((.con (.slice (V 1).fst b.es.length (V 1).snd)):DV) (fun Za=>aP h F5 w5 h5 (aS Tryz.prog Tryz.f46 (iU b e w0 h0)) .ret ⟨regs 211 [(2,(.box 2 0)),(4,(.box 4 0)),(5,(vi 0)),(210,(.d (.agg [(di e.t),Za])))],[(1000002,[(.arr K sz g)]),(1000001,[(.arr eP 7 f)]),(2,[(vi e.t),(.d Za)]),(4,[(vi e.t),(.d Za)])]⟩) (by kernel_rfl) ?_
  exact hL _ rfl rfl rfl
 ·refine dX (aj:={ d:=bG }) follows (fun _=>none) (cuts:=[]) (n:=1000) ?_
  refine je ((.con (.slice (V 1).fst b.es.length (V 1).snd)):DV) (fun Za=>aP h F5 w5 h5 (aS Tryz.prog Tryz.f46 (iU b e w0 h0)) .ret ⟨regs 211 [(2,(.box 2 0)),(4,(.box 4 0)),(5,(vi 0)),(210,(.d (.agg [(di e.t),Za])))],[(1000002,[(.arr K sz g)]),(1000001,[(.arr eP 7 f)]),(2,[(vi e.t),(.d Za)]),(4,[(vi e.t),(.d Za)])]⟩) (by kernel_rfl) ?_
  exact hL _ rfl rfl rfl
theorem abW {b:Bk} {e:Ev} {w0 w2 w4:World} {h0 h:IH} {F:Fr} {β:Nat→Nat} {V:Nat→Option Addr×Nat} {i:Nat} (hi:i<b.es.length) (hs:gq b.es) (q:XM b e w0 h0 h β V w2 w4 (2*i+2) (b.es.getD i en0).gs.length F) (hB:rB b e=⟨e.t,b.es.set i (CX (b.es.getD i en0) e)⟩) :
  aK Tryz.prog h F w4 h (cd Tryz.f46 [1,1,1,1,1,1,1,1,1,1,0,0,1,1,1,1,1,0] :: mP) (ZG b e V i [.arr jU 4 (dP (b.es.getD i en0).gs)]) (aS Tryz.prog Tryz.f46 (iU b e w0 h0)):=by
 have hsi:=(hs.2 i hi).1
 obtain ⟨fV,bb,b2,hb1,hb2,hk⟩:=q.ex
 refine aK.tail (aj:={ d:=bG,rows:=fun n=>Nat.beq n 188 }) follows (ab4 (b.es.getD i en0).gs.length) 18 (by kernel_rfl) ?_
 refine je (opsOf (aU (au Tryz.f46) [1,1,1,1,1,1,1,1,1,1,0,0,1,1,1,1,1,0])) (fun Za=>((bT h F (.d (.con (.slice (V (2*i+2)).fst (b.es.getD i en0).gs.length (V (2*i+2)).snd))) (.vec 1000002 4 0 (b.es.getD i en0).gs.length)∧(((b.es.getD i en0).gs.length+1)*40≤1099511627776)∧((b.es.getD i en0).gs.length+1≤1099511627776))∧aP h F w4 h (iP Tryz.prog Za.toList 18 (Za.toList.length-18) (wpS Tryz.prog mP (aS Tryz.prog Tryz.f46 (iU b e w0 h0)))) .normal ⟨regs 211 [(2,(.box 2 0)),(3,(.box 3 0)),(4,(.box 4 0)),(5,(vi 0)),(7,(.elem 1000001 7 i 0)),(9,(vi (↑(b.es.getD i en0).ah.length))),(174,(.elem 1000001 7 i 0)),(175,(.elem 1000001 7 i 0)),(176,(.elem 1000001 7 i 0)),(177,(.elem 1000001 7 i 5)),(178,(.vec 1000002 4 0 (b.es.getD i en0).gs.length)),(179,(.box 3 5)),(180,(vi e.v)),(181,(.box 3 6)),(182,(vi e.h)),(183,(.box 3 4)),(184,(vi e.t)),(185,(.box 3 7)),(186,(vs e.s)),(187,(.d (.agg [(di e.v),(di e.h),(di e.t),(ds e.s)]))),(188,(.vec 188 4 0 1)),(189,(.vec 189 4 0 ((b.es.getD i en0).gs.length+1))),(190,(.elem 1000001 7 i 0)),(191,(.elem 1000001 7 i 5))],[(189,[(.arr qW 4 (fun oV=>bif oV.blt (b.es.getD i en0).gs.length then dP (b.es.getD i en0).gs oV else aW true 4 [di e.v,di e.h,di e.t,ds e.s] (0+(oV-(b.es.getD i en0).gs.length))))]),(188,[(.arr qW 4 (aW true 4 [(di e.v),(di e.h),(di e.t),(ds e.s)]))]),(1000002,[.dead]),(1000001,[(.arr eP 7 (bJ V b.es))]),(2,[(vi e.t),(.d (.con (.slice (V 1).fst b.es.length (V 1).snd)))]),(3,fJ e),(4,[(vi 0),(.d dG)])]⟩)) (by kernel_rfl) ?_
 refine⟨⟨Au (p:=V (2*i+2)) (b2.q.gr i hi) (by decide) q.n2.1 q.n2.2.1 q.n2.2.2,by omega,by omega⟩,?_⟩
 intro β3 h3 a3 w3 g3 hd3
 have g4:=g3.weaken (st':=V8 b e V i) (by refine AS.leZ [] [] (b:=((T0∧T0∧T0∧T0∧T0∧T0∧True)∧T0∧T0∧T0∧T0∧T0∧True)) (by kernel_rfl) (by kernel_rfl) ?_;exact⟨⟨rfl,rfl,rfl,rfl,rfl,rfl,trivial⟩,rfl,rfl,rfl,rfl,rfl,trivial⟩)
 obtain ⟨p,hpv,hp,hm,g5⟩:=g4.shift (q:=189) (m:=(b.es.getD i en0).gs.length+1) (e:=1000002) (on:=fun c=>∃s l,Go.Ab.look (V8 b e V i).boxes s=some l∧Live β3 s l∧blk β3 s=c) (by kernel_rfl) (by kernel_rfl) (by kernel_rfl) (by kernel_rfl) fun s l q1 q2=>⟨s,l,q1,q2,rfl⟩
 rw[show (opsOf (aU (au Tryz.f46) [1,1,1,1,1,1,1,1,1,1,0,0,1,1,1,1,1,0])).toList.length-18=1+0 from by kernel_rfl]
 refine(dV.tree (aj:={ d:=bG }) ?_:dV Tryz.prog h _ w3 h3 (opsOf (aU (au Tryz.f46) [1,1,1,1,1,1,1,1,1,1,0,0,1,1,1,1,1,0])).toList 18 (1+0) _ _) _ _ _ _ g5 hd3
 refine je (jv (b.es.getD i en0) (sv V (2*i+2) (b.es.getD i en0).gs.length) (sv V (2*i+3) (b.es.getD i en0).ah.length)) (fun Za=>aP h (Fr.mk (fun c=>∃s l,Ab.look (V8 b e V i).boxes s=some l∧Live β3 s l∧blk β3 s=c) (upd β3 1000002 (blk β3 189) (room β3 189) (many β3 189))) w3 h3 (iP Tryz.prog (opsOf (aU (au Tryz.f46) [1,1,1,1,1,1,1,1,1,1,0,0,1,1,1,1,1,0])).toList (18+1) 0 (wpS Tryz.prog mP (aS Tryz.prog Tryz.f46 (iU b e w0 h0)))) .normal ⟨regs 211 [(2,(.box 2 0)),(3,(.box 3 0)),(4,(.box 4 0)),(5,(vi 0)),(189,(.d (.con (.slice p ((b.es.getD i en0).gs.length+1) (β3 (3*189+1)))))),(191,(.elem 1000001 7 i 5))],[(1000002,[(.arr qW 4 (yh (b.es.getD i en0).gs e))]),(1000001,[(.arr eP 7 (fun j=>bif j.beq i then DV.agg (List.take 5 Za++[DV.con (Value.slice p ((b.es.getD i en0).gs.length+1) (β3 (3*189+1)))]++List.drop (5+1) Za) else bJ V b.es j))]),(2,[(vi e.t),(.d (.con (.slice (V 1).fst b.es.length (V 1).snd)))]),(3,fJ e),(4,[(vi 0),(.d dG)])]⟩) (by kernel_rfl) ?_
 refine aP.kP ?_
 refine aK.weaken (st':=SC b e V (fun j=>bif j.beq i then .agg (List.take 5 (jv (b.es.getD i en0) (sv V (2*i+2) (b.es.getD i en0).gs.length) (sv V (2*i+3) (b.es.getD i en0).ah.length))++[.con (.slice p ((b.es.getD i en0).gs.length+1) (room β3 189))]++List.drop 6 (jv (b.es.getD i en0) (sv V (2*i+2) (b.es.getD i en0).gs.length) (sv V (2*i+3) (b.es.getD i en0).ah.length))) else bJ V b.es j) [.arr jU 4 (yh (b.es.getD i en0).gs e)]) ?_ ?_
 ·exact AS.bD (by kernel_rfl)
 obtain ⟨f1,f2,f3⟩:=g4.fix 1000001 (by decide)
 have hl:(CX (b.es.getD i en0) e).gs.length=(b.es.getD i en0).gs.length+1:=iE _ _
 refine TP hi (.inl rfl) q (x':=CX (b.es.getD i en0) e) (p:=p) (c:=room β3 189) (bk:=blk β3 189) g3.kept (fun c hc hn=>g3.old c hc hn) ?_ ⟨by rw[←f1];exact aZ (by decide),by rw[←f2];exact bI (by decide),by rw[←f3];exact iy (by decide)⟩ ⟨fun _=>aT,aH⟩ (fun j hj=>Qe (x':=CX (b.es.getD i en0) e) (p:=(p,room β3 189)) hi (iE _ _) rfl rfl rfl rfl j) (fun β6 k6 tm w6 st g6 hb6 _=>?_) (fun β6 k6 tm w6 st g6 hb6 hsm=>?_) hB (.inl rfl)
 ·rintro c ⟨t,l,hl,hv,rfl⟩
  exact((g4.box t l hl).1 hv).1
 ·rw[aT,aH,jh]
  exact l7 g6 (e:=1000002) (by decide) aT aH (by rw[hl,bH];exact hm) hb6 rfl (fun j=>lJ _ j) (Us _ e) hp
 ·rw[aZ (by omega),bI (by omega),dW _ (by omega)]
  exact(b2.q.ap i hi).moved (fun j=>kR _ j) fun h1=>hsm _ (by omega) (by omega) (by omega) h1
def abJ (m:Nat):Nat→Option AV
 | 200=>some (.vec 1000002 6 0 m)
 | _=>none
noncomputable def Ub (b:Bk) (e:Ev) (V:Nat→Option Addr×Nat) (i:Nat):AS:=⟨regs Tryz.f46.ntmps [(2,.box 2 0),(3,.box 3 0),(4,.box 4 0),(5,vi 0),(207,.vec 207 6 0 ((b.es.getD i en0).ah.length+1)),(209,.elem 1000001 7 i 6)],(207,[.arr iZ 6 (wu (b.es.getD i en0).ah e)]) :: (Bf b e V i).boxes⟩
theorem aar {b:Bk} {e:Ev} {w0 w2 w4:World} {h0 h:IH} {F:Fr} {β:Nat→Nat} {V:Nat→Option Addr×Nat} {i:Nat} (hi:i<b.es.length) (hs:gq b.es) (q:XM b e w0 h0 h β V w2 w4 (2*i+3) (b.es.getD i en0).ah.length F) (hB:rB b e=⟨e.t,b.es.set i (Di (b.es.getD i en0) e)⟩) :
  aK Tryz.prog h F w4 h (cd Tryz.f46 [1,1,1,1,1,1,1,1,1,1,0,0,1,1,1,1,1,1,1,0] :: mP) (ZG b e V i [.arr iZ 6 (dI (b.es.getD i en0).ah)]) (aS Tryz.prog Tryz.f46 (iU b e w0 h0)):=by
 have hsi:=(hs.2 i hi).2
 obtain ⟨fV,bb,b2,hb1,hb2,hk⟩:=q.ex
 refine aK.tail (aj:={ d:=bG,rows:=fun n=>Nat.beq n 206 }) follows (abJ (b.es.getD i en0).ah.length) 14 (by kernel_rfl) ?_
 refine je (opsOf (aU (au Tryz.f46) [1,1,1,1,1,1,1,1,1,1,0,0,1,1,1,1,1,1,1,0])) (fun Za=>((bT h F (.d (.con (.slice (V (2*i+3)).fst (b.es.getD i en0).ah.length (V (2*i+3)).snd))) (.vec 1000002 6 0 (b.es.getD i en0).ah.length)∧(((b.es.getD i en0).ah.length+1)*56≤1099511627776)∧((b.es.getD i en0).ah.length+1≤1099511627776))∧aP h F w4 h (iP Tryz.prog Za.toList 14 (Za.toList.length-14) (wpS Tryz.prog mP (aS Tryz.prog Tryz.f46 (iU b e w0 h0)))) .normal ⟨regs 211 [(2,(.box 2 0)),(3,(.box 3 0)),(4,(.box 4 0)),(5,(vi 0)),(7,(.elem 1000001 7 i 0)),(9,(vi (↑(b.es.getD i en0).ah.length))),(196,(.elem 1000001 7 i 0)),(197,(.elem 1000001 7 i 0)),(198,(.elem 1000001 7 i 0)),(199,(.elem 1000001 7 i 6)),(200,(.vec 1000002 6 0 (b.es.getD i en0).ah.length)),(201,(.box 3 4)),(202,(vi e.t)),(203,(.box 3 7)),(204,(vs e.s)),(205,(.d (.agg [(di e.t),(ds e.s),(db false),(db false),(di 0),(ds (ByteArray.mk #[]))]))),(206,(.vec 206 6 0 1)),(207,(.vec 207 6 0 ((b.es.getD i en0).ah.length+1))),(208,(.elem 1000001 7 i 0)),(209,(.elem 1000001 7 i 6))],[(207,[(.arr oz 6 (fun oV=>bif oV.blt (b.es.getD i en0).ah.length then dI (b.es.getD i en0).ah oV else aW true 6 [di e.t,ds e.s,DV.con (Value.bool false),DV.con (Value.bool false),di 0,ds (ByteArray.mk #[])] (0+(oV-(b.es.getD i en0).ah.length))))]),(206,[(.arr oz 6 (aW true 6 [(di e.t),(ds e.s),(db false),(db false),(di 0),(ds (ByteArray.mk #[]))]))]),(1000002,[.dead]),(1000001,[(.arr eP 7 (bJ V b.es))]),(2,[(vi e.t),(.d (.con (.slice (V 1).fst b.es.length (V 1).snd)))]),(3,fJ e),(4,[(vi 0),(.d dG)])]⟩)) (by kernel_rfl) ?_
 refine⟨⟨Au (p:=V (2*i+3)) (b2.q.ap i hi) (by decide) q.n2.1 q.n2.2.1 q.n2.2.2,by omega,by omega⟩,?_⟩
 intro β3 h3 a3 w3 g3 hd3
 have g4:=g3.weaken (st':=Ub b e V i) (by refine AS.leZ [] [0] (b:=((T0∧T0∧T0∧T0∧T0∧T0∧True)∧((some [(.arr oz 6 (fun oV=>bif oV.blt (b.es.getD i en0).ah.length then dI (b.es.getD i en0).ah oV else aW true 6 [di e.t,ds e.s,DV.con (Value.bool false),DV.con (Value.bool false),di 0,ds (ByteArray.mk #[])] (0+(oV-(b.es.getD i en0).ah.length))))]):dS)=(some [(.arr oz 6 (wu (b.es.getD i en0).ah e))])∧T0∧T0∧T0∧T0∧True)) (by kernel_rfl) (by kernel_rfl) ?_;exact⟨⟨rfl,rfl,rfl,rfl,rfl,rfl,trivial⟩,rfl,rfl,rfl,rfl,rfl,trivial⟩)
 obtain ⟨p,hpv,hp,hm,g5⟩:=g4.shift (q:=207) (m:=(b.es.getD i en0).ah.length+1) (e:=1000002) (on:=fun c=>∃s l,Go.Ab.look (Ub b e V i).boxes s=some l∧Live β3 s l∧blk β3 s=c) (by kernel_rfl) (by kernel_rfl) (by kernel_rfl) (by kernel_rfl) fun s l q1 q2=>⟨s,l,q1,q2,rfl⟩
 rw[show (opsOf (aU (au Tryz.f46) [1,1,1,1,1,1,1,1,1,1,0,0,1,1,1,1,1,1,1,0])).toList.length-14=1+0 from by kernel_rfl]
 refine(dV.tree (aj:={ d:=bG }) ?_:dV Tryz.prog h _ w3 h3 (opsOf (aU (au Tryz.f46) [1,1,1,1,1,1,1,1,1,1,0,0,1,1,1,1,1,1,1,0])).toList 14 (1+0) _ _) _ _ _ _ g5 hd3
 refine je (jv (b.es.getD i en0) (sv V (2*i+2) (b.es.getD i en0).gs.length) (sv V (2*i+3) (b.es.getD i en0).ah.length)) (fun Za=>aP h (Fr.mk (fun c=>∃s l,Ab.look (Ub b e V i).boxes s=some l∧Live β3 s l∧blk β3 s=c) (upd β3 1000002 (blk β3 207) (room β3 207) (many β3 207))) w3 h3 (iP Tryz.prog (opsOf (aU (au Tryz.f46) [1,1,1,1,1,1,1,1,1,1,0,0,1,1,1,1,1,1,1,0])).toList (14+1) 0 (wpS Tryz.prog mP (aS Tryz.prog Tryz.f46 (iU b e w0 h0)))) .normal ⟨regs 211 [(2,(.box 2 0)),(3,(.box 3 0)),(4,(.box 4 0)),(5,(vi 0)),(207,(.d (.con (.slice p ((b.es.getD i en0).ah.length+1) (β3 (3*207+1)))))),(209,(.elem 1000001 7 i 6))],[(1000002,[(.arr oz 6 (wu (b.es.getD i en0).ah e))]),(1000001,[(.arr eP 7 (fun j=>bif j.beq i then DV.agg (List.take 6 Za++[DV.con (Value.slice p ((b.es.getD i en0).ah.length+1) (β3 (3*207+1)))]++List.drop (6+1) Za) else bJ V b.es j))]),(2,[(vi e.t),(.d (.con (.slice (V 1).fst b.es.length (V 1).snd)))]),(3,fJ e),(4,[(vi 0),(.d dG)])]⟩) (by kernel_rfl) ?_
 refine aP.kP ?_
 refine aK.weaken (st':=SC b e V (fun j=>bif j.beq i then .agg (List.take 6 (jv (b.es.getD i en0) (sv V (2*i+2) (b.es.getD i en0).gs.length) (sv V (2*i+3) (b.es.getD i en0).ah.length))++[.con (.slice p ((b.es.getD i en0).ah.length+1) (room β3 207))]++List.drop 7 (jv (b.es.getD i en0) (sv V (2*i+2) (b.es.getD i en0).gs.length) (sv V (2*i+3) (b.es.getD i en0).ah.length))) else bJ V b.es j) [.arr iZ 6 (wu (b.es.getD i en0).ah e)]) ?_ ?_
 ·exact AS.bD (by kernel_rfl)
 obtain ⟨f1,f2,f3⟩:=g4.fix 1000001 (by decide)
 have hl:(Di (b.es.getD i en0) e).ah.length=(b.es.getD i en0).ah.length+1:=iE _ _
 refine TP hi (.inr rfl) q (x':=Di (b.es.getD i en0) e) (p:=p) (c:=room β3 207) (bk:=blk β3 207) g3.kept (fun c hc hn=>g3.old c hc hn) ?_ ⟨by rw[←f1];exact aZ (by decide),by rw[←f2];exact bI (by decide),by rw[←f3];exact iy (by decide)⟩ ⟨fun _=>aT,aH⟩ (fun j hj=>Qc (x':=Di (b.es.getD i en0) e) (p:=(p,room β3 207)) hi (iE _ _) rfl rfl rfl rfl j) (fun β6 k6 tm w6 st g6 hb6 hsm=>?_) (fun β6 k6 tm w6 st g6 hb6 _=>?_) hB (.inl rfl)
 ·rintro c ⟨t,l,hl,hv,rfl⟩
  exact((g4.box t l hl).1 hv).1
 ·rw[aZ (by omega),bI (by omega),dW _ (by omega)]
  exact(b2.q.gr i hi).moved (fun j=>lJ _ j) fun h1=>hsm _ (by omega) (by omega) (by omega) h1
 ·rw[aT,aH,jh]
  exact l7 g6 (e:=1000002) (by decide) aT aH (by rw[hl,bH];exact hm) hb6 rfl (fun j=>kR _ j) (VJ _ e) hp
def acL (n:Nat):Nat→Option AV
 | 92=>some (.vec 1000002 6 0 n)
 | _=>none
noncomputable def Ue (b:Bk) (e:Ev) (V:Nat→Option Addr×Nat) (i n:Nat):AS:=⟨regs Tryz.f46.ntmps [(2,.box 2 0),(3,.box 3 0),(4,.box 4 0),(5,vi 0),(7,.elem 1000001 7 i 0),(9,vi n)],(1000002,[.arr iZ 6 (dI (b.es.getD i en0).ah)]) :: (Bf b e V i).boxes⟩
noncomputable def adX (b:Bk) (e:Ev) (V:Nat→Option Addr×Nat) (i m:Nat):AS:=⟨regs Tryz.f46.ntmps [(2,.box 2 0),(3,.box 3 0),(4,.box 4 0),(5,vi 0),(7,.elem 1000001 7 i 0),(9,vi ((m+1:Nat):Int)),(11,.elem 1000002 6 m 0),(89,.elem 1000001 7 i 0),(90,.elem 1000001 7 i 0),(91,.elem 1000001 7 i 6),(92,.vec 1000002 6 0 (m+1)),(93,vi ((m+1:Nat):Int)),(94,vi m),(95,.elem 1000002 6 m 0),(96,.elem 1000002 6 m 0),(97,.elem 1000002 6 m 0),(98,.elem 1000002 6 m 0),(99,.elem 1000002 6 m 0),(100,.box 3 8),(101,vb e.acc),(102,.box 3 4),(103,vi e.t),(104,.box 3 7),(105,vs e.s),(106,.elem 1000002 6 m 0),(107,.elem 1000002 6 m 2),(108,.elem 1000002 6 m 0),(109,.elem 1000002 6 m 3),(110,.elem 1000002 6 m 0),(111,.elem 1000002 6 m 4),(112,.elem 1000002 6 m 0),(113,.elem 1000002 6 m 5)],(1000002,[.arr iZ 6 fun j=>gD (b.es.getD i en0).ah e m j]) :: (Bf b e V i).boxes⟩
def N46 (b:Bk) (e:Ev) (w0:World) (h0 h:IH) (F:Fr) (w4:World) (V:Nat→Option Addr×Nat) (i m:Nat):Prop:=(bT h F (.d (.con (sv V (2*i+3) (b.es.getD i en0).ah.length))) (.vec 1000002 6 0 (m+1))∧I64 (((m+1:Nat):Int)-1)∧(0≤((m+1:Nat):Int)-1)∧(((m+1:Nat):Int)-1<((m+1:Nat):Int)))∧
 aK Tryz.prog h F w4 h [cd Tryz.f46 [1,1,1,1,1,1,1,1,1,1,1]] (adX b e V i m) (aS Tryz.prog Tryz.f46 (iU b e w0 h0))
theorem abt {b:Bk} {e:Ev} {w0 w4:World} {h0 h:IH} {F:Fr} {V:Nat→Option Addr×Nat} {i m:Nat} (hm:m<16) (hN:N46 b e w0 h0 h F w4 V i m) :
  aK Tryz.prog h F w4 h (cd Tryz.f46 [1,1,1,1,1,1,1,1,1,1,0,0,1,1,1,1,1,1,1,1] :: mP) (Ue b e V i (m+1)) (aS Tryz.prog Tryz.f46 (iU b e w0 h0)):=by
 have h16:m=0∨m=1∨m=2∨m=3∨m=4∨m=5∨m=6∨m=7∨m=8∨m=9∨m=10∨m=11∨m=12∨m=13∨m=14∨m=15:=by omega
 refine dX (aj:={ d:=bG }) follows (acL (m+1)) (cuts:=[31]) (n:=1000) ?_
 refine je m (N46 b e w0 h0 h F w4 V i) ?_ hN
 clear hN hm
 rcases h16 with rfl|rfl|rfl|rfl|rfl|rfl|rfl|rfl|rfl|rfl|rfl|rfl|rfl|rfl|rfl|rfl<;>kernel_rfl
theorem Z4 {b:Bk} {e:Ev} {w0 w2 w4:World} {h0 h:IH} {F:Fr} {β:Nat→Nat} {V:Nat→Option Addr×Nat} {i m:Nat} (hi:i<b.es.length) (hm:(b.es.getD i en0).ah.length=m+1) (Hl:m<16) (q:XM b e w0 h0 h β V w2 w4 (2*i+3) (b.es.getD i en0).ah.length F) (hB:rB b e=⟨e.t,b.es.set i (yH (b.es.getD i en0) e)⟩) :
  aK Tryz.prog h F w4 h (cd Tryz.f46 [1,1,1,1,1,1,1,1,1,1,0,0,1,1,1,1,1,1,1,1] :: mP) (Ue b e V i (m+1)) (aS Tryz.prog Tryz.f46 (iU b e w0 h0)):=by
 obtain ⟨fV,bb,b2,hb1,hb2,hk⟩:=q.ex
 refine abt Hl ⟨⟨hm▸Au (p:=V (2*i+3)) (b2.q.ap i hi) (by decide) q.n2.1 q.n2.2.1 q.n2.2.2,⟨by omega,by omega⟩,by omega,by omega⟩,?_⟩
 refine aK.weaken (st':=SC b e V (bJ V b.es) [.arr iZ 6 fun j=>gD (b.es.getD i en0).ah e m j]) ?_ ?_
 ·exact AS.bD (by kernel_rfl)
 obtain ⟨hl,hat⟩:=Ut hm e
 have hcap:V (2*i+3)=((V (2*i+3)).1,room β (2*i+3)):=by
  obtain ⟨p,hp,_⟩:=(b2.q.ap i hi).val
  simp only[Value.slice.injEq,true_and] at hp
  rw[←hp.2]
 have hpp:(V (2*i+3)).1=some ⟨blk β (2*i+3),0,none⟩∨room β (2*i+3)=0:=by
  obtain ⟨p,hp,hq⟩:=(b2.q.ap i hi).val
  simp only[Value.slice.injEq,true_and] at hp
  rw[hp.1];exact hq
 have hput:∀t n,sv (eU V (2*i+3) ((V (2*i+3)).1,room β (2*i+3))) t n=sv V t n:=fun t n=>by
  by_cases c:t=2*i+3
  ·subst c;rw[jh,←hcap]
  ·rw[dW _ c]
 refine TP hi (.inr rfl) q (x':=yH (b.es.getD i en0) e) (p:=(V (2*i+3)).1) (c:=room β (2*i+3)) (bk:=blk β (2*i+3)) (Kept.refl _ _) (fun _ _ _=>⟨fun _=>rfl,rfl⟩) (fun _ hc=>.inl hc) ⟨rfl,rfl,rfl⟩ ⟨q.n2.1,q.n2.2.1⟩ (fun j hj=>?_) (fun β6 k6 tm w6 st g6 hb6 hsm=>?_) (fun β6 k6 tm w6 st g6 hb6 _=>?_) hB (.inr rfl)
 ·unfold bJ
  by_cases c:j=i
  ·subst c
   have ex:(b.es.set j (yH (b.es.getD j en0) e)).getD j en0=yH (b.es.getD j en0) e:=by rw[List.getD,List.getElem?_set_self hi];rfl
   rw[ex,hput,hput,hl,←hm]
   rfl
  ·rw[List.getD,List.getD,List.getElem?_set_ne (Ne.symm c)]
   simp only[hput]
 ·rw[aZ (by omega),bI (by omega),dW _ (by omega)]
  exact(b2.q.gr i hi).moved (fun j=>lJ _ j) fun h1=>hsm _ (by omega) (by omega) (by omega) h1
 ·rw[aT,aH,jh,hl]
  by_cases h1:0<room β (2*i+3)
  ·refine l7 g6 (e:=1000002) (by decide) (q.n2.1 h1) q.n2.2.1 (by rw[q.n2.2.2,hm];exact Nat.le_refl _) hb6 rfl (fun j=>kR _ j) (fun j hj=>?_) hpp
   show gD (b.es.getD i en0).ah e m j=.agg (DU ((yH (b.es.getD i en0) e).ah.getD j bZ))
   rw[hat j hj]
   by_cases c:j=m
   ·subst c;rw[if_pos rfl];exact X7
   ·rw[if_neg c];exact XV c
  ·have:=(b2.q.ap i hi).row.1.1
   omega
theorem U8 {x:List AV} {y:List AV} {z:List AV} (hx:pU x) (hy:pU y) (hz:pU z):∀s l,Go.Ab.look [(2,x),(3,y),(4,z)] s=some l→pU l:=by
 intro s l hl
 simp only[Go.Ab.look] at hl
 by_cases e1:(2:Nat)=s
 ·subst e1;simp at hl;subst hl;exact hx
 ·rw[aQ e1,cond_false] at hl
  by_cases e2:(3:Nat)=s
  ·subst e2;simp at hl;subst hl;exact hy
  ·rw[aQ e2,cond_false] at hl
   by_cases e3:(4:Nat)=s
   ·subst e3;simp at hl;subst hl;exact hz
   ·rw[aQ e3,cond_false] at hl;cases hl
theorem J8 {b:Bk} {e:Ev} {V:Nat→Option Addr×Nat} {i:Nat}:∀s l,Go.Ab.look (Bf b e V i).boxes s=some l→pU l:=by
 intro s l hl
 simp only[Bf,Go.Ab.look] at hl
 by_cases e2:(1000001:Nat)=s
 ·subst e2;simp at hl;subst hl;exact fun i=>mg V b.es i
 ·rw[aQ e2,cond_false] at hl
  exact U8 (x:=[.d (di e.t),.d (.con (.slice (V 1).1 b.es.length (V 1).2))]) (y:=(kE e).map .d) (z:=Bv) rfl rfl rfl s l hl
theorem abl {b:Bk} {e:Ev} {w0 w:World} {h0 h:IH} {β β1:Nat→Nat} {V:Nat→Option Addr×Nat} {on:Nat→Prop} (hs:gq b.es) (hb:rH b.es) (ht:¬e.t<b.t) (hf:lU e) (hk:e.kind≠0) {i:Nat} (hfi:dB b.es e.k=some i) (hi:i<b.es.length) (a:lD b w0 h0 h β V w on) :
  aK Tryz.prog (IH.add h (oL β b.es.length) w) ⟨on,β1⟩ w (IH.add h (oL β b.es.length) w) [cd Tryz.f46 [1,1,1,1,1,1,1]] (EO b e (V 1) i) (aS Tryz.prog Tryz.f46 (iU b e w0 h0)):=by
 intro β2 k2 a2 w2 g2 hd2
 obtain ⟨fV,bb,hb1,hb2,b2,g5⟩:=a.read (rs:=(EO b e (V 1) i).regs) (bs:=(EO b e (V 1) i).boxes) rfl g2 (by kernel_rfl) (U8 rfl rfl rfl) (by kernel_rfl) (by kernel_rfl)
 obtain ⟨l1,l2⟩:=b2.q.lists
 have hnew2:∀c,(fV c∨c=bb)→w0.heap.size≤c:=by
  rintro c (q|rfl)
  ·exact(b2.new _ q).1
  ·by_cases h1:0<room β 1
   ·rw[hb1 h1];exact b2.xX _ ⟨1,by omega,by omega,h1,rfl⟩
   ·rw[hb2 h1];exact b2.kept.size
 have o:yY w0 h0 (IH.add h (C9 β b.es.length) w2) w2 (fun c=>fV c∨c=bb):=by
  refine⟨b2.le.trans l1,b2.kept,fun c hlt=>?_,hnew2⟩
  have hn:¬C9 β b.es.length c:=fun ⟨t,t1,t2,t3,t4⟩=>by have:=b2.xX c ⟨t,by omega,t2,t3,t4⟩;omega
  exact⟨fun o=>by rw[IH.jT hn];exact(b2.old c hlt).1 o,by rw[IH.xA];exact(b2.old c hlt).2⟩
 have hA:jm b e=zC (b.es.getD i en0) e:=by unfold jm;rw[if_neg ht,if_neg hk,hfi]
 have hin:∀s,2≤s→s<2*b.es.length+2→0<room β s→∀o,(IH.add h (C9 β b.es.length) w2).cell (blk β s) o=w2.cell? ⟨blk β s,o,none⟩:=fun s s1 s2 s3 o=>IH.nC ⟨s,s1,s2,s3,rfl⟩
 have hgs:BGs (IH.add h (C9 β b.es.length) w2) ⟨fun c=>fV c∨c=bb,upd β2 1000001 bb (room β 1) b.es.length⟩ V i (b.es.getD i en0):=by
  refine⟨fun β4 h4 v hG _ r=>?_,fun β4 h4 v hG _ r=>?_⟩
  ·have r:v=sv V (2*i+2) (b.es.getD i en0).gs.length:=r
   subst r
   exact DV.rel.mono hG _ _ ((b2.q.gr i hi).slc l1 fun h0 o=>hin _ (by omega) (by omega) h0 o)
  ·have r:v=sv V (2*i+3) (b.es.getD i en0).ah.length:=r
   subst r
   exact DV.rel.mono hG _ _ ((b2.q.ap i hi).slc l1 fun h0 o=>hin _ (by omega) (by omega) h0 o)
 have hB:∀x',gX (b.es.getD i en0) e=x'→jm b e=0→rB b e=⟨e.t,b.es.set i x'⟩:=fun x' hx hc=>by
  unfold rB gQ dY
  rw[if_pos hc,if_neg hk,hfi,←hx]
 have hn1:∀{st:AS} {β3:Nat→Nat} {k3:IH} {tm:Array Value} {w3:World} (g3:aO (IH.add h (C9 β b.es.length) w2) ⟨fun c=>fV c∨c=bb,upd β2 1000001 bb (room β 1) b.es.length⟩ w2 (IH.add h (C9 β b.es.length) w2) st β3 k3 tm w3) (bc c m:Nat),(0<room β 1→blk (upd β3 1000002 bc c m) 1000001=blk β 1)∧room (upd β3 1000002 bc c m) 1000001=room β 1∧many (upd β3 1000002 bc c m) 1000001=b.es.length:=by
  intro st β3 k3 tm w3 g3 bc c m
  obtain ⟨f1,f2,f3⟩:=g3.fix 1000001 (by decide)
  rw[aZ (by decide),bI (by decide),iy (by decide),f1,f2,f3]
  exact⟨fun h1=>aT.trans (hb1 h1),aH,bH⟩
 refine(Z5 hi hs (Au (p:=V 1) b2.q.ent (by decide) (fun h0=>by rw[aT];exact hb1 h0) aH bH) hgs (Zr hi hs o hgs hA fun hc=>Z7 hk hf (fun k1=>?_) (fun k2=>?_) (fun k3=>?_))) _ _ a2 w2 g5 hd2
 ·intro β3 k3 a3 w3 g3 hd3
  obtain ⟨RG,bc,c1,Oa,hw3,hk3,g4⟩:=b2.list hb1 hb2 rfl (rs:=(qy b e V i).regs) (bs:=(qy b e V i).boxes) g3 (by kernel_rfl) J8 (s:=2*i+2) (by omega) (by omega) (b2.q.gr i hi) (by kernel_rfl) (by kernel_rfl)
  refine abW hi hs ⟨⟨fV,bb,b2,hb1,hb2,hk3⟩,Oa,hn1 g3 _ _ _,⟨fun h1=>aT.trans (c1 h1),aH,bH⟩,hc⟩ (hB _ ?_ hc) _ _ a3 w3 g4 hd3
  unfold gX CX
  rw[if_pos k1]
 ·intro β3 k3 a3 w3 g3 hd3
  obtain ⟨RG,bc,c1,Oa,hw3,hk3,g4⟩:=b2.list hb1 hb2 rfl (rs:=(qy b e V i).regs) (bs:=(qy b e V i).boxes) g3 (by kernel_rfl) J8 (s:=2*i+3) (by omega) (by omega) (b2.q.ap i hi) (by kernel_rfl) (by kernel_rfl)
  refine aar hi hs ⟨⟨fV,bb,b2,hb1,hb2,hk3⟩,Oa,hn1 g3 _ _ _,⟨fun h1=>aT.trans (c1 h1),aH,bH⟩,hc⟩ (hB _ ?_ hc) _ _ a3 w3 g4 hd3
  unfold gX Di
  rw[if_neg (by omega),if_pos k2]
 ·obtain ⟨m,hm⟩:∃m,(b.es.getD i en0).ah.length=m+1:=by
   have ho:bV (b.es.getD i en0)=true:=by
    cases q:bV (b.es.getD i en0) with
    | true=>rfl
    | false=>
     exfalso
     rw[hA] at hc
     unfold zC at hc
     rw[if_pos (.inr (.inr ⟨k3,by rw[q];exact Bool.false_ne_true⟩))] at hc
     exact absurd hc (by decide)
   unfold bV at ho
   cases hl:(b.es.getD i en0).ah with
   | nil=>rw[hl] at ho;cases ho
   | cons a l=>exact⟨l.length,rfl⟩
  have Hl:m<16:=by
   have hb:=hb i hi
   simp only[vI,aY,eF] at hb
   omega
  intro β3 kk3 a3 w3 g3 hd3
  obtain ⟨RG,bc,c1,Oa,hw3,hk3,g4⟩:=b2.list hb1 hb2 rfl (rs:=(qy b e V i).regs) (bs:=(qy b e V i).boxes) g3 (by kernel_rfl) J8 (s:=2*i+3) (by omega) (by omega) (b2.q.ap i hi) (by kernel_rfl) (by kernel_rfl)
  have hS:(⟨(qy b e V i).regs,(1000002,[.arr iZ 6 (dI (b.es.getD i en0).ah)]) :: (qy b e V i).boxes⟩:AS)=Ue b e V i (m+1):=by
   unfold qy Ue
   rw[hm]
  rw[hS] at g4
  refine Z4 hi hm Hl ⟨⟨fV,bb,b2,hb1,hb2,hk3⟩,Oa,hn1 g3 _ _ _,⟨fun h1=>aT.trans (c1 h1),aH,bH⟩,hc⟩ (hB _ ?_ hc) _ _ a3 w3 g4 hd3
  unfold gX yH
  rw[if_neg (by omega),if_neg (by omega)]
theorem abD (b:Bk) (e:Ev) (hs:gq b.es) (hb:rH b.es) (hf:lU e) (hw:G.holds w) {u x:Value} (hu:DV.rel G (cu b) u) (hx:DV.rel G (ig e) x):Calls Tryz.prog 46 #[u,x] w fun r w'=>∃v,r=.returned v∧iU b e w G v w':=by
 have g:=aO.bare (G:=G) (rs:=[.d (cu b),.d (ig e)]) (β:=fun _=>0) (tm:=#[u,x]) (IH.le.refl G) hw rfl (fun t y hy=>by
  rcases t with _|_|t
  ·simp at hy;subst hy;exact⟨_,rfl,hu⟩
  ·simp at hy;subst hy;exact⟨_,rfl,hx⟩
  ·simp at hy) (fun _=>False)
 refine Calls.BF Tryz.func46 rfl g ?_
 refine dX (aj:={ d:=bG }) follows (fun _=>none) (cuts:=[3]) (n:=1000) ?_
 refine qL ((.d (.agg [(di e.kind),(ds e.k.st),(ds e.k.ex),(di e.k.n),(di e.t),(di e.v),(di e.h),(ds e.s),(db e.acc)])):AV) ((.slc 7 b.es.length (bK b.es)):DV) (fun Za Zb=>((((decide (e.t<b.t))=true)→aP G (Fr.mk (fun x=>False) fun x=>0) w G (aS Tryz.prog Tryz.f46 (iU b e w G)) .ret ⟨regs 211 [(0,(.d (.agg [(di b.t),Zb]))),(1,Za),(2,(.box 2 0)),(3,(.box 3 0)),(4,(.box 4 0)),(5,(vi 2)),(12,(.box 3 4)),(13,(vi e.t)),(14,(.box 2 0)),(15,(vi b.t)),(16,(vb (decide (e.t<b.t)))),(17,(.d (.agg [(di 0),dG])))],[(4,[(vi 0),(.d dG)]),(3,fJ e),(2,[(vi b.t),(.d Zb)])]⟩)∧(((decide (e.t<b.t))=false)→aK Tryz.prog G (Fr.mk (fun x=>False) fun x=>0) w G [cd Tryz.f46 [1,1]] ⟨regs 211 [(0,(.d (.agg [(di b.t),Zb]))),(1,Za),(2,(.box 2 0)),(3,(.box 3 0)),(4,(.box 4 0)),(5,(vi 0)),(12,(.box 3 4)),(13,(vi e.t)),(14,(.box 2 0)),(15,(vi b.t)),(16,(vb (decide (e.t<b.t))))],[(4,[(vi 0),(.d dG)]),(3,fJ e),(2,[(vi b.t),(.d Zb)])]⟩ (aS Tryz.prog Tryz.f46 (iU b e w G))))) (by kernel_rfl) ?_
 refine⟨fun c=>?_,fun c=>?_⟩
 ·have ht:e.t<b.t:=dn c
  exact um (F:=⟨fun _=>False,fun _=>0⟩) (code:=2) ⟨IH.le.refl _,Kept.refl _ _,fun _ _=>⟨fun _=>rfl,rfl⟩,fun _ hc=>hc.elim⟩ rfl (by unfold jm;rw[if_pos ht]) (by decide)
 have ht:¬e.t<b.t:=of_decide_eq_false c
 refine aK.weaken (st':=X6 b e) ?_ ?_
 ·exact AS.bD (by kernel_rfl)
 refine aK.seq (a:=aU (au Tryz.f46) [1,1,0]) (b:=aU (au Tryz.f46) [1,1,1]) (by kernel_rfl) ?_
 refine aK.qR (aj:={ d:=bG }) follows (fun _=>none) 1 (by kernel_rfl) ?_
 refine iG (b:=aP G (Fr.mk (fun x=>False) fun x=>0) w G (iP Tryz.prog (opsOf (aU (au Tryz.f46) [1,1,0])).toList 1 ((opsOf (aU (au Tryz.f46) [1,1,0])).toList.length-1) (wpS Tryz.prog [It.code (aU (au Tryz.f46) [1,1,1])] (aS Tryz.prog Tryz.f46 (iU b e w G)))) .normal ⟨regs 211 [(2,(.box 2 0)),(3,(.box 3 0)),(4,(.box 4 0)),(5,(vi 0)),(18,(.d (.agg [(di b.t),(.slc 7 b.es.length (bK b.es))])))],[(2,[(vi b.t),(.d (.slc 7 b.es.length (bK b.es)))]),(3,fJ e),(4,[(vi 0),(.d dG)])]⟩) (by kernel_rfl) ?_
 intro β3 h3 a3 w3 g3 hd3
 have g4:=g3.weaken (st':=Wh b e) (by refine AS.leZ [] [] (b:=((T0∧T0∧T0∧T0∧T0∧True)∧T0∧T0∧T0∧True)) (by kernel_rfl) (by kernel_rfl) ?_;exact⟨⟨rfl,rfl,rfl,rfl,rfl,trivial⟩,rfl,rfl,rfl,trivial⟩)
 exact acn hs (fun h2 w3 w F β V q hh hon hk hle hold=>abU q hh hs ht hon hk hle hold (fun k0 hc h β V w on β1 a=>aaX hs k0 hc a) fun k0 i hi h β V w on β1 a=>abl hs hb ht hf k0 hi (iW hi).1 a) _ _ _ _ g4 hd3
theorem h46:PU G:=by
 intro b e hs hb ok
 refine⟨Tryz.call46,fun w h vs hG hw hr=>?_⟩
 obtain ⟨u,vs1,rfl,r,x,vs2,rfl,r2,hn⟩:=hr
 have hn:vs2=[]:=hn
 subst hn
 refine(abD (G:=h) b e hs hb (ny ok) hw r r2).mono ?_
 rintro _ w' ⟨v,rfl,u',k,rfl,hu,hle,hkw,hk,hold⟩
 exact⟨_,k,rfl,⟨_,rfl,_,_,rfl,hu,_,_,rfl,rfl,rfl⟩,hle,hkw,hk,hold⟩
end Go.Proofs
namespace Go.Proofs
open Go Go.Ab Go.RowKit
variable {G:IH}
theorem adW (b:Bk) (h:gq b.es):aA Tryz.prog G 17 [cu b,cu b] (db true):=by
 have:=f17 (G:=G) b b h
 rwa [decide_eq_true rfl] at this
end Go.Proofs
