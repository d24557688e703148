import Derived.Test.YtflgdeobcgmgnaaGreatDoorAcD
import Derived.Test.YtflgdeobcgmgnaaGreatDoorAcE
import Derived.Test.YtflgdeobcgmgnaaGreatDoorG9
import Derived.Test.YtflgdeobcgmgnaaGreatDoorG6
import Derived.Test.YtflgdeobcgmgnaaGreatDoorRows
import Derived.Lib.LaidTab
import Derived.ProofKit
import Derived.LaidMore
import Derived.OpenShut
import Derived.Stop.Joined
import Derived.Test.YtflgdeobcgmgnaaGreatDoorG0
set_option autoImplicit false
set_option maxHeartbeats 4000000
set_option maxRecDepth 100000
namespace Go.Proofs
open Go Go.Ab Go.RowKit
variable {G:IH} {w:World}
noncomputable def S46j (b:Bk) (e:Ev) (V:Nat→Option Addr×Nat) (i:Nat):AS:=⟨(S46i b e (V 1) i).regs,(1000001,[.arr enK 7 (exF V b.es)]) :: (S46i b e (V 1) i).boxes⟩
def vw46j (n:Nat) (x:En):Nat→Option AV
 | 62=>some (.vec 1000001 7 0 n)
 | 68=>some (.d (gvsD x.gs))
 | 73=>some (.d (alsD x.aps))
 | 81=>some (.d (alsD x.aps))
 | 126=>some (.d (gvsD x.gs))
 | _=>none
noncomputable def S46u (b:Bk) (e:Ev) (V:Nat→Option Addr×Nat) (i:Nat):AS:=⟨regs Tryz.f46.ntmps [(2,.box 2 0),(3,.box 3 0),(4,.box 4 0),(5,vi 0),(7,.elem 1000001 7 i 0),(8,vi (b.es.getD i en0).gs.length),(9,vi (b.es.getD i en0).aps.length),(10,vb (openA (b.es.getD i en0)))],(S46j b e V i).boxes⟩
noncomputable def S46v (b:Bk) (e:Ev) (V:Nat→Option Addr×Nat) (i:Nat):AS:=⟨regs Tryz.f46.ntmps [(2,.box 2 0),(3,.box 3 0),(4,.box 4 0),(5,vi 0),(7,.elem 1000001 7 i 0),(9,vi (b.es.getD i en0).aps.length)],(S46j b e V i).boxes⟩
noncomputable abbrev end46:List It:=[.blk 0,cd Tryz.f46 [1,1,1,1,1,1,1,1,1,1,1]]
def BGs (k:IH) (F:Fr) (V:Nat→Option Addr×Nat) (i:Nat) (x:En):Prop:=ViewF k F (.d (.con (sv V (2*i+2) x.gs.length))) (.d (gvsD x.gs))∧ViewF k F (.d (.con (sv V (2*i+3) x.aps.length))) (.d (alsD x.aps))
theorem f46_J4 {b:Bk} {e:Ev} {w0 w:World} {h0 kk:IH} {F:Fr} {V:Nat→Option Addr×Nat} {i:Nat} (hk:e.kind≠0) (hf:formE e)
  (K1:e.kind=1→AWPR Tryz.prog kk F w kk (cd Tryz.f46 [1,1,1,1,1,1,1,1,1,1,0,0,1,1,1,1,1,0] :: end46) (S46v b e V i) (RetR Tryz.prog Tryz.f46 (R46 b e w0 h0)))
  (K2:e.kind=2→AWPR Tryz.prog kk F w kk (cd Tryz.f46 [1,1,1,1,1,1,1,1,1,1,0,0,1,1,1,1,1,1,1,0] :: end46) (S46v b e V i) (RetR Tryz.prog Tryz.f46 (R46 b e w0 h0)))
  (K3:e.kind=3→AWPR Tryz.prog kk F w kk (cd Tryz.f46 [1,1,1,1,1,1,1,1,1,1,0,0,1,1,1,1,1,1,1,1] :: end46) (S46v b e V i) (RetR Tryz.prog Tryz.f46 (R46 b e w0 h0))) :
  AWPR Tryz.prog kk F w kk (cd Tryz.f46 [1,1,1,1,1,1,1,1,1,1,0,0,1,1,1,1] :: end46) (S46u b e V i) (RetR Tryz.prog Tryz.f46 (R46 b e w0 h0)):=by
 refine walkRV (orc:={ d:=noO }) follows (fun _=>none) (cuts:=[18,28,30]) (n:=1000) ?_
 refine of_eqH4 ((.d (.con (.slice (V 1).fst b.es.length (V 1).snd))):AV) ((.arr ⟨true,39,false,none⟩ 7 (exF V b.es)):AV) (RetR Tryz.prog Tryz.f46 (R46 b e w0 h0)) (vi (↑(b.es.getD i en0).aps.length)) (fun Za Zb Zc Zd=>((((e.kind==1)=true)→AWPR Tryz.prog kk F w kk [cd Tryz.f46 [1,1,1,1,1,1,1,1,1,1,0,0,1,1,1,1,1,0],(.blk 0),cd Tryz.f46 [1,1,1,1,1,1,1,1,1,1,1]] ⟨regs 211 [(2,(.box 2 0)),(3,(.box 3 0)),(4,(.box 4 0)),(5,(vi 0)),(7,(.elem 1000001 7 i 0)),(8,(vi (↑(b.es.getD i en0).gs.length))),(9,Zd),(10,(vb (openA (b.es.getD i en0)))),(170,(vb (e.kind==1))),(171,(.box 3 0)),(172,(vi e.kind)),(173,(vb (e.kind==1)))],[(1000001,[Zb]),(2,[(vi e.t),Za]),(3,[(vi e.kind),(vs e.k.st),(vs e.k.ex),(vi e.k.n),(vi e.t),(vi e.v),(vi e.h),(vs e.s),(vb e.acc)]),(4,[(vi 0),(.d (.con (.slice none 0 0)))])]⟩ Zc)∧(((e.kind==1)=false)→((((e.kind==2)=true)→AWPR Tryz.prog kk F w kk [cd Tryz.f46 [1,1,1,1,1,1,1,1,1,1,0,0,1,1,1,1,1,1,1,0],(.blk 0),cd Tryz.f46 [1,1,1,1,1,1,1,1,1,1,1]] ⟨regs 211 [(2,(.box 2 0)),(3,(.box 3 0)),(4,(.box 4 0)),(5,(vi 0)),(7,(.elem 1000001 7 i 0)),(8,(vi (↑(b.es.getD i en0).gs.length))),(9,Zd),(10,(vb (openA (b.es.getD i en0)))),(170,(vb (e.kind==1))),(171,(.box 3 0)),(172,(vi e.kind)),(173,(vb (e.kind==1))),(192,(vb (e.kind==2))),(193,(.box 3 0)),(194,(vi e.kind)),(195,(vb (e.kind==2)))],[(1000001,[Zb]),(2,[(vi e.t),Za]),(3,[(vi e.kind),(vs e.k.st),(vs e.k.ex),(vi e.k.n),(vi e.t),(vi e.v),(vi e.h),(vs e.s),(vb e.acc)]),(4,[(vi 0),(.d (.con (.slice none 0 0)))])]⟩ Zc)∧(((e.kind==2)=false)→AWPR Tryz.prog kk F w kk [cd Tryz.f46 [1,1,1,1,1,1,1,1,1,1,0,0,1,1,1,1,1,1,1,1],(.blk 0),cd Tryz.f46 [1,1,1,1,1,1,1,1,1,1,1]] ⟨regs 211 [(2,(.box 2 0)),(3,(.box 3 0)),(4,(.box 4 0)),(5,(vi 0)),(7,(.elem 1000001 7 i 0)),(8,(vi (↑(b.es.getD i en0).gs.length))),(9,Zd),(10,(vb (openA (b.es.getD i en0)))),(170,(vb (e.kind==1))),(171,(.box 3 0)),(172,(vi e.kind)),(173,(vb (e.kind==1))),(192,(vb (e.kind==2))),(193,(.box 3 0)),(194,(vi e.kind)),(195,(vb (e.kind==2)))],[(1000001,[Zb]),(2,[(vi e.t),Za]),(3,[(vi e.kind),(vs e.k.st),(vs e.k.ex),(vi e.k.n),(vi e.t),(vi e.v),(vi e.h),(vs e.s),(vb e.acc)]),(4,[(vi 0),(.d (.con (.slice none 0 0)))])]⟩ Zc))))) (by kernel_rfl) ?_
 refine⟨fun c=>?_,fun c=>⟨fun c2=>?_,fun c2=>?_⟩⟩
 ·refine AWPR.weaken (st':=S46v b e V i) ?_ (K1 (by simpa using c))
  exact AS.leA (by kernel_rfl)
 ·refine AWPR.weaken (st':=S46v b e V i) ?_ (K2 (by simpa using c2))
  exact AS.leA (by kernel_rfl)
 ·have c1:e.kind≠1:=by simpa using c
  have c2:e.kind≠2:=by simpa using c2
  refine AWPR.weaken (st':=S46v b e V i) ?_ (K3 (((hf.1.resolve_left hk).resolve_left c1).resolve_left c2))
  exact AS.leA (by kernel_rfl)
theorem f46_J3 {b:Bk} {e:Ev} {w0 w:World} {h0 kk:IH} {F:Fr} {V:Nat→Option Addr×Nat} {i:Nat} (o:Out46 w0 h0 kk w F.on) (hA:appR b e=codeR (b.es.getD i en0) e) (hn:¬(e.kind=1∧lowG (b.es.getD i en0) e.v=true∨e.kind=2∧((b.es.getD i en0).gs.length=0∨openA (b.es.getD i en0)=true)∨e.kind=3∧¬openA (b.es.getD i en0)=true))
  (K:appR b e=0→AWPR Tryz.prog kk F w kk (cd Tryz.f46 [1,1,1,1,1,1,1,1,1,1,0,0,1,1,1,1] :: end46) (S46u b e V i) (RetR Tryz.prog Tryz.f46 (R46 b e w0 h0))) :
  AWPR Tryz.prog kk F w kk (cd Tryz.f46 [1,1,1,1,1,1,1,1,1,1,0,0,1,1,0] :: cd Tryz.f46 [1,1,1,1,1,1,1,1,1,1,0,0,1,1,1] :: end46) (S46u b e V i) (RetR Tryz.prog Tryz.f46 (R46 b e w0 h0)):=by
 refine walkRV (orc:={ d:=noO }) follows (fun _=>none) (cuts:=[27]) (n:=1000) ?_
 refine of_eqH8 (e.kind==1&&(↑(b.es.getD i en0).gs.length:Int)==16) (e.kind==2&&(↑(b.es.getD i en0).aps.length:Int)==16) ((.d (.con (.slice (V 1).fst b.es.length (V 1).snd))):AV) (vi (↑(b.es.getD i en0).aps.length)) ((.arr ⟨true,39,false,none⟩ 7 (exF V b.es)):AV) (vi (↑(b.es.getD i en0).gs.length)) (RetR Tryz.prog Tryz.f46 (R46 b e w0 h0)) (vb (openA (b.es.getD i en0))) (fun Za Zb Zc Zd Ze Zf Zg Zh=>(((Za=true)→(((Za=true)→LeafR kk F w kk Zg .ret ⟨regs 211 [(2,(.box 2 0)),(3,(.box 3 0)),(4,(.box 4 0)),(5,(vi 8)),(7,(.elem 1000001 7 i 0)),(8,Zf),(9,Zd),(10,Zh),(154,(vb Za)),(155,(.box 3 0)),(156,(vi e.kind)),(157,(vb (e.kind==1))),(158,(vb (e.kind==1))),(161,(vb Za)),(169,(.d (.agg [(di 0),(.con (.slice none 0 0))])))],[(1000001,[Ze]),(2,[(vi e.t),Zc]),(3,[(vi e.kind),(vs e.k.st),(vs e.k.ex),(vi e.k.n),(vi e.t),(vi e.v),(vi e.h),(vs e.s),(vb e.acc)]),(4,[(vi 0),(.d (.con (.slice none 0 0)))])]⟩)∧((Za=false)→AWPR Tryz.prog kk F w kk [cd Tryz.f46 [1,1,1,1,1,1,1,1,1,1,0,0,1,1,1,1],(.blk 0),cd Tryz.f46 [1,1,1,1,1,1,1,1,1,1,1]] ⟨regs 211 [(2,(.box 2 0)),(3,(.box 3 0)),(4,(.box 4 0)),(5,(vi 0)),(7,(.elem 1000001 7 i 0)),(8,Zf),(9,Zd),(10,Zh),(154,(vb Za)),(155,(.box 3 0)),(156,(vi e.kind)),(157,(vb (e.kind==1))),(158,(vb (e.kind==1))),(159,(.gate 158 true (e.kind==1) Zf)),(160,(.gate 158 true (e.kind==1) (vb ((↑(b.es.getD i en0).gs.length:Int)==16)))),(161,(vb Za))],[(1000001,[Ze]),(2,[(vi e.t),Zc]),(3,[(vi e.kind),(vs e.k.st),(vs e.k.ex),(vi e.k.n),(vi e.t),(vi e.v),(vi e.h),(vs e.s),(vb e.acc)]),(4,[(vi 0),(.d (.con (.slice none 0 0)))])]⟩ Zg)))∧((Za=false)→(((Zb=true)→LeafR kk F w kk Zg .ret ⟨regs 211 [(2,(.box 2 0)),(3,(.box 3 0)),(4,(.box 4 0)),(5,(vi 8)),(7,(.elem 1000001 7 i 0)),(8,Zf),(9,Zd),(10,Zh),(154,(vb Zb)),(155,(.box 3 0)),(156,(vi e.kind)),(157,(vb (e.kind==1))),(158,(vb (e.kind==1))),(161,(vb Za)),(162,(.box 3 0)),(163,(vi e.kind)),(164,(vb (e.kind==2))),(165,(vb (e.kind==2))),(168,(vb Zb)),(169,(.d (.agg [(di 0),(.con (.slice none 0 0))])))],[(1000001,[Ze]),(2,[(vi e.t),Zc]),(3,[(vi e.kind),(vs e.k.st),(vs e.k.ex),(vi e.k.n),(vi e.t),(vi e.v),(vi e.h),(vs e.s),(vb e.acc)]),(4,[(vi 0),(.d (.con (.slice none 0 0)))])]⟩)∧((Zb=false)→AWPR Tryz.prog kk F w kk [cd Tryz.f46 [1,1,1,1,1,1,1,1,1,1,0,0,1,1,1,1],(.blk 0),cd Tryz.f46 [1,1,1,1,1,1,1,1,1,1,1]] ⟨regs 211 [(2,(.box 2 0)),(3,(.box 3 0)),(4,(.box 4 0)),(5,(vi 0)),(7,(.elem 1000001 7 i 0)),(8,Zf),(9,Zd),(10,Zh),(154,(vb Zb)),(155,(.box 3 0)),(156,(vi e.kind)),(157,(vb (e.kind==1))),(158,(vb (e.kind==1))),(161,(vb Za)),(162,(.box 3 0)),(163,(vi e.kind)),(164,(vb (e.kind==2))),(165,(vb (e.kind==2))),(166,(.gate 165 true (e.kind==2) Zd)),(167,(.gate 165 true (e.kind==2) (vb ((↑(b.es.getD i en0).aps.length:Int)==16)))),(168,(vb Zb))],[(1000001,[Ze]),(2,[(vi e.t),Zc]),(3,[(vi e.kind),(vs e.k.st),(vs e.k.ex),(vi e.k.n),(vi e.t),(vi e.v),(vi e.h),(vs e.s),(vb e.acc)]),(4,[(vi 0),(.d (.con (.slice none 0 0)))])]⟩ Zg))))) (by kernel_rfl) ?_
 try dsimp only
 have hA:appR b e=if e.kind=1∧(b.es.getD i en0).gs.length=16∨e.kind=2∧(b.es.getD i en0).aps.length=16 then 8 else 0:=by rw[hA];exact if_neg hn
 have d (n:Nat) (m:Int):(e.kind==m&&(n:Int)==16)=true↔e.kind=m∧n=16:=by
  rw[bAt,beq_iff_eq,beq_iff_eq];exact and_congr Iff.rfl ⟨fun q=>by omega,fun q=>by omega⟩
 refine⟨fun c=>⟨fun _=>?_,fun c'=>?_⟩,fun c=>⟨fun c2=>?_,fun c2=>?_⟩⟩
 ·exact f46_no (code:=8) o rfl (by rw[hA];exact if_pos (.inl ((d _ _).1 c))) (by decide)
 ·rw[c] at c';cases c'
 ·exact f46_no (code:=8) o rfl (by rw[hA];exact if_pos (.inr ((d _ _).1 c2))) (by decide)
 ·refine AWPR.weaken (st':=S46u b e V i) ?_ (K ?_)
  ·exact AS.leA (by kernel_rfl)
  ·rw[hA,if_neg]
   rintro (q|q)
   ·rw[(d _ _).2 q] at c;cases c
   ·rw[(d _ _).2 q] at c2;cases c2
theorem f46_J2 {b:Bk} {e:Ev} {w0 w:World} {h0 kk:IH} {F:Fr} {V:Nat→Option Addr×Nat} {i:Nat} (hi:i<b.es.length) (hs:SzB b.es) (o:Out46 w0 h0 kk w F.on) (hg:BGs kk F V i (b.es.getD i en0)) (hA:appR b e=codeR (b.es.getD i en0) e)
  (K:appR b e=0→AWPR Tryz.prog kk F w kk (cd Tryz.f46 [1,1,1,1,1,1,1,1,1,1,0,0,1,1,1,1] :: end46) (S46u b e V i) (RetR Tryz.prog Tryz.f46 (R46 b e w0 h0))) :
  AWPR Tryz.prog kk F w kk (cd Tryz.f46 [1,1,1,1,1,1,1,1,1,1,0,0,0] :: cd Tryz.f46 [1,1,1,1,1,1,1,1,1,1,0,0,1] :: end46) (S46u b e V i) (RetR Tryz.prog Tryz.f46 (R46 b e w0 h0)):=by
 have hsi:=hs.2 i hi
 refine walkRV (orc:={ d:=noO }) follows (vw46j b.es.length (b.es.getD i en0)) (cuts:=[24]) (n:=1000) ?_
 refine of_eqH9 (↑(b.es.getD i en0).gs.length:Int) (vi (↑(b.es.getD i en0).gs.length)) ((.d (.con (.slice (V 1).fst b.es.length (V 1).snd))):AV) ((.arr ⟨true,39,false,none⟩ 7 (exF V b.es)):AV) (vb (openA (b.es.getD i en0))) (RetR Tryz.prog Tryz.f46 (R46 b e w0 h0)) (e.kind==3&&!openA (b.es.getD i en0)) (vi (↑(b.es.getD i en0).aps.length)) ((.d (.agg [(di 0),(.con (.slice none 0 0))])):AV) (fun Za Zb Zc Zd Ze Zf Zg Zh Zi=>((ViewF kk F (.d (.con (.slice (V (2*i+2)).fst (b.es.getD i en0).gs.length (V (2*i+2)).snd))) (.d (.slc 4 (b.es.getD i en0).gs.length (gvF (b.es.getD i en0).gs)))∧(((e.kind==1&&decide (Za>0))=true)→(I64 (↑(b.es.getD i en0).gs.length-1)))∧(((e.kind==1&&decide (Za>0))=true)→((0≤Za-1)∧(Za-1<↑(b.es.getD i en0).gs.length))))∧(((e.kind==1&&decide (Za>0)&&decide (((b.es.getD i en0).gs.getD (Za-1).toNat gv0).v≥e.v))=true)→((((e.kind==1&&decide (Za>0)&&decide (((b.es.getD i en0).gs.getD (Za-1).toNat gv0).v≥e.v))=true)→LeafR kk F w kk Zf .ret ⟨regs 211 [(2,(.box 2 0)),(3,(.box 3 0)),(4,(.box 4 0)),(5,(vi 9)),(7,(.elem 1000001 7 i 0)),(8,Zb),(9,Zh),(10,Ze),(114,(vb (e.kind==1&&decide (Za>0)&&decide (((b.es.getD i en0).gs.getD (Za-1).toNat gv0).v≥e.v)))),(115,(.box 3 0)),(116,(vi e.kind)),(117,(vb (e.kind==1))),(118,(vb (e.kind==1))),(121,(vb (e.kind==1&&decide (Za>0)))),(122,(vb (e.kind==1&&decide (Za>0)))),(135,(vb (e.kind==1&&decide (Za>0)&&decide (((b.es.getD i en0).gs.getD (Za-1).toNat gv0).v≥e.v)))),(153,Zi)],[(1000001,[Zd]),(2,[(vi e.t),Zc]),(3,[(vi e.kind),(vs e.k.st),(vs e.k.ex),(vi e.k.n),(vi e.t),(vi e.v),(vi e.h),(vs e.s),(vb e.acc)]),(4,[(vi 0),(.d (.con (.slice none 0 0)))])]⟩)∧(((e.kind==1&&decide (Za>0)&&decide (((b.es.getD i en0).gs.getD (Za-1).toNat gv0).v≥e.v))=false)→AWPR Tryz.prog kk F w kk [cd Tryz.f46 [1,1,1,1,1,1,1,1,1,1,0,0,1,1,0],cd Tryz.f46 [1,1,1,1,1,1,1,1,1,1,0,0,1,1,1],(.blk 0),cd Tryz.f46 [1,1,1,1,1,1,1,1,1,1,1]] ⟨regs 211 [(2,(.box 2 0)),(3,(.box 3 0)),(4,(.box 4 0)),(5,(vi 0)),(7,(.elem 1000001 7 i 0)),(8,Zb),(9,Zh),(10,Ze),(114,(vb (e.kind==1&&decide (Za>0)&&decide (((b.es.getD i en0).gs.getD (Za-1).toNat gv0).v≥e.v)))),(115,(.box 3 0)),(116,(vi e.kind)),(117,(vb (e.kind==1))),(118,(vb (e.kind==1))),(119,(.gate 118 true (e.kind==1) Zb)),(120,(.gate 118 true (e.kind==1) (vb (decide (Za>0))))),(121,(vb (e.kind==1&&decide (Za>0)))),(122,(vb (e.kind==1&&decide (Za>0)))),(123,(.gate 122 true (e.kind==1&&decide (Za>0)) (.elem 1000001 7 i 0))),(124,(.gate 122 true (e.kind==1&&decide (Za>0)) (.elem 1000001 7 i 0))),(125,(.gate 122 true (e.kind==1&&decide (Za>0)) (.elem 1000001 7 i 5))),(126,(.gate 122 true (e.kind==1&&decide (Za>0)) (.d (.slc 4 (b.es.getD i en0).gs.length (gvF (b.es.getD i en0).gs))))),(127,(.gate 122 true (e.kind==1&&decide (Za>0)) Zb)),(128,(.gate 122 true (e.kind==1&&decide (Za>0)) (vi (↑(b.es.getD i en0).gs.length-1)))),(129,(.gate 122 true (e.kind==1&&decide (Za>0)) (.d (.ptr [(di ((b.es.getD i en0).gs.getD (Za-1).toNat gv0).v),(di ((b.es.getD i en0).gs.getD (Za-1).toNat gv0).h),(di ((b.es.getD i en0).gs.getD (Za-1).toNat gv0).t),(ds ((b.es.getD i en0).gs.getD (Za-1).toNat gv0).s)])))),(130,(.gate 122 true (e.kind==1&&decide (Za>0)) (.d (.ptr [(di ((b.es.getD i en0).gs.getD (Za-1).toNat gv0).v),(di ((b.es.getD i en0).gs.getD (Za-1).toNat gv0).h),(di ((b.es.getD i en0).gs.getD (Za-1).toNat gv0).t),(ds ((b.es.getD i en0).gs.getD (Za-1).toNat gv0).s)])))),(131,(.gate 122 true (e.kind==1&&decide (Za>0)) (vi ((b.es.getD i en0).gs.getD (Za-1).toNat gv0).v))),(132,(.gate 122 true (e.kind==1&&decide (Za>0)) (.box 3 5))),(133,(.gate 122 true (e.kind==1&&decide (Za>0)) (vi e.v))),(134,(.gate 122 true (e.kind==1&&decide (Za>0)) (vb (decide (((b.es.getD i en0).gs.getD (Za-1).toNat gv0).v≥e.v))))),(135,(vb (e.kind==1&&decide (Za>0)&&decide (((b.es.getD i en0).gs.getD (Za-1).toNat gv0).v≥e.v))))],[(1000001,[Zd]),(2,[(vi e.t),Zc]),(3,[(vi e.kind),(vs e.k.st),(vs e.k.ex),(vi e.k.n),(vi e.t),(vi e.v),(vi e.h),(vs e.s),(vb e.acc)]),(4,[(vi 0),(.d (.con (.slice none 0 0)))])]⟩ Zf)))∧(((e.kind==1&&decide (Za>0)&&decide (((b.es.getD i en0).gs.getD (Za-1).toNat gv0).v≥e.v))=false)→((((e.kind==2&&(Za==0||openA (b.es.getD i en0)))=true)→((((e.kind==2&&(Za==0||openA (b.es.getD i en0)))=true)→LeafR kk F w kk Zf .ret ⟨regs 211 [(2,(.box 2 0)),(3,(.box 3 0)),(4,(.box 4 0)),(5,(vi 9)),(7,(.elem 1000001 7 i 0)),(8,Zb),(9,Zh),(10,Ze),(114,(vb (e.kind==2&&(Za==0||openA (b.es.getD i en0))))),(115,(.box 3 0)),(116,(vi e.kind)),(117,(vb (e.kind==1))),(118,(vb (e.kind==1))),(121,(vb (e.kind==1&&decide (Za>0)))),(122,(vb (e.kind==1&&decide (Za>0)))),(135,(vb (e.kind==1&&decide (Za>0)&&decide (((b.es.getD i en0).gs.getD (Za-1).toNat gv0).v≥e.v)))),(136,(.box 3 0)),(137,(vi e.kind)),(138,(vb (e.kind==2))),(139,(vb (e.kind==2))),(145,(vb (e.kind==2&&(Za==0||openA (b.es.getD i en0))))),(153,Zi)],[(1000001,[Zd]),(2,[(vi e.t),Zc]),(3,[(vi e.kind),(vs e.k.st),(vs e.k.ex),(vi e.k.n),(vi e.t),(vi e.v),(vi e.h),(vs e.s),(vb e.acc)]),(4,[(vi 0),(.d (.con (.slice none 0 0)))])]⟩)∧(((e.kind==2&&(Za==0||openA (b.es.getD i en0)))=false)→AWPR Tryz.prog kk F w kk [cd Tryz.f46 [1,1,1,1,1,1,1,1,1,1,0,0,1,1,0],cd Tryz.f46 [1,1,1,1,1,1,1,1,1,1,0,0,1,1,1],(.blk 0),cd Tryz.f46 [1,1,1,1,1,1,1,1,1,1,1]] ⟨regs 211 [(2,(.box 2 0)),(3,(.box 3 0)),(4,(.box 4 0)),(5,(vi 0)),(7,(.elem 1000001 7 i 0)),(8,Zb),(9,Zh),(10,Ze),(114,(vb (e.kind==2&&(Za==0||openA (b.es.getD i en0))))),(115,(.box 3 0)),(116,(vi e.kind)),(117,(vb (e.kind==1))),(118,(vb (e.kind==1))),(121,(vb (e.kind==1&&decide (Za>0)))),(122,(vb (e.kind==1&&decide (Za>0)))),(135,(vb (e.kind==1&&decide (Za>0)&&decide (((b.es.getD i en0).gs.getD (Za-1).toNat gv0).v≥e.v)))),(136,(.box 3 0)),(137,(vi e.kind)),(138,(vb (e.kind==2))),(139,(vb (e.kind==2))),(140,(.gate 139 true (e.kind==2) Zb)),(141,(.gate 139 true (e.kind==2) (vb (Za==0)))),(142,(.gate 139 true (e.kind==2) (vb (Za==0)))),(143,(.gate 142 false (e.kind==2&&!Za==0) Ze)),(144,(.gate 139 true (e.kind==2) (vb (Za==0||openA (b.es.getD i en0))))),(145,(vb (e.kind==2&&(Za==0||openA (b.es.getD i en0)))))],[(1000001,[Zd]),(2,[(vi e.t),Zc]),(3,[(vi e.kind),(vs e.k.st),(vs e.k.ex),(vi e.k.n),(vi e.t),(vi e.v),(vi e.h),(vs e.s),(vb e.acc)]),(4,[(vi 0),(.d (.con (.slice none 0 0)))])]⟩ Zf)))∧(((e.kind==2&&(Za==0||openA (b.es.getD i en0)))=false)→(((Zg=true)→LeafR kk F w kk Zf .ret ⟨regs 211 [(2,(.box 2 0)),(3,(.box 3 0)),(4,(.box 4 0)),(5,(vi 9)),(7,(.elem 1000001 7 i 0)),(8,Zb),(9,Zh),(10,Ze),(114,(vb Zg)),(115,(.box 3 0)),(116,(vi e.kind)),(117,(vb (e.kind==1))),(118,(vb (e.kind==1))),(121,(vb (e.kind==1&&decide (Za>0)))),(122,(vb (e.kind==1&&decide (Za>0)))),(135,(vb (e.kind==1&&decide (Za>0)&&decide (((b.es.getD i en0).gs.getD (Za-1).toNat gv0).v≥e.v)))),(136,(.box 3 0)),(137,(vi e.kind)),(138,(vb (e.kind==2))),(139,(vb (e.kind==2))),(145,(vb (e.kind==2&&(Za==0||openA (b.es.getD i en0))))),(146,(.box 3 0)),(147,(vi e.kind)),(148,(vb (e.kind==3))),(149,(vb (e.kind==3))),(152,(vb Zg)),(153,Zi)],[(1000001,[Zd]),(2,[(vi e.t),Zc]),(3,[(vi e.kind),(vs e.k.st),(vs e.k.ex),(vi e.k.n),(vi e.t),(vi e.v),(vi e.h),(vs e.s),(vb e.acc)]),(4,[(vi 0),(.d (.con (.slice none 0 0)))])]⟩)∧((Zg=false)→AWPR Tryz.prog kk F w kk [cd Tryz.f46 [1,1,1,1,1,1,1,1,1,1,0,0,1,1,0],cd Tryz.f46 [1,1,1,1,1,1,1,1,1,1,0,0,1,1,1],(.blk 0),cd Tryz.f46 [1,1,1,1,1,1,1,1,1,1,1]] ⟨regs 211 [(2,(.box 2 0)),(3,(.box 3 0)),(4,(.box 4 0)),(5,(vi 0)),(7,(.elem 1000001 7 i 0)),(8,Zb),(9,Zh),(10,Ze),(114,(vb Zg)),(115,(.box 3 0)),(116,(vi e.kind)),(117,(vb (e.kind==1))),(118,(vb (e.kind==1))),(121,(vb (e.kind==1&&decide (Za>0)))),(122,(vb (e.kind==1&&decide (Za>0)))),(135,(vb (e.kind==1&&decide (Za>0)&&decide (((b.es.getD i en0).gs.getD (Za-1).toNat gv0).v≥e.v)))),(136,(.box 3 0)),(137,(vi e.kind)),(138,(vb (e.kind==2))),(139,(vb (e.kind==2))),(145,(vb (e.kind==2&&(Za==0||openA (b.es.getD i en0))))),(146,(.box 3 0)),(147,(vi e.kind)),(148,(vb (e.kind==3))),(149,(vb (e.kind==3))),(150,(.gate 149 true (e.kind==3) Ze)),(151,(.gate 149 true (e.kind==3) (vb (!openA (b.es.getD i en0))))),(152,(vb Zg))],[(1000001,[Zd]),(2,[(vi e.t),Zc]),(3,[(vi e.kind),(vs e.k.st),(vs e.k.ex),(vi e.k.n),(vi e.t),(vi e.v),(vi e.h),(vs e.s),(vb e.acc)]),(4,[(vi 0),(.d (.con (.slice none 0 0)))])]⟩ Zf))))))) (by kernel_rfl) ?_
 try dsimp only
 have hlow:(decide (((b.es.getD i en0).gs.length:Int)>0)&&decide (((b.es.getD i en0).gs.getD (((b.es.getD i en0).gs.length:Int)-1).toNat gv0).v≥e.v))=lowG (b.es.getD i en0) e.v:=low_eq _ _
 rw[Bool.and_assoc,hlow]
 have hp:∀n:Nat,(decide ((n:Int)>0))=true→0<n:=fun n c=>by have:=of_decide_eq_true c;omega
 have c9:(e.kind=1∧lowG (b.es.getD i en0) e.v=true∨e.kind=2∧((b.es.getD i en0).gs.length=0∨openA (b.es.getD i en0)=true)∨e.kind=3∧¬openA (b.es.getD i en0)=true)→appR b e=9:=fun q=>by rw[hA];exact if_pos q
 have d1:(e.kind==1&&lowG (b.es.getD i en0) e.v)=true↔e.kind=1∧lowG (b.es.getD i en0) e.v=true:=by simp
 have d2:(e.kind==2&&(((b.es.getD i en0).gs.length:Int)==0||openA (b.es.getD i en0)))=true↔e.kind=2∧((b.es.getD i en0).gs.length=0∨openA (b.es.getD i en0)=true):=by
  rw[bAt,Bool.or_eq_true,beq_iff_eq,beq_iff_eq];exact and_congr Iff.rfl (or_congr ⟨fun q=>by omega,fun q=>by omega⟩ Iff.rfl)
 have d3:(e.kind==3&&!openA (b.es.getD i en0))=true↔e.kind=3∧¬openA (b.es.getD i en0)=true:=by simp
 refine⟨⟨hg.1,fun c=>?_,fun c=>?_⟩,fun c=>⟨fun _=>?_,fun c'=>?_⟩,fun c=>⟨fun c2=>⟨fun _=>?_,fun c'=>?_⟩,fun c2=>⟨fun c3=>?_,fun c3=>?_⟩⟩⟩
 ·have:=hp _ (Bool.and_eq_true_iff.1 c).2;have:=hsi.1;exact⟨by omega,by omega⟩
 ·have:=hp _ (Bool.and_eq_true_iff.1 c).2;exact⟨by omega,by omega⟩
 ·exact f46_no (code:=9) o rfl (c9 (.inl (d1.1 c))) (by decide)
 ·rw[c] at c';cases c'
 ·exact f46_no (code:=9) o rfl (c9 (.inr (.inl (d2.1 c2)))) (by decide)
 ·rw[c2] at c';cases c'
 ·exact f46_no (code:=9) o rfl (c9 (.inr (.inr (d3.1 c3)))) (by decide)
 ·refine AWPR.weaken (st':=S46u b e V i) ?_ (f46_J3 o hA (fun q=>?_) K)
  ·exact AS.leA (by kernel_rfl)
  ·rcases q with q|q|q
   ·rw[d1.2 q] at c;cases c
   ·rw[d2.2 q] at c2;cases c2
   ·rw[d3.2 q] at c3;cases c3
theorem f46_J1 {b:Bk} {e:Ev} {w0 w:World} {h0 kk:IH} {F:Fr} {V:Nat→Option Addr×Nat} {i:Nat} (hi:i<b.es.length) (hs:SzB b.es) (hv:ViewF kk F (.d (.con (sv V 1 b.es.length))) (.vec 1000001 7 0 b.es.length)) (hg:BGs kk F V i (b.es.getD i en0))
  (K:AWPR Tryz.prog kk F w kk (cd Tryz.f46 [1,1,1,1,1,1,1,1,1,1,0,0,0] :: cd Tryz.f46 [1,1,1,1,1,1,1,1,1,1,0,0,1] :: end46) (S46u b e V i) (RetR Tryz.prog Tryz.f46 (R46 b e w0 h0))) :
  AWPR Tryz.prog kk F w kk [cd Tryz.f46 [1,1,1,1,1,1,1]] (S46j b e V i) (RetR Tryz.prog Tryz.f46 (R46 b e w0 h0)):=by
 have hsi:=(hs.2 i hi).2
 refine walkRV (orc:={ d:=noO }) follows (vw46j b.es.length (b.es.getD i en0)) (cuts:=[20]) (n:=1000) ?_
 refine of_eqH5 (↑(b.es.getD i en0).aps.length:Int) ((.elem 1000001 7 (0+(↑i:Int).toNat) 0):AV) ((.d (.slc 6 (b.es.getD i en0).aps.length (alF (b.es.getD i en0).aps))):AV) ((.d (.con (.slice (V (2*(0+(↑i:Int).toNat)+3)).fst (b.es.getD (0+(↑i:Int).toNat) en0).aps.length (V (2*(0+(↑i:Int).toNat)+3)).snd))):AV) (vi (↑(b.es.getD i en0).aps.length)) (fun Za Zb Zc Zd Ze=>((ViewF kk F (.d (.con (.slice (V 1).fst b.es.length (V 1).snd))) (.vec 1000001 7 0 b.es.length)∧(0≤(↑i:Int))∧((↑i:Int)<↑b.es.length))∧(ViewF kk F (.d (.con (.slice (V (2*(0+(↑i:Int).toNat)+2)).fst (b.es.getD (0+(↑i:Int).toNat) en0).gs.length (V (2*(0+(↑i:Int).toNat)+2)).snd))) (.d (.slc 4 (b.es.getD i en0).gs.length (gvF (b.es.getD i en0).gs)))∧ViewF kk F Zd Zc)∧(ViewF kk F Zd Zc∧(((decide (Za>0))=true)→(I64 (↑(b.es.getD i en0).aps.length-1)))∧(((decide (Za>0))=true)→((0≤Za-1)∧(Za-1<↑(b.es.getD i en0).aps.length))))∧AWPR Tryz.prog kk F w kk [cd Tryz.f46 [1,1,1,1,1,1,1,1,1,1,0,0,0],cd Tryz.f46 [1,1,1,1,1,1,1,1,1,1,0,0,1],(.blk 0),cd Tryz.f46 [1,1,1,1,1,1,1,1,1,1,1]] ⟨regs 211 [(2,(.box 2 0)),(3,(.box 3 0)),(4,(.box 4 0)),(5,(vi 0)),(6,(vi (↑i))),(7,Zb),(8,(vi (↑(b.es.getD i en0).gs.length))),(9,Ze),(10,(vb (decide (Za>0)&&!((b.es.getD i en0).aps.getD (Za-1).toNat al0).dec))),(61,(.box 2 1)),(62,(.vec 1000001 7 0 b.es.length)),(63,(vi (↑i))),(64,Zb),(65,Zb),(66,Zb),(67,(.elem 1000001 7 (0+(↑i:Int).toNat) 5)),(68,(.d (.slc 4 (b.es.getD i en0).gs.length (gvF (b.es.getD i en0).gs)))),(69,(vi (↑(b.es.getD i en0).gs.length))),(70,Zb),(71,Zb),(72,(.elem 1000001 7 (0+(↑i:Int).toNat) 6)),(73,Zc),(74,Ze),(75,Ze),(76,(vb (decide (Za>0)))),(77,(vb (decide (Za>0)))),(78,(.gate 77 true (decide (Za>0)) Zb)),(79,(.gate 77 true (decide (Za>0)) Zb)),(80,(.gate 77 true (decide (Za>0)) (.elem 1000001 7 (0+(↑i:Int).toNat) 6))),(81,(.gate 77 true (decide (Za>0)) Zc)),(82,(.gate 77 true (decide (Za>0)) Ze)),(83,(.gate 77 true (decide (Za>0)) (vi (↑(b.es.getD i en0).aps.length-1)))),(84,(.gate 77 true (decide (Za>0)) (.d (.ptr [(di ((b.es.getD i en0).aps.getD (Za-1).toNat al0).t),(ds ((b.es.getD i en0).aps.getD (Za-1).toNat al0).s),(db ((b.es.getD i en0).aps.getD (Za-1).toNat al0).dec),(db ((b.es.getD i en0).aps.getD (Za-1).toNat al0).acc),(di ((b.es.getD i en0).aps.getD (Za-1).toNat al0).at_),(ds ((b.es.getD i en0).aps.getD (Za-1).toNat al0).ans)])))),(85,(.gate 77 true (decide (Za>0)) (.d (.ptr [(db ((b.es.getD i en0).aps.getD (Za-1).toNat al0).dec),(db ((b.es.getD i en0).aps.getD (Za-1).toNat al0).acc),(di ((b.es.getD i en0).aps.getD (Za-1).toNat al0).at_),(ds ((b.es.getD i en0).aps.getD (Za-1).toNat al0).ans)])))),(86,(.gate 77 true (decide (Za>0)) (vb ((b.es.getD i en0).aps.getD (Za-1).toNat al0).dec))),(87,(.gate 77 true (decide (Za>0)) (vb (!((b.es.getD i en0).aps.getD (Za-1).toNat al0).dec)))),(88,(vb (decide (Za>0)&&!((b.es.getD i en0).aps.getD (Za-1).toNat al0).dec)))],[(1000001,[(.arr ⟨true,39,false,none⟩ 7 (exF V b.es))]),(2,[(vi e.t),(.d (.con (.slice (V 1).fst b.es.length (V 1).snd)))]),(3,[(vi e.kind),(vs e.k.st),(vs e.k.ex),(vi e.k.n),(vi e.t),(vi e.v),(vi e.h),(vs e.s),(vb e.acc)]),(4,[(vi 0),(.d (.con (.slice none 0 0)))])]⟩ (RetR Tryz.prog Tryz.f46 (R46 b e w0 h0)))) (by kernel_rfl) ?_
 try dsimp only
 have e0:0+((i:Int)).toNat=i:=by omega
 have hp:∀n:Nat,(decide ((n:Int)>0))=true→0<n:=fun n c=>by have:=of_decide_eq_true c;omega
 rw[e0]
 refine⟨⟨hv,by omega,by omega⟩,hg,⟨hg.2,fun c=>?_,fun c=>?_⟩,?_⟩
 ·have:=hp _ c;exact⟨by omega,by omega⟩
 ·have:=hp _ c;exact⟨by omega,by omega⟩
 refine AWPR.weaken (st':=S46u b e V i) ?_ K
 refine AS.leZ [7] [] (b:=((T0∧T0∧T0∧T0∧T0∧T0∧T0∧((vb (decide ((↑(b.es.getD i en0).aps.length:Int)>0)&&!((b.es.getD i en0).aps.getD ((↑(b.es.getD i en0).aps.length:Int)-1).toNat al0).dec)):AV)=(vb (openA (b.es.getD i en0)))∧True)∧T0∧T0∧T0∧T0∧True)) (by kernel_rfl) (by kernel_rfl) ?_
 rw[←open_eq]
 exact⟨⟨rfl,rfl,rfl,rfl,rfl,rfl,rfl,rfl,trivial⟩,rfl,rfl,rfl,rfl,trivial⟩
theorem VecAt.moved {h k:IH} {K:RK} {sz n:Nat} {f:Nat→DV} {bk c:Nat} {v:Value} {o o':Option Obj} (hv:VecAt h K sz n f bk c v o) (hf:∀i,(f i).flat=true) (he:0<c→o'=o):VecAt k K sz n f bk c v o':=by
 refine⟨hv.val,RowOK.flat (fun i _=>hf i) (h:=h) ⟨hv.row.1,?_⟩⟩
 by_cases h1:0<c
 ·rw[he h1];exact hv.row.2
 ·exact .inl (by omega)
structure Lst (b:Bk) (e:Ev) (w0:World) (h0 h:IH) (β:Nat→Nat) (V:Nat→Option Addr×Nat) (w2 w4:World) (s m:Nat) (F:Fr):Prop where
 ex:∃(on2:Nat→Prop) (bb:Nat),Bes46 b w0 h0 h β V w2 on2∧(0<room β 1→bb=blk β 1)∧(¬0<room β 1→bb=w2.heap.size)∧Kept (fun c=>on2 c∨c=bb) w2 w4
 on:On46 b w0 w2 β s F.on
 n1:(0<room β 1→blk F.β0 1000001=blk β 1)∧room F.β0 1000001=room β 1∧many F.β0 1000001=b.es.length
 n2:(0<room β s→blk F.β0 1000002=blk β s)∧room F.β0 1000002=room β s∧many F.β0 1000002=m
 hc:appR b e=0
noncomputable def S46w (b:Bk) (e:Ev) (V:Nat→Option Addr×Nat) (i:Nat) (x:List AV):AS:=⟨(S46v b e V i).regs,(1000002,x) :: (S46v b e V i).boxes⟩
def vw46g (m:Nat):Nat→Option AV
 | 178=>some (.vec 1000002 4 0 m)
 | _=>none
noncomputable def S46x (b:Bk) (e:Ev) (V:Nat→Option Addr×Nat) (i:Nat):AS:=⟨regs Tryz.f46.ntmps [(2,.box 2 0),(3,.box 3 0),(4,.box 4 0),(5,vi 0),(189,.vec 189 4 0 ((b.es.getD i en0).gs.length+1)),(191,.elem 1000001 7 i 5)],(189,[.arr gvK 4 (gvA (b.es.getD i en0).gs e)]) :: (S46j b e V i).boxes⟩
noncomputable def S46y (b:Bk) (e:Ev) (V:Nat→Option Addr×Nat) (f:Nat→DV) (x:List AV):AS:=⟨regs Tryz.f46.ntmps [(2,.box 2 0),(4,.box 4 0)],[(1000002,x),(1000001,[.arr enK 7 f]),(2,[.d (di e.t),.d (.con (.slice (V 1).1 b.es.length (V 1).2))]),(4,nil46)]⟩
theorem f46_Z {b:Bk} {e:Ev} {w0 w2 w4 w5:World} {h0 h h5:IH} {F F5:Fr} {β:Nat→Nat} {V:Nat→Option Addr×Nat} {i s m:Nat} {K:RK} {sz:Nat} {g:Nat→DV} (hi:i<b.es.length) (hs:s=2*i+2∨s=2*i+3) (q:Lst b e w0 h0 h β V w2 w4 s m F) (hk5:Kept F.on w4 w5) (hh5:∀c,c<w4.heap.size→¬F.on c→(∀o,h5.cell c o=h.cell c o)∧h5.obj c=h.obj c) (hon:∀c,F5.on c→F.on c∨w4.heap.size≤c)
  (n1:blk F5.β0 1000001=blk F.β0 1000001∧room F5.β0 1000001=room F.β0 1000001∧many F5.β0 1000001=many F.β0 1000001) {x':En} {p:Option Addr} {c bk:Nat} (n3:(0<c→blk F5.β0 1000002=bk)∧room F5.β0 1000002=c) {f:Nat→DV} (hf:∀j,j<b.es.length→f j=exF (putV V s (p,c)) (b.es.set i x') j)
  (hg:∀(β6:Nat→Nat) (k6:IH) (tm:Array Value) (w6:World) (st:AS),Gam h F5 w5 h5 st β6 k6 tm w6→st.box 1000002=some [.arr K sz g]→(∀t,2≤t→t<2*b.es.length+2→t≠s→0<room β t→w6.heap[blk β t]?=w2.heap[blk β t]?)→VecAt k6 gvK 4 x'.gs.length (gvF x'.gs) (blk (upd β s bk c 0) (2*i+2)) (room (upd β s bk c 0) (2*i+2)) (sv (putV V s (p,c)) (2*i+2) x'.gs.length) w6.heap[blk (upd β s bk c 0) (2*i+2)]?)
  (ha:∀(β6:Nat→Nat) (k6:IH) (tm:Array Value) (w6:World) (st:AS),Gam h F5 w5 h5 st β6 k6 tm w6→st.box 1000002=some [.arr K sz g]→(∀t,2≤t→t<2*b.es.length+2→t≠s→0<room β t→w6.heap[blk β t]?=w2.heap[blk β t]?)→VecAt k6 alK 6 x'.aps.length (alF x'.aps) (blk (upd β s bk c 0) (2*i+3)) (room (upd β s bk c 0) (2*i+3)) (sv (putV V s (p,c)) (2*i+3) x'.aps.length) w6.heap[blk (upd β s bk c 0) (2*i+3)]?)
  (hB:rB b e=⟨e.t,b.es.set i x'⟩) {its:List It} (hits:its=end46∨its=[cd Tryz.f46 [1,1,1,1,1,1,1,1,1,1,1]]) :
  AWPR Tryz.prog h F5 w5 h5 its (S46y b e V f [.arr K sz g]) (RetR Tryz.prog Tryz.f46 (R46 b e w0 h0)):=by
 obtain ⟨on2,bb,b2,hb1,hb2,hk⟩:=q.ex
 have s24:=hk.size
 have s02:=b2.kept.size
 have hon5:On46 b w0 w2 β s F5.on:=by
  refine⟨fun c hc=>?_,fun c hc t t1 t2 t3 t4=>?_⟩
  ·rcases hon c hc with r|r
   ·exact q.on.new c r
   ·omega
  ·rcases hon c hc with r|r
   ·exact q.on.ap c r t t1 t2 t3 t4
   ·have:=b2.q.lt t (by omega) t2 t4;omega
 have hL:∀st:AS,resVars Tryz.prog st Tryz.f46.results.toList=some [.d (.agg [di e.t,.con (.slice (V 1).1 b.es.length (V 1).2)]),.d (di 0)]→st.box 1000001=some [.arr enK 7 f]→st.box 1000002=some [.arr K sz g]→LeafR h F5 w5 h5 (RetR Tryz.prog Tryz.f46 (R46 b e w0 h0)) .ret st:=by
  intro st hr e1 e2
  refine leafRet2 (x:=.d (.agg [di e.t,.con (.slice (V 1).1 b.es.length (V 1).2)])) (y:=.d (di 0)) rfl hr fun β6 k6 tm w6 v u g6 hv hu=>?_
  have hu:u=.int .i64 0:=hu
  obtain ⟨vs,rfl,v0,vs1,rfl,r0,v1,vs2,rfl,r1,r2⟩:=hv
  have r0:v0=.int .i64 e.t:=r0
  have r1:v1=sv V 1 b.es.length:=r1
  have r2:vs2=[]:=r2
  subst hu r0 r1 r2
  refine done46 b2 hb1 hb2 hi hs hon5 hk hk5 q.on hh5 g6 ⟨fun h1=>n1.1.trans (q.n1.1 h1),n1.2.1.trans q.n1.2.1,n1.2.2.trans q.n1.2.2⟩ e1 hf (hg _ _ _ _ _ g6 e2) (ha _ _ _ _ _ g6 e2) (fun h1=>?_) hB q.hc
  obtain ⟨d1,d2,_⟩:=g6.fix 1000002 (by decide)
  have hl:Live β6 1000002 [.arr K sz g]:=by
   show 0<room β6 1000002
   rw[d2,n3.2];exact h1
  obtain ⟨z1,z2,_⟩:=(g6.box 1000002 _ e2).1 hl
  rw[d1,n3.1 h1] at z1 z2
  exact⟨z2,z1.elim (fun r=>hon5.new _ r) fun r=>by have:=hk5.size;have r:w5.heap.size≤bk:=r;omega⟩
 rcases hits with rfl|rfl
 ·refine walkRV (orc:={ d:=noO }) follows (fun _=>none) (cuts:=[]) (n:=1000) ?_
  refine of_eqH1 ((.con (.slice (V 1).fst b.es.length (V 1).snd)):DV) (fun Za=>LeafR h F5 w5 h5 (RetR Tryz.prog Tryz.f46 (R46 b e w0 h0)) .ret ⟨regs 211 [(2,(.box 2 0)),(4,(.box 4 0)),(5,(vi 0)),(210,(.d (.agg [(di e.t),Za])))],[(1000002,[(.arr K sz g)]),(1000001,[(.arr ⟨true,39,false,none⟩ 7 f)]),(2,[(vi e.t),(.d Za)]),(4,[(vi e.t),(.d Za)])]⟩) (by kernel_rfl) ?_
  exact hL _ rfl rfl rfl
 ·refine walkRV (orc:={ d:=noO }) follows (fun _=>none) (cuts:=[]) (n:=1000) ?_
  refine of_eqH1 ((.con (.slice (V 1).fst b.es.length (V 1).snd)):DV) (fun Za=>LeafR h F5 w5 h5 (RetR Tryz.prog Tryz.f46 (R46 b e w0 h0)) .ret ⟨regs 211 [(2,(.box 2 0)),(4,(.box 4 0)),(5,(vi 0)),(210,(.d (.agg [(di e.t),Za])))],[(1000002,[(.arr K sz g)]),(1000001,[(.arr ⟨true,39,false,none⟩ 7 f)]),(2,[(vi e.t),(.d Za)]),(4,[(vi e.t),(.d Za)])]⟩) (by kernel_rfl) ?_
  exact hL _ rfl rfl rfl
theorem f46_G {b:Bk} {e:Ev} {w0 w2 w4:World} {h0 h:IH} {F:Fr} {β:Nat→Nat} {V:Nat→Option Addr×Nat} {i:Nat} (hi:i<b.es.length) (hs:SzB b.es) (q:Lst b e w0 h0 h β V w2 w4 (2*i+2) (b.es.getD i en0).gs.length F) (hB:rB b e=⟨e.t,b.es.set i (grX (b.es.getD i en0) e)⟩) :
  AWPR Tryz.prog h F w4 h (cd Tryz.f46 [1,1,1,1,1,1,1,1,1,1,0,0,1,1,1,1,1,0] :: end46) (S46w b e V i [.arr gvK 4 (gvF (b.es.getD i en0).gs)]) (RetR Tryz.prog Tryz.f46 (R46 b e w0 h0)):=by
 have hsi:=(hs.2 i hi).1
 obtain ⟨on2,bb,b2,hb1,hb2,hk⟩:=q.ex
 refine AWPR.tail (orc:={ d:=noO,rows:=fun n=>Nat.beq n 188 }) follows (vw46g (b.es.getD i en0).gs.length) 18 (by kernel_rfl) ?_
 refine of_eqH1 (opsOf (cAt (bodyOf Tryz.f46) [1,1,1,1,1,1,1,1,1,1,0,0,1,1,1,1,1,0])) (fun Za=>((ViewF h F (.d (.con (.slice (V (2*i+2)).fst (b.es.getD i en0).gs.length (V (2*i+2)).snd))) (.vec 1000002 4 0 (b.es.getD i en0).gs.length)∧(((b.es.getD i en0).gs.length+1)*40≤1099511627776)∧((b.es.getD i en0).gs.length+1≤1099511627776))∧LeafR h F w4 h (seqQ Tryz.prog Za.toList 18 (Za.toList.length-18) (wpS Tryz.prog end46 (RetR Tryz.prog Tryz.f46 (R46 b e w0 h0)))) .normal ⟨regs 211 [(2,(.box 2 0)),(3,(.box 3 0)),(4,(.box 4 0)),(5,(vi 0)),(7,(.elem 1000001 7 i 0)),(9,(vi (↑(b.es.getD i en0).aps.length))),(174,(.elem 1000001 7 i 0)),(175,(.elem 1000001 7 i 0)),(176,(.elem 1000001 7 i 0)),(177,(.elem 1000001 7 i 5)),(178,(.vec 1000002 4 0 (b.es.getD i en0).gs.length)),(179,(.box 3 5)),(180,(vi e.v)),(181,(.box 3 6)),(182,(vi e.h)),(183,(.box 3 4)),(184,(vi e.t)),(185,(.box 3 7)),(186,(vs e.s)),(187,(.d (.agg [(di e.v),(di e.h),(di e.t),(ds e.s)]))),(188,(.vec 188 4 0 1)),(189,(.vec 189 4 0 ((b.es.getD i en0).gs.length+1))),(190,(.elem 1000001 7 i 0)),(191,(.elem 1000001 7 i 5))],[(189,[(.arr ⟨true,42,false,none⟩ 4 (fun i_1=>bif i_1.blt (b.es.getD i en0).gs.length then gvF (b.es.getD i en0).gs i_1 else elemF true 4 [di e.v,di e.h,di e.t,ds e.s] (0+(i_1-(b.es.getD i en0).gs.length))))]),(188,[(.arr ⟨true,42,false,none⟩ 4 (elemF true 4 [(di e.v),(di e.h),(di e.t),(ds e.s)]))]),(1000002,[.dead]),(1000001,[(.arr ⟨true,39,false,none⟩ 7 (exF V b.es))]),(2,[(vi e.t),(.d (.con (.slice (V 1).fst b.es.length (V 1).snd)))]),(3,[(vi e.kind),(vs e.k.st),(vs e.k.ex),(vi e.k.n),(vi e.t),(vi e.v),(vi e.h),(vs e.s),(vb e.acc)]),(4,[(vi 0),(.d (.con (.slice none 0 0)))])]⟩)) (by kernel_rfl) ?_
 refine⟨⟨viewRow (p:=V (2*i+2)) (b2.q.gr i hi) (by decide) q.n2.1 q.n2.2.1 q.n2.2.2,by omega,by omega⟩,?_⟩
 intro β3 h3 a3 w3 g3 hd3
 have g4:=g3.weaken (st':=S46x b e V i) (by refine AS.leZ [] [] (b:=((T0∧T0∧T0∧T0∧T0∧T0∧True)∧T0∧T0∧T0∧T0∧T0∧True)) (by kernel_rfl) (by kernel_rfl) ?_;exact⟨⟨rfl,rfl,rfl,rfl,rfl,rfl,trivial⟩,rfl,rfl,rfl,rfl,rfl,trivial⟩)
 obtain ⟨p,hpv,hp,hm,g5⟩:=g4.shift (q:=189) (m:=(b.es.getD i en0).gs.length+1) (e:=1000002) (on:=fun c=>∃s l,Go.Ab.look (S46x b e V i).boxes s=some l∧Live β3 s l∧blk β3 s=c) (by kernel_rfl) (by kernel_rfl) (by kernel_rfl) (by kernel_rfl) fun s l q1 q2=>⟨s,l,q1,q2,rfl⟩
 rw[show (opsOf (cAt (bodyOf Tryz.f46) [1,1,1,1,1,1,1,1,1,1,0,0,1,1,1,1,1,0])).toList.length-18=1+0 from by kernel_rfl]
 refine(SeqR.tree (orc:={ d:=noO }) ?_:SeqR Tryz.prog h _ w3 h3 (opsOf (cAt (bodyOf Tryz.f46) [1,1,1,1,1,1,1,1,1,1,0,0,1,1,1,1,1,0])).toList 18 (1+0) _ _) _ _ _ _ g5 hd3
 refine of_eqH1 (exL (b.es.getD i en0) (sv V (2*i+2) (b.es.getD i en0).gs.length) (sv V (2*i+3) (b.es.getD i en0).aps.length)) (fun Za=>LeafR h (Fr.mk (fun c=>∃s l,Ab.look (S46x b e V i).boxes s=some l∧Live β3 s l∧blk β3 s=c) (upd β3 1000002 (blk β3 189) (room β3 189) (many β3 189))) w3 h3 (seqQ Tryz.prog (opsOf (cAt (bodyOf Tryz.f46) [1,1,1,1,1,1,1,1,1,1,0,0,1,1,1,1,1,0])).toList (18+1) 0 (wpS Tryz.prog end46 (RetR Tryz.prog Tryz.f46 (R46 b e w0 h0)))) .normal ⟨regs 211 [(2,(.box 2 0)),(3,(.box 3 0)),(4,(.box 4 0)),(5,(vi 0)),(189,(.d (.con (.slice p ((b.es.getD i en0).gs.length+1) (β3 (3*189+1)))))),(191,(.elem 1000001 7 i 5))],[(1000002,[(.arr ⟨true,42,false,none⟩ 4 (gvA (b.es.getD i en0).gs e))]),(1000001,[(.arr ⟨true,39,false,none⟩ 7 (fun j=>bif j.beq i then DV.agg (List.take 5 Za++[DV.con (Value.slice p ((b.es.getD i en0).gs.length+1) (β3 (3*189+1)))]++List.drop (5+1) Za) else exF V b.es j))]),(2,[(vi e.t),(.d (.con (.slice (V 1).fst b.es.length (V 1).snd)))]),(3,[(vi e.kind),(vs e.k.st),(vs e.k.ex),(vi e.k.n),(vi e.t),(vi e.v),(vi e.h),(vs e.s),(vb e.acc)]),(4,[(vi 0),(.d (.con (.slice none 0 0)))])]⟩) (by kernel_rfl) ?_
 refine LeafR.seq_done ?_
 refine AWPR.weaken (st':=S46y b e V (fun j=>bif j.beq i then .agg (List.take 5 (exL (b.es.getD i en0) (sv V (2*i+2) (b.es.getD i en0).gs.length) (sv V (2*i+3) (b.es.getD i en0).aps.length))++[.con (.slice p ((b.es.getD i en0).gs.length+1) (room β3 189))]++List.drop 6 (exL (b.es.getD i en0) (sv V (2*i+2) (b.es.getD i en0).gs.length) (sv V (2*i+3) (b.es.getD i en0).aps.length))) else exF V b.es j) [.arr gvK 4 (gvA (b.es.getD i en0).gs e)]) ?_ ?_
 ·exact AS.leA (by kernel_rfl)
 obtain ⟨f1,f2,f3⟩:=g4.fix 1000001 (by decide)
 have hl:(grX (b.es.getD i en0) e).gs.length=(b.es.getD i en0).gs.length+1:=len_snoc _ _
 refine f46_Z hi (.inl rfl) q (x':=grX (b.es.getD i en0) e) (p:=p) (c:=room β3 189) (bk:=blk β3 189) g3.kept (fun c hc hn=>g3.old c hc hn) ?_ ⟨by rw[←f1];exact blk_other (by decide),by rw[←f2];exact room_other (by decide),by rw[←f3];exact many_other (by decide)⟩ ⟨fun _=>blk_upd,room_upd⟩ (fun j hj=>exF_gs (x':=grX (b.es.getD i en0) e) (p:=(p,room β3 189)) hi (len_snoc _ _) rfl rfl rfl rfl j) (fun β6 k6 tm w6 st g6 hb6 _=>?_) (fun β6 k6 tm w6 st g6 hb6 hsm=>?_) hB (.inl rfl)
 ·rintro c ⟨t,l,hl,hv,rfl⟩
  exact((g4.box t l hl).1 hv).1
 ·rw[blk_upd,room_upd,putV_eq]
  exact gamVecAt g6 (e:=1000002) (by decide) blk_upd room_upd (by rw[hl,many_upd];exact hm) hb6 rfl (fun j=>gvF_flat _ j) (gvA_at _ e) hp
 ·rw[blk_other (by omega),room_other (by omega),putV_ne _ (by omega)]
  exact(b2.q.ap i hi).moved (fun j=>alF_flat _ j) fun h1=>hsm _ (by omega) (by omega) (by omega) h1
def vw46a (m:Nat):Nat→Option AV
 | 200=>some (.vec 1000002 6 0 m)
 | _=>none
noncomputable def S46xa (b:Bk) (e:Ev) (V:Nat→Option Addr×Nat) (i:Nat):AS:=⟨regs Tryz.f46.ntmps [(2,.box 2 0),(3,.box 3 0),(4,.box 4 0),(5,vi 0),(207,.vec 207 6 0 ((b.es.getD i en0).aps.length+1)),(209,.elem 1000001 7 i 6)],(207,[.arr alK 6 (alA (b.es.getD i en0).aps e)]) :: (S46j b e V i).boxes⟩
theorem f46_Ap {b:Bk} {e:Ev} {w0 w2 w4:World} {h0 h:IH} {F:Fr} {β:Nat→Nat} {V:Nat→Option Addr×Nat} {i:Nat} (hi:i<b.es.length) (hs:SzB b.es) (q:Lst b e w0 h0 h β V w2 w4 (2*i+3) (b.es.getD i en0).aps.length F) (hB:rB b e=⟨e.t,b.es.set i (apX (b.es.getD i en0) e)⟩) :
  AWPR Tryz.prog h F w4 h (cd Tryz.f46 [1,1,1,1,1,1,1,1,1,1,0,0,1,1,1,1,1,1,1,0] :: end46) (S46w b e V i [.arr alK 6 (alF (b.es.getD i en0).aps)]) (RetR Tryz.prog Tryz.f46 (R46 b e w0 h0)):=by
 have hsi:=(hs.2 i hi).2
 obtain ⟨on2,bb,b2,hb1,hb2,hk⟩:=q.ex
 refine AWPR.tail (orc:={ d:=noO,rows:=fun n=>Nat.beq n 206 }) follows (vw46a (b.es.getD i en0).aps.length) 14 (by kernel_rfl) ?_
 refine of_eqH1 (opsOf (cAt (bodyOf Tryz.f46) [1,1,1,1,1,1,1,1,1,1,0,0,1,1,1,1,1,1,1,0])) (fun Za=>((ViewF h F (.d (.con (.slice (V (2*i+3)).fst (b.es.getD i en0).aps.length (V (2*i+3)).snd))) (.vec 1000002 6 0 (b.es.getD i en0).aps.length)∧(((b.es.getD i en0).aps.length+1)*56≤1099511627776)∧((b.es.getD i en0).aps.length+1≤1099511627776))∧LeafR h F w4 h (seqQ Tryz.prog Za.toList 14 (Za.toList.length-14) (wpS Tryz.prog end46 (RetR Tryz.prog Tryz.f46 (R46 b e w0 h0)))) .normal ⟨regs 211 [(2,(.box 2 0)),(3,(.box 3 0)),(4,(.box 4 0)),(5,(vi 0)),(7,(.elem 1000001 7 i 0)),(9,(vi (↑(b.es.getD i en0).aps.length))),(196,(.elem 1000001 7 i 0)),(197,(.elem 1000001 7 i 0)),(198,(.elem 1000001 7 i 0)),(199,(.elem 1000001 7 i 6)),(200,(.vec 1000002 6 0 (b.es.getD i en0).aps.length)),(201,(.box 3 4)),(202,(vi e.t)),(203,(.box 3 7)),(204,(vs e.s)),(205,(.d (.agg [(di e.t),(ds e.s),(db false),(db false),(di 0),(ds (ByteArray.mk #[]))]))),(206,(.vec 206 6 0 1)),(207,(.vec 207 6 0 ((b.es.getD i en0).aps.length+1))),(208,(.elem 1000001 7 i 0)),(209,(.elem 1000001 7 i 6))],[(207,[(.arr ⟨true,44,false,none⟩ 6 (fun i_1=>bif i_1.blt (b.es.getD i en0).aps.length then alF (b.es.getD i en0).aps i_1 else elemF true 6 [di e.t,ds e.s,DV.con (Value.bool false),DV.con (Value.bool false),di 0,ds (ByteArray.mk #[])] (0+(i_1-(b.es.getD i en0).aps.length))))]),(206,[(.arr ⟨true,44,false,none⟩ 6 (elemF true 6 [(di e.t),(ds e.s),(db false),(db false),(di 0),(ds (ByteArray.mk #[]))]))]),(1000002,[.dead]),(1000001,[(.arr ⟨true,39,false,none⟩ 7 (exF V b.es))]),(2,[(vi e.t),(.d (.con (.slice (V 1).fst b.es.length (V 1).snd)))]),(3,[(vi e.kind),(vs e.k.st),(vs e.k.ex),(vi e.k.n),(vi e.t),(vi e.v),(vi e.h),(vs e.s),(vb e.acc)]),(4,[(vi 0),(.d (.con (.slice none 0 0)))])]⟩)) (by kernel_rfl) ?_
 refine⟨⟨viewRow (p:=V (2*i+3)) (b2.q.ap i hi) (by decide) q.n2.1 q.n2.2.1 q.n2.2.2,by omega,by omega⟩,?_⟩
 intro β3 h3 a3 w3 g3 hd3
 have g4:=g3.weaken (st':=S46xa b e V i) (by refine AS.leZ [] [0] (b:=((T0∧T0∧T0∧T0∧T0∧T0∧True)∧((some [(.arr ⟨true,44,false,none⟩ 6 (fun i_1=>bif i_1.blt (b.es.getD i en0).aps.length then alF (b.es.getD i en0).aps i_1 else elemF true 6 [di e.t,ds e.s,DV.con (Value.bool false),DV.con (Value.bool false),di 0,ds (ByteArray.mk #[])] (0+(i_1-(b.es.getD i en0).aps.length))))]):(Option (List AV)))=(some [(.arr ⟨true,44,false,none⟩ 6 (alA (b.es.getD i en0).aps e))])∧T0∧T0∧T0∧T0∧True)) (by kernel_rfl) (by kernel_rfl) ?_;exact⟨⟨rfl,rfl,rfl,rfl,rfl,rfl,trivial⟩,rfl,rfl,rfl,rfl,rfl,trivial⟩)
 obtain ⟨p,hpv,hp,hm,g5⟩:=g4.shift (q:=207) (m:=(b.es.getD i en0).aps.length+1) (e:=1000002) (on:=fun c=>∃s l,Go.Ab.look (S46xa b e V i).boxes s=some l∧Live β3 s l∧blk β3 s=c) (by kernel_rfl) (by kernel_rfl) (by kernel_rfl) (by kernel_rfl) fun s l q1 q2=>⟨s,l,q1,q2,rfl⟩
 rw[show (opsOf (cAt (bodyOf Tryz.f46) [1,1,1,1,1,1,1,1,1,1,0,0,1,1,1,1,1,1,1,0])).toList.length-14=1+0 from by kernel_rfl]
 refine(SeqR.tree (orc:={ d:=noO }) ?_:SeqR Tryz.prog h _ w3 h3 (opsOf (cAt (bodyOf Tryz.f46) [1,1,1,1,1,1,1,1,1,1,0,0,1,1,1,1,1,1,1,0])).toList 14 (1+0) _ _) _ _ _ _ g5 hd3
 refine of_eqH1 (exL (b.es.getD i en0) (sv V (2*i+2) (b.es.getD i en0).gs.length) (sv V (2*i+3) (b.es.getD i en0).aps.length)) (fun Za=>LeafR h (Fr.mk (fun c=>∃s l,Ab.look (S46xa b e V i).boxes s=some l∧Live β3 s l∧blk β3 s=c) (upd β3 1000002 (blk β3 207) (room β3 207) (many β3 207))) w3 h3 (seqQ Tryz.prog (opsOf (cAt (bodyOf Tryz.f46) [1,1,1,1,1,1,1,1,1,1,0,0,1,1,1,1,1,1,1,0])).toList (14+1) 0 (wpS Tryz.prog end46 (RetR Tryz.prog Tryz.f46 (R46 b e w0 h0)))) .normal ⟨regs 211 [(2,(.box 2 0)),(3,(.box 3 0)),(4,(.box 4 0)),(5,(vi 0)),(207,(.d (.con (.slice p ((b.es.getD i en0).aps.length+1) (β3 (3*207+1)))))),(209,(.elem 1000001 7 i 6))],[(1000002,[(.arr ⟨true,44,false,none⟩ 6 (alA (b.es.getD i en0).aps e))]),(1000001,[(.arr ⟨true,39,false,none⟩ 7 (fun j=>bif j.beq i then DV.agg (List.take 6 Za++[DV.con (Value.slice p ((b.es.getD i en0).aps.length+1) (β3 (3*207+1)))]++List.drop (6+1) Za) else exF V b.es j))]),(2,[(vi e.t),(.d (.con (.slice (V 1).fst b.es.length (V 1).snd)))]),(3,[(vi e.kind),(vs e.k.st),(vs e.k.ex),(vi e.k.n),(vi e.t),(vi e.v),(vi e.h),(vs e.s),(vb e.acc)]),(4,[(vi 0),(.d (.con (.slice none 0 0)))])]⟩) (by kernel_rfl) ?_
 refine LeafR.seq_done ?_
 refine AWPR.weaken (st':=S46y b e V (fun j=>bif j.beq i then .agg (List.take 6 (exL (b.es.getD i en0) (sv V (2*i+2) (b.es.getD i en0).gs.length) (sv V (2*i+3) (b.es.getD i en0).aps.length))++[.con (.slice p ((b.es.getD i en0).aps.length+1) (room β3 207))]++List.drop 7 (exL (b.es.getD i en0) (sv V (2*i+2) (b.es.getD i en0).gs.length) (sv V (2*i+3) (b.es.getD i en0).aps.length))) else exF V b.es j) [.arr alK 6 (alA (b.es.getD i en0).aps e)]) ?_ ?_
 ·exact AS.leA (by kernel_rfl)
 obtain ⟨f1,f2,f3⟩:=g4.fix 1000001 (by decide)
 have hl:(apX (b.es.getD i en0) e).aps.length=(b.es.getD i en0).aps.length+1:=len_snoc _ _
 refine f46_Z hi (.inr rfl) q (x':=apX (b.es.getD i en0) e) (p:=p) (c:=room β3 207) (bk:=blk β3 207) g3.kept (fun c hc hn=>g3.old c hc hn) ?_ ⟨by rw[←f1];exact blk_other (by decide),by rw[←f2];exact room_other (by decide),by rw[←f3];exact many_other (by decide)⟩ ⟨fun _=>blk_upd,room_upd⟩ (fun j hj=>exF_as (x':=apX (b.es.getD i en0) e) (p:=(p,room β3 207)) hi (len_snoc _ _) rfl rfl rfl rfl j) (fun β6 k6 tm w6 st g6 hb6 hsm=>?_) (fun β6 k6 tm w6 st g6 hb6 _=>?_) hB (.inl rfl)
 ·rintro c ⟨t,l,hl,hv,rfl⟩
  exact((g4.box t l hl).1 hv).1
 ·rw[blk_other (by omega),room_other (by omega),putV_ne _ (by omega)]
  exact(b2.q.gr i hi).moved (fun j=>gvF_flat _ j) fun h1=>hsm _ (by omega) (by omega) (by omega) h1
 ·rw[blk_upd,room_upd,putV_eq]
  exact gamVecAt g6 (e:=1000002) (by decide) blk_upd room_upd (by rw[hl,many_upd];exact hm) hb6 rfl (fun j=>alF_flat _ j) (alA_at _ e) hp
def vw46d (n:Nat):Nat→Option AV
 | 92=>some (.vec 1000002 6 0 n)
 | _=>none
noncomputable def S46z (b:Bk) (e:Ev) (V:Nat→Option Addr×Nat) (i n:Nat):AS:=⟨regs Tryz.f46.ntmps [(2,.box 2 0),(3,.box 3 0),(4,.box 4 0),(5,vi 0),(7,.elem 1000001 7 i 0),(9,vi n)],(1000002,[.arr alK 6 (alF (b.es.getD i en0).aps)]) :: (S46j b e V i).boxes⟩
noncomputable def S46d (b:Bk) (e:Ev) (V:Nat→Option Addr×Nat) (i m:Nat):AS:=⟨regs Tryz.f46.ntmps [(2,.box 2 0),(3,.box 3 0),(4,.box 4 0),(5,vi 0),(7,.elem 1000001 7 i 0),(9,vi ((m+1:Nat):Int)),(11,.elem 1000002 6 m 0),(89,.elem 1000001 7 i 0),(90,.elem 1000001 7 i 0),(91,.elem 1000001 7 i 6),(92,.vec 1000002 6 0 (m+1)),(93,vi ((m+1:Nat):Int)),(94,vi m),(95,.elem 1000002 6 m 0),(96,.elem 1000002 6 m 0),(97,.elem 1000002 6 m 0),(98,.elem 1000002 6 m 0),(99,.elem 1000002 6 m 0),(100,.box 3 8),(101,vb e.acc),(102,.box 3 4),(103,vi e.t),(104,.box 3 7),(105,vs e.s),(106,.elem 1000002 6 m 0),(107,.elem 1000002 6 m 2),(108,.elem 1000002 6 m 0),(109,.elem 1000002 6 m 3),(110,.elem 1000002 6 m 0),(111,.elem 1000002 6 m 4),(112,.elem 1000002 6 m 0),(113,.elem 1000002 6 m 5)],(1000002,[.arr alK 6 fun j=>gD (b.es.getD i en0).aps e m j]) :: (S46j b e V i).boxes⟩
def N46 (b:Bk) (e:Ev) (w0:World) (h0 h:IH) (F:Fr) (w4:World) (V:Nat→Option Addr×Nat) (i m:Nat):Prop:=(ViewF h F (.d (.con (sv V (2*i+3) (b.es.getD i en0).aps.length))) (.vec 1000002 6 0 (m+1))∧I64 (((m+1:Nat):Int)-1)∧(0≤((m+1:Nat):Int)-1)∧(((m+1:Nat):Int)-1<((m+1:Nat):Int)))∧
 AWPR Tryz.prog h F w4 h [cd Tryz.f46 [1,1,1,1,1,1,1,1,1,1,1]] (S46d b e V i m) (RetR Tryz.prog Tryz.f46 (R46 b e w0 h0))
theorem f46_N {b:Bk} {e:Ev} {w0 w4:World} {h0 h:IH} {F:Fr} {V:Nat→Option Addr×Nat} {i m:Nat} (hm:m<16) (hN:N46 b e w0 h0 h F w4 V i m) :
  AWPR Tryz.prog h F w4 h (cd Tryz.f46 [1,1,1,1,1,1,1,1,1,1,0,0,1,1,1,1,1,1,1,1] :: end46) (S46z b e V i (m+1)) (RetR Tryz.prog Tryz.f46 (R46 b e w0 h0)):=by
 have h16:m=0∨m=1∨m=2∨m=3∨m=4∨m=5∨m=6∨m=7∨m=8∨m=9∨m=10∨m=11∨m=12∨m=13∨m=14∨m=15:=by omega
 refine walkRV (orc:={ d:=noO }) follows (vw46d (m+1)) (cuts:=[31]) (n:=1000) ?_
 refine of_eqH1 m (N46 b e w0 h0 h F w4 V i) ?_ hN
 clear hN hm
 rcases h16 with rfl|rfl|rfl|rfl|rfl|rfl|rfl|rfl|rfl|rfl|rfl|rfl|rfl|rfl|rfl|rfl<;>kernel_rfl
theorem f46_De {b:Bk} {e:Ev} {w0 w2 w4:World} {h0 h:IH} {F:Fr} {β:Nat→Nat} {V:Nat→Option Addr×Nat} {i m:Nat} (hi:i<b.es.length) (hm:(b.es.getD i en0).aps.length=m+1) (hm16:m<16) (q:Lst b e w0 h0 h β V w2 w4 (2*i+3) (b.es.getD i en0).aps.length F) (hB:rB b e=⟨e.t,b.es.set i (deX (b.es.getD i en0) e)⟩) :
  AWPR Tryz.prog h F w4 h (cd Tryz.f46 [1,1,1,1,1,1,1,1,1,1,0,0,1,1,1,1,1,1,1,1] :: end46) (S46z b e V i (m+1)) (RetR Tryz.prog Tryz.f46 (R46 b e w0 h0)):=by
 obtain ⟨on2,bb,b2,hb1,hb2,hk⟩:=q.ex
 refine f46_N hm16 ⟨⟨hm▸viewRow (p:=V (2*i+3)) (b2.q.ap i hi) (by decide) q.n2.1 q.n2.2.1 q.n2.2.2,⟨by omega,by omega⟩,by omega,by omega⟩,?_⟩
 refine AWPR.weaken (st':=S46y b e V (exF V b.es) [.arr alK 6 fun j=>gD (b.es.getD i en0).aps e m j]) ?_ ?_
 ·exact AS.leA (by kernel_rfl)
 obtain ⟨hl,hat⟩:=deX_at hm e
 have hcap:V (2*i+3)=((V (2*i+3)).1,room β (2*i+3)):=by
  obtain ⟨p,hp,_⟩:=(b2.q.ap i hi).val
  simp only[Value.slice.injEq,true_and] at hp
  rw[←hp.2]
 have hpp:(V (2*i+3)).1=some ⟨blk β (2*i+3),0,none⟩∨room β (2*i+3)=0:=by
  obtain ⟨p,hp,hq⟩:=(b2.q.ap i hi).val
  simp only[Value.slice.injEq,true_and] at hp
  rw[hp.1];exact hq
 have hput:∀t n,sv (putV V (2*i+3) ((V (2*i+3)).1,room β (2*i+3))) t n=sv V t n:=fun t n=>by
  by_cases c:t=2*i+3
  ·subst c;rw[putV_eq,←hcap]
  ·rw[putV_ne _ c]
 refine f46_Z hi (.inr rfl) q (x':=deX (b.es.getD i en0) e) (p:=(V (2*i+3)).1) (c:=room β (2*i+3)) (bk:=blk β (2*i+3)) (Kept.refl _ _) (fun _ _ _=>⟨fun _=>rfl,rfl⟩) (fun _ hc=>.inl hc) ⟨rfl,rfl,rfl⟩ ⟨q.n2.1,q.n2.2.1⟩ (fun j hj=>?_) (fun β6 k6 tm w6 st g6 hb6 hsm=>?_) (fun β6 k6 tm w6 st g6 hb6 _=>?_) hB (.inr rfl)
 ·unfold exF
  by_cases c:j=i
  ·subst c
   have ex:(b.es.set j (deX (b.es.getD j en0) e)).getD j en0=deX (b.es.getD j en0) e:=by rw[List.getD,List.getElem?_set_self hi];rfl
   rw[ex,hput,hput,hl,←hm]
   rfl
  ·rw[List.getD,List.getD,List.getElem?_set_ne (Ne.symm c)]
   simp only[hput]
 ·rw[blk_other (by omega),room_other (by omega),putV_ne _ (by omega)]
  exact(b2.q.gr i hi).moved (fun j=>gvF_flat _ j) fun h1=>hsm _ (by omega) (by omega) (by omega) h1
 ·rw[blk_upd,room_upd,putV_eq,hl]
  by_cases h1:0<room β (2*i+3)
  ·refine gamVecAt g6 (e:=1000002) (by decide) (q.n2.1 h1) q.n2.2.1 (by rw[q.n2.2.2,hm];exact Nat.le_refl _) hb6 rfl (fun j=>alF_flat _ j) (fun j hj=>?_) hpp
   show gD (b.es.getD i en0).aps e m j=.agg (alL ((deX (b.es.getD i en0) e).aps.getD j al0))
   rw[hat j hj]
   by_cases c:j=m
   ·subst c;rw[if_pos rfl];exact gD_at
   ·rw[if_neg c];exact gD_ne c
  ·have:=(b2.q.ap i hi).row.1.1
   omega
theorem flat46 {x:List AV} {y:List AV} {z:List AV} (hx:FlatB x) (hy:FlatB y) (hz:FlatB z):∀s l,Go.Ab.look [(2,x),(3,y),(4,z)] s=some l→FlatB l:=by
 intro s l hl
 simp only[Go.Ab.look] at hl
 by_cases e1:(2:Nat)=s
 ·subst e1;simp at hl;subst hl;exact hx
 ·rw[beq_ne e1,cond_false] at hl
  by_cases e2:(3:Nat)=s
  ·subst e2;simp at hl;subst hl;exact hy
  ·rw[beq_ne e2,cond_false] at hl
   by_cases e3:(4:Nat)=s
   ·subst e3;simp at hl;subst hl;exact hz
   ·rw[beq_ne e3,cond_false] at hl;cases hl
theorem flat46v {b:Bk} {e:Ev} {V:Nat→Option Addr×Nat} {i:Nat}:∀s l,Go.Ab.look (S46j b e V i).boxes s=some l→FlatB l:=by
 intro s l hl
 simp only[S46j,Go.Ab.look] at hl
 by_cases e2:(1000001:Nat)=s
 ·subst e2;simp at hl;subst hl;exact fun i=>exF_flat V b.es i
 ·rw[beq_ne e2,cond_false] at hl
  exact flat46 (x:=[.d (di e.t),.d (.con (.slice (V 1).1 b.es.length (V 1).2))]) (y:=(evL e).map .d) (z:=nil46) rfl rfl rfl s l hl
theorem f46_B2 {b:Bk} {e:Ev} {w0 w:World} {h0 h:IH} {β β1:Nat→Nat} {V:Nat→Option Addr×Nat} {on:Nat→Prop} (hs:SzB b.es) (hb:Bnd b.es) (ht:¬e.t<b.t) (hf:formE e) (hk:e.kind≠0) {i:Nat} (hfi:findB b.es e.k=some i) (hi:i<b.es.length) (a:Bes46 b w0 h0 h β V w on) :
  AWPR Tryz.prog (IH.add h (CBl β b.es.length) w) ⟨on,β1⟩ w (IH.add h (CBl β b.es.length) w) [cd Tryz.f46 [1,1,1,1,1,1,1]] (S46i b e (V 1) i) (RetR Tryz.prog Tryz.f46 (R46 b e w0 h0)):=by
 intro β2 k2 a2 w2 g2 hd2
 obtain ⟨on2,bb,hb1,hb2,b2,g5⟩:=a.read (rs:=(S46i b e (V 1) i).regs) (bs:=(S46i b e (V 1) i).boxes) rfl g2 (by kernel_rfl) (flat46 rfl rfl rfl) (by kernel_rfl) (by kernel_rfl)
 obtain ⟨l1,l2⟩:=b2.q.lists
 have hnew2:∀c,(on2 c∨c=bb)→w0.heap.size≤c:=by
  rintro c (q|rfl)
  ·exact(b2.new _ q).1
  ·by_cases h1:0<room β 1
   ·rw[hb1 h1];exact b2.cnew _ ⟨1,by omega,by omega,h1,rfl⟩
   ·rw[hb2 h1];exact b2.kept.size
 have o:Out46 w0 h0 (IH.add h (NeL β b.es.length) w2) w2 (fun c=>on2 c∨c=bb):=by
  refine⟨b2.le.trans l1,b2.kept,fun c hlt=>?_,hnew2⟩
  have hn:¬NeL β b.es.length c:=fun ⟨t,t1,t2,t3,t4⟩=>by have:=b2.cnew c ⟨t,by omega,t2,t3,t4⟩;omega
  exact⟨fun o=>by rw[IH.add_out hn];exact(b2.old c hlt).1 o,by rw[IH.add_obj];exact(b2.old c hlt).2⟩
 have hA:appR b e=codeR (b.es.getD i en0) e:=by unfold appR;rw[if_neg ht,if_neg hk,hfi]
 have hin:∀s,2≤s→s<2*b.es.length+2→0<room β s→∀o,(IH.add h (NeL β b.es.length) w2).cell (blk β s) o=w2.cell? ⟨blk β s,o,none⟩:=fun s s1 s2 s3 o=>IH.add_in ⟨s,s1,s2,s3,rfl⟩
 have hgs:BGs (IH.add h (NeL β b.es.length) w2) ⟨fun c=>on2 c∨c=bb,upd β2 1000001 bb (room β 1) b.es.length⟩ V i (b.es.getD i en0):=by
  refine⟨fun β4 h4 v hG _ r=>?_,fun β4 h4 v hG _ r=>?_⟩
  ·have r:v=sv V (2*i+2) (b.es.getD i en0).gs.length:=r
   subst r
   exact DV.rel.mono hG _ _ ((b2.q.gr i hi).slc l1 fun h0 o=>hin _ (by omega) (by omega) h0 o)
  ·have r:v=sv V (2*i+3) (b.es.getD i en0).aps.length:=r
   subst r
   exact DV.rel.mono hG _ _ ((b2.q.ap i hi).slc l1 fun h0 o=>hin _ (by omega) (by omega) h0 o)
 have hB:∀x',stepE (b.es.getD i en0) e=x'→appR b e=0→rB b e=⟨e.t,b.es.set i x'⟩:=fun x' hx hc=>by
  unfold rB appB appE
  rw[if_pos hc,if_neg hk,hfi,←hx]
 have hn1:∀{st:AS} {β3:Nat→Nat} {k3:IH} {tm:Array Value} {w3:World} (g3:Gam (IH.add h (NeL β b.es.length) w2) ⟨fun c=>on2 c∨c=bb,upd β2 1000001 bb (room β 1) b.es.length⟩ w2 (IH.add h (NeL β b.es.length) w2) st β3 k3 tm w3) (bc c m:Nat),(0<room β 1→blk (upd β3 1000002 bc c m) 1000001=blk β 1)∧room (upd β3 1000002 bc c m) 1000001=room β 1∧many (upd β3 1000002 bc c m) 1000001=b.es.length:=by
  intro st β3 k3 tm w3 g3 bc c m
  obtain ⟨f1,f2,f3⟩:=g3.fix 1000001 (by decide)
  rw[blk_other (by decide),room_other (by decide),many_other (by decide),f1,f2,f3]
  exact⟨fun h1=>blk_upd.trans (hb1 h1),room_upd,many_upd⟩
 refine(f46_J1 hi hs (viewRow (p:=V 1) b2.q.ent (by decide) (fun h0=>by rw[blk_upd];exact hb1 h0) room_upd many_upd) hgs (f46_J2 hi hs o hgs hA fun hc=>f46_J4 hk hf (fun k1=>?_) (fun k2=>?_) (fun k3=>?_))) _ _ a2 w2 g5 hd2
 ·intro β3 k3 a3 w3 g3 hd3
  obtain ⟨on5,bc,c1,on46,hw3,hk3,g4⟩:=b2.list hb1 hb2 rfl (rs:=(S46v b e V i).regs) (bs:=(S46v b e V i).boxes) g3 (by kernel_rfl) flat46v (s:=2*i+2) (by omega) (by omega) (b2.q.gr i hi) (by kernel_rfl) (by kernel_rfl)
  refine f46_G hi hs ⟨⟨on2,bb,b2,hb1,hb2,hk3⟩,on46,hn1 g3 _ _ _,⟨fun h1=>blk_upd.trans (c1 h1),room_upd,many_upd⟩,hc⟩ (hB _ ?_ hc) _ _ a3 w3 g4 hd3
  unfold stepE grX
  rw[if_pos k1]
 ·intro β3 k3 a3 w3 g3 hd3
  obtain ⟨on5,bc,c1,on46,hw3,hk3,g4⟩:=b2.list hb1 hb2 rfl (rs:=(S46v b e V i).regs) (bs:=(S46v b e V i).boxes) g3 (by kernel_rfl) flat46v (s:=2*i+3) (by omega) (by omega) (b2.q.ap i hi) (by kernel_rfl) (by kernel_rfl)
  refine f46_Ap hi hs ⟨⟨on2,bb,b2,hb1,hb2,hk3⟩,on46,hn1 g3 _ _ _,⟨fun h1=>blk_upd.trans (c1 h1),room_upd,many_upd⟩,hc⟩ (hB _ ?_ hc) _ _ a3 w3 g4 hd3
  unfold stepE apX
  rw[if_neg (by omega),if_pos k2]
 ·obtain ⟨m,hm⟩:∃m,(b.es.getD i en0).aps.length=m+1:=by
   have ho:openA (b.es.getD i en0)=true:=by
    cases q:openA (b.es.getD i en0) with
    | true=>rfl
    | false=>
     exfalso
     rw[hA] at hc
     unfold codeR at hc
     rw[if_pos (.inr (.inr ⟨k3,by rw[q];exact Bool.false_ne_true⟩))] at hc
     exact absurd hc (by decide)
   unfold openA at ho
   cases hl:(b.es.getD i en0).aps with
   | nil=>rw[hl] at ho;cases ho
   | cons a l=>exact⟨l.length,rfl⟩
  have hm16:m<16:=by
   have hb:=hb i hi
   simp only[bndE,bAt,decide_eq_true_eq] at hb
   omega
  intro β3 kk3 a3 w3 g3 hd3
  obtain ⟨on5,bc,c1,on46,hw3,hk3,g4⟩:=b2.list hb1 hb2 rfl (rs:=(S46v b e V i).regs) (bs:=(S46v b e V i).boxes) g3 (by kernel_rfl) flat46v (s:=2*i+3) (by omega) (by omega) (b2.q.ap i hi) (by kernel_rfl) (by kernel_rfl)
  have hS:(⟨(S46v b e V i).regs,(1000002,[.arr alK 6 (alF (b.es.getD i en0).aps)]) :: (S46v b e V i).boxes⟩:AS)=S46z b e V i (m+1):=by
   unfold S46v S46z
   rw[hm]
  rw[hS] at g4
  refine f46_De hi hm hm16 ⟨⟨on2,bb,b2,hb1,hb2,hk3⟩,on46,hn1 g3 _ _ _,⟨fun h1=>blk_upd.trans (c1 h1),room_upd,many_upd⟩,hc⟩ (hB _ ?_ hc) _ _ a3 w3 g4 hd3
  unfold stepE deX
  rw[if_neg (by omega),if_neg (by omega)]
theorem f46_W (b:Bk) (e:Ev) (hs:SzB b.es) (hb:Bnd b.es) (hf:formE e) (hw:G.holds w) {u x:Value} (hu:DV.rel G (bkD b) u) (hx:DV.rel G (evD e) x):Calls Tryz.prog 46 #[u,x] w fun r w'=>∃v,r=.returned v∧R46 b e w G v w':=by
 have g:=Gam.bare (G:=G) (rs:=[.d (bkD b),.d (evD e)]) (β:=fun _=>0) (tm:=#[u,x]) (IH.le.refl G) hw rfl (fun t y hy=>by
  rcases t with _|_|t
  ·simp at hy;subst hy;exact⟨_,rfl,hu⟩
  ·simp at hy;subst hy;exact⟨_,rfl,hx⟩
  ·simp at hy) (fun _=>False)
 refine Calls.of_R Tryz.func46 rfl g ?_
 refine walkRV (orc:={ d:=noO }) follows (fun _=>none) (cuts:=[3]) (n:=1000) ?_
 refine of_eqH2 ((.d (.agg [(di e.kind),(ds e.k.st),(ds e.k.ex),(di e.k.n),(di e.t),(di e.v),(di e.h),(ds e.s),(db e.acc)])):AV) ((.slc 7 b.es.length (enF b.es)):DV) (fun Za Zb=>((((decide (e.t<b.t))=true)→LeafR G (Fr.mk (fun x=>False) fun x=>0) w G (RetR Tryz.prog Tryz.f46 (R46 b e w G)) .ret ⟨regs 211 [(0,(.d (.agg [(di b.t),Zb]))),(1,Za),(2,(.box 2 0)),(3,(.box 3 0)),(4,(.box 4 0)),(5,(vi 2)),(12,(.box 3 4)),(13,(vi e.t)),(14,(.box 2 0)),(15,(vi b.t)),(16,(vb (decide (e.t<b.t)))),(17,(.d (.agg [(di 0),(.con (.slice none 0 0))])))],[(4,[(vi 0),(.d (.con (.slice none 0 0)))]),(3,[(vi e.kind),(vs e.k.st),(vs e.k.ex),(vi e.k.n),(vi e.t),(vi e.v),(vi e.h),(vs e.s),(vb e.acc)]),(2,[(vi b.t),(.d Zb)])]⟩)∧(((decide (e.t<b.t))=false)→AWPR Tryz.prog G (Fr.mk (fun x=>False) fun x=>0) w G [cd Tryz.f46 [1,1]] ⟨regs 211 [(0,(.d (.agg [(di b.t),Zb]))),(1,Za),(2,(.box 2 0)),(3,(.box 3 0)),(4,(.box 4 0)),(5,(vi 0)),(12,(.box 3 4)),(13,(vi e.t)),(14,(.box 2 0)),(15,(vi b.t)),(16,(vb (decide (e.t<b.t))))],[(4,[(vi 0),(.d (.con (.slice none 0 0)))]),(3,[(vi e.kind),(vs e.k.st),(vs e.k.ex),(vi e.k.n),(vi e.t),(vi e.v),(vi e.h),(vs e.s),(vb e.acc)]),(2,[(vi b.t),(.d Zb)])]⟩ (RetR Tryz.prog Tryz.f46 (R46 b e w G))))) (by kernel_rfl) ?_
 refine⟨fun c=>?_,fun c=>?_⟩
 ·have ht:e.t<b.t:=of_decide_eq_true c
  exact f46_no (F:=⟨fun _=>False,fun _=>0⟩) (code:=2) ⟨IH.le.refl _,Kept.refl _ _,fun _ _=>⟨fun _=>rfl,rfl⟩,fun _ hc=>hc.elim⟩ rfl (by unfold appR;rw[if_pos ht]) (by decide)
 have ht:¬e.t<b.t:=of_decide_eq_false c
 refine AWPR.weaken (st':=S46 b e) ?_ ?_
 ·exact AS.leA (by kernel_rfl)
 refine AWPR.seq (a:=cAt (bodyOf Tryz.f46) [1,1,0]) (b:=cAt (bodyOf Tryz.f46) [1,1,1]) (by kernel_rfl) ?_
 refine AWPR.tailX (orc:={ d:=noO }) follows (fun _=>none) 1 (by kernel_rfl) ?_
 refine of_eqH (b:=LeafR G (Fr.mk (fun x=>False) fun x=>0) w G (seqQ Tryz.prog (opsOf (cAt (bodyOf Tryz.f46) [1,1,0])).toList 1 ((opsOf (cAt (bodyOf Tryz.f46) [1,1,0])).toList.length-1) (wpS Tryz.prog [It.code (cAt (bodyOf Tryz.f46) [1,1,1])] (RetR Tryz.prog Tryz.f46 (R46 b e w G)))) .normal ⟨regs 211 [(2,(.box 2 0)),(3,(.box 3 0)),(4,(.box 4 0)),(5,(vi 0)),(18,(.d (.agg [(di b.t),(.slc 7 b.es.length (enF b.es))])))],[(2,[(vi b.t),(.d (.slc 7 b.es.length (enF b.es)))]),(3,[(vi e.kind),(vs e.k.st),(vs e.k.ex),(vi e.k.n),(vi e.t),(vi e.v),(vi e.h),(vs e.s),(vb e.acc)]),(4,[(vi 0),(.d (.con (.slice none 0 0)))])]⟩) (by kernel_rfl) ?_
 intro β3 h3 a3 w3 g3 hd3
 have g4:=g3.weaken (st':=S46o b e) (by refine AS.leZ [] [] (b:=((T0∧T0∧T0∧T0∧T0∧True)∧T0∧T0∧T0∧True)) (by kernel_rfl) (by kernel_rfl) ?_;exact⟨⟨rfl,rfl,rfl,rfl,rfl,trivial⟩,rfl,rfl,rfl,trivial⟩)
 exact f46_K hs (fun h2 w3 w F β V q hh hon hk hle hold=>f46_P q hh hs ht hon hk hle hold (fun k0 hc h β V w on β1 a=>f46_B1 hs k0 hc a) fun k0 i hi h β V w on β1 a=>f46_B2 hs hb ht hf k0 hi (findB_some hi).1 a) _ _ _ _ g4 hd3
theorem h46:H46 G:=by
 intro b e hs hb ok
 refine⟨Tryz.call46,fun w h vs hG hw hr=>?_⟩
 obtain ⟨u,vs1,rfl,r,x,vs2,rfl,r2,hn⟩:=hr
 have hn:vs2=[]:=hn
 subst hn
 refine(f46_W (G:=h) b e hs hb (ok_form ok) hw r r2).mono ?_
 rintro _ w' ⟨v,rfl,u',k,rfl,hu,hle,hkw,hk,hold⟩
 exact⟨_,k,rfl,⟨_,rfl,_,_,rfl,hu,_,_,rfl,rfl,rfl⟩,hle,hkw,hk,hold⟩
end Go.Proofs
namespace Go.Proofs
open Go Go.Ab Go.RowKit
variable {G:IH}
noncomputable def S4 (l:List Ev) (x:Ev) (j:Nat) (b:Bk):AS:=⟨regs Tryz.f4.ntmps [(3,.box 3 0),(4,vb false),(5,.box 5 0),(24,.d (evsD l)),(25,vi l.length),(26,vi j)],[(3,(evL x).map .d),(5,(bkL b).map .d)]⟩
noncomputable def S4n (l:List Ev) (x:Ev):AS:=⟨regs Tryz.f4.ntmps [(3,.box 3 0),(4,vb false),(5,.box 5 0),(24,.d (evsD l)),(25,vi l.length),(26,vi 0)],[(3,(evL x).map .d),(5,[.d (di 0),.d (.con (.slice none 0 0))])]⟩
def orc4D (few:Bool) (b:Bk) (y x:Ev):Oracle:=fun f a=>match f,a with
 | 11,_=>some (db true)
 | 12,[_,.con (.int _ n)]=>some (db (if n=24 then few else fewE [x] 1))
 | 14,_=>some (.tup [bkD (apB okE b y),di (apC okE b y)])
 | 16,_=>some (.tup [bkD (apB okE b y),di (apC okE b y)])
 | 17,_=>some (db true)
 | 18,_=>some (db (okE y))
 | 19,_=>some (db (okE y))
 | 20,_=>some (db (okE x&&(valB okE b&&hasB b.es x)))
 | 21,_=>some (db (okE x&&(valB okE b&&hasB b.es x)))
 | 22,_=>some (di (findI b.es x.k))
 | 23,_=>some (di (findI b.es x.k))
 | _,_=>none
def orc4 (few:Bool) (b:Bk) (y x:Ev):Orc:={ d:=orc4D few b y x,rows:=fun n=>Nat.beq n 19 }
theorem f17s (b:Bk) (h:SzB b.es):FnOK Tryz.prog G 17 [bkD b,bkD b] (db true):=by
 have:=f17 (G:=G) b b h
 rwa [decide_eq_true rfl] at this
theorem f4 (h46:H46 G) (hT:Tab G) (l:List Ev) (x:Ev) (hl:l.length≤9223372036854775807):FnOK Tryz.prog G 4 [evsD l,evD x] (db true):=by
 have h12:=f12 (G:=G) l 24 hl
 cases hf:fewE l 24 with
 | false=>
  refine FnOK.of_body Tryz.func4 rfl Tryz.call4 ?_
  refine walkK (orc:=orc4 false bk0 x x) (keep:=[]) (cuts:=[5]) (n:=1000) follows ?_
  rw[hf] at h12
  refine of_tr (fun ZT ZW ZQ ZK=>(ZK 11 [] (db true)∧((false=true)→(((db false):DV)=(db true)))∧((false=false)→((ZK 12 [(.slc 9 l.length (evF l)),(di 24)] (db (if (24:Int)=(24:Int) then false else fewE [x] (1:Int)))∧(((!!if (24:Int)=(24:Int) then false else fewE [x] (1:Int))=true)→ZK 12 [(db false),(di 1)] (db (if (1:Int)=(24:Int) then false else fewE [x] (1:Int)))))∧((((!if (24:Int)=(24:Int) then false else fewE [x] (1:Int))||!if (1:Int)=(24:Int) then false else fewE [x] (1:Int))=true)→(ZS ((db true):DV)))∧((((!if (24:Int)=(24:Int) then false else fewE [x] (1:Int))||!if (1:Int)=(24:Int) then false else fewE [x] (1:Int))=false)→ZW [cd Tryz.f4 [1,1,1]] (stS ZT [1,1]) ZQ))))) (by kernel_rfl) ?_
  exact⟨f11 hT,fun c=>(by cases c),fun _=>⟨⟨h12,fun c=>(by cases c)⟩,fun _=>rfl,fun c=>(by cases c)⟩⟩
 | true=>
  obtain ⟨l24,lk⟩:=few_l hf
  rw[hf] at h12
  refine FnOK.of_body Tryz.func4 rfl Tryz.call4 ?_
  refine walkK (orc:=orc4 true bk0 x x) (keep:=[]) (cuts:=[]) (n:=1000) follows ?_
  refine of_tr (fun ZT ZW ZQ ZK=>(ZK 11 [] (db true)∧((false=true)→(((db false):DV)=(db true)))∧((false=false)→((ZK 12 [(.slc 9 l.length (evF l)),(di 24)] (db (if (24:Int)=(24:Int) then true else fewE [x] (1:Int)))∧(((!!if (24:Int)=(24:Int) then true else fewE [x] (1:Int))=true)→ZK 12 [(.slc 9 1 (fun i=>elemF true 9 [di x.kind,ds x.k.st,ds x.k.ex,di x.k.n,di x.t,di x.v,di x.h,ds x.s,DV.con (Value.bool x.acc)] (0+i))),(di 1)] (db (if (1:Int)=(24:Int) then true else fewE [x] (1:Int)))))∧((((!if (24:Int)=(24:Int) then true else fewE [x] (1:Int))||!if (1:Int)=(24:Int) then true else fewE [x] (1:Int))=true)→(ZS ((db true):DV)))∧((((!if (24:Int)=(24:Int) then true else fewE [x] (1:Int))||!if (1:Int)=(24:Int) then true else fewE [x] (1:Int))=false)→ZW [cd Tryz.f4 [1,1,1,1,0,1,0],(.blk 0),cd Tryz.f4 [1,1,1,1,1]] (stS ZT [1,1]) ZQ))))) (by kernel_rfl) ?_
  refine⟨f11 hT,fun c=>(by cases c),fun _=>⟨⟨h12,fun _=>f12e x rfl⟩,fun _=>rfl,fun c=>?_⟩⟩
  have hx:fewE [x] 1=true:=by
   cases q:fewE [x] 1 with
   | true=>rfl
   | false=>rw[q] at c;cases c
  obtain ⟨x1,x2⟩:=few_one hx
  refine AWP.weaken (st':=S4n l x) ?_ ?_
  ·exact AS.leA (by kernel_rfl)
  refine AWP.pre (.cell _ 5 1 (.d (ensD [])) (l:=[.d (di 0),.d (.con (.slice none 0 0))]) rfl rfl rfl fun β h v hv=>?_) ?_
  ·have hv:v=.slice none 0 0:=hv
   subst hv
   exact⟨none,0,rfl,Nat.le_refl _,.inl rfl⟩
  refine AWP.loop (c:=cAt (bodyOf Tryz.f4) [1,1,1,1,0,1,0,0]) (by kernel_rfl) (fun j=>S4 l x j (mkB okE (l.take j))) (fun j=>j≤l.length) (fun j=>l.length-j) 0 ?_ (Nat.zero_le _) ?_
  ·exact AS.leA (by kernel_rfl)
  intro j hj
  have hv:=mk_valE (l.take j)
  by_cases h2:j<l.length
  ·have hz:=lk _ (getD_memE h2)
   have hS:=mkB_succ h2
   generalize mkB okE (l.take j)=b at hv hS⊢
   generalize hy:l.getD j ev0=y at hz hS
   refine walkK (orc:=orc4 true b y x) (keep:=[]) (cuts:=[]) (n:=1000) follows ?_
   refine of_rd (fun ZT ZW ZQ ZK ZA _=>(fun Za Zb=>((((decide ((↑j:Int)<↑l.length))=true)→(((0≤(↑j:Int))∧((↑j:Int)<↑l.length))∧ZK 14 [(.agg [(di b.t),(.slc 7 b.es.length (enF b.es))]),Za] (.tup [Zb,(di (apC okE b y))])∧ZK 16 [(.agg [(di b.t),(.slc 7 b.es.length (enF b.es))]),Za] (.tup [Zb,(di (apC okE b y))])∧((((!apC okE b y != apC okE b y)=true)→ZK 17 [Zb,Zb] (db true))∧(((!(apC okE b y != apC okE b y||!true))=true)→ZK 18 [Za] (db (okE y)))∧(((!(apC okE b y != apC okE b y||!true))=true)→ZK 19 [Za] (db (okE y))))∧(((apC okE b y != apC okE b y||!true||!okE y==okE y)=true)→(((db false):DV)=(db true)))∧(((apC okE b y != apC okE b y||!true||!okE y==okE y)=false)→((((apC okE b y==0)=true)→((I64 (↑j+1))∧(ZA (stS ZT [0,1,0]))))∧(((apC okE b y==0)=false)→((I64 (↑j+1))∧(ZA (stS ZT [0,1,1]))))))))∧(((decide ((↑j:Int)<↑l.length))=false)→ZW [cd Tryz.f4 [1,1,1,1,1]] (stS ZT [1]) ZQ))) ((.agg [(di (l.getD (↑j:Int).toNat ev0).kind),(ds (l.getD (↑j:Int).toNat ev0).k.st),(ds (l.getD (↑j:Int).toNat ev0).k.ex),(di (l.getD (↑j:Int).toNat ev0).k.n),(di (l.getD (↑j:Int).toNat ev0).t),(di (l.getD (↑j:Int).toNat ev0).v),(di (l.getD (↑j:Int).toNat ev0).h),(ds (l.getD (↑j:Int).toNat ev0).s),(db (l.getD (↑j:Int).toNat ev0).acc)]):DV) ((.agg [(di (apB okE b y).t),(.slc 7 (apB okE b y).es.length (enF (apB okE b y).es))]):DV)) (by kernel_rfl) ?_
   try dsimp only
   rw[show ((j:Int)).toNat=j from rfl,hy]
   have hb:=bkS_val hv
   have hab:SzB (apB okE b y).es:=by
    unfold apB
    split
    ·rename_i c
     exact(bkS_val (ap_val (fun _=>ok_form) c).2.2.2).sz
    ·exact⟨Nat.zero_le _,fun i hi=>by cases hi⟩
   have hne:(apC okE b y != apC okE b y)=false:=by simp
   have hne2:(okE y==okE y)=true:=by cases okE y<;>rfl
   rw[hne,hne2]
   refine⟨fun _=>⟨⟨by omega,by omega⟩,f14 b y hb hz.1 hz.2,f16 h46 b y hb hz.1 hz.2,⟨fun _=>f17s _ hab,fun _=>f18 y hz.1 hz.2,fun _=>f19 y hz.1 hz.2⟩,fun c=>(by cases c),fun _=>⟨fun c=>⟨⟨by omega,by omega⟩,Again.mk (j+1) ?_ h2 (by omega)⟩,fun c=>⟨⟨by omega,by omega⟩,Again.mk (j+1) ?_ h2 (by omega)⟩⟩⟩,fun hd=>absurd (of_decide_eq_false hd) (by omega)⟩
   ·have c:apC okE b y=0:=by simpa using c
    have hB:mkB okE (l.take (j+1))=apB okE b y:=by
     rw[hS]
     unfold mkS apB
     rw[if_pos c,if_pos c]
    refine AS.leZ [] [1] (b:=((T0∧T0∧T0∧T0∧T0∧T0∧True)∧T0∧((some [(vi (apB okE b y).t),(.d (.slc 7 (apB okE b y).es.length (enF (apB okE b y).es)))]):(Option (List AV)))=(some [(vi (mkB okE (List.take (j+1) l)).t),(.d (.slc 7 (mkB okE (List.take (j+1) l)).es.length (enF (mkB okE (List.take (j+1) l)).es)))])∧True)) (by kernel_rfl) (by kernel_rfl) ?_
    rw[hB]
    exact⟨⟨rfl,rfl,rfl,rfl,rfl,rfl,trivial⟩,rfl,rfl,trivial⟩
   ·have c:apC okE b y≠0:=by simpa using c
    have hB:mkB okE (l.take (j+1))=b:=by
     rw[hS]
     unfold mkS
     rw[if_neg c]
    refine AS.leZ [] [1] (b:=((T0∧T0∧T0∧T0∧T0∧T0∧True)∧T0∧((some [(vi b.t),(.d (.slc 7 b.es.length (enF b.es)))]):(Option (List AV)))=(some [(vi (mkB okE (List.take (j+1) l)).t),(.d (.slc 7 (mkB okE (List.take (j+1) l)).es.length (enF (mkB okE (List.take (j+1) l)).es)))])∧True)) (by kernel_rfl) (by kernel_rfl) ?_
    rw[hB]
    exact⟨⟨rfl,rfl,rfl,rfl,rfl,rfl,trivial⟩,rfl,rfl,trivial⟩
  ·obtain rfl:j=l.length:=by omega
   rw[List.take_length] at hv⊢
   generalize mkB okE l=b at hv⊢
   refine walkK (orc:=orc4 true b x x) (keep:=[]) (cuts:=[8]) (n:=1000) follows ?_
   refine of_rd (fun ZT ZW ZQ _ _ ZR=>((((decide ((↑l.length:Int)<↑l.length))=true)→ZW [cd Tryz.f4 [1,1,1,1,0,1,0,0,1,1,0,0],(.blk 1),cd Tryz.f4 [1,1,1,1,0,1,0,0,1,1,1]] (stS ZT [0]) ZR)∧(((decide ((↑l.length:Int)<↑l.length))=false)→ZW [cd Tryz.f4 [1,1,1,1,1]] (stS ZT [1]) ZQ))) (by kernel_rfl) ?_
   refine⟨fun hd=>absurd (of_decide_eq_true hd) (by omega),fun _=>?_⟩
   refine walkK (orc:=orc4 true b x x) (keep:=[]) (cuts:=[]) (n:=1000) follows ?_
   refine of_tr (fun _ _ _ ZK=>(fun Za Zb Zc=>((ZK 20 [Zb,Zc] (db Za)∧ZK 21 [Zb,Zc] (db Za)∧(((Za==Za)=true)→ZK 22 [Zb,(.agg [(ds x.k.st),(ds x.k.ex),(di x.k.n)])] (di (findI b.es x.k)))∧(((Za==Za)=true)→ZK 23 [Zb,(.agg [(ds x.k.st),(ds x.k.ex),(di x.k.n)])] (di (findI b.es x.k))))∧((db (Za==Za&&findI b.es x.k==findI b.es x.k)):DV)=(db true))) (okE x&&(valB okE b&&hasB b.es x)) ((.agg [(di b.t),(.slc 7 b.es.length (enF b.es))]):DV) ((.agg [(di x.kind),(ds x.k.st),(ds x.k.ex),(di x.k.n),(di x.t),(di x.v),(di x.h),(ds x.s),(db x.acc)]):DV)) (by kernel_rfl) ?_
   try dsimp only
   have hb:=bkS_val hv
   refine⟨⟨f20 b x hb x1 x2,f21 h46 b x hb x1 x2,fun _=>f22 b x.k hb.sz.1,fun _=>f23 b x.k hb.sz.1⟩,congrArg db ?_⟩
   simp
end Go.Proofs
namespace Go.Proofs.YtflgdeobcgmgnaaGreatDoor
open Go Go.Ab Go.ChangeShapes Go.WideShapes Go.ChangeAt Go.RowKit
theorem own:ownKnob Tryz.prog.godebug=none:=by kernel_rfl
theorem laidOut:laidOutB Tryz.prog=true:=by kernel_rfl
theorem gPow : Tryz.prog.globalNamed "internal/strconv.uint64pow10" = some 2 := by kernel_rfl
theorem tPow:(Tryz.prog.globals[2]?).map (·.type)=some 185:=by kernel_rfl
theorem laidVars_get {P:Program} {W:World}:∀{l:List (String×DataW Unit)} {ps:List MemPlace},DataW.LaidVars P W l ps→
  ∀{i:Nat} {n:String} {d:DataW Unit},l[i]?=some (n,d)→∃g t cs fuel p,P.globalNamed n=some g∧(P.globals[g]?).map (·.type)=some t∧W.var? P n=some cs∧DataW.trod (fun _=>()) P W 0 (fun _=>true) false fuel t cs.toList=some (d,p)
 | [],ps,h,i,n,d,h1=>by simp at h1
 | (m,e) :: l,ps,⟨g,t,cs,fuel,p,q,a1,a2,a3,a4,a5,a6⟩,i,n,d,h1=>by
  cases i with
  | zero=>
   simp at h1;obtain ⟨rfl,rfl⟩:=h1
   exact⟨g,t,cs,fuel,p,a1,a2,a3,a4⟩
  | succ i=>exact laidVars_get a5 (i:=i) (by simpa using h1)
theorem tab_of_laid {laid : List (String × DataW Unit)} {W : World} (h : laidMetH Tryz.prog laid W) (hm : laidMetH Tryz.prog laid W = laidMet Tryz.prog laid W) {i : Nat} (hi : laid[i]? = some ("internal/strconv.uint64pow10", Rows.laid_internal_strconv_uint64pow10)) : Tab (allOf W) := by
 rw[hm] at h
 obtain ⟨ps,h,_⟩:=h
 obtain ⟨g2,t2,cs2,f2,p2,hg2,ht2,hv2,hd2⟩:=laidVars_get h hi
 obtain rfl:=Option.some.inj (gPow.symm.trans hg2)
 obtain rfl:=Option.some.inj (tPow.symm.trans ht2)
 have hT : Lib.TabIs Tryz.prog W "internal/strconv.uint64pow10" .u64 Lib.pow10Tab := by
  unfold Lib.TabIs
  rw[hv2,←Lib.cells_of_tab Tryz.underlying185 (by kernel_rfl) (by kernel_rfl) (by kernel_rfl) (k:=.u64) (zs:=Lib.pow10Tab) hd2]
 intro w hw
 unfold Lib.TabIs at hT⊢
 rw[←hT]
 unfold World.var? at hT⊢
 rw[gPow] at hT⊢
 simp only[Option.bind_some] at hT⊢
 cases ho:W.heap[2]? with
 | none=>rw[ho] at hT;cases hT
 | some o=>rw[hw.2 2 o ho]
end Go.Proofs.YtflgdeobcgmgnaaGreatDoor
