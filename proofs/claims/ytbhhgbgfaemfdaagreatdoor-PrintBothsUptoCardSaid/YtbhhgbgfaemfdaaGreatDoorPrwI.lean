/- The walk of awake of chapter 09. -/
import Derived.BigRegion
import Derived.Test.YtbhhgbgfaemfdaaGreatDoorPrwD
import Derived.Test.YtbhhgbgfaemfdaaGreatDoorPrwG
namespace Go.Proofs.YtbhhgbgfaemfdaaGreatDoor
set_option maxRecDepth 100000
set_option maxHeartbeats 4000000
open Go.RowKit
attribute [local go_sem] Oper.semAt_some
def aw9T:Bs:=[116,97,103,115,32,97,59]
def aw9P:Pol:=⟨[[97]],[],[],[],[],[],false,64,32,1024⟩
def aw9X:Bs:=[116,97,103,115,32,97,59,10,114,101,108,97,116,105,118,101,32,110,111,59,10,108,105,109,105,116,32,100,101,112,116,104,32,54,52,59,10,108,105,109,105,116,32,110,97,109,101,32,51,50,59,10,108,105,109,105,116,32,118,97,108,117,101,32,49,48,50,52,59,10]
theorem zx2:zbf aw9T= .ok aw9P:=by kernel_rfl
theorem zx1:zbu aw9P=true:=by decide+kernel
theorem zr9:txP aw9P=aw9X:=by decide+kernel
theorem zt7:zlx aw9P aw9P=true:=by decide+kernel
theorem z0b:zix aw9P:=by
 refine⟨⟨by decide,by decide,by decide,by decide,by decide,by decide⟩,⟨fun k _ t ht=> ?_,fun a h=>(by cases h),fun a h=>(by cases h)⟩,fun _=>by rw[zr9];decide⟩
 have:t=[97]:=by
  match k with
  |0=>simpa[l4,aw9P]using ht
  |1=>simp[l4,aw9P]at ht
  |2=>simp[l4,aw9P]at ht
  |k+3=>simp[l4,aw9P]at ht
 rw[this];decide
theorem z16:txV aw9P= .tuple #[.string ⟨aw9X.toArray⟩,.int .i64 0]:=by
 unfold txV
 rw[zx1,zr9]
 rfl
theorem zkc (w:World) (hT:Ten w):Calls Tryz.prog 29 #[] w (Ret (.bool true) w):=by
 have HP:=Lib.hid (fun W=>show Calls Tryz.prog 33 #[.string ⟨#[116,97,103,115,32,97,59]⟩] W fun e w'=>Below W.heap.size W w'/\ ∃v,e= .returned (.tuple #[v,.int .i64 0,.int .i64 0])/\PolV w' (fun b=>b<W.heap.size) v aw9P from by
  refine(zjp aw9T W).mono fun e w' h=> ?_
  unfold zce at h
  rw[zx2]at h
  exact h)
 have HTn:=Lib.hid hT
 clear hT
 go_enter Tryz.func29,Tryz.ntmps29
 go_upto_region 2 with(go_at_call 33;(with_reducible refine(HP.out _).mono ?_);rintro e W1 ⟨hb1,v,rfl,hv⟩;have HB1:=Lib.hid hb1;have HV:=Lib.hid hv;obtain⟨v0,v1,v2,v3,v4,v5,rfl,⟨A0,k0,rfl,n0,r0,_⟩,⟨A1,k1,rfl,_⟩,⟨A2,k2,rfl,_⟩,⟨A3,k3,rfl,_⟩,⟨A4,k4,rfl,_⟩,⟨A5,k5,rfl,_⟩⟩:=hv;clear hb1)
 refine zaf fun W2 hW2=> ?_
 have hb2:Below W1.heap.size W1 W2:=by rw[hW2];exact bel
 obtain⟨B,hB⟩: ∃B,W1.heap.size=B:=⟨_,rfl⟩
 rw[hB]
 have c0:W2.cell? ⟨B,0,none⟩=some (.slice A0 1 k0):=by rw[hW2,<-hB];simp[go_sem];rfl
 have c1:W2.cell? ⟨B,1,none⟩=some (.slice A1 0 k1):=by rw[hW2,<-hB];simp[go_sem];rfl
 have c2:W2.cell? ⟨B,2,none⟩=some (.slice A2 0 k2):=by rw[hW2,<-hB];simp[go_sem];rfl
 have c3:W2.cell? ⟨B,3,none⟩=some (.slice A3 0 k3):=by rw[hW2,<-hB];simp[go_sem];rfl
 have c4:W2.cell? ⟨B,4,none⟩=some (.slice A4 0 k4):=by rw[hW2,<-hB];simp[go_sem];rfl
 have c5:W2.cell? ⟨B,5,none⟩=some (.slice A5 0 k5):=by rw[hW2,<-hB];simp[go_sem];rfl
 have c6:W2.cell? ⟨B,6,none⟩=some (.bool false):=by rw[hW2,<-hB];simp[go_sem];rfl
 have c7:W2.cell? ⟨B,7,none⟩=some (.int .i64 64):=by rw[hW2,<-hB];simp[go_sem];rfl
 have c8:W2.cell? ⟨B,8,none⟩=some (.int .i64 32):=by rw[hW2,<-hB];simp[go_sem];rfl
 have c9:W2.cell? ⟨B,9,none⟩=some (.int .i64 1024):=by rw[hW2,<-hB];simp[go_sem];rfl
 have HB2:=Lib.hid (HB1.out.trans (hb2.mono HB1.out.size))
 have HV2:=Lib.hid (fun W (hb:Below W2.heap.size W2 W)=>((HV.out.below hb2).mono (bad':=fun _=>False) (fun _ _ h=>h.elim)).below hb)
 have hBl:B<W2.heap.size:=World.block_lt_of_cell? W2 _ c0
 have HX:=Lib.hid (fun W (hb:Below W2.heap.size W2 W)=>show Calls Tryz.prog 31 #[.agg #[.slice A0 1 k0,.slice A1 0 k1,.slice A2 0 k2,.slice A3 0 k3,.slice A4 0 k4,.slice A5 0 k5,.bool false,.int .i64 64,.int .i64 32,.int .i64 1024]] W (Ret (.tuple #[.string ⟨aw9X.toArray⟩,.int .i64 0]) W)from by
  have h9:=zn8 _ aw9P W (HTn.out.below (HB2.out.trans (hb.mono HB2.out.size))) (HV2.out W hb) z0b
  rw[z16]at h9
  exact h9)
 have HY:=Lib.hid (fun W (hb:Below W2.heap.size W2 W)=>show Calls Tryz.prog 35 #[.agg #[.slice A0 1 k0,.slice A1 0 k1,.slice A2 0 k2,.slice A3 0 k3,.slice A4 0 k4,.slice A5 0 k5,.bool false,.int .i64 64,.int .i64 32,.int .i64 1024],.agg #[.slice A0 1 k0,.slice A1 0 k1,.slice A2 0 k2,.slice A3 0 k3,.slice A4 0 k4,.slice A5 0 k5,.bool false,.int .i64 64,.int .i64 32,.int .i64 1024]] W (Ret (.bool true) W)from by
  have h9:=zo8 _ _ aw9P aw9P W (HV2.out W hb) (HV2.out W hb)
  rw[zt7]at h9
  exact h9)
 have hq:((⟨aw9X.toArray⟩:ByteArray).toList==[116,97,103,115,32,97,59,10,114,101,108,97,116,105,118,101,32,110,111,59,10,108,105,109,105,116,32,100,101,112,116,104,32,54,52,59,10,108,105,109,105,116,32,110,97,109,101,32,51,50,59,10,108,105,109,105,116,32,118,97,108,117,101,32,49,48,50,52,59,10])=true:=by
  rw[zbj];exact decide_eq_true rfl
 clear hW2 HV r0 hb2 HB1 HP HTn
 generalize(⟨aw9X.toArray⟩:ByteArray)=tx at*
 go_upto_region 3 with(go_at_call 31;(with_reducible refine(HX.out _ bel).mono ?_);rintro e W3 ⟨rfl,X3,rfl⟩)
 go_wp2_with(go_at_call 35;(with_reducible refine(Ret.flat (HY.out _ bel)).mono ?_);rintro e W4 ⟨rfl,X4,rfl⟩)
 go_ret
 exact Ret.of rfl (HB2.out.trans ((bel:Below W2.heap.size W2 _).mono HB2.out.size))
end Go.Proofs.YtbhhgbgfaemfdaaGreatDoor

