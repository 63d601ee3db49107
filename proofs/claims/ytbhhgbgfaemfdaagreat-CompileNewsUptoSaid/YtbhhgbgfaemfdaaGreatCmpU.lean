/- The walk of alike of chapter 10: rules tell what the reference's rules of that policy tell. (written by gen_alike.py) -/
import Derived.BigRegion
import Derived.Test.YtbhhgbgfaemfdaaGreatCmpT
import Derived.Test.YtbhhgbgfaemfdaaGreatCmpM
namespace Go.Proofs.YtbhhgbgfaemfdaaGreat
open Go.RowKit
attribute [local go_sem] Oper.semAt_some
def askL (p:Pol) (s t:Bs):List Bs:=[s,t]++p.tags++p.drops++p.css
theorem ask_len {p:Pol} {s t:Bs} (hw:PolWd p) (hs:s.length<=200) (ht:t.length<=200) {x:Bs} (hx:x∈askL p s t):x.length<=200:=by
 unfold askL at hx
 simp only[List.mem_append,List.mem_cons,List.not_mem_nil,or_false]at hx
 rcases hx with(((rfl|rfl)|h)|h)|h
 ·exact hs
 ·exact ht
 ·have:=hw.tags x h;omega
 ·have:=hw.drops x h;omega
 ·have:=hw.css x h;omega
set_option maxRecDepth 100000 in
set_option maxHeartbeats 16000000 in
theorem alike_any (g gx:Nat) (p:Pol) (s t:Bs) (w:World) (h:RulesV w g p) (hx:RefV w gx p) (hwd:PolWd p) (hfew:p.tags.length<=200/\p.drops.length<=200/\p.css.length<=200/\p.forces.length<=200) (hs:s.length<=200) (ht:t.length<=200):
  Calls Tryz.prog 21 #[.pointer (some ⟨g,0,none⟩),.pointer (some ⟨gx,0,none⟩),sv s,sv t] w (Ret (.bool true) w):=by
 have hmx:Tryz.prog.follows .mixedOrders=true:=by kernel_rfl
 have HR:=Lib.hid (fun W (hb:Below w.heap.size w W)=>h.below hb)
 have HX:=Lib.hid (fun W (hb:Below w.heap.size w W)=>hx.below hb)
 have HL:=Lib.hid (limits10_any g p w h)
 have HRe:=Lib.hid (fun W (hb:Below w.heap.size w W)=>relative_any g p W (h.below hb))
 have HAk:=Lib.hid (fun x (hx:x∈askL p s t)=>ask_len hwd hs ht hx)
 have HFw:=Lib.hid hfew.2.2.2
 have hls:s.length<=maxLen:=by unfold maxLen;omega
 have hlt:t.length<=maxLen:=by unfold maxLen;omega
 obtain⟨v0,v1,v2,v3,v4,v5,⟨_,_,_,_,_,_,e,⟨A0,k0,rfl,n0,h0,_⟩,_,⟨A2,k2,rfl,n2,h2,_⟩,⟨A3,k3,rfl,n3,h3,_⟩,⟨A4,k4,rfl,_⟩,⟨A5,k5,rfl,_⟩⟩,hc⟩:=hx
 cases e
 have x0:=hc 0 _ rfl
 have x2:=hc 2 _ rfl
 have x3:=hc 3 _ rfl
 have x6:=hc 6 _ rfl
 have x7:=hc 7 _ rfl
 have x8:=hc 8 _ rfl
 have x9:=hc 9 _ rfl
 have hl:=World.block_lt_of_cell? w _ x0
 have hlg:=h.lt
 have b0:fN p 0<=200:=hfew.1
 have b3:fN p 3<=200:=hfew.2.1
 have b2:fN p 2<=200:=hfew.2.2.1
 have HN0:=Lib.hid (fun W (hb:Below w.heap.size w W)=>news_rd h0 n0.1 hb)
 have HN2:=Lib.hid (fun W (hb:Below w.heap.size w W)=>news_rd h2 n2.1 hb)
 have HN3:=Lib.hid (fun W (hb:Below w.heap.size w W)=>news_rd h3 n3.1 hb)
 have HZ0:=Lib.hid h0.1
 have HZ2:=Lib.hid h2.1
 have HZ3:=Lib.hid h3.1
 have HSv:Hid (sv s= .string ⟨s.toArray⟩/\sv t= .string ⟨t.toArray⟩):=⟨rfl,rfl⟩
 have HAs:=Lib.hid (fun W x (hb:Below w.heap.size w W) (hx:x.length<=maxLen)=>show Calls Tryz.prog 16 #[.pointer (some ⟨g,0,none⟩),.string ⟨s.toArray⟩,sv x] W (Ret (.bool (attrR p s x)) W)from attr_any g p s x W (h.below hb) hls hx)
 have HAt:=Lib.hid (fun W x (hb:Below w.heap.size w W) (hx:x.length<=maxLen)=>show Calls Tryz.prog 16 #[.pointer (some ⟨g,0,none⟩),sv x,.string ⟨t.toArray⟩] W (Ret (.bool (attrR p x t)) W)from attr_any g p x t W (h.below hb) hx hlt)
 have HBs:=Lib.hid (fun W x (hb:Below w.heap.size w W)=>show Calls Tryz.prog 45 #[.pointer (some ⟨gx,0,none⟩),.string ⟨s.toArray⟩,sv x] W (Ret (.bool (attrR p s x)) W)from rattr_any gx p s x W (HX.out W hb))
 have HBt:=Lib.hid (fun W x (hb:Below w.heap.size w W)=>show Calls Tryz.prog 45 #[.pointer (some ⟨gx,0,none⟩),sv x,.string ⟨t.toArray⟩] W (Ret (.bool (attrR p x t)) W)from rattr_any gx p x t W (HX.out W hb))
 have HLi:Hid ([Value.string ⟨s.toArray⟩,.string ⟨t.toArray⟩]++fC p 0++fC p 3++fC p 2=(askL p s t).map sv):=by
  show _=_
  unfold askL
  simp[fC,sv]
 have HLn:Hid (2+fN p 0+fN p 3+fN p 2=(askL p s t).length):=by
  show _=_
  unfold askL
  simp[fN];omega
 clear hc h0 h2 h3 n0 n2 n3 h hwd hfew hs ht hls hlt
 generalize askL p s t=L at*
 unfold sv
 generalize(⟨s.toArray⟩:ByteArray)=sb at*
 generalize(⟨t.toArray⟩:ByteArray)=tb at*
 generalize p.rel=rl at*
 generalize p.depth=dp at*
 generalize p.name=nm at*
 generalize p.value=vl at*
 go_enter Tryz.func21,Tryz.ntmps21
 go_upto_region 2 with(go_at_call 10;(with_reducible refine HL.out.mono ?_);rintro e W1 ⟨rfl,X1,hX1⟩;have hb1:Below w.heap.size w W1:=(by rw[hX1];exact bel);have HB1:=Lib.hid hb1;clear hX1 hb1)
 have hS0:Below w.heap.size w W1.drew:=HB1.out.trans ((bel:Below W1.heap.size W1 _).mono HB1.out.size)
 refine wp_region_row 34 [(0,true),(1,true),(2,true),(3,true),(4,true),(5,true),(6,true),(7,true),(8,true),(9,true),(10,true),(11,true),(12,true),(13,true),(14,true),(15,true),(16,true),(17,true),(18,true),(19,true),(20,true),(21,true),(22,true),(23,true),(24,true),(25,true),(26,true),(28,true),(29,true),(30,true),(31,true),(32,true),(27,false),(33,true)] (fun V=>Below w.heap.size w V) hmx (by kernel_rfl) (by kernel_rfl) (by kernel_rfl) (by decide) rfl (fun c a d v w h=>by first|exact h|(obtain⟨x,y⟩:=(h:_/\_);cases d<;>exact⟨x,y⟩)) (by kernel_rfl) (by exact hS0) ?_
 refine wpRow_readD (v:= .int .i64 dp) 22 rfl rfl rfl (fun W hW=>by simp[execOp,go_sem]) ?_
 simp only[Act.put,List.setIfInBounds_toArray,List.set_cons_succ,List.set_cons_zero]
 refine wpRow_readD (v:= .pointer (some ⟨gx,0,none⟩)) 23 rfl rfl rfl (fun W hW=>by simp[execOp,go_sem]) ?_
 simp only[Act.put,List.setIfInBounds_toArray,List.set_cons_succ,List.set_cons_zero]
 refine wpRow_readD (v:= .pointer (some ⟨gx,0,none⟩)) 24 rfl rfl rfl (fun W hW=>by simp[execOp,go_sem]) ?_
 simp only[Act.put,List.setIfInBounds_toArray,List.set_cons_succ,List.set_cons_zero]
 refine wpRow_readD (v:= .pointer (some ⟨gx,0,none⟩)) 25 rfl rfl rfl (fun W hW=>by simp[execOp,go_sem]) ?_
 simp only[Act.put,List.setIfInBounds_toArray,List.set_cons_succ,List.set_cons_zero]
 refine wpRow_readD (v:= .pointer (some ⟨gx,7,none⟩)) 26 rfl rfl rfl (fun W hW=>by simp[execOp,go_sem]) ?_
 simp only[Act.put,List.setIfInBounds_toArray,List.set_cons_succ,List.set_cons_zero]
 refine wpRow_readD (v:= .int .i64 dp) 27 rfl rfl rfl (fun W hW=>by have q:=(hW.cell (p:=⟨gx,7,none⟩) hl).trans x7;simp[execOp,go_sem,q]) ?_
 simp only[Act.put,List.setIfInBounds_toArray,List.set_cons_succ,List.set_cons_zero]
 refine wpRow_readD (v:= .bool false) 28 rfl rfl rfl (fun W hW=>by simp[execOp,go_sem]) ?_
 simp only[Act.put,List.setIfInBounds_toArray,List.set_cons_succ,List.set_cons_zero]
 refine wpRow_readD (v:= .bool false) 29 rfl rfl rfl (fun W hW=>by simp[execOp,go_sem]) ?_
 simp only[Act.put,List.setIfInBounds_toArray,List.set_cons_succ,List.set_cons_zero]
 refine wpRow_readD (v:= .int .i64 nm) 30 rfl rfl rfl (fun W hW=>by simp[execOp,go_sem]) ?_
 simp only[Act.put,List.setIfInBounds_toArray,List.set_cons_succ,List.set_cons_zero]
 refine wpRow_readD (v:= .pointer (some ⟨gx,0,none⟩)) 31 rfl rfl rfl (fun W hW=>by simp[execOp,go_sem]) ?_
 simp only[Act.put,List.setIfInBounds_toArray,List.set_cons_succ,List.set_cons_zero]
 refine wpRow_readD (v:= .pointer (some ⟨gx,0,none⟩)) 32 rfl rfl rfl (fun W hW=>by simp[execOp,go_sem]) ?_
 simp only[Act.put,List.setIfInBounds_toArray,List.set_cons_succ,List.set_cons_zero]
 refine wpRow_readD (v:= .pointer (some ⟨gx,0,none⟩)) 33 rfl rfl rfl (fun W hW=>by simp[execOp,go_sem]) ?_
 simp only[Act.put,List.setIfInBounds_toArray,List.set_cons_succ,List.set_cons_zero]
 refine wpRow_readD (v:= .pointer (some ⟨gx,8,none⟩)) 34 rfl rfl rfl (fun W hW=>by simp[execOp,go_sem]) ?_
 simp only[Act.put,List.setIfInBounds_toArray,List.set_cons_succ,List.set_cons_zero]
 refine wpRow_readD (v:= .int .i64 nm) 35 rfl rfl rfl (fun W hW=>by have q:=(hW.cell (p:=⟨gx,8,none⟩) hl).trans x8;simp[execOp,go_sem,q]) ?_
 simp only[Act.put,List.setIfInBounds_toArray,List.set_cons_succ,List.set_cons_zero]
 refine wpRow_readD (v:= .bool false) 36 rfl rfl rfl (fun W hW=>by simp[execOp,go_sem]) ?_
 simp only[Act.put,List.setIfInBounds_toArray,List.set_cons_succ,List.set_cons_zero]
 refine wpRow_readD (v:= .bool false) 37 rfl rfl rfl (fun W hW=>by simp[execOp,go_sem]) ?_
 simp only[Act.put,List.setIfInBounds_toArray,List.set_cons_succ,List.set_cons_zero]
 refine wpRow_readD (v:= .bool false) 38 rfl rfl rfl (fun W hW=>by simp[execOp,go_sem]) ?_
 simp only[Act.put,List.setIfInBounds_toArray,List.set_cons_succ,List.set_cons_zero]
 refine wpRow_readD (v:= .int .i64 vl) 39 rfl rfl rfl (fun W hW=>by simp[execOp,go_sem]) ?_
 simp only[Act.put,List.setIfInBounds_toArray,List.set_cons_succ,List.set_cons_zero]
 refine wpRow_readD (v:= .pointer (some ⟨gx,0,none⟩)) 40 rfl rfl rfl (fun W hW=>by simp[execOp,go_sem]) ?_
 simp only[Act.put,List.setIfInBounds_toArray,List.set_cons_succ,List.set_cons_zero]
 refine wpRow_readD (v:= .pointer (some ⟨gx,0,none⟩)) 41 rfl rfl rfl (fun W hW=>by simp[execOp,go_sem]) ?_
 simp only[Act.put,List.setIfInBounds_toArray,List.set_cons_succ,List.set_cons_zero]
 refine wpRow_readD (v:= .pointer (some ⟨gx,0,none⟩)) 42 rfl rfl rfl (fun W hW=>by simp[execOp,go_sem]) ?_
 simp only[Act.put,List.setIfInBounds_toArray,List.set_cons_succ,List.set_cons_zero]
 refine wpRow_readD (v:= .pointer (some ⟨gx,9,none⟩)) 43 rfl rfl rfl (fun W hW=>by simp[execOp,go_sem]) ?_
 simp only[Act.put,List.setIfInBounds_toArray,List.set_cons_succ,List.set_cons_zero]
 refine wpRow_readD (v:= .int .i64 vl) 44 rfl rfl rfl (fun W hW=>by have q:=(hW.cell (p:=⟨gx,9,none⟩) hl).trans x9;simp[execOp,go_sem,q]) ?_
 simp only[Act.put,List.setIfInBounds_toArray,List.set_cons_succ,List.set_cons_zero]
 refine wpRow_readD (v:= .bool false) 45 rfl rfl rfl (fun W hW=>by simp[execOp,go_sem]) ?_
 simp only[Act.put,List.setIfInBounds_toArray,List.set_cons_succ,List.set_cons_zero]
 refine wpRow_readD (v:= .bool false) 46 rfl rfl rfl (fun W hW=>by simp[execOp,go_sem]) ?_
 simp only[Act.put,List.setIfInBounds_toArray,List.set_cons_succ,List.set_cons_zero]
 refine wpRow_readD (v:= .bool false) 47 rfl rfl rfl (fun W hW=>by simp[execOp,go_sem]) ?_
 simp only[Act.put,List.setIfInBounds_toArray,List.set_cons_succ,List.set_cons_zero]
 refine wpRow_readD (v:= .pointer (some ⟨g,0,none⟩)) 48 rfl rfl rfl (fun W hW=>by simp[execOp,go_sem]) ?_
 simp only[Act.put,List.setIfInBounds_toArray,List.set_cons_succ,List.set_cons_zero]
 refine wpRow_readD (v:= .pointer (some ⟨gx,0,none⟩)) 50 rfl rfl rfl (fun W hW=>by simp[execOp,go_sem]) ?_
 simp only[Act.put,List.setIfInBounds_toArray,List.set_cons_succ,List.set_cons_zero]
 refine wpRow_readD (v:= .pointer (some ⟨gx,0,none⟩)) 51 rfl rfl rfl (fun W hW=>by simp[execOp,go_sem]) ?_
 simp only[Act.put,List.setIfInBounds_toArray,List.set_cons_succ,List.set_cons_zero]
 refine wpRow_readD (v:= .pointer (some ⟨gx,0,none⟩)) 52 rfl rfl rfl (fun W hW=>by simp[execOp,go_sem]) ?_
 simp only[Act.put,List.setIfInBounds_toArray,List.set_cons_succ,List.set_cons_zero]
 refine wpRow_readD (v:= .pointer (some ⟨gx,6,none⟩)) 53 rfl rfl rfl (fun W hW=>by simp[execOp,go_sem]) ?_
 simp only[Act.put,List.setIfInBounds_toArray,List.set_cons_succ,List.set_cons_zero]
 refine wpRow_readD (v:= .bool rl) 54 rfl rfl rfl (fun W hW=>by have q:=(hW.cell (p:=⟨gx,6,none⟩) hl).trans x6;simp[execOp,go_sem,q]) ?_
 simp only[Act.put,List.setIfInBounds_toArray,List.set_cons_succ,List.set_cons_zero]
 refine wpRow_op rfl rfl fun Kc hKc=> ?_
 unfold Oper.wp
 simp[execOp,go_sem]
 refine(HRe.out _ hS0).mono ?_
 rintro e W2 ⟨rfl,X2,hX2⟩;have hk2:Below w.heap.size w W2:=hS0.trans ((show Below W1.drew.heap.size W1.drew W2 by rw[hX2];exact bel).mono hS0.size);clear hX2
 show Kc _ _
 apply hKc
 refine⟨hk2, ?_⟩
 try simp only[Act.put,List.setIfInBounds_toArray,List.set_cons_succ,List.set_cons_zero]
 refine wpRow_readD (v:= .bool false) 55 rfl rfl rfl (fun W hW=>by simp[execOp,go_sem]) ?_
 simp only[Act.put,List.setIfInBounds_toArray,List.set_cons_succ,List.set_cons_zero]
 dsimp only[wpRow,List.drop]
 go_upto_region 4 with fail
 have hT0:Below w.heap.size w W2.drew:=hk2.trans ((bel:Below W2.heap.size W2 _).mono hk2.size)
 refine wp_region_row 21 [(0,true),(1,true),(3,true),(4,true),(5,true),(6,true),(7,true),(9,true),(10,true),(11,true),(12,true),(13,true),(15,true),(16,true),(17,true),(18,true),(19,true),(2,false),(8,false),(14,false),(20,false)] (fun V=>Below w.heap.size w V) hmx (by kernel_rfl) (by kernel_rfl) (by kernel_rfl) (by decide) rfl (fun c a d v w h=>by first|exact h|(obtain⟨x,y⟩:=(h:_/\_);cases d<;>exact⟨x,y⟩)) (by kernel_rfl) (by exact hT0) ?_
 refine wpRow_readD (v:= .string sb) 57 rfl rfl rfl (fun W hW=>by simp[execOp,go_sem]) ?_
 simp only[Act.put,List.setIfInBounds_toArray,List.set_cons_succ,List.set_cons_zero]
 refine wpRow_readD (v:= .string tb) 58 rfl rfl rfl (fun W hW=>by simp[execOp,go_sem]) ?_
 simp only[Act.put,List.setIfInBounds_toArray,List.set_cons_succ,List.set_cons_zero]
 refine wpRow_readD (v:= .pointer (some ⟨gx,0,none⟩)) 60 rfl rfl rfl (fun W hW=>by simp[execOp,go_sem]) ?_
 simp only[Act.put,List.setIfInBounds_toArray,List.set_cons_succ,List.set_cons_zero]
 refine wpRow_readD (v:= .pointer (some ⟨gx,0,none⟩)) 61 rfl rfl rfl (fun W hW=>by simp[execOp,go_sem]) ?_
 simp only[Act.put,List.setIfInBounds_toArray,List.set_cons_succ,List.set_cons_zero]
 refine wpRow_readD (v:= .pointer (some ⟨gx,0,none⟩)) 62 rfl rfl rfl (fun W hW=>by simp[execOp,go_sem]) ?_
 simp only[Act.put,List.setIfInBounds_toArray,List.set_cons_succ,List.set_cons_zero]
 refine wpRow_readD (v:= .pointer (some ⟨gx,0,none⟩)) 63 rfl rfl rfl (fun W hW=>by simp[execOp,go_sem]) ?_
 simp only[Act.put,List.setIfInBounds_toArray,List.set_cons_succ,List.set_cons_zero]
 refine wpRow_readD (v:= .slice A0 (fN p 0) k0) 64 rfl rfl rfl (fun W hW=>by have q:=(hW.cell (p:=⟨gx,0,none⟩) hl).trans x0;simp[execOp,go_sem,q]) ?_
 simp only[Act.put,List.setIfInBounds_toArray,List.set_cons_succ,List.set_cons_zero]
 refine wpRow_readD (v:= .pointer (some ⟨gx,0,none⟩)) 66 rfl rfl rfl (fun W hW=>by simp[execOp,go_sem]) ?_
 simp only[Act.put,List.setIfInBounds_toArray,List.set_cons_succ,List.set_cons_zero]
 refine wpRow_readD (v:= .pointer (some ⟨gx,0,none⟩)) 67 rfl rfl rfl (fun W hW=>by simp[execOp,go_sem]) ?_
 simp only[Act.put,List.setIfInBounds_toArray,List.set_cons_succ,List.set_cons_zero]
 refine wpRow_readD (v:= .pointer (some ⟨gx,0,none⟩)) 68 rfl rfl rfl (fun W hW=>by simp[execOp,go_sem]) ?_
 simp only[Act.put,List.setIfInBounds_toArray,List.set_cons_succ,List.set_cons_zero]
 refine wpRow_readD (v:= .pointer (some ⟨gx,3,none⟩)) 69 rfl rfl rfl (fun W hW=>by simp[execOp,go_sem]) ?_
 simp only[Act.put,List.setIfInBounds_toArray,List.set_cons_succ,List.set_cons_zero]
 refine wpRow_readD (v:= .slice A3 (fN p 3) k3) 70 rfl rfl rfl (fun W hW=>by have q:=(hW.cell (p:=⟨gx,3,none⟩) hl).trans x3;simp[execOp,go_sem,q]) ?_
 simp only[Act.put,List.setIfInBounds_toArray,List.set_cons_succ,List.set_cons_zero]
 refine wpRow_readD (v:= .pointer (some ⟨gx,0,none⟩)) 72 rfl rfl rfl (fun W hW=>by simp[execOp,go_sem]) ?_
 simp only[Act.put,List.setIfInBounds_toArray,List.set_cons_succ,List.set_cons_zero]
 refine wpRow_readD (v:= .pointer (some ⟨gx,0,none⟩)) 73 rfl rfl rfl (fun W hW=>by simp[execOp,go_sem]) ?_
 simp only[Act.put,List.setIfInBounds_toArray,List.set_cons_succ,List.set_cons_zero]
 refine wpRow_readD (v:= .pointer (some ⟨gx,0,none⟩)) 74 rfl rfl rfl (fun W hW=>by simp[execOp,go_sem]) ?_
 simp only[Act.put,List.setIfInBounds_toArray,List.set_cons_succ,List.set_cons_zero]
 refine wpRow_readD (v:= .pointer (some ⟨gx,2,none⟩)) 75 rfl rfl rfl (fun W hW=>by simp[execOp,go_sem]) ?_
 simp only[Act.put,List.setIfInBounds_toArray,List.set_cons_succ,List.set_cons_zero]
 refine wpRow_readD (v:= .slice A2 (fN p 2) k2) 76 rfl rfl rfl (fun W hW=>by have q:=(hW.cell (p:=⟨gx,2,none⟩) hl).trans x2;simp[execOp,go_sem,q]) ?_
 simp only[Act.put,List.setIfInBounds_toArray,List.set_cons_succ,List.set_cons_zero]
 refine wpRow_op rfl rfl fun Kc hKc=> ?_
 unfold Oper.wp
 simp[execOp,go_sem]
 apply hKc
 have ho1:(W2.drew.alloc (.cells #[.string sb,.string tb] 9)).ownsRow W2.heap.size 9 1 (.slice (some ⟨W2.heap.size,0,none⟩) 2 2) 2 [.string sb,.string tb]:=own_lit (W:=W2.drew) (n:=2) (size:=1) rfl (by unfold maxLen;omega)
 have hv1:Below W2.heap.size W2 (W2.drew.alloc (.cells #[.string sb,.string tb] 9)):=bel
 refine⟨hk2.trans (hv1.mono hk2.size), ?_⟩
 try simp only[Act.put,List.setIfInBounds_toArray,List.set_cons_succ,List.set_cons_zero]
 refine wpRow_op rfl rfl fun Kc hKc=> ?_
 refine op_src (n:=(2)) (xs:=([Value.string sb,.string tb])) rfl _ _ 36 rfl sltS W2 rfl ho1 hv1 (fN p 0) (fC p 0) (HN0.out _ (hk2.trans (hv1.mono hk2.size))) HZ0.out (sv_oneC _) (by unfold maxLen;omega) (by omega) ?_
 intro va0 Va0 hoa0 _ hba0
 have hba0:=hba0.out
 apply hKc
 refine⟨hk2.trans (hba0.mono hk2.size), ?_⟩
 try simp only[Act.put,List.setIfInBounds_toArray]
 refine wpRow_op rfl rfl fun Kc hKc=> ?_
 refine op_src (n:=(2+fN p 0)) (xs:=([Value.string sb,.string tb]++fC p 0)) rfl _ _ 36 rfl sltS W2 rfl hoa0 hba0 (fN p 3) (fC p 3) (HN3.out _ (hk2.trans (hba0.mono hk2.size))) HZ3.out (sv_oneC _) (by unfold maxLen;omega) (by omega) ?_
 intro va1 Va1 hoa1 _ hba1
 have hba1:=hba1.out
 apply hKc
 refine⟨hk2.trans (hba1.mono hk2.size), ?_⟩
 try simp only[Act.put]
 refine wpRow_op rfl rfl fun Kc hKc=> ?_
 refine op_src (n:=(2+fN p 0+fN p 3)) (xs:=([Value.string sb,.string tb]++fC p 0++fC p 3)) rfl _ _ 36 rfl sltS W2 rfl hoa1 hba1 (fN p 2) (fC p 2) (HN2.out _ (hk2.trans (hba1.mono hk2.size))) HZ2.out (sv_oneC _) (by unfold maxLen;omega) (by omega) ?_
 intro va2 Va2 hoa2 _ hba2
 have hba2:=hba2.out
 apply hKc
 refine⟨hk2.trans (hba2.mono hk2.size), ?_⟩
 try simp only[Act.put]
 dsimp only[wpRow,List.drop]
 rw[HLi.out,HLn.out]at hoa2
 have HBv:=Lib.hid (hk2.trans (hba2.mono hk2.size))
 have HOw:=Lib.hid hoa2
 clear hba0 hba1 hba2 hoa0 hoa1 hoa2 ho1 hv1 hT0 hS0 hk2 HLi HN0 HN2 HN3 HZ0 HZ2 HZ3 x0 x2 x3 x6 x7 x8 x9 b0 b2 b3 HL HRe HB1
 obtain⟨AL,cL,rfl,_⟩:=own_cap HOw.out
 have HRd:=Lib.hid (Rd.own HOw.out)
 obtain⟨m,hm⟩: ∃m,L.length=m:=⟨_,rfl⟩
 have HM:=Lib.hid hm
 have hmm:m<=9223372036854775807:=by have:=HRd.out.2.1;rwa[hm]at this
 rw[hm]at HRd ⊢
 clear hm HOw HLn HSv
 go_wp2_with fail
 go_loopw [13] (fun i wr=> ∃k:Nat,k<=m/\i= .int .i64 (k:Nat)/\Hid (Below Va2.heap.size Va2 wr)) (fun i _=>m-(intOf i).toNat)
 case atStart=>exact⟨0,by omega,rfl,by show Below _ _ _;exact bel⟩
 case round=>
  obtain⟨k,hk,rfl,HB⟩:=hrel
  have HBw:=Lib.hid (HBv.out.trans (HB.out.mono HBv.out.size))
  by_cases hlt:k<m
  ·obtain⟨b,off,hAe,hb,hcc⟩: ∃b off,AL=some ⟨b,off,none⟩/\b<Va2.heap.size/\ ∀j u,(L.map sv)[j]? =some u->Va2.cell? ⟨b,off+j,none⟩=some u:=by
    obtain⟨_,_,A',c',e,h9⟩:=HRd.out
    cases e
    obtain⟨b,off,h1,h2,h3⟩:=h9 (by omega)
    exact⟨b,off,h1,h2,h3⟩
   subst hAe
   have hkl:k<L.length:=by rw[HM.out];exact hlt
   obtain⟨x,hx⟩: ∃x,L[k]=x:=⟨_,rfl⟩
   have y0:wr.cell? ⟨b,off+k,none⟩=some (.string ⟨x.toArray⟩):=(HB.out.cell (p:=⟨b,off+k,none⟩) hb).trans (hcc k (sv x) (by simp[hkl,hx]))
   have hbr:b<wr.heap.size:=Nat.lt_of_lt_of_le hb HB.out.size
   have hxl:x.length<=maxLen:=by have:=HAk.out x (hx ▸ List.getElem_mem hkl);unfold maxLen;omega
   have HG:=Lib.hid (fun W (hb:Below wr.heap.size wr W)=>HBw.out.trans (hb.mono HBw.out.size))
   have PTag:=Lib.hid (fun W hb=>show Calls Tryz.prog 12 #[.pointer (some ⟨g,0,none⟩),.string ⟨x.toArray⟩] W (Ret (.bool (tagR p x)) W)from tag_any g p x W (HR.out W (HG.out W hb)) hxl)
   have RTag:=Lib.hid (fun W hb=>show Calls Tryz.prog 41 #[.pointer (some ⟨gx,0,none⟩),.string ⟨x.toArray⟩] W (Ret (.bool (tagR p x)) W)from rtags_any gx p x W (HX.out W (HG.out W hb)))
   have PScheme:=Lib.hid (fun W hb=>show Calls Tryz.prog 17 #[.pointer (some ⟨g,0,none⟩),.string ⟨x.toArray⟩] W (Ret (.bool (schR p x)) W)from scheme_any g p x W (HR.out W (HG.out W hb)) hxl)
   have RScheme:=Lib.hid (fun W hb=>show Calls Tryz.prog 42 #[.pointer (some ⟨gx,0,none⟩),.string ⟨x.toArray⟩] W (Ret (.bool (schR p x)) W)from rschemes_any gx p x W (HX.out W (HG.out W hb)))
   have PCss:=Lib.hid (fun W hb=>show Calls Tryz.prog 28 #[.pointer (some ⟨g,0,none⟩),.string ⟨x.toArray⟩] W (Ret (.bool (cssR p x)) W)from css_any g p x W (HR.out W (HG.out W hb)) hxl)
   have RCss:=Lib.hid (fun W hb=>show Calls Tryz.prog 43 #[.pointer (some ⟨gx,0,none⟩),.string ⟨x.toArray⟩] W (Ret (.bool (cssR p x)) W)from rcss_any gx p x W (HX.out W (HG.out W hb)))
   have PDrop:=Lib.hid (fun W hb=>show Calls Tryz.prog 15 #[.pointer (some ⟨g,0,none⟩),.string ⟨x.toArray⟩] W (Ret (.bool (dropR p x)) W)from drop_any g p x W (HR.out W (HG.out W hb)) hxl)
   have RDrop:=Lib.hid (fun W hb=>show Calls Tryz.prog 44 #[.pointer (some ⟨gx,0,none⟩),.string ⟨x.toArray⟩] W (Ret (.bool (dropR p x)) W)from rdrops_any gx p x W (HX.out W (HG.out W hb)))
   have PAt:=Lib.hid (fun W hb=>show Calls Tryz.prog 16 #[.pointer (some ⟨g,0,none⟩),.string ⟨x.toArray⟩,.string tb] W (Ret (.bool (attrR p x t)) W)from HAt.out W x (HG.out W hb) hxl)
   have RAt:=Lib.hid (fun W hb=>show Calls Tryz.prog 45 #[.pointer (some ⟨gx,0,none⟩),.string ⟨x.toArray⟩,.string tb] W (Ret (.bool (attrR p x t)) W)from HBt.out W x (HG.out W hb))
   have PAs:=Lib.hid (fun W hb=>show Calls Tryz.prog 16 #[.pointer (some ⟨g,0,none⟩),.string sb,.string ⟨x.toArray⟩] W (Ret (.bool (attrR p s x)) W)from HAs.out W x (HG.out W hb) hxl)
   have RAs:=Lib.hid (fun W hb=>show Calls Tryz.prog 45 #[.pointer (some ⟨gx,0,none⟩),.string sb,.string ⟨x.toArray⟩] W (Ret (.bool (attrR p s x)) W)from HBs.out W x (HG.out W hb))
   have PFo:=Lib.hid (fun W hb=>show Calls Tryz.prog 11 #[.pointer (some ⟨g,0,none⟩),.string ⟨x.toArray⟩] W (RetF W (forcedR p x))from forced10_any g p x W (HR.out W (HG.out W hb)) hxl HFw.out)
   have RFo:=Lib.hid (fun W hb=>show Calls Tryz.prog 47 #[.pointer (some ⟨gx,0,none⟩),.string ⟨x.toArray⟩] W (RetF W (forcedR p x))from rforced_any gx p x W (HX.out W (HG.out W hb)) (Nat.le_trans HFw.out (by omega)))
   generalize forcedR p x=FL at*
   generalize tagR p x=T0 at*
   generalize schR p x=T1 at*
   generalize cssR p x=T2 at*
   generalize dropR p x=T3 at*
   generalize attrR p x t=T4 at*
   generalize attrR p s x=T5 at*
   clear hcc hx hkl hxl
   generalize(⟨x.toArray⟩:ByteArray)=xb at*
   go_upto_region 11 with(first
    |(go_at_call 12;(with_reducible refine(Ret.flat (PTag.out _ bel)).mono ?_);rintro e V ⟨rfl,Y,rfl⟩)
    |(go_at_call 12;(with_reducible refine(PTag.out _ bel).mono ?_);rintro e V ⟨rfl,Y,rfl⟩)
    |(go_at_call 41;(with_reducible refine(Ret.flat (RTag.out _ bel)).mono ?_);rintro e V ⟨rfl,Y,rfl⟩)
    |(go_at_call 41;(with_reducible refine(RTag.out _ bel).mono ?_);rintro e V ⟨rfl,Y,rfl⟩)
    |(go_at_call 17;(with_reducible refine(Ret.flat (PScheme.out _ bel)).mono ?_);rintro e V ⟨rfl,Y,rfl⟩)
    |(go_at_call 17;(with_reducible refine(PScheme.out _ bel).mono ?_);rintro e V ⟨rfl,Y,rfl⟩)
    |(go_at_call 42;(with_reducible refine(Ret.flat (RScheme.out _ bel)).mono ?_);rintro e V ⟨rfl,Y,rfl⟩)
    |(go_at_call 42;(with_reducible refine(RScheme.out _ bel).mono ?_);rintro e V ⟨rfl,Y,rfl⟩)
    |(go_at_call 28;(with_reducible refine(Ret.flat (PCss.out _ bel)).mono ?_);rintro e V ⟨rfl,Y,rfl⟩)
    |(go_at_call 28;(with_reducible refine(PCss.out _ bel).mono ?_);rintro e V ⟨rfl,Y,rfl⟩)
    |(go_at_call 43;(with_reducible refine(Ret.flat (RCss.out _ bel)).mono ?_);rintro e V ⟨rfl,Y,rfl⟩)
    |(go_at_call 43;(with_reducible refine(RCss.out _ bel).mono ?_);rintro e V ⟨rfl,Y,rfl⟩)
    |(go_at_call 15;(with_reducible refine(Ret.flat (PDrop.out _ bel)).mono ?_);rintro e V ⟨rfl,Y,rfl⟩)
    |(go_at_call 15;(with_reducible refine(PDrop.out _ bel).mono ?_);rintro e V ⟨rfl,Y,rfl⟩)
    |(go_at_call 44;(with_reducible refine(Ret.flat (RDrop.out _ bel)).mono ?_);rintro e V ⟨rfl,Y,rfl⟩)
    |(go_at_call 44;(with_reducible refine(RDrop.out _ bel).mono ?_);rintro e V ⟨rfl,Y,rfl⟩)
    |(go_at_call 16;(with_reducible refine(Ret.flat (PAt.out _ bel)).mono ?_);rintro e V ⟨rfl,Y,rfl⟩)
    |(go_at_call 16;(with_reducible refine(PAt.out _ bel).mono ?_);rintro e V ⟨rfl,Y,rfl⟩)
    |(go_at_call 45;(with_reducible refine(Ret.flat (RAt.out _ bel)).mono ?_);rintro e V ⟨rfl,Y,rfl⟩)
    |(go_at_call 45;(with_reducible refine(RAt.out _ bel).mono ?_);rintro e V ⟨rfl,Y,rfl⟩)
    |(go_at_call 16;(with_reducible refine(Ret.flat (PAs.out _ bel)).mono ?_);rintro e V ⟨rfl,Y,rfl⟩)
    |(go_at_call 16;(with_reducible refine(PAs.out _ bel).mono ?_);rintro e V ⟨rfl,Y,rfl⟩)
    |(go_at_call 45;(with_reducible refine(Ret.flat (RAs.out _ bel)).mono ?_);rintro e V ⟨rfl,Y,rfl⟩)
    |(go_at_call 45;(with_reducible refine(RAs.out _ bel).mono ?_);rintro e V ⟨rfl,Y,rfl⟩))
   refine name_world fun V9 hV9=> ?_
   have hv9:Below wr.heap.size wr V9:=by rw[hV9];exact bel
   have HB9:=Lib.hid hv9
   clear hV9 hv9 PTag PScheme PCss PDrop RTag RScheme RCss RDrop PAt RAt PAs RAs
   have PF1:=Lib.hid (PFo.out V9 HB9.out)
   go_wp2_with(first
    |(go_at_call 11;(with_reducible refine PF1.out.mono ?_);rintro e V10 ⟨AF,cF,rfl,hb10,hr10⟩;have HB10:=Lib.hid (HB9.out.trans (hb10.mono HB9.out.size));have HR10:=Lib.hid hr10;have PF2:=Lib.hid (RFo.out V10 HB10.out);clear hb10 hr10)
    |(go_at_call 47;(with_reducible refine PF2.out.mono ?_);rintro e V11 ⟨AG,cG,rfl,hb11,hr11⟩;have HB11:=Lib.hid (HB10.out.trans (hb11.mono HB10.out.size));have PS:=Lib.hid (show Calls Tryz.prog 46 #[.slice AF FL.length cF,.slice AG FL.length cG] V11 (Ret (.bool true) V11)from by have h9:=rsameat_any AF AG FL.length FL.length cF cG FL FL V11 (HR10.out.belowW hb11) hr11;rwa[decide_eq_true rfl]at h9);clear hb11 hr11)
    |(go_at_call 46;(with_reducible refine PS.out.mono ?_);rintro e V12 ⟨rfl,Y12,rfl⟩))
   go_roundw
   case rel=>exact⟨k+1,by omega,by go_num,by show Below _ _ _;exact HB.out.trans ((HB11.out.trans ((bel:Below V11.heap.size V11 _).mono HB11.out.size)).mono HB.out.size)⟩
   case measure=>simp[intOf];omega
  ·go_wp2_with fail
   go_ret
   exact Ret.of rfl (HBw.out.trans ((bel:Below wr.heap.size wr _).mono HBw.out.size))
end Go.Proofs.YtbhhgbgfaemfdaaGreat

