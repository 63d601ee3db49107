/- The walk of New: the rules of a policy. (written by gen_new.py) -/
import Derived.Test.YtiikamobcmgekaaGreatDoorC3
namespace Go.Proofs.YtiikamobcmgekaaGreatDoor
set_option maxRecDepth 100000
set_option maxHeartbeats 12800000
open Go.RowKit
attribute [local go_sem] Oper.semAt_some
theorem addr_at (b j:Nat):(⟨b,0,none⟩:Addr).add j=⟨b,j,none⟩:=by
 unfold Addr.add
 split
 ·next h=>rw[h]
 ·simp
theorem new_any (v:Value) (p:Pol) (w:World) (h:PolV w (fun _=>False) v p) (hR: ∀W,Below w.heap.size w W->Calls Tryz.prog 51 #[v] W (Ret (.bool (rightP p)) W)):Calls Tryz.prog 21 #[v] w (NewP p w):=by
 have hmx:=mxd
 have hmm:= @run_makeMap Tryz.prog
 have HV:=Lib.hid h
 obtain⟨v0,v1,v2,v3,v4,v5,rfl,⟨A0,k0,rfl,_,h0,_⟩,⟨A1,k1,rfl,_,h1,_⟩,⟨A2,k2,rfl,_,h2,_⟩,⟨A3,k3,rfl,_,h3,_⟩,⟨A4,k4,rfl,_,h4,_⟩,⟨A5,k5,rfl,_,h5,_⟩⟩:=h
 obtain⟨T,hT⟩: ∃T,rightP p=T:=⟨_,rfl⟩
 rw[hT]at hR
 have HR:=Lib.hid hR
 clear hR
 cases T with
 |false=>
  have HN:Hid (newR p=1):=by show _=_;unfold newR;rw[if_neg (by rw[hT];decide)]
  clear hT h0 h1 h2 h3 h4 h5
  go_enter Tryz.func21,Tryz.ntmps21
  go_wp2_with(go_at_call 51;(with_reducible refine(HR.out _ bel).mono ?_);rintro e W1 ⟨rfl,X1,rfl⟩)
  go_ret2
  exact⟨bel,.inl ⟨by rw[HN.out];decide,by rw[HN.out];rfl⟩⟩
 |true=>
  have HN:Hid (newR p=wrongR p):=by show _=_;unfold newR;rw[if_pos hT]
  have HWd:=Lib.hid (right_wd hT)
  have HFw:=Lib.hid (right_few hT)
  have hml:(64:Nat)<=maxLen:=by simp[maxLen]
  have HS0:=Lib.hid (fun W (hb:Below w.heap.size w W)=>show Calls Tryz.prog 52 #[.slice A0 (fN p 0) k0] W _ from setS_any _ p.tags W (h0.bel hb) (fun t ht=>Nat.le_trans (HWd.out.tags t ht) hml))
  have HS1:=Lib.hid (fun W (hb:Below w.heap.size w W)=>show Calls Tryz.prog 52 #[.slice A1 (fN p 1) k1] W _ from setS_any _ p.schemes W (h1.bel hb) (fun t ht=>Nat.le_trans (HWd.out.schemes t ht) hml))
  have HS2:=Lib.hid (fun W (hb:Below w.heap.size w W)=>show Calls Tryz.prog 52 #[.slice A2 (fN p 2) k2] W _ from setS_any _ p.css W (h2.bel hb) (fun t ht=>Nat.le_trans (HWd.out.css t ht) hml))
  have HS3:=Lib.hid (fun W (hb:Below w.heap.size w W)=>show Calls Tryz.prog 52 #[.slice A3 (fN p 3) k3] W _ from setS_any _ p.drops W (h3.bel hb) (fun t ht=>Nat.le_trans (HWd.out.drops t ht) hml))
  have HS4:=Lib.hid (fun W (hb:Below w.heap.size w W)=>show Calls Tryz.prog 53 #[.slice A4 (fN p 4) k4] W _ from setA_any _ p.attrs W (h4.bel hb) (fun t ht=>⟨Nat.le_trans (HWd.out.attrs t ht).1 hml,Nat.le_trans (HWd.out.attrs t ht).2 hml⟩))
  have H5:=Lib.hid h5
  clear hT h0 h1 h2 h3 h4 h5 hml
  go_enter Tryz.func21,Tryz.ntmps21
  go_upto_region 3 with(go_at_call 51;(with_reducible refine(HR.out _ bel).mono ?_);rintro e W1 ⟨rfl,X1,rfl⟩)
  clear HR
  refine name_world fun W0 hW0=> ?_
  obtain⟨B,hB⟩: ∃B,w.heap.size=B:=⟨_,rfl⟩
  have c0:W0.cell? ⟨B,0,none⟩=some (.slice A0 (fN p 0) k0):=by rw[hW0,<-hB];simp[go_sem]
  have c1:W0.cell? ⟨B,1,none⟩=some (.slice A1 (fN p 1) k1):=by rw[hW0,<-hB];simp[go_sem]
  have c2:W0.cell? ⟨B,2,none⟩=some (.slice A2 (fN p 2) k2):=by rw[hW0,<-hB];simp[go_sem]
  have c3:W0.cell? ⟨B,3,none⟩=some (.slice A3 (fN p 3) k3):=by rw[hW0,<-hB];simp[go_sem]
  have c4:W0.cell? ⟨B,4,none⟩=some (.slice A4 (fN p 4) k4):=by rw[hW0,<-hB];simp[go_sem]
  have c5:W0.cell? ⟨B,5,none⟩=some (.slice A5 (fN p 5) k5):=by rw[hW0,<-hB];simp[go_sem]
  have c6:W0.cell? ⟨B,6,none⟩=some (.bool p.rel):=by rw[hW0,<-hB];simp[go_sem]
  have c7:W0.cell? ⟨B,7,none⟩=some (.int .i64 p.depth):=by rw[hW0,<-hB];simp[go_sem]
  have c8:W0.cell? ⟨B,8,none⟩=some (.int .i64 p.name):=by rw[hW0,<-hB];simp[go_sem]
  have c9:W0.cell? ⟨B,9,none⟩=some (.int .i64 p.value):=by rw[hW0,<-hB];simp[go_sem]
  have hb0:Below w.heap.size w W0:=by rw[hW0];exact bel
  have hBl:B<W0.heap.size:=World.block_lt_of_cell? W0 _ c0
  have HB0:=Lib.hid (fun W (hb:Below W0.heap.size W0 W)=>show Below w.heap.size w W from hb0.trans (hb.mono hb0.size))
  have hB0:w.heap.size<=W0.heap.size:=hb0.size
  rw[hB]
  clear hW0 hb0
  go_cut [4] (fun s4 wx=> ∃g b base:Nat,s4= .pointer (some ⟨g,0,none⟩)/\Hid (RulesB wx g b base p [])/\Hid (Below W0.heap.size W0 wx)/\W0.heap.size<=g/\W0.heap.size<=b)
  case first=>
   have HT0:=Lib.hid (fun W (hb:Below W0.heap.size W0 W)=>HS0.out W (HB0.out W hb))
   have HT1:=Lib.hid (fun W (hb:Below W0.heap.size W0 W)=>HS1.out W (HB0.out W hb))
   have HT2:=Lib.hid (fun W (hb:Below W0.heap.size W0 W)=>HS2.out W (HB0.out W hb))
   have HT3:=Lib.hid (fun W (hb:Below W0.heap.size W0 W)=>HS3.out W (HB0.out W hb))
   have HT4:=Lib.hid (fun W (hb:Below W0.heap.size W0 W)=>HS4.out W (HB0.out W hb))
   clear HS0 HS1 HS2 HS3 HS4
   obtain⟨V0,hV0⟩: ∃V,W0.drew=V:=⟨_,rfl⟩
   have hw0:Below W0.heap.size W0 V0:=by rw[<-hV0];exact bel
   have hd0:=fun(W:World) (hb:Below W0.heap.size W0 W)=>hb
   have hs0:=hw0.size
   refine wp_region_rowF 24 15 [2,5,8,11,14] [0,1,3,4,6,7,9,10,12,13,16,17,18,19,20,21,22,23] (fun V=>Below W0.heap.size W0 V) hmx (by kernel_rfl) (by kernel_rfl) (by kernel_rfl) (by decide) rfl (fun c a d v w h=>by first|exact h|(obtain⟨x,y⟩:=(h:_/\_);cases d<;>exact⟨x,y⟩)) (by kernel_rfl) (by rw[hV0];exact hw0) ?_
   rw[hV0]
   clear hV0
   refine wpRowF_readD (v:= .pointer (some ⟨B,0,none⟩)) 11 rfl rfl rfl (fun W hW=>by simp[execOp,go_sem]) ?_
   simp only[Act.put,List.setIfInBounds_toArray,List.set_cons_succ,List.set_cons_zero]
   refine wpRowF_readD (v:= .slice A0 (fN p 0) k0) 12 rfl rfl rfl (fun W hW=>by have dd:=(hW.cell (p:=⟨B,0,none⟩) hBl).trans c0;simp[execOp,go_sem,dd]) ?_
   simp only[Act.put,List.setIfInBounds_toArray,List.set_cons_succ,List.set_cons_zero]
   refine wpRowF_readD (v:= .pointer (some ⟨B,1,none⟩)) 14 rfl rfl rfl (fun W hW=>by simp[execOp,go_sem]) ?_
   simp only[Act.put,List.setIfInBounds_toArray,List.set_cons_succ,List.set_cons_zero]
   refine wpRowF_readD (v:= .slice A1 (fN p 1) k1) 15 rfl rfl rfl (fun W hW=>by have dd:=(hW.cell (p:=⟨B,1,none⟩) hBl).trans c1;simp[execOp,go_sem,dd]) ?_
   simp only[Act.put,List.setIfInBounds_toArray,List.set_cons_succ,List.set_cons_zero]
   refine wpRowF_readD (v:= .pointer (some ⟨B,2,none⟩)) 17 rfl rfl rfl (fun W hW=>by simp[execOp,go_sem]) ?_
   simp only[Act.put,List.setIfInBounds_toArray,List.set_cons_succ,List.set_cons_zero]
   refine wpRowF_readD (v:= .slice A2 (fN p 2) k2) 18 rfl rfl rfl (fun W hW=>by have dd:=(hW.cell (p:=⟨B,2,none⟩) hBl).trans c2;simp[execOp,go_sem,dd]) ?_
   simp only[Act.put,List.setIfInBounds_toArray,List.set_cons_succ,List.set_cons_zero]
   refine wpRowF_readD (v:= .pointer (some ⟨B,3,none⟩)) 20 rfl rfl rfl (fun W hW=>by simp[execOp,go_sem]) ?_
   simp only[Act.put,List.setIfInBounds_toArray,List.set_cons_succ,List.set_cons_zero]
   refine wpRowF_readD (v:= .slice A3 (fN p 3) k3) 21 rfl rfl rfl (fun W hW=>by have dd:=(hW.cell (p:=⟨B,3,none⟩) hBl).trans c3;simp[execOp,go_sem,dd]) ?_
   simp only[Act.put,List.setIfInBounds_toArray,List.set_cons_succ,List.set_cons_zero]
   refine wpRowF_readD (v:= .pointer (some ⟨B,4,none⟩)) 23 rfl rfl rfl (fun W hW=>by simp[execOp,go_sem]) ?_
   simp only[Act.put,List.setIfInBounds_toArray,List.set_cons_succ,List.set_cons_zero]
   refine wpRowF_readD (v:= .slice A4 (fN p 4) k4) 24 rfl rfl rfl (fun W hW=>by have dd:=(hW.cell (p:=⟨B,4,none⟩) hBl).trans c4;simp[execOp,go_sem,dd]) ?_
   simp only[Act.put,List.setIfInBounds_toArray,List.set_cons_succ,List.set_cons_zero]
   refine wpRowF_readD (v:= .pointer (some ⟨B,6,none⟩)) 27 rfl rfl rfl (fun W hW=>by simp[execOp,go_sem]) ?_
   simp only[Act.put,List.setIfInBounds_toArray,List.set_cons_succ,List.set_cons_zero]
   refine wpRowF_readD (v:= .bool p.rel) 28 rfl rfl rfl (fun W hW=>by have dd:=(hW.cell (p:=⟨B,6,none⟩) hBl).trans c6;simp[execOp,go_sem,dd]) ?_
   simp only[Act.put,List.setIfInBounds_toArray,List.set_cons_succ,List.set_cons_zero]
   refine wpRowF_readD (v:= .pointer (some ⟨B,7,none⟩)) 29 rfl rfl rfl (fun W hW=>by simp[execOp,go_sem]) ?_
   simp only[Act.put,List.setIfInBounds_toArray,List.set_cons_succ,List.set_cons_zero]
   refine wpRowF_readD (v:= .int .i64 p.depth) 30 rfl rfl rfl (fun W hW=>by have dd:=(hW.cell (p:=⟨B,7,none⟩) hBl).trans c7;simp[execOp,go_sem,dd]) ?_
   simp only[Act.put,List.setIfInBounds_toArray,List.set_cons_succ,List.set_cons_zero]
   refine wpRowF_readD (v:= .pointer (some ⟨B,8,none⟩)) 31 rfl rfl rfl (fun W hW=>by simp[execOp,go_sem]) ?_
   simp only[Act.put,List.setIfInBounds_toArray,List.set_cons_succ,List.set_cons_zero]
   refine wpRowF_readD (v:= .int .i64 p.name) 32 rfl rfl rfl (fun W hW=>by have dd:=(hW.cell (p:=⟨B,8,none⟩) hBl).trans c8;simp[execOp,go_sem,dd]) ?_
   simp only[Act.put,List.setIfInBounds_toArray,List.set_cons_succ,List.set_cons_zero]
   refine wpRowF_readD (v:= .pointer (some ⟨B,9,none⟩)) 33 rfl rfl rfl (fun W hW=>by simp[execOp,go_sem]) ?_
   simp only[Act.put,List.setIfInBounds_toArray,List.set_cons_succ,List.set_cons_zero]
   refine wpRowF_readD (v:= .int .i64 p.value) 34 rfl rfl rfl (fun W hW=>by have dd:=(hW.cell (p:=⟨B,9,none⟩) hBl).trans c9;simp[execOp,go_sem,dd]) ?_
   simp only[Act.put,List.setIfInBounds_toArray,List.set_cons_succ,List.set_cons_zero]
   unfold wpRowF
   refine wpFl_op rfl rfl rfl rfl ?_ ?_
   rotate_left
   ·skip
    intro Kc hKc
    unfold Oper.wp
    simp[execOp,go_sem,hmm]
    apply hKc
    have hb1:Below V0.heap.size V0 (V0.alloc (.map #[] 0)):=bel
    have hm:(V0.alloc (.map #[] 0)).heap[V0.heap.size]? =some (.map #[] 0):=heap_alloc_new V0 _
    have hum:V0.heap.size<(V0.alloc (.map #[] 0)).heap.size:=by simp
    generalize hV1:V0.alloc (.map #[] 0)=V1 at*
    obtain⟨bm,hbm⟩: ∃b,V0.heap.size=b:=⟨_,rfl⟩
    clear hV1
    have hs1:=hb1.size
    have hw1:=below_next hw0 hb1
    refine⟨hw1, ?_⟩
    rw[hbm]at hm hum ⊢
    refine wpRow_op rfl rfl ?_
    intro Kc hKc
    unfold Oper.wp
    simp[execOp,go_sem]
    refine(HT0.out _ hw1).mono ?_
    rintro e V2 ⟨b0,rfl,hb2,hl0,hk0⟩
    have hs2:=hb2.size
    have hu0:=hk0.lt
    have hw2:=below_next hw1 hb2
    show Kc _ _
    apply hKc
    refine⟨hw2, ?_⟩
    refine wpRow_op rfl rfl ?_
    intro Kc hKc
    unfold Oper.wp
    simp[execOp,go_sem]
    refine(HT1.out _ hw2).mono ?_
    rintro e V3 ⟨b1,rfl,hb3,hl1,hk1⟩
    have hs3:=hb3.size
    have hu1:=hk1.lt
    have hw3:=below_next hw2 hb3
    show Kc _ _
    apply hKc
    refine⟨hw3, ?_⟩
    refine wpRow_op rfl rfl ?_
    intro Kc hKc
    unfold Oper.wp
    simp[execOp,go_sem]
    refine(HT2.out _ hw3).mono ?_
    rintro e V4 ⟨b2,rfl,hb4,hl2,hk2⟩
    have hs4:=hb4.size
    have hu2:=hk2.lt
    have hw4:=below_next hw3 hb4
    show Kc _ _
    apply hKc
    refine⟨hw4, ?_⟩
    refine wpRow_op rfl rfl ?_
    intro Kc hKc
    unfold Oper.wp
    simp[execOp,go_sem]
    refine(HT3.out _ hw4).mono ?_
    rintro e V5 ⟨b3,rfl,hb5,hl3,hk3⟩
    have hs5:=hb5.size
    have hu3:=hk3.lt
    have hw5:=below_next hw4 hb5
    show Kc _ _
    apply hKc
    refine⟨hw5, ?_⟩
    refine wpRow_op rfl rfl ?_
    intro Kc hKc
    unfold Oper.wp
    simp[execOp,go_sem]
    refine(HT4.out _ hw5).mono ?_
    rintro e V6 ⟨b4,rfl,hb6,hl4,hk4⟩
    have hs6:=hb6.size
    have hu4:=hk4.lt
    have hw6:=below_next hw5 hb6
    show Kc _ _
    apply hKc
    refine⟨hw6, ?_⟩
    simp only[wpRow,List.map,List.drop]
    go_wp2_with fail
    go_meet
    case rel=>
     obtain⟨U,hU⟩: ∃U,World.alloc V6 (.cells #[.map (some b0),.map (some b1),.map (some b2),.map (some b3),.map (some b4),.map (some bm),.bool p.rel,.int .i64 p.depth,.int .i64 p.name,.int .i64 p.value] 83)=U:=⟨_,rfl⟩
     have hb7:Below V6.heap.size V6 U:=by rw[<-hU];exact bel
     have hsz:U.heap.size=V6.heap.size+1:=by rw[<-hU];simp
     have hcs: ∀j x,[.map (some b0),.map (some b1),.map (some b2),.map (some b3),.map (some b4),.map (some bm),.bool p.rel,.int .i64 p.depth,.int .i64 p.name,.int .i64 p.value][j]? =some x->U.cell? ⟨V6.heap.size,j,none⟩=some x:=fun j x hx=>by
      have:=new_cells (W:=V6) (t:=83) (c:= #[.map (some b0),.map (some b1),.map (some b2),.map (some b3),.map (some b4),.map (some bm),.bool p.rel,.int .i64 p.depth,.int .i64 p.name,.int .i64 p.value]) (ad:=⟨V6.heap.size,0,none⟩) rfl j x hx
      rw[hU]at this
      rwa[addr_at]at this
     have hd6:Below V6.heap.size V6 U:=hb7
     have hd5:Below V5.heap.size V5 U:=below_next hb6 hd6
     have hd4:Below V4.heap.size V4 U:=below_next hb5 hd5
     have hd3:Below V3.heap.size V3 U:=below_next hb4 hd4
     have hd2:Below V2.heap.size V2 U:=below_next hb3 hd3
     have hd1:Below V1.heap.size V1 U:=below_next hb2 hd2
     have hw7:=below_next hw6 hb7
     rw[hU]
     refine⟨V6.heap.size,bm,U.heap.size,rfl,(⟨by omega,Nat.le_refl _,by omega,⟨b0,hcs 0 _ rfl,hk0.below hd2,by omega,by omega⟩,⟨b1,hcs 1 _ rfl,hk1.below hd3,by omega,by omega⟩,⟨b2,hcs 2 _ rfl,hk2.below hd4,by omega,by omega⟩,⟨b3,hcs 3 _ rfl,hk3.below hd5,by omega,by omega⟩,⟨b4,hcs 4 _ rfl,hk4.below hd6,by omega,by omega⟩,hcs 5 _ rfl,GrpM.new ((hd1.block bm hum).trans hm) (by omega),hcs 6 _ rfl,hcs 7 _ rfl,hcs 8 _ rfl,hcs 9 _ rfl⟩:RulesB U V6.heap.size bm U.heap.size p []), ?_,by omega,by omega⟩
     exact hd0 U hw7
   ·skip
    intro Kc hKc
    unfold Oper.wp
    simp[execOp,go_sem]
    refine(HT0.out _ hw0).mono ?_
    rintro e V1 ⟨b0,rfl,hb1,hl0,hk0⟩
    have hs1:=hb1.size
    have hu0:=hk0.lt
    have hw1:=below_next hw0 hb1
    show Kc _ _
    apply hKc
    refine⟨hw1, ?_⟩
    refine wpFl_op rfl rfl rfl rfl ?_ ?_
    rotate_left
    ·skip
     intro Kc hKc
     unfold Oper.wp
     simp[execOp,go_sem,hmm]
     apply hKc
     have hb2:Below V1.heap.size V1 (V1.alloc (.map #[] 0)):=bel
     have hm:(V1.alloc (.map #[] 0)).heap[V1.heap.size]? =some (.map #[] 0):=heap_alloc_new V1 _
     have hum:V1.heap.size<(V1.alloc (.map #[] 0)).heap.size:=by simp
     generalize hV2:V1.alloc (.map #[] 0)=V2 at*
     obtain⟨bm,hbm⟩: ∃b,V1.heap.size=b:=⟨_,rfl⟩
     clear hV2
     have hs2:=hb2.size
     have hw2:=below_next hw1 hb2
     refine⟨hw2, ?_⟩
     rw[hbm]at hm hum ⊢
     refine wpRow_op rfl rfl ?_
     intro Kc hKc
     unfold Oper.wp
     simp[execOp,go_sem]
     refine(HT1.out _ hw2).mono ?_
     rintro e V3 ⟨b1,rfl,hb3,hl1,hk1⟩
     have hs3:=hb3.size
     have hu1:=hk1.lt
     have hw3:=below_next hw2 hb3
     show Kc _ _
     apply hKc
     refine⟨hw3, ?_⟩
     refine wpRow_op rfl rfl ?_
     intro Kc hKc
     unfold Oper.wp
     simp[execOp,go_sem]
     refine(HT2.out _ hw3).mono ?_
     rintro e V4 ⟨b2,rfl,hb4,hl2,hk2⟩
     have hs4:=hb4.size
     have hu2:=hk2.lt
     have hw4:=below_next hw3 hb4
     show Kc _ _
     apply hKc
     refine⟨hw4, ?_⟩
     refine wpRow_op rfl rfl ?_
     intro Kc hKc
     unfold Oper.wp
     simp[execOp,go_sem]
     refine(HT3.out _ hw4).mono ?_
     rintro e V5 ⟨b3,rfl,hb5,hl3,hk3⟩
     have hs5:=hb5.size
     have hu3:=hk3.lt
     have hw5:=below_next hw4 hb5
     show Kc _ _
     apply hKc
     refine⟨hw5, ?_⟩
     refine wpRow_op rfl rfl ?_
     intro Kc hKc
     unfold Oper.wp
     simp[execOp,go_sem]
     refine(HT4.out _ hw5).mono ?_
     rintro e V6 ⟨b4,rfl,hb6,hl4,hk4⟩
     have hs6:=hb6.size
     have hu4:=hk4.lt
     have hw6:=below_next hw5 hb6
     show Kc _ _
     apply hKc
     refine⟨hw6, ?_⟩
     simp only[wpRow,List.map,List.drop]
     go_wp2_with fail
     go_meet
     case rel=>
      obtain⟨U,hU⟩: ∃U,World.alloc V6 (.cells #[.map (some b0),.map (some b1),.map (some b2),.map (some b3),.map (some b4),.map (some bm),.bool p.rel,.int .i64 p.depth,.int .i64 p.name,.int .i64 p.value] 83)=U:=⟨_,rfl⟩
      have hb7:Below V6.heap.size V6 U:=by rw[<-hU];exact bel
      have hsz:U.heap.size=V6.heap.size+1:=by rw[<-hU];simp
      have hcs: ∀j x,[.map (some b0),.map (some b1),.map (some b2),.map (some b3),.map (some b4),.map (some bm),.bool p.rel,.int .i64 p.depth,.int .i64 p.name,.int .i64 p.value][j]? =some x->U.cell? ⟨V6.heap.size,j,none⟩=some x:=fun j x hx=>by
       have:=new_cells (W:=V6) (t:=83) (c:= #[.map (some b0),.map (some b1),.map (some b2),.map (some b3),.map (some b4),.map (some bm),.bool p.rel,.int .i64 p.depth,.int .i64 p.name,.int .i64 p.value]) (ad:=⟨V6.heap.size,0,none⟩) rfl j x hx
       rw[hU]at this
       rwa[addr_at]at this
      have hd6:Below V6.heap.size V6 U:=hb7
      have hd5:Below V5.heap.size V5 U:=below_next hb6 hd6
      have hd4:Below V4.heap.size V4 U:=below_next hb5 hd5
      have hd3:Below V3.heap.size V3 U:=below_next hb4 hd4
      have hd2:Below V2.heap.size V2 U:=below_next hb3 hd3
      have hd1:Below V1.heap.size V1 U:=below_next hb2 hd2
      have hw7:=below_next hw6 hb7
      rw[hU]
      refine⟨V6.heap.size,bm,U.heap.size,rfl,(⟨by omega,Nat.le_refl _,by omega,⟨b0,hcs 0 _ rfl,hk0.below hd1,by omega,by omega⟩,⟨b1,hcs 1 _ rfl,hk1.below hd3,by omega,by omega⟩,⟨b2,hcs 2 _ rfl,hk2.below hd4,by omega,by omega⟩,⟨b3,hcs 3 _ rfl,hk3.below hd5,by omega,by omega⟩,⟨b4,hcs 4 _ rfl,hk4.below hd6,by omega,by omega⟩,hcs 5 _ rfl,GrpM.new ((hd2.block bm hum).trans hm) (by omega),hcs 6 _ rfl,hcs 7 _ rfl,hcs 8 _ rfl,hcs 9 _ rfl⟩:RulesB U V6.heap.size bm U.heap.size p []), ?_,by omega,by omega⟩
      exact hd0 U hw7
    ·skip
     intro Kc hKc
     unfold Oper.wp
     simp[execOp,go_sem]
     refine(HT1.out _ hw1).mono ?_
     rintro e V2 ⟨b1,rfl,hb2,hl1,hk1⟩
     have hs2:=hb2.size
     have hu1:=hk1.lt
     have hw2:=below_next hw1 hb2
     show Kc _ _
     apply hKc
     refine⟨hw2, ?_⟩
     refine wpFl_op rfl rfl rfl rfl ?_ ?_
     rotate_left
     ·skip
      intro Kc hKc
      unfold Oper.wp
      simp[execOp,go_sem,hmm]
      apply hKc
      have hb3:Below V2.heap.size V2 (V2.alloc (.map #[] 0)):=bel
      have hm:(V2.alloc (.map #[] 0)).heap[V2.heap.size]? =some (.map #[] 0):=heap_alloc_new V2 _
      have hum:V2.heap.size<(V2.alloc (.map #[] 0)).heap.size:=by simp
      generalize hV3:V2.alloc (.map #[] 0)=V3 at*
      obtain⟨bm,hbm⟩: ∃b,V2.heap.size=b:=⟨_,rfl⟩
      clear hV3
      have hs3:=hb3.size
      have hw3:=below_next hw2 hb3
      refine⟨hw3, ?_⟩
      rw[hbm]at hm hum ⊢
      refine wpRow_op rfl rfl ?_
      intro Kc hKc
      unfold Oper.wp
      simp[execOp,go_sem]
      refine(HT2.out _ hw3).mono ?_
      rintro e V4 ⟨b2,rfl,hb4,hl2,hk2⟩
      have hs4:=hb4.size
      have hu2:=hk2.lt
      have hw4:=below_next hw3 hb4
      show Kc _ _
      apply hKc
      refine⟨hw4, ?_⟩
      refine wpRow_op rfl rfl ?_
      intro Kc hKc
      unfold Oper.wp
      simp[execOp,go_sem]
      refine(HT3.out _ hw4).mono ?_
      rintro e V5 ⟨b3,rfl,hb5,hl3,hk3⟩
      have hs5:=hb5.size
      have hu3:=hk3.lt
      have hw5:=below_next hw4 hb5
      show Kc _ _
      apply hKc
      refine⟨hw5, ?_⟩
      refine wpRow_op rfl rfl ?_
      intro Kc hKc
      unfold Oper.wp
      simp[execOp,go_sem]
      refine(HT4.out _ hw5).mono ?_
      rintro e V6 ⟨b4,rfl,hb6,hl4,hk4⟩
      have hs6:=hb6.size
      have hu4:=hk4.lt
      have hw6:=below_next hw5 hb6
      show Kc _ _
      apply hKc
      refine⟨hw6, ?_⟩
      simp only[wpRow,List.map,List.drop]
      go_wp2_with fail
      go_meet
      case rel=>
       obtain⟨U,hU⟩: ∃U,World.alloc V6 (.cells #[.map (some b0),.map (some b1),.map (some b2),.map (some b3),.map (some b4),.map (some bm),.bool p.rel,.int .i64 p.depth,.int .i64 p.name,.int .i64 p.value] 83)=U:=⟨_,rfl⟩
       have hb7:Below V6.heap.size V6 U:=by rw[<-hU];exact bel
       have hsz:U.heap.size=V6.heap.size+1:=by rw[<-hU];simp
       have hcs: ∀j x,[.map (some b0),.map (some b1),.map (some b2),.map (some b3),.map (some b4),.map (some bm),.bool p.rel,.int .i64 p.depth,.int .i64 p.name,.int .i64 p.value][j]? =some x->U.cell? ⟨V6.heap.size,j,none⟩=some x:=fun j x hx=>by
        have:=new_cells (W:=V6) (t:=83) (c:= #[.map (some b0),.map (some b1),.map (some b2),.map (some b3),.map (some b4),.map (some bm),.bool p.rel,.int .i64 p.depth,.int .i64 p.name,.int .i64 p.value]) (ad:=⟨V6.heap.size,0,none⟩) rfl j x hx
        rw[hU]at this
        rwa[addr_at]at this
       have hd6:Below V6.heap.size V6 U:=hb7
       have hd5:Below V5.heap.size V5 U:=below_next hb6 hd6
       have hd4:Below V4.heap.size V4 U:=below_next hb5 hd5
       have hd3:Below V3.heap.size V3 U:=below_next hb4 hd4
       have hd2:Below V2.heap.size V2 U:=below_next hb3 hd3
       have hd1:Below V1.heap.size V1 U:=below_next hb2 hd2
       have hw7:=below_next hw6 hb7
       rw[hU]
       refine⟨V6.heap.size,bm,U.heap.size,rfl,(⟨by omega,Nat.le_refl _,by omega,⟨b0,hcs 0 _ rfl,hk0.below hd1,by omega,by omega⟩,⟨b1,hcs 1 _ rfl,hk1.below hd2,by omega,by omega⟩,⟨b2,hcs 2 _ rfl,hk2.below hd4,by omega,by omega⟩,⟨b3,hcs 3 _ rfl,hk3.below hd5,by omega,by omega⟩,⟨b4,hcs 4 _ rfl,hk4.below hd6,by omega,by omega⟩,hcs 5 _ rfl,GrpM.new ((hd3.block bm hum).trans hm) (by omega),hcs 6 _ rfl,hcs 7 _ rfl,hcs 8 _ rfl,hcs 9 _ rfl⟩:RulesB U V6.heap.size bm U.heap.size p []), ?_,by omega,by omega⟩
       exact hd0 U hw7
     ·skip
      intro Kc hKc
      unfold Oper.wp
      simp[execOp,go_sem]
      refine(HT2.out _ hw2).mono ?_
      rintro e V3 ⟨b2,rfl,hb3,hl2,hk2⟩
      have hs3:=hb3.size
      have hu2:=hk2.lt
      have hw3:=below_next hw2 hb3
      show Kc _ _
      apply hKc
      refine⟨hw3, ?_⟩
      refine wpFl_op rfl rfl rfl rfl ?_ ?_
      rotate_left
      ·skip
       intro Kc hKc
       unfold Oper.wp
       simp[execOp,go_sem,hmm]
       apply hKc
       have hb4:Below V3.heap.size V3 (V3.alloc (.map #[] 0)):=bel
       have hm:(V3.alloc (.map #[] 0)).heap[V3.heap.size]? =some (.map #[] 0):=heap_alloc_new V3 _
       have hum:V3.heap.size<(V3.alloc (.map #[] 0)).heap.size:=by simp
       generalize hV4:V3.alloc (.map #[] 0)=V4 at*
       obtain⟨bm,hbm⟩: ∃b,V3.heap.size=b:=⟨_,rfl⟩
       clear hV4
       have hs4:=hb4.size
       have hw4:=below_next hw3 hb4
       refine⟨hw4, ?_⟩
       rw[hbm]at hm hum ⊢
       refine wpRow_op rfl rfl ?_
       intro Kc hKc
       unfold Oper.wp
       simp[execOp,go_sem]
       refine(HT3.out _ hw4).mono ?_
       rintro e V5 ⟨b3,rfl,hb5,hl3,hk3⟩
       have hs5:=hb5.size
       have hu3:=hk3.lt
       have hw5:=below_next hw4 hb5
       show Kc _ _
       apply hKc
       refine⟨hw5, ?_⟩
       refine wpRow_op rfl rfl ?_
       intro Kc hKc
       unfold Oper.wp
       simp[execOp,go_sem]
       refine(HT4.out _ hw5).mono ?_
       rintro e V6 ⟨b4,rfl,hb6,hl4,hk4⟩
       have hs6:=hb6.size
       have hu4:=hk4.lt
       have hw6:=below_next hw5 hb6
       show Kc _ _
       apply hKc
       refine⟨hw6, ?_⟩
       simp only[wpRow,List.map,List.drop]
       go_wp2_with fail
       go_meet
       case rel=>
        obtain⟨U,hU⟩: ∃U,World.alloc V6 (.cells #[.map (some b0),.map (some b1),.map (some b2),.map (some b3),.map (some b4),.map (some bm),.bool p.rel,.int .i64 p.depth,.int .i64 p.name,.int .i64 p.value] 83)=U:=⟨_,rfl⟩
        have hb7:Below V6.heap.size V6 U:=by rw[<-hU];exact bel
        have hsz:U.heap.size=V6.heap.size+1:=by rw[<-hU];simp
        have hcs: ∀j x,[.map (some b0),.map (some b1),.map (some b2),.map (some b3),.map (some b4),.map (some bm),.bool p.rel,.int .i64 p.depth,.int .i64 p.name,.int .i64 p.value][j]? =some x->U.cell? ⟨V6.heap.size,j,none⟩=some x:=fun j x hx=>by
         have:=new_cells (W:=V6) (t:=83) (c:= #[.map (some b0),.map (some b1),.map (some b2),.map (some b3),.map (some b4),.map (some bm),.bool p.rel,.int .i64 p.depth,.int .i64 p.name,.int .i64 p.value]) (ad:=⟨V6.heap.size,0,none⟩) rfl j x hx
         rw[hU]at this
         rwa[addr_at]at this
        have hd6:Below V6.heap.size V6 U:=hb7
        have hd5:Below V5.heap.size V5 U:=below_next hb6 hd6
        have hd4:Below V4.heap.size V4 U:=below_next hb5 hd5
        have hd3:Below V3.heap.size V3 U:=below_next hb4 hd4
        have hd2:Below V2.heap.size V2 U:=below_next hb3 hd3
        have hd1:Below V1.heap.size V1 U:=below_next hb2 hd2
        have hw7:=below_next hw6 hb7
        rw[hU]
        refine⟨V6.heap.size,bm,U.heap.size,rfl,(⟨by omega,Nat.le_refl _,by omega,⟨b0,hcs 0 _ rfl,hk0.below hd1,by omega,by omega⟩,⟨b1,hcs 1 _ rfl,hk1.below hd2,by omega,by omega⟩,⟨b2,hcs 2 _ rfl,hk2.below hd3,by omega,by omega⟩,⟨b3,hcs 3 _ rfl,hk3.below hd5,by omega,by omega⟩,⟨b4,hcs 4 _ rfl,hk4.below hd6,by omega,by omega⟩,hcs 5 _ rfl,GrpM.new ((hd4.block bm hum).trans hm) (by omega),hcs 6 _ rfl,hcs 7 _ rfl,hcs 8 _ rfl,hcs 9 _ rfl⟩:RulesB U V6.heap.size bm U.heap.size p []), ?_,by omega,by omega⟩
        exact hd0 U hw7
      ·skip
       intro Kc hKc
       unfold Oper.wp
       simp[execOp,go_sem]
       refine(HT3.out _ hw3).mono ?_
       rintro e V4 ⟨b3,rfl,hb4,hl3,hk3⟩
       have hs4:=hb4.size
       have hu3:=hk3.lt
       have hw4:=below_next hw3 hb4
       show Kc _ _
       apply hKc
       refine⟨hw4, ?_⟩
       refine wpFl_op rfl rfl rfl rfl ?_ ?_
       rotate_left
       ·skip
        intro Kc hKc
        unfold Oper.wp
        simp[execOp,go_sem,hmm]
        apply hKc
        have hb5:Below V4.heap.size V4 (V4.alloc (.map #[] 0)):=bel
        have hm:(V4.alloc (.map #[] 0)).heap[V4.heap.size]? =some (.map #[] 0):=heap_alloc_new V4 _
        have hum:V4.heap.size<(V4.alloc (.map #[] 0)).heap.size:=by simp
        generalize hV5:V4.alloc (.map #[] 0)=V5 at*
        obtain⟨bm,hbm⟩: ∃b,V4.heap.size=b:=⟨_,rfl⟩
        clear hV5
        have hs5:=hb5.size
        have hw5:=below_next hw4 hb5
        refine⟨hw5, ?_⟩
        rw[hbm]at hm hum ⊢
        refine wpRow_op rfl rfl ?_
        intro Kc hKc
        unfold Oper.wp
        simp[execOp,go_sem]
        refine(HT4.out _ hw5).mono ?_
        rintro e V6 ⟨b4,rfl,hb6,hl4,hk4⟩
        have hs6:=hb6.size
        have hu4:=hk4.lt
        have hw6:=below_next hw5 hb6
        show Kc _ _
        apply hKc
        refine⟨hw6, ?_⟩
        simp only[wpRow,List.map,List.drop]
        go_wp2_with fail
        go_meet
        case rel=>
         obtain⟨U,hU⟩: ∃U,World.alloc V6 (.cells #[.map (some b0),.map (some b1),.map (some b2),.map (some b3),.map (some b4),.map (some bm),.bool p.rel,.int .i64 p.depth,.int .i64 p.name,.int .i64 p.value] 83)=U:=⟨_,rfl⟩
         have hb7:Below V6.heap.size V6 U:=by rw[<-hU];exact bel
         have hsz:U.heap.size=V6.heap.size+1:=by rw[<-hU];simp
         have hcs: ∀j x,[.map (some b0),.map (some b1),.map (some b2),.map (some b3),.map (some b4),.map (some bm),.bool p.rel,.int .i64 p.depth,.int .i64 p.name,.int .i64 p.value][j]? =some x->U.cell? ⟨V6.heap.size,j,none⟩=some x:=fun j x hx=>by
          have:=new_cells (W:=V6) (t:=83) (c:= #[.map (some b0),.map (some b1),.map (some b2),.map (some b3),.map (some b4),.map (some bm),.bool p.rel,.int .i64 p.depth,.int .i64 p.name,.int .i64 p.value]) (ad:=⟨V6.heap.size,0,none⟩) rfl j x hx
          rw[hU]at this
          rwa[addr_at]at this
         have hd6:Below V6.heap.size V6 U:=hb7
         have hd5:Below V5.heap.size V5 U:=below_next hb6 hd6
         have hd4:Below V4.heap.size V4 U:=below_next hb5 hd5
         have hd3:Below V3.heap.size V3 U:=below_next hb4 hd4
         have hd2:Below V2.heap.size V2 U:=below_next hb3 hd3
         have hd1:Below V1.heap.size V1 U:=below_next hb2 hd2
         have hw7:=below_next hw6 hb7
         rw[hU]
         refine⟨V6.heap.size,bm,U.heap.size,rfl,(⟨by omega,Nat.le_refl _,by omega,⟨b0,hcs 0 _ rfl,hk0.below hd1,by omega,by omega⟩,⟨b1,hcs 1 _ rfl,hk1.below hd2,by omega,by omega⟩,⟨b2,hcs 2 _ rfl,hk2.below hd3,by omega,by omega⟩,⟨b3,hcs 3 _ rfl,hk3.below hd4,by omega,by omega⟩,⟨b4,hcs 4 _ rfl,hk4.below hd6,by omega,by omega⟩,hcs 5 _ rfl,GrpM.new ((hd5.block bm hum).trans hm) (by omega),hcs 6 _ rfl,hcs 7 _ rfl,hcs 8 _ rfl,hcs 9 _ rfl⟩:RulesB U V6.heap.size bm U.heap.size p []), ?_,by omega,by omega⟩
         exact hd0 U hw7
       ·skip
        intro Kc hKc
        unfold Oper.wp
        simp[execOp,go_sem]
        refine(HT4.out _ hw4).mono ?_
        rintro e V5 ⟨b4,rfl,hb5,hl4,hk4⟩
        have hs5:=hb5.size
        have hu4:=hk4.lt
        have hw5:=below_next hw4 hb5
        show Kc _ _
        apply hKc
        refine⟨hw5, ?_⟩
        refine wpFl_last rfl rfl ?_
        intro Kc hKc
        unfold Oper.wp
        simp[execOp,go_sem,hmm]
        apply hKc
        have hb6:Below V5.heap.size V5 (V5.alloc (.map #[] 0)):=bel
        have hm:(V5.alloc (.map #[] 0)).heap[V5.heap.size]? =some (.map #[] 0):=heap_alloc_new V5 _
        have hum:V5.heap.size<(V5.alloc (.map #[] 0)).heap.size:=by simp
        generalize hV6:V5.alloc (.map #[] 0)=V6 at*
        obtain⟨bm,hbm⟩: ∃b,V5.heap.size=b:=⟨_,rfl⟩
        clear hV6
        have hs6:=hb6.size
        have hw6:=below_next hw5 hb6
        refine⟨hw6, ?_⟩
        rw[hbm]at hm hum ⊢
        simp only[List.drop]
        go_wp2_with fail
        go_meet
        case rel=>
         obtain⟨U,hU⟩: ∃U,World.alloc V6 (.cells #[.map (some b0),.map (some b1),.map (some b2),.map (some b3),.map (some b4),.map (some bm),.bool p.rel,.int .i64 p.depth,.int .i64 p.name,.int .i64 p.value] 83)=U:=⟨_,rfl⟩
         have hb7:Below V6.heap.size V6 U:=by rw[<-hU];exact bel
         have hsz:U.heap.size=V6.heap.size+1:=by rw[<-hU];simp
         have hcs: ∀j x,[.map (some b0),.map (some b1),.map (some b2),.map (some b3),.map (some b4),.map (some bm),.bool p.rel,.int .i64 p.depth,.int .i64 p.name,.int .i64 p.value][j]? =some x->U.cell? ⟨V6.heap.size,j,none⟩=some x:=fun j x hx=>by
          have:=new_cells (W:=V6) (t:=83) (c:= #[.map (some b0),.map (some b1),.map (some b2),.map (some b3),.map (some b4),.map (some bm),.bool p.rel,.int .i64 p.depth,.int .i64 p.name,.int .i64 p.value]) (ad:=⟨V6.heap.size,0,none⟩) rfl j x hx
          rw[hU]at this
          rwa[addr_at]at this
         have hd6:Below V6.heap.size V6 U:=hb7
         have hd5:Below V5.heap.size V5 U:=below_next hb6 hd6
         have hd4:Below V4.heap.size V4 U:=below_next hb5 hd5
         have hd3:Below V3.heap.size V3 U:=below_next hb4 hd4
         have hd2:Below V2.heap.size V2 U:=below_next hb3 hd3
         have hd1:Below V1.heap.size V1 U:=below_next hb2 hd2
         have hw7:=below_next hw6 hb7
         rw[hU]
         refine⟨V6.heap.size,bm,U.heap.size,rfl,(⟨by omega,Nat.le_refl _,by omega,⟨b0,hcs 0 _ rfl,hk0.below hd1,by omega,by omega⟩,⟨b1,hcs 1 _ rfl,hk1.below hd2,by omega,by omega⟩,⟨b2,hcs 2 _ rfl,hk2.below hd3,by omega,by omega⟩,⟨b3,hcs 3 _ rfl,hk3.below hd4,by omega,by omega⟩,⟨b4,hcs 4 _ rfl,hk4.below hd5,by omega,by omega⟩,hcs 5 _ rfl,GrpM.new ((hd6.block bm hum).trans hm) (by omega),hcs 6 _ rfl,hcs 7 _ rfl,hcs 8 _ rfl,hcs 9 _ rfl⟩:RulesB U V6.heap.size bm U.heap.size p []), ?_,by omega,by omega⟩
         exact hd0 U hw7
  case rest=>
   clear HS0 HS1 HS2 HS3 HS4
   obtain⟨g,b,base,rfl,HRB,HBx,hg,hbb⟩:=hcut
   rename_i wc
   have hBc:B<wc.heap.size:=Nat.lt_of_lt_of_le hBl HBx.out.size
   have d5:=(HBx.out.cell (p:=⟨B,5,none⟩) hBl).trans c5
   have hn5:fN p 5<=200:=HFw.out
   go_wp2_with fail
   go_loopw [40] (fun i wr=> ∃k:Nat,k<=fN p 5/\i= .int .i64 (k:Nat)/\Hid (RulesB wr g b base p (p.forces.take k))/\Hid (Below W0.heap.size W0 wr)) (fun i _=>fN p 5-(intOf i).toNat)
   case atStart=>exact⟨0,by omega,rfl,HRB.out,HBx.out⟩
   case round=>
    clear HRB HBx hBc d5
    obtain⟨k,hk,rfl,HRB,HBx⟩:=hrel
    have HBw:=Lib.hid (HB0.out wr HBx.out)
    have hs1:W0.heap.size<=wr.heap.size:=HBx.out.size
    by_cases hlt:k<fN p 5
    ·have hkl:k<p.forces.length:=hlt
     obtain⟨bf,off,hAd,hbf,hc⟩: ∃b off,A5=some ⟨b,off,none⟩/\b<w.heap.size/\ ∀j u,(fC p 5)[j]? =some u->w.cell? ⟨b,off+j,none⟩=some u:=by
      obtain⟨_,_,A',c',e,h4⟩:=H5.out
      cases e
      exact h4 (by omega)
     subst hAd
     obtain⟨f,hf⟩: ∃f,p.forces[k]=f:=⟨_,rfl⟩
     have x0:wr.cell? ⟨bf,off+k*3,none⟩=some (.string ⟨f.tag.toArray⟩):=(HBw.out.cell (p:=⟨bf,off+k*3,none⟩) hbf).trans (hc (k*3+0) (sv f.tag) (by show(p.forces.flatMap Frc.cells)[k*3+0]? =_;rw[flat_atC Frc.cells 3 (fun _=>rfl) p.forces k 0 hkl (by omega),hf];rfl))
     have x1:wr.cell? ⟨bf,off+k*3+1,none⟩=some (.string ⟨f.name.toArray⟩):=(HBw.out.cell (p:=⟨bf,off+k*3+1,none⟩) hbf).trans ((congrArg (fun i=>w.cell? ⟨bf,i,none⟩) (by omega)).trans (hc (k*3+1) (sv f.name) (by show(p.forces.flatMap Frc.cells)[k*3+1]? =_;rw[flat_atC Frc.cells 3 (fun _=>rfl) p.forces k 1 hkl (by omega),hf];rfl)))
     have x2:wr.cell? ⟨bf,off+k*3+2,none⟩=some (.string ⟨f.value.toArray⟩):=(HBw.out.cell (p:=⟨bf,off+k*3+2,none⟩) hbf).trans ((congrArg (fun i=>w.cell? ⟨bf,i,none⟩) (by omega)).trans (hc (k*3+2) (sv f.value) (by show(p.forces.flatMap Frc.cells)[k*3+2]? =_;rw[flat_atC Frc.cells 3 (fun _=>rfl) p.forces k 2 hkl (by omega),hf];rfl)))
     have hbr:bf<wr.heap.size:=Nat.lt_of_lt_of_le hbf HBw.out.size
     have HT:Hid (p.forces.take (k+1)=p.forces.take k++[f]):=by show _=_;rw[List.take_succ_eq_append_getElem hkl,hf]
     have HKey:=Lib.hid (str_key (Nat.le_trans (HWd.out.forces f (hf ▸ List.getElem_mem hkl)).1 (by simp[maxLen]:(64:Nat)<=maxLen)))
     have hm0:(grpL Frc.tag (p.forces.take k) f.tag).length<=200:=Nat.le_trans (List.length_filter_le _ _) (Nat.le_trans (by rw[List.length_take];omega) HFw.out)
     clear hc hf hkl
     obtain⟨t0,ht0⟩: ∃t,(⟨f.tag.toArray⟩:ByteArray)=t:=⟨_,rfl⟩
     obtain⟨t1,ht1⟩: ∃t,(⟨f.name.toArray⟩:ByteArray)=t:=⟨_,rfl⟩
     obtain⟨t2,ht2⟩: ∃t,(⟨f.value.toArray⟩:ByteArray)=t:=⟨_,rfl⟩
     rw[ht0]at x0
     rw[ht1]at x1
     rw[ht2]at x2
     have HSv:Hid (sv f.tag= .string t0):=by show _=_;rw[<-ht0];rfl
     have HAt:Hid (atC f=[.string t1,.string t2]):=by show _=_;rw[<-ht1,<-ht2];rfl
     clear ht0 ht1 ht2
     go_upto_region 7 with fail
     refine name_world fun W1 hW1=> ?_
     obtain⟨F,hF⟩: ∃F,wr.heap.size=F:=⟨_,rfl⟩
     have hb1:Below wr.heap.size wr W1:=by rw[hW1];exact bel
     have y0:W1.cell? ⟨F,0,none⟩=some (.string t0):=by rw[hW1,<-hF];simp[go_sem]
     have y1:W1.cell? ⟨F,1,none⟩=some (.string t1):=by rw[hW1,<-hF];simp[go_sem]
     have y2:W1.cell? ⟨F,2,none⟩=some (.string t2):=by rw[hW1,<-hF];simp[go_sem]
     rw[hF]
     have HRV:=Lib.hid (HRB.out.below hb1)
     obtain⟨lv,hlook,hown,hstep⟩:=HRB.out.grp.look (fun _=>rfl) str_law Tryz.underlying81 (fun V=>show(zeroValue 104).run Tryz.prog V= .ok (.slice none 0 0) V by kernel_rfl) f.tag HKey.out
     rw[HSv.out]at hlook
     obtain⟨V,hV⟩: ∃V,W1.drew=V:=⟨_,rfl⟩
     have hbv1:Below W1.heap.size W1 V:=by rw[<-hV];exact bel
     have hbv:Below wr.heap.size wr V:=below_next hb1 hbv1
     have hbl:b<wr.heap.size:=HRB.out.grp.lt
     have hgl:g<wr.heap.size:=Nat.lt_of_lt_of_le HRB.out.g_lt HRB.out.base_le
     have z5:V.cell? ⟨g,5,none⟩=some (.map (some b)):=(hbv.cell (p:=⟨g,5,none⟩) hgl).trans HRB.out.c5
     have z0:=(hbv1.cell (p:=⟨F,0,none⟩) (World.block_lt_of_cell? W1 _ y0)).trans y0
     have z1:=(hbv1.cell (p:=⟨F,1,none⟩) (World.block_lt_of_cell? W1 _ y1)).trans y1
     have z2:=(hbv1.cell (p:=⟨F,2,none⟩) (World.block_lt_of_cell? W1 _ y2)).trans y2
     have zb:V.heap[b]? =wr.heap[b]? :=hbv.block b hbl
     have HLk:=Lib.hid hlook
     have HRw:=Lib.hid HRB.out
     have HBr:=Lib.hid HBx.out
     have HOw:=Lib.hid (own_below hown hbv)
     have HLt:=Lib.hid hown.lt
     have HSt:=Lib.hid hstep
     have hbs:b<base:=HRB.out.grp.1
     have hgs:g<base:=HRB.out.g_lt
     have hbr2:base<=wr.heap.size:=HRB.out.base_le
     have hVs:=hbv.size
     have hFV:F<V.heap.size:=World.block_lt_of_cell? V _ z0
     have HVr:=Lib.hid (show ∀row,wr.grownBy V row from fun row=>⟨hbv.os,hbv.tape,hbv.output,hbv.size,fun i hi _=>hbv.block i hi⟩)
     clear hW1 hb1 HRB HBx HBw x0 x1 x2 y0 y1 y2 hlook hown hstep hbv1 HRV
     have hm1:(grpL Frc.tag (p.forces.take k) f.tag).length+1<=maxLen:=Nat.le_trans (Nat.succ_le_succ hm0) (by simp[maxLen])
     generalize hmm0:(grpL Frc.tag (p.forces.take k) f.tag).length=m at*
     refine wp_region_row 20 [(0,true),(1,true),(2,true),(3,true),(4,true),(5,true),(6,true),(7,true),(8,true),(9,true),(10,true),(11,true),(12,true),(13,true),(14,true),(15,true),(16,true),(17,true),(18,false),(19,false)] (fun V=>V.heap[b]? =wr.heap[b]? /\V.cell? ⟨g,5,none⟩=some (.map (some b))/\V.cell? ⟨F,0,none⟩=some (.string t0)/\V.cell? ⟨F,1,none⟩=some (.string t1)/\V.cell? ⟨F,2,none⟩=some (.string t2)) hmx (by kernel_rfl) (by kernel_rfl) (by kernel_rfl) (by decide) rfl (fun c a d v w h=>by first|exact h|(obtain⟨x,y⟩:=(h:_/\_);cases d<;>exact⟨x,y⟩)) (by kernel_rfl) (by rw[hV];exact⟨zb,z5,z0,z1,z2⟩) ?_
     rw[hV]
     clear hV
     refine wpRow_rdD (v:= .pointer (some ⟨g,0,none⟩)) 44 rfl rfl rfl (fun W hW=>by simp[execOp,go_sem]) ?_
     simp only[Act.put,List.setIfInBounds_toArray,List.set_cons_succ,List.set_cons_zero]
     refine wpRow_rdD (v:= .pointer (some ⟨g,0,none⟩)) 45 rfl rfl rfl (fun W hW=>by simp[execOp,go_sem]) ?_
     simp only[Act.put,List.setIfInBounds_toArray,List.set_cons_succ,List.set_cons_zero]
     refine wpRow_rdD (v:= .pointer (some ⟨g,5,none⟩)) 46 rfl rfl rfl (fun W hW=>by simp[execOp,go_sem]) ?_
     simp only[Act.put,List.setIfInBounds_toArray,List.set_cons_succ,List.set_cons_zero]
     refine wpRow_rdD (v:= .map (some b)) 47 rfl rfl rfl (fun W hW=>by simp[execOp,go_sem,hW.2.1]) ?_
     simp only[Act.put,List.setIfInBounds_toArray,List.set_cons_succ,List.set_cons_zero]
     refine wpRow_rdD (v:= .pointer (some ⟨F,0,none⟩)) 48 rfl rfl rfl (fun W hW=>by simp[execOp,go_sem]) ?_
     simp only[Act.put,List.setIfInBounds_toArray,List.set_cons_succ,List.set_cons_zero]
     refine wpRow_rdD (v:= .string t0) 49 rfl rfl rfl (fun W hW=>by simp[execOp,go_sem,hW.2.2.1]) ?_
     simp only[Act.put,List.setIfInBounds_toArray,List.set_cons_succ,List.set_cons_zero]
     refine wpRow_rdD (v:= .pointer (some ⟨g,0,none⟩)) 50 rfl rfl rfl (fun W hW=>by simp[execOp,go_sem]) ?_
     simp only[Act.put,List.setIfInBounds_toArray,List.set_cons_succ,List.set_cons_zero]
     refine wpRow_rdD (v:= .pointer (some ⟨g,0,none⟩)) 51 rfl rfl rfl (fun W hW=>by simp[execOp,go_sem]) ?_
     simp only[Act.put,List.setIfInBounds_toArray,List.set_cons_succ,List.set_cons_zero]
     refine wpRow_rdD (v:= .pointer (some ⟨g,5,none⟩)) 52 rfl rfl rfl (fun W hW=>by simp[execOp,go_sem]) ?_
     simp only[Act.put,List.setIfInBounds_toArray,List.set_cons_succ,List.set_cons_zero]
     refine wpRow_rdD (v:= .map (some b)) 53 rfl rfl rfl (fun W hW=>by simp[execOp,go_sem,hW.2.1]) ?_
     simp only[Act.put,List.setIfInBounds_toArray,List.set_cons_succ,List.set_cons_zero]
     refine wpRow_rdD (v:= .pointer (some ⟨F,0,none⟩)) 54 rfl rfl rfl (fun W hW=>by simp[execOp,go_sem]) ?_
     simp only[Act.put,List.setIfInBounds_toArray,List.set_cons_succ,List.set_cons_zero]
     refine wpRow_rdD (v:= .string t0) 55 rfl rfl rfl (fun W hW=>by simp[execOp,go_sem,hW.2.2.1]) ?_
     simp only[Act.put,List.setIfInBounds_toArray,List.set_cons_succ,List.set_cons_zero]
     refine wpRow_rdD (v:=lv) 56 rfl rfl rfl (fun W hW=>by simp[execOp,go_sem,HLk.out W hW.1]) ?_
     simp only[Act.put,List.setIfInBounds_toArray,List.set_cons_succ,List.set_cons_zero]
     refine wpRow_rdD (v:= .pointer (some ⟨F,1,none⟩)) 57 rfl rfl rfl (fun W hW=>by simp[execOp,go_sem]) ?_
     simp only[Act.put,List.setIfInBounds_toArray,List.set_cons_succ,List.set_cons_zero]
     refine wpRow_rdD (v:= .string t1) 58 rfl rfl rfl (fun W hW=>by simp[execOp,go_sem,hW.2.2.2.1]) ?_
     simp only[Act.put,List.setIfInBounds_toArray,List.set_cons_succ,List.set_cons_zero]
     refine wpRow_rdD (v:= .pointer (some ⟨F,2,none⟩)) 59 rfl rfl rfl (fun W hW=>by simp[execOp,go_sem]) ?_
     simp only[Act.put,List.setIfInBounds_toArray,List.set_cons_succ,List.set_cons_zero]
     refine wpRow_rdD (v:= .string t2) 60 rfl rfl rfl (fun W hW=>by simp[execOp,go_sem,hW.2.2.2.2]) ?_
     simp only[Act.put,List.setIfInBounds_toArray,List.set_cons_succ,List.set_cons_zero]
     refine wpRow_rdD (v:= .agg #[.string t1,.string t2]) 61 rfl rfl rfl (fun W hW=>by simp[execOp,go_sem]) ?_
     simp only[Act.put,List.setIfInBounds_toArray,List.set_cons_succ,List.set_cons_zero]
     refine wpRow_op rfl rfl fun Kc hKc=> ?_
     unfold Oper.wp
     simp[execOp,go_sem]
     apply hKc
     have hAl:Below V.heap.size V (V.alloc (.cells #[.string t1,.string t2] 106)):=bel
     have hca:=fun j x (q:Nat) (hq:q<V.heap.size) (hc:V.cell? ⟨q,j,none⟩=some x)=>(hAl.cell (p:=⟨q,j,none⟩) hq).trans hc
     refine⟨⟨(hAl.block b (by omega)).trans zb,hca _ _ g (by omega) z5,hca _ _ F hFV z0,hca _ _ F hFV z1,hca _ _ F hFV z2⟩, ?_⟩
     refine wpRow_op rfl rfl fun Kc hKc=> ?_
     refine wpOp_append_at _ _ 104 rfl sltT base rfl (HOw.out.alloc _) (by simp;omega) ⟨V.heap.size,0,none⟩ 1 1 [.string t1,.string t2] rfl rfl (new_cells (c:= #[.string t1,.string t2]) rfl) (by simp[Value.oneCell']) hm1 (by omega) ?_
     intro v2 W2 ho2 hg2 hat2
     have hgA:=World.grownBy.trans (World.grownBy_alloc V (.cells #[.string t1,.string t2] 106) lv.ownBlock) hg2
     have hgV:=World.grownBy.trans (HVr.out lv.ownBlock) hgA
     have hsA:V.heap.size<=(V.alloc (.cells #[.string t1,.string t2] 106)).heap.size:=hAl.size
     obtain⟨W3,hrun3,hgrp3,hg3⟩:=HSt.out f v2 W2 rfl (HAt.out ▸ ho2) hgV (hat2.imp id (fun e=>⟨_,e,by omega⟩))
     rw[HSv.out]at hrun3
     have hnb: ∀q,q<base->lv.ownBlock≠some q:=fun q hq e=>by have:=(HLt.out q e).1;omega
     have hnF:lv.ownBlock≠some F:=fun e=>by have:=(HLt.out F e).2;omega
     have hcb:=fun j x (q:Nat) (hq:q<V.heap.size) (hn:lv.ownBlock≠some q) (hc:V.cell? ⟨q,j,none⟩=some x)=>(World.cell?_of_block (hgA.block q hq (fun e=>hn e.symm)):W2.cell? ⟨q,j,none⟩=V.cell? ⟨q,j,none⟩).trans hc
     apply hKc
     refine⟨⟨(hgA.block b (by omega) (fun e=>hnb b hbs e.symm)).trans zb,hcb _ _ g (by omega) (hnb g hgs) z5,hcb _ _ F hFV hnF z0,hcb _ _ F hFV hnF z1,hcb _ _ F hFV hnF z2⟩, ?_⟩
     have HRn:=Lib.hid hrun3
     have HG3:=Lib.hid hgrp3
     have HE3:=Lib.hid hg3
     have HE2:=Lib.hid hgV
     clear ho2 hat2 hgV hg2 hgA hrun3 hgrp3 hg3 hcb hca hAl hnb hnF z0 z1 z2 z5 zb
     simp only[Act.put,List.setIfInBounds_toArray]
     simp only[wpRow,List.drop]
     go_wp2_with(at_mapUpdate;(refine wpList_store_run rfl _ _ _ 81 rfl rfl rfl rfl HRn.out ?_))
     go_roundw
     case rel=>exact⟨k+1,by omega,by go_num,by show RulesB _ _ _ _ _ _;rw[HT.out];exact HRw.out.step HE2.out (fun j hj=>(HLt.out j hj).1) HE3.out HG3.out,below_two HBr.out hs1 (by omega) (by omega) HE2.out (fun j hj=>(HLt.out j hj).1) HE3.out⟩
     case measure=>simp[intOf];omega
    ·have hkn:k=fN p 5:=by omega
     have HT:Hid (p.forces.take k=p.forces):=List.take_of_length_le (by rw[hkn];exact Nat.le_refl _)
     have HRv:=Lib.hid (show RulesV wr g p by have:=HRB.out;rw[HT.out]at this;exact this.rules)
     have HWr:=Lib.hid (wrong_any g _ p wr HRv.out (HV.out.below HBw.out) HWd.out)
     have d0:=(HBx.out.cell (p:=⟨B,0,none⟩) hBl).trans c0
     have d1:=(HBx.out.cell (p:=⟨B,1,none⟩) hBl).trans c1
     have d2:=(HBx.out.cell (p:=⟨B,2,none⟩) hBl).trans c2
     have d3:=(HBx.out.cell (p:=⟨B,3,none⟩) hBl).trans c3
     have d4:=(HBx.out.cell (p:=⟨B,4,none⟩) hBl).trans c4
     have d5:=(HBx.out.cell (p:=⟨B,5,none⟩) hBl).trans c5
     have d6:=(HBx.out.cell (p:=⟨B,6,none⟩) hBl).trans c6
     have d7:=(HBx.out.cell (p:=⟨B,7,none⟩) hBl).trans c7
     have d8:=(HBx.out.cell (p:=⟨B,8,none⟩) hBl).trans c8
     have d9:=(HBx.out.cell (p:=⟨B,9,none⟩) hBl).trans c9
     have hBc:B<wr.heap.size:=Nat.lt_of_lt_of_le hBl HBx.out.size
     have hgw:w.heap.size<=g:=by omega
     obtain⟨R,hR⟩: ∃R,wrongR p=R:=⟨_,rfl⟩
     rw[hR]at HWr HN
     clear HRB HBx hkn HT H5 HV c0 c1 c2 c3 c4 c5 c6 c7 c8 c9
     by_cases hz:R=0
     ·have b1:((R:Int) !=0)=false:=by rw[hz];rfl
      go_wp2_with(go_at_call 54;(with_reducible refine(HWr.out).mono ?_);rintro e W5 ⟨rfl,X5,rfl⟩)
      go_ret2
      exact⟨HBw.out.trans ((bel:Below wr.heap.size wr (wr.grow X5)).mono HBw.out.size),.inr ⟨by rw[HN.out];exact hz,g,rfl,hgw,HRv.out.below bel⟩⟩
     ·have b1:((R:Int) !=0)=true:=by simp;omega
      go_wp2_with(go_at_call 54;(with_reducible refine(HWr.out).mono ?_);rintro e W5 ⟨rfl,X5,rfl⟩)
      go_ret2
      exact⟨HBw.out.trans ((bel:Below wr.heap.size wr (wr.grow X5)).mono HBw.out.size),.inl ⟨by rw[HN.out];exact hz,by rw[HN.out];rfl⟩⟩
end Go.Proofs.YtiikamobcmgekaaGreatDoor

