/- The walks of policies: one made neat; limits; lists that are too long. -/
import Derived.BigRegion
import Derived.Test.YtiikamobcmgekaaGreatDoorPA
import Derived.Test.YtiikamobcmgekaaGreatDoorS3
import Derived.Test.YtiikamobcmgekaaGreatDoorA3
import Derived.Test.YtiikamobcmgekaaGreatDoorF3
import Derived.Test.YtiikamobcmgekaaGreatDoorWordsF
namespace Go.Proofs.YtiikamobcmgekaaGreatDoor
open Lib renaming hid→z2c
open Tryz renaming func147→z5h,ntmps147→z43,prog→z2f
set_option maxRecDepth 1000000
set_option maxHeartbeats 8000000
open Go.RowKit
attribute [local go_sem] Oper.semAt_some
theorem z1o {K:Act->World->Prop} {a:Act} {d:Option Nat} {arr:Array Value} {i:Nat} {h:i<arr.size} {w:World} (v:Value) (hv:arr[i]=v) (k:K (a.put d v) w):K (a.put d arr[i]) w:=hv ▸ k
structure zir (p:Pol):Prop where
 tags:p.tags.length<=100000000
 schemes:p.schemes.length<=100000000
 css:p.css.length<=100000000
 drops:p.drops.length<=100000000
 attrs:p.attrs.length<=100000000
 forces:p.forces.length<=100000000
theorem zsh {p:Pol} {w W:World} {v0 v1 v2 v3 v4 v5:Value} {z:Array Value} {e e2:TypeId} (hW:W=(w.alloc (.cells #[v0,v1,v2,v3,v4,v5,.bool p.rel,.int .i64 p.depth,.int .i64 p.name,.int .i64 p.value] e)).alloc (.cells z e2)) (hz:z.size=10)
  (h0:Rx w (fun _=>False) v0 (fN p 0) 1 (fC p 0)) (h1:Rx w (fun _=>False) v1 (fN p 1) 1 (fC p 1)) (h2:Rx w (fun _=>False) v2 (fN p 2) 1 (fC p 2)) (h3:Rx w (fun _=>False) v3 (fN p 3) 1 (fC p 3)) (h4:Rx w (fun _=>False) v4 (fN p 4) 2 (fC p 4)) (h5:Rx w (fun _=>False) v5 (fN p 5) 3 (fC p 5)):NtI p w.heap.size 0 w W:=by
 have hb:Below w.heap.size w W:=by rw[hW];exact((Below.refl _ _).alloc (Nat.le_refl _) _).alloc (by simp) _
 have key: ∀{v:Value} {n size:Nat} {cells:List Value},Rx w (fun _=>False) v n size cells->Rx W (bd w.heap.size False) v n size cells:=fun h=>(h.mono (bad':=bd w.heap.size False) (fun b hlt hx=>by rcases hx with(hx|hx)|⟨hx,_⟩<;>omega)).below hb;have kx: ∀j,{v:Value}->{n size:Nat}->{cells:List Value}->Rx w (fun _=>False) v n size cells->Rx W (bd w.heap.size (j<0)) v n size cells:=fun j {_ _ _ _} h=>(key h).mono fun b _ hx=>by
  rcases hx with hx|⟨hx,_⟩
  ·exact .inl hx
  ·omega
 refine⟨hb,by rw[hW];simp,fun j hj=> ?_,by rw[hW];simp[go_sem],by rw[hW];simp[go_sem],by rw[hW];simp[go_sem],by rw[hW];simp[go_sem],fun j=>by rw[hW];simp[go_sem],fun j hj=> ?_,fun j=>by rw[hW];simp[go_sem]⟩
 ·rcases(by omega:j=0\/j=1\/j=2\/j=3\/j=4\/j=5)with rfl|rfl|rfl|rfl|rfl|rfl
  ·exact⟨v0,by rw[hW];simp[go_sem],kx 0 h0⟩
  ·exact⟨v1,by rw[hW];simp[go_sem],kx 1 h1⟩
  ·exact⟨v2,by rw[hW];simp[go_sem],kx 2 h2⟩
  ·exact⟨v3,by rw[hW];simp[go_sem],kx 3 h3⟩
  ·exact⟨v4,by rw[hW];simp[go_sem],kx 4 h4⟩
  ·exact⟨v5,by rw[hW];simp[go_sem],kx 5 h5⟩
 ·refine⟨z[j]'(by omega), ?_⟩;rw[hW,show w.heap.size+1=(w.alloc (.cells #[v0,v1,v2,v3,v4,v5,.bool p.rel,.int .i64 p.depth,.int .i64 p.name,.int .i64 p.value] e)).heap.size by simp];simp only[World.cell?_alloc_new];exact Array.getElem?_eq_getElem _
theorem zhi {p:Pol} {B k:Nat} {w W:World} (h:NtI p B k w W) (hk:k<6): ∃A c,W.cell? ⟨B,k,none⟩=some (.slice A (fN p k) c)/\Rd W (.slice A (fN p k) c) (fN p k) (fS k) (fC p k):=by
 obtain⟨v,hv,A,c,he,_,hr,_⟩:=h.fld k hk;have hm:mix p k k=p:=by unfold mix;rw[if_neg (by omega)]
 rw[hm]at he hr;subst he;exact⟨A,c,hv,hr⟩
theorem zih {p:Pol} {B k:Nat} {w W:World} (h:NtI p B k w W):B<W.heap.size:=by have:=h.size;omega
theorem zxn {p:Pol} {B:Nat} {w W W':World} (_h:NtI p B 6 w W) (ht:zab (fun b=>b=B+1) W W') {u0 u1 u2 u3 u4 u5:Value}
  (h0:Rx W (bd B (0<6)) u0 (fN (mix p 6 0) 0) (fS 0) (fC (mix p 6 0) 0)) (h1:Rx W (bd B (1<6)) u1 (fN (mix p 6 1) 1) (fS 1) (fC (mix p 6 1) 1)) (h2:Rx W (bd B (2<6)) u2 (fN (mix p 6 2) 2) (fS 2) (fC (mix p 6 2) 2)) (h3:Rx W (bd B (3<6)) u3 (fN (mix p 6 3) 3) (fS 3) (fC (mix p 6 3) 3)) (h4:Rx W (bd B (4<6)) u4 (fN (mix p 6 4) 4) (fS 4) (fC (mix p 6 4) 4)) (h5:Rx W (bd B (5<6)) u5 (fN (mix p 6 5) 5) (fS 5) (fC (mix p 6 5) 5)):
  PolV W' (fun b=>b<B) (.agg #[u0,u1,u2,u3,u4,u5,.bool p.rel,.int .i64 p.depth,.int .i64 p.name,.int .i64 p.value]) (za7 p):=by
 have key: ∀{v:Value} {n size:Nat} {cells:List Value} {q:Prop},q->Rx W (bd B q) v n size cells->Rx W' (fun b=>b<B) v n size cells:=fun hq h=>(h.turned (ht.mono fun b hb=> .inl (.inr hb))).mono fun b _ hx=> .inr ⟨hq,hx⟩;exact⟨u0,u1,u2,u3,u4,u5,rfl,key (by omega) h0,key (by omega) h1,key (by omega) h2,key (by omega) h3,key (by omega) h4,key (by omega) h5⟩
theorem zz8 (v:Value) (p:Pol) (w:World) (h:PolV w (fun _=>False) v p) (hs:zir p):Calls z2f 49 #[v] w fun e w'=> ∃v',e= .returned v'/\Below w.heap.size w w'/\PolV w' (fun b=>b<w.heap.size) v' (za7 p):=by
 have hmx:=mxd;obtain⟨v0,v1,v2,v3,v4,v5,rfl,h0,h1,h2,h3,h4,h5⟩:=h;have HZ:=z2c (fun W z e e2 hW hz=>zsh (p:=p) (w:=w) (W:=W) (z:=z) (e:=e) (e2:=e2) hW hz h0 h1 h2 h3 h4 h5);have HSm:=z2c hs;clear h0 h1 h2 h3 h4 h5 hs;go_enter Tryz.func49,Tryz.ntmps49;go_upto_region 1 with fail
 refine zae fun W0 hW0=> ?_;have HI0:=z2c (HZ.out W0 _ _ _ hW0 rfl);clear hW0 HZ;go_wp2_with fail
 go_loopw [10] (fun i wr=> ∃k:Nat,k<=4/\i= .int .i64 k/\Hid (NtI p w.heap.size k w wr)) (fun i _=>4-(intOf i).toNat)
 case atStart=>exact⟨0,by omega,rfl,HI0⟩
 case round=>
  obtain⟨k,hk,rfl,HI⟩:=hrel;have hBl:=zih HI.out;by_cases hlt:k<4
  ·obtain⟨A,c,hv,hr⟩:=zhi HI.out (by omega);have hf:=HI.out.fz k;have HR:=z2c hr;clear hr;have HNt:Hid (Calls z2f 117 #[.slice A (fN p k) c,.func (.func 118) #[] #[]] wr (RetN wr (fN (za7 p) k) (fS k) (fC (za7 p) k))):=by
    rcases(by omega:k=0\/k=1\/k=2\/k=3)with rfl|rfl|rfl|rfl
    ·exact zf0 A c p.tags wr HR.out (by have:=HSm.out.tags;omega)
    ·exact zf0 A c p.schemes wr HR.out (by have:=HSm.out.schemes;omega)
    ·exact zf0 A c p.css wr HR.out (by have:=HSm.out.css;omega)
    ·exact zf0 A c p.drops wr HR.out (by have:=HSm.out.drops;omega)
   obtain⟨kk,hkk⟩: ∃kk,kk=k:=⟨_,rfl⟩;rcases(by omega:k=0\/k=1\/k=2\/k=3)with rfl|rfl|rfl|rfl
   all_goals
    go_wp2_with fail
    refine z1o (.pointer (some ⟨w.heap.size,kk,none⟩)) (by subst hkk;kernel_rfl) ?_;subst hkk;go_wp2_with(go_at_call 117;(with_reducible refine HNt.out.mono ?_);rintro e W1 ⟨A1,c1,rfl,hb1,hA1,hr1,hx1⟩;have HI1:=z2c (HI.out.step (by omega) hb1 hA1 hr1 hx1);have hv1:=(hb1.cell hBl).trans hv;have hf1:=(World.frozen?_of_block (hb1.block _ hBl)).trans hf;clear hb1 hA1 hr1 hx1)
    go_roundw
    case rel=>exact⟨_,by omega,by go_num,HI1⟩
    case measure=>simp[intOf]
  ·obtain rfl:k=4:=by omega
   obtain⟨A4,c4,hv4,hr4⟩:=zhi HI.out (by omega);have hf4:=HI.out.fz 4;have HN4:=z2c (show Calls z2f 119 #[.slice A4 (fN p 4) c4,.func (.func 120) #[] #[]] wr (RetN wr (fN (za7 p) 4) (fS 4) (fC (za7 p) 4))from zo1 A4 c4 p.attrs wr hr4 (by have:=HSm.out.attrs;omega));clear hr4;go_upto_region 7 with(go_at_call 119;(with_reducible refine HN4.out.mono ?_);rintro e W1 ⟨A1,c1,rfl,hb1,hA1,hr1,hx1⟩;have HI1:=z2c (HI.out.step (by omega) hb1 hA1 hr1 hx1);have hv1:=(hb1.cell hBl).trans hv4;have hf1:=(World.frozen?_of_block (hb1.block _ hBl)).trans hf4;clear hb1 hA1 hr1 hx1)
   refine zae fun W5 hW5=> ?_;have HI5:Hid (NtI p w.heap.size 5 w W5):=by show NtI _ _ _ _ _;rw[hW5];exact HI1.out
   clear hW5 HI1 HI hBl;have hBl:=zih HI5.out;obtain⟨A5,c5,hv5,hr5⟩:=zhi HI5.out (by omega);have hf5:=HI5.out.fz 5;have HN5:=z2c (show Calls z2f 121 #[.slice A5 (fN p 5) c5,.func (.func 122) #[] #[]] W5 (RetN W5 (fN (za7 p) 5) (fS 5) (fC (za7 p) 5))from zo0 A5 c5 p.forces W5 hr5 (by have:=HSm.out.forces;omega));clear hr5;go_upto_region 8 with(go_at_call 121;(with_reducible refine HN5.out.mono ?_);rintro e W2 ⟨A2,c2,rfl,hb2,hA2,hr2,hx2⟩;have HI2:=z2c (HI5.out.step (by omega) hb2 hA2 hr2 hx2);have hv2:=(hb2.cell hBl).trans hv5;have hf2:=(World.frozen?_of_block (hb2.block _ hBl)).trans hf5;clear hb2 hA2 hr2 hx2)
   refine zae fun W6 hW6=> ?_;have HI6:Hid (NtI p w.heap.size 6 w W6):=by show NtI _ _ _ _ _;rw[hW6];exact HI2.out
   clear hW6 HI2 HI5 hBl;have hBl:=HI6.out.size;obtain⟨u0,x0,g0⟩:=HI6.out.fld 0 (by omega);obtain⟨a0,d0,e0,_⟩:=id g0;subst e0;obtain⟨u1,x1,g1⟩:=HI6.out.fld 1 (by omega);obtain⟨a1,d1,e1,_⟩:=id g1;subst e1;obtain⟨u2,x2,g2⟩:=HI6.out.fld 2 (by omega);obtain⟨a2,d2,e2,_⟩:=id g2;subst e2;obtain⟨u3,x3,g3⟩:=HI6.out.fld 3 (by omega);obtain⟨a3,d3,e3,_⟩:=id g3;subst e3;obtain⟨u4,x4,g4⟩:=HI6.out.fld 4 (by omega);obtain⟨a4,d4,e4,_⟩:=id g4;subst e4;obtain⟨u5,x5,g5⟩:=HI6.out.fld 5 (by omega);obtain⟨a5,d5,e5,_⟩:=id g5;subst e5;have HG:=z2c (fun W' ht=>zxn HI6.out (W':=W') ht g0 g1 g2 g3 g4 g5);have x6:=HI6.out.c6;have x7:=HI6.out.c7;have x8:=HI6.out.c8;have x9:=HI6.out.c9;obtain⟨r0,y0⟩:=HI6.out.rc 0 (by omega);have z0:=HI6.out.rz 0;obtain⟨r1,y1⟩:=HI6.out.rc 1 (by omega);have z1:=HI6.out.rz 1;obtain⟨r2,y2⟩:=HI6.out.rc 2 (by omega);have z2:=HI6.out.rz 2;obtain⟨r3,y3⟩:=HI6.out.rc 3 (by omega);have z3:=HI6.out.rz 3;obtain⟨r4,y4⟩:=HI6.out.rc 4 (by omega);have z4:=HI6.out.rz 4;obtain⟨r5,y5⟩:=HI6.out.rc 5 (by omega);have z5:=HI6.out.rz 5;obtain⟨r6,y6⟩:=HI6.out.rc 6 (by omega);have z6:=HI6.out.rz 6;obtain⟨r7,y7⟩:=HI6.out.rc 7 (by omega);have z7:=HI6.out.rz 7;obtain⟨r8,y8⟩:=HI6.out.rc 8 (by omega);have z8:=HI6.out.rz 8;obtain⟨r9,y9⟩:=HI6.out.rc 9 (by omega);have z9:=HI6.out.rz 9;have HB6:=z2c HI6.out.below;clear HI6 g0 g1 g2 g3 g4 g5;go_wp2_with fail
   ((try simp only[Exit.inBlock,Exit.then]);refine bodyPost_ret (v:= .agg #[.slice a0 (fN (mix p 6 0) 0) d0,.slice a1 (fN (mix p 6 1) 1) d1,.slice a2 (fN (mix p 6 2) 2) d2,.slice a3 (fN (mix p 6 3) 3) d3,.slice a4 (fN (mix p 6 4) 4) d4,.slice a5 (fN (mix p 6 5) 5) d5,.bool p.rel,.int .i64 p.depth,.int .i64 p.name,.int .i64 p.value]) (by(first|rw[results_cell_tmp rfl]|rw[zde rfl]);go_simp) rfl ?_);refine⟨_,rfl, ?_,HG.out _ ?_⟩
   ·exact HB6.out.trans bel
   ·exact zab.setCell (zab.setCell (zab.setCell (zab.setCell (zab.setCell (zab.setCell (zab.setCell (zab.setCell (zab.setCell (zab.setCell (pv:=fun b=>b=w.heap.size+1) (zab.refl _ _) (p:=⟨w.heap.size+1,0,none⟩) (.inr rfl) _) (p:=⟨w.heap.size+1,1,none⟩) (.inr rfl) _) (p:=⟨w.heap.size+1,2,none⟩) (.inr rfl) _) (p:=⟨w.heap.size+1,3,none⟩) (.inr rfl) _) (p:=⟨w.heap.size+1,4,none⟩) (.inr rfl) _) (p:=⟨w.heap.size+1,5,none⟩) (.inr rfl) _) (p:=⟨w.heap.size+1,6,none⟩) (.inr rfl) _) (p:=⟨w.heap.size+1,7,none⟩) (.inr rfl) _) (p:=⟨w.heap.size+1,8,none⟩) (.inr rfl) _) (p:=⟨w.heap.size+1,9,none⟩) (.inr rfl) _
theorem zoh (v:Value) (p:Pol) (w:World) (h:PolV w (fun _=>False) v p) (hs:zir p):Calls z2f 59 #[v] w fun e w'=> ∃v',e= .returned v'/\Below w.heap.size w w'/\PolV w' (fun b=>b<w.heap.size) v' (za7 p):=by
 have hmx:=mxd;obtain⟨v0,v1,v2,v3,v4,v5,rfl,h0,h1,h2,h3,h4,h5⟩:=h;have HZ:=z2c (fun W z e e2 hW hz=>zsh (p:=p) (w:=w) (W:=W) (z:=z) (e:=e) (e2:=e2) hW hz h0 h1 h2 h3 h4 h5);have HSm:=z2c hs;clear h0 h1 h2 h3 h4 h5 hs;go_enter Tryz.func59,Tryz.ntmps59;go_upto_region 1 with fail
 refine zae fun W0 hW0=> ?_;have HI0:=z2c (HZ.out W0 _ _ _ hW0 rfl);clear hW0 HZ;have hBl:=zih HI0.out;obtain⟨A0,c0,hv0,hr0⟩:=zhi HI0.out (by omega);have hf0:=HI0.out.fz 0;have HN0:=z2c (show Calls z2f 148 #[.slice A0 (fN p 0) c0] W0 (RetN W0 (fN (za7 p) 0) (fS 0) (fC (za7 p) 0))from zga A0 _ c0 p.tags W0 hr0 HSm.out.tags);clear hr0;go_upto_region 2 with(go_at_call 148;(with_reducible refine HN0.out.mono ?_);rintro e V0 ⟨a,d,rfl,hb,hA,hr,hx⟩;have HJ0:=z2c (HI0.out.step (by omega) hb hA hr hx);have hw0:=(hb.cell hBl).trans hv0;have hg0:=(World.frozen?_of_block (hb.block _ hBl)).trans hf0;clear hb hA hr hx)
 refine zae fun W1 hW=> ?_;have HI1:Hid (NtI p w.heap.size 1 w W1):=by show NtI _ _ _ _ _;rw[hW];exact HJ0.out
 clear hW HJ0 HI0 hBl hv0 hf0;have hBl:=zih HI1.out;obtain⟨A1,c1,hv1,hr1⟩:=zhi HI1.out (by omega);have hf1:=HI1.out.fz 1;have HN1:=z2c (show Calls z2f 148 #[.slice A1 (fN p 1) c1] W1 (RetN W1 (fN (za7 p) 1) (fS 1) (fC (za7 p) 1))from zga A1 _ c1 p.schemes W1 hr1 HSm.out.schemes);clear hr1;go_upto_region 3 with(go_at_call 148;(with_reducible refine HN1.out.mono ?_);rintro e V1 ⟨a,d,rfl,hb,hA,hr,hx⟩;have HJ1:=z2c (HI1.out.step (by omega) hb hA hr hx);have hw1:=(hb.cell hBl).trans hv1;have hg1:=(World.frozen?_of_block (hb.block _ hBl)).trans hf1;clear hb hA hr hx)
 refine zae fun W2 hW=> ?_;have HI2:Hid (NtI p w.heap.size 2 w W2):=by show NtI _ _ _ _ _;rw[hW];exact HJ1.out
 clear hW HJ1 HI1 hBl hv1 hf1;have hBl:=zih HI2.out;obtain⟨A2,c2,hv2,hr2⟩:=zhi HI2.out (by omega);have hf2:=HI2.out.fz 2;have HN2:=z2c (show Calls z2f 148 #[.slice A2 (fN p 2) c2] W2 (RetN W2 (fN (za7 p) 2) (fS 2) (fC (za7 p) 2))from zga A2 _ c2 p.css W2 hr2 HSm.out.css);clear hr2;go_upto_region 4 with(go_at_call 148;(with_reducible refine HN2.out.mono ?_);rintro e V2 ⟨a,d,rfl,hb,hA,hr,hx⟩;have HJ2:=z2c (HI2.out.step (by omega) hb hA hr hx);have hw2:=(hb.cell hBl).trans hv2;have hg2:=(World.frozen?_of_block (hb.block _ hBl)).trans hf2;clear hb hA hr hx)
 refine zae fun W3 hW=> ?_;have HI3:Hid (NtI p w.heap.size 3 w W3):=by show NtI _ _ _ _ _;rw[hW];exact HJ2.out
 clear hW HJ2 HI2 hBl hv2 hf2;have hBl:=zih HI3.out;obtain⟨A3,c3,hv3,hr3⟩:=zhi HI3.out (by omega);have hf3:=HI3.out.fz 3;have HN3:=z2c (show Calls z2f 148 #[.slice A3 (fN p 3) c3] W3 (RetN W3 (fN (za7 p) 3) (fS 3) (fC (za7 p) 3))from zga A3 _ c3 p.drops W3 hr3 HSm.out.drops);clear hr3;go_upto_region 5 with(go_at_call 148;(with_reducible refine HN3.out.mono ?_);rintro e V3 ⟨a,d,rfl,hb,hA,hr,hx⟩;have HJ3:=z2c (HI3.out.step (by omega) hb hA hr hx);have hw3:=(hb.cell hBl).trans hv3;have hg3:=(World.frozen?_of_block (hb.block _ hBl)).trans hf3;clear hb hA hr hx)
 refine zae fun W4 hW=> ?_;have HI4:Hid (NtI p w.heap.size 4 w W4):=by show NtI _ _ _ _ _;rw[hW];exact HJ3.out
 clear hW HJ3 HI3 hBl hv3 hf3;have hBl:=zih HI4.out;obtain⟨A4,c4,hv4,hr4⟩:=zhi HI4.out (by omega);have hf4:=HI4.out.fz 4;have HN4:=z2c (show Calls z2f 149 #[.slice A4 (fN p 4) c4] W4 (RetN W4 (fN (za7 p) 4) (fS 4) (fC (za7 p) 4))from zs4 A4 _ c4 p.attrs W4 hr4 HSm.out.attrs);clear hr4;go_upto_region 6 with(go_at_call 149;(with_reducible refine HN4.out.mono ?_);rintro e V4 ⟨a,d,rfl,hb,hA,hr,hx⟩;have HJ4:=z2c (HI4.out.step (by omega) hb hA hr hx);have hw4:=(hb.cell hBl).trans hv4;have hg4:=(World.frozen?_of_block (hb.block _ hBl)).trans hf4;clear hb hA hr hx)
 refine zae fun W5 hW=> ?_;have HI5:Hid (NtI p w.heap.size 5 w W5):=by show NtI _ _ _ _ _;rw[hW];exact HJ4.out
 clear hW HJ4 HI4 hBl hv4 hf4;have hBl:=zih HI5.out;obtain⟨A5,c5,hv5,hr5⟩:=zhi HI5.out (by omega);have hf5:=HI5.out.fz 5;have HN5:=z2c (show Calls z2f 150 #[.slice A5 (fN p 5) c5] W5 (RetN W5 (fN (za7 p) 5) (fS 5) (fC (za7 p) 5))from zs3 A5 _ c5 p.forces W5 hr5 HSm.out.forces);clear hr5;go_upto_region 7 with(go_at_call 150;(with_reducible refine HN5.out.mono ?_);rintro e V5 ⟨a,d,rfl,hb,hA,hr,hx⟩;have HJ5:=z2c (HI5.out.step (by omega) hb hA hr hx);have hw5:=(hb.cell hBl).trans hv5;have hg5:=(World.frozen?_of_block (hb.block _ hBl)).trans hf5;clear hb hA hr hx)
 refine zae fun W6 hW=> ?_;have HI6:Hid (NtI p w.heap.size 6 w W6):=by show NtI _ _ _ _ _;rw[hW];exact HJ5.out
 clear hW HJ5 HI5 hBl hv5 hf5;have hBl:=HI6.out.size;obtain⟨u0,x0,g0⟩:=HI6.out.fld 0 (by omega);obtain⟨a0,d0,e0,_⟩:=id g0;subst e0;obtain⟨u1,x1,g1⟩:=HI6.out.fld 1 (by omega);obtain⟨a1,d1,e1,_⟩:=id g1;subst e1;obtain⟨u2,x2,g2⟩:=HI6.out.fld 2 (by omega);obtain⟨a2,d2,e2,_⟩:=id g2;subst e2;obtain⟨u3,x3,g3⟩:=HI6.out.fld 3 (by omega);obtain⟨a3,d3,e3,_⟩:=id g3;subst e3;obtain⟨u4,x4,g4⟩:=HI6.out.fld 4 (by omega);obtain⟨a4,d4,e4,_⟩:=id g4;subst e4;obtain⟨u5,x5,g5⟩:=HI6.out.fld 5 (by omega);obtain⟨a5,d5,e5,_⟩:=id g5;subst e5;have HG:=z2c (fun W' ht=>zxn HI6.out (W':=W') ht g0 g1 g2 g3 g4 g5);have x6:=HI6.out.c6;have x7:=HI6.out.c7;have x8:=HI6.out.c8;have x9:=HI6.out.c9;obtain⟨r0,y0⟩:=HI6.out.rc 0 (by omega);have z0:=HI6.out.rz 0;obtain⟨r1,y1⟩:=HI6.out.rc 1 (by omega);have z1:=HI6.out.rz 1;obtain⟨r2,y2⟩:=HI6.out.rc 2 (by omega);have z2:=HI6.out.rz 2;obtain⟨r3,y3⟩:=HI6.out.rc 3 (by omega);have z3:=HI6.out.rz 3;obtain⟨r4,y4⟩:=HI6.out.rc 4 (by omega);have z4:=HI6.out.rz 4;obtain⟨r5,y5⟩:=HI6.out.rc 5 (by omega);have z5:=HI6.out.rz 5;obtain⟨r6,y6⟩:=HI6.out.rc 6 (by omega);have z6:=HI6.out.rz 6;obtain⟨r7,y7⟩:=HI6.out.rc 7 (by omega);have z7:=HI6.out.rz 7;obtain⟨r8,y8⟩:=HI6.out.rc 8 (by omega);have z8:=HI6.out.rz 8;obtain⟨r9,y9⟩:=HI6.out.rc 9 (by omega);have z9:=HI6.out.rz 9;have HB6:=z2c HI6.out.below;clear HI6 g0 g1 g2 g3 g4 g5;go_wp2_with fail
 ((try simp only[Exit.inBlock,Exit.then]);refine bodyPost_ret (v:= .agg #[.slice a0 (fN (mix p 6 0) 0) d0,.slice a1 (fN (mix p 6 1) 1) d1,.slice a2 (fN (mix p 6 2) 2) d2,.slice a3 (fN (mix p 6 3) 3) d3,.slice a4 (fN (mix p 6 4) 4) d4,.slice a5 (fN (mix p 6 5) 5) d5,.bool p.rel,.int .i64 p.depth,.int .i64 p.name,.int .i64 p.value]) (by(first|rw[results_cell_tmp rfl]|rw[zde rfl]);go_simp) rfl ?_);refine⟨_,rfl, ?_,HG.out _ ?_⟩
 ·exact HB6.out.trans bel
 ·exact zab.setCell (zab.setCell (zab.setCell (zab.setCell (zab.setCell (zab.setCell (zab.setCell (zab.setCell (zab.setCell (zab.setCell (pv:=fun b=>b=w.heap.size+1) (zab.refl _ _) (p:=⟨w.heap.size+1,0,none⟩) (.inr rfl) _) (p:=⟨w.heap.size+1,1,none⟩) (.inr rfl) _) (p:=⟨w.heap.size+1,2,none⟩) (.inr rfl) _) (p:=⟨w.heap.size+1,3,none⟩) (.inr rfl) _) (p:=⟨w.heap.size+1,4,none⟩) (.inr rfl) _) (p:=⟨w.heap.size+1,5,none⟩) (.inr rfl) _) (p:=⟨w.heap.size+1,6,none⟩) (.inr rfl) _) (p:=⟨w.heap.size+1,7,none⟩) (.inr rfl) _) (p:=⟨w.heap.size+1,8,none⟩) (.inr rfl) _) (p:=⟨w.heap.size+1,9,none⟩) (.inr rfl) _
theorem zok {a b:Bool} (h:a=b):Ending.returned (.bool a)= .returned (.bool b):=by rw[h]
theorem zhu (n hi:Int) (w:World):Calls z2f 209 #[.int .i64 n,.int .i64 hi] w fun e w'=>e= .returned (.bool (inB n hi))/\w=w':=by
 have HN:Hid (inB n hi=decide (1<=n/\n<=hi)):=rfl;by_cases h1:1<=n
 ·go_enter Tryz.func209,Tryz.ntmps209;go_wp2_with fail
  go_ret;exact⟨zok (by rw[HN.out];simp;try omega),rfl⟩
 ·go_enter Tryz.func209,Tryz.ntmps209;go_wp2_with fail
  go_ret;exact⟨zok (by rw[HN.out];simp;try omega),rfl⟩
theorem zgf (v0 v1 v2 v3 v4 v5:Value) (p:Pol) (w:World):Calls z2f 128 #[.agg #[v0,v1,v2,v3,v4,v5,.bool p.rel,.int .i64 p.depth,.int .i64 p.name,.int .i64 p.value]] w (Ret (.bool (limB p)) w):=by
 obtain⟨B1,h1⟩: ∃B,inB p.depth 256=B:=⟨_,rfl⟩;obtain⟨B2,h2⟩: ∃B,inB p.name 64=B:=⟨_,rfl⟩;obtain⟨B3,h3⟩: ∃B,inB p.value 65536=B:=⟨_,rfl⟩;have HN:Hid (limB p=(B1&&B2&&B3)):=by show _=_;rw[<-h1,<-h2,<-h3];rfl
 rw[HN.out];clear HN;cases B1<;>cases B2<;>cases B3;all_goals
  have H1:=z2c (fun W=>h1 ▸ zhu p.depth 256 W);have H2:=z2c (fun W=>h2 ▸ zhu p.name 64 W);have H3:=z2c (fun W=>h3 ▸ zhu p.value 65536 W);clear h1 h2 h3;go_enter Tryz.func128,Tryz.ntmps128;go_wp2_with(first|(go_at_call 209;(with_reducible refine(H1.out _).mono ?_);rintro e w' ⟨rfl,rfl⟩)|(go_at_call 209;(with_reducible refine(H2.out _).mono ?_);rintro e w' ⟨rfl,rfl⟩)|(go_at_call 209;(with_reducible refine(H3.out _).mono ?_);rintro e w' ⟨rfl,rfl⟩))
  go_ret;exact Ret.of rfl bel
theorem z1w (a b:Nat) (w:World):(Builtin.max2 (.int .i64 a) (.int .i64 b)).run z2f w= .ok (.int .i64 ((max a b:Nat):Int)) w:=by
 by_cases h:a<=b
 ·rw[Nat.max_eq_right h];simp[Builtin.max2];omega
 ·rw[Nat.max_eq_left (by omega)];simp[Builtin.max2];omega
theorem z1x (a b c d e f:Nat) (w:World):(Builtin.max_ #[3,3,3,3,3,3] 3 #[.int .i64 a,.int .i64 b,.int .i64 c,.int .i64 d,.int .i64 e,.int .i64 f]).run z2f w= .ok (.int .i64 ((max (max (max (max (max a b) c) d) e) f:Nat):Int)) w:=by
 simp only[Builtin.max_,List.foldlM_cons,List.foldlM_nil,Sem.run_bind,z1w,Result.andThen];rfl
theorem fit_l (a b c d e f:Nat):decide (((max (max (max (max (max a b) c) d) e) f:Nat):Int)<=200)=decide (a<=200/\b<=200/\c<=200/\d<=200/\e<=200/\f<=200):=by rw[decide_eq_decide];omega
theorem fit_r (a b c d e f:Nat):decide (((max a (max b (max c (max d (max e f)))):Nat):Int)<=200)=decide (a<=200/\b<=200/\c<=200/\d<=200/\e<=200/\f<=200):=by rw[decide_eq_decide];omega
theorem zsr (v:Value) (bad:Nat->Prop) (p:Pol) (w:World) (h:PolV w bad v p):Calls z2f 50 #[v] w (Ret (.bool (fitB p)) w):=by
 obtain⟨v0,v1,v2,v3,v4,v5,rfl,⟨A0,c0,rfl,_⟩,⟨A1,c1,rfl,_⟩,⟨A2,c2,rfl,_⟩,⟨A3,c3,rfl,_⟩,⟨A4,c4,rfl,_⟩,⟨A5,c5,rfl,_⟩⟩:=h;have HN:Hid (fitB p=decide (fN p 0<=200/\fN p 1<=200/\fN p 2<=200/\fN p 3<=200/\fN p 4<=200/\fN p 5<=200)):=rfl;generalize fN p 0=n0 at*;generalize fN p 1=n1 at*;generalize fN p 2=n2 at*;generalize fN p 3=n3 at*;generalize fN p 4=n4 at*;generalize fN p 5=n5 at*;have hmax:=fun W=>z1x n0 n1 n2 n3 n4 n5 W;go_enter Tryz.func50,Tryz.ntmps50;go_wp2_with fail
 go_ret;exact Ret.of (by rw[HN.out];first|exact congrArg Value.bool (fit_l n0 n1 n2 n3 n4 n5)|exact congrArg Value.bool (fit_r n0 n1 n2 n3 n4 n5)) bel
theorem zfe (v0 v1 v2 v3 v4 v5:Value) (p:Pol) (w:World):Calls z2f 147 #[.agg #[v0,v1,v2,v3,v4,v5,.bool p.rel,.int .i64 p.depth,.int .i64 p.name,.int .i64 p.value]] w (Ret (.bool (limB p)) w):=by
 have HN:Hid (limB p=(decide (1<=p.depth/\p.depth<=256)&&decide (1<=p.name/\p.name<=64)&&decide (1<=p.value/\p.value<=65536))):=rfl;obtain⟨D,hD⟩: ∃D,limB p=D:=⟨_,rfl⟩;rw[hD]at HN ⊢;clear hD;generalize p.depth=d at*;generalize p.name=n at*;generalize p.value=l at*;by_cases h1:(1:Int)<=d;rotate_left
 ·go_enter z5h,z43;go_wp2_with fail
  go_ret;exact Ret.of (by rw[HN.out];first|(simp;done)|(simp;omega)) bel
 by_cases h2:d<=256;rotate_left
 ·go_enter z5h,z43;go_wp2_with fail
  go_ret;exact Ret.of (by rw[HN.out];first|(simp[h1];done)|(simp;omega)) bel
 by_cases h3:(1:Int)<=n;rotate_left
 ·go_enter z5h,z43;go_wp2_with fail
  go_ret;exact Ret.of (by rw[HN.out];first|(simp[h1,h2];done)|(simp;omega)) bel
 by_cases h4:n<=64;rotate_left
 ·go_enter z5h,z43;go_wp2_with fail
  go_ret;exact Ret.of (by rw[HN.out];first|(simp[h1,h2,h3];done)|(simp;omega)) bel
 by_cases h5:(1:Int)<=l;rotate_left
 ·go_enter z5h,z43;go_wp2_with fail
  go_ret;exact Ret.of (by rw[HN.out];first|(simp[h1,h2,h3,h4];done)|(simp;omega)) bel
 go_enter z5h,z43;go_wp2_with fail
 go_ret;exact Ret.of (by rw[HN.out];first|(simp[h1,h2,h3,h4,h5];done)|(simp;omega)) bel
theorem ztd {α:Type} {l m:List α} {k:Nat} {x:α} (h1:l[k]? =some x) (h2:m[k]? =some x) (h:l.take k=m.take k):l.take (k+1)=m.take (k+1):=by
 rw[List.take_add_one,List.take_add_one,h,h1,h2]
theorem zhl (A1 A2:Option Addr) (n1 n2 c1 c2:Nat) (l m:List Bs) (w:World) (h:Rd w (.slice A1 n1 c1) l.length 1 (l.map sv)) (hu:Rd w (.slice A2 n2 c2) m.length 1 (m.map sv)):Calls z2f 223 #[.slice A1 n1 c1,.slice A2 n2 c2] w (Ret (.bool (decide (l=m))) w):=by
 have hmx:=mxd;have h1n:n1=l.length:=by obtain⟨_,_,_,_,he,_⟩:=h;cases he;rfl
 have h2n:n2=m.length:=by obtain⟨_,_,_,_,he,_⟩:=hu;cases he;rfl
 subst h1n h2n;have hml:=h.2.1;by_cases hlen:l.length=m.length
 ·have HL:=z2c hlen;have HR1:=z2c h;have HR2:=z2c hu;rw[hlen]at hml ⊢;clear h hu hlen;go_enter Tryz.func223,Tryz.ntmps223;go_wp2_with fail
  go_loopw [5] (fun i wr=> ∃k:Nat,k<=m.length/\i= .int .i64 k/\(∃X,wr=w.grow X)/\Hid (l.take k=m.take k)) (fun i _=>m.length-(intOf i).toNat)
  case atStart=>exact⟨0,by omega,rfl,⟨_,(zb6 w).symm⟩,by show _=_;simp⟩
  case round=>
   obtain⟨k,hk,rfl,⟨X,rfl⟩,HK⟩:=hrel;by_cases hlt:k<m.length
   ·obtain⟨x,hx⟩: ∃x,l[k]? =some x:=⟨l[k]'(by rw[HL.out];exact hlt),List.getElem?_eq_getElem _⟩;obtain⟨y,hy⟩: ∃y,m[k]? =some y:=⟨m[k],List.getElem?_eq_getElem _⟩;obtain⟨b1,o1,rfl,hb1,x0⟩:=Rd.atS HR1.out k x hx;obtain⟨b2,o2,rfl,hb2,y0⟩:=Rd.atS HR2.out k y hy;have HX:=z2c (And.intro hx hy);simp only[sv]at x0 y0;have hq:((⟨x.toArray⟩:ByteArray).toList==(⟨y.toArray⟩:ByteArray).toList)=decide (x=y):=by rw[zhs]
    clear hx hy;generalize(⟨x.toArray⟩:ByteArray)=xs at*;generalize(⟨y.toArray⟩:ByteArray)=ys at*;by_cases he:x=y
    ·have HT:Hid (l.take (k+1)=m.take (k+1)):=ztd HX.out.1 (by rw[he];exact HX.out.2) HK.out;rw[decide_eq_true he]at hq;clear he;go_wp2_with fail
     refine zad (by kernel_rfl) (by kernel_rfl) ?_;repeat(go_big_quiet_step(fail))
     refine wpQuiet_nil ?_;intro _ hw';obtain⟨nq,hw''⟩:=hw';subst hw'';go_wp2_with fail
     go_roundw
     case rel=>exact⟨k+1,by omega,by go_num,zao bel,HT⟩
     case measure=>simp[intOf];omega
    ·have HE:Hid (decide (l=m)=false):=by
      show _=_;rw[decide_eq_false_iff_not];intro hlm;have h9:=HX.out.1;rw[hlm,HX.out.2]at h9;cases h9;exact he rfl
     rw[decide_eq_false he]at hq;clear he;go_wp2_with fail
     refine zad (by kernel_rfl) (by kernel_rfl) ?_;repeat(go_big_quiet_step(fail))
     refine wpQuiet_nil ?_;intro _ hw';obtain⟨nq,hw''⟩:=hw';subst hw'';go_wp2_with fail
     go_ret;exact Ret.of (by rw[HE.out];rfl) bel
   ·have:k=m.length:=by omega
    subst this;have HE:Hid (decide (l=m)=true):=by
     show _=_;have:=HK.out;rw[List.take_length,<-HL.out,List.take_length]at this;exact decide_eq_true this
    go_wp2
    go_ret;exact Ret.of (by rw[HE.out];rfl) bel
 ·have HE:Hid (decide (l=m)=false):=decide_eq_false (fun h=>hlen (by rw[h]));have hb:((l.length:Int) !=m.length)=true:=by simp;omega
  clear hlen;go_enter Tryz.func223,Tryz.ntmps223;go_wp2
  go_ret;exact Ret.of (by rw[HE.out];rfl) bel
end Go.Proofs.YtiikamobcmgekaaGreatDoor

