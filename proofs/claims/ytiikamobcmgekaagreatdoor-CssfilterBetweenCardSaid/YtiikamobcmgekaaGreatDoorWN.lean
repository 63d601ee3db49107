/- The walks of policies: one made neat; limits; lists that are too long. -/
import Derived.BigRegion
import Derived.Test.YtiikamobcmgekaaGreatDoorPA
import Derived.Test.YtiikamobcmgekaaGreatDoorS3
import Derived.Test.YtiikamobcmgekaaGreatDoorA3
import Derived.Test.YtiikamobcmgekaaGreatDoorF3
namespace Go.Proofs.YtiikamobcmgekaaGreatDoor
set_option maxRecDepth 1000000
set_option maxHeartbeats 8000000
open Go.RowKit
attribute [local go_sem] Oper.semAt_some
theorem pick_at {K:Act->World->Prop} {a:Act} {d:Option Nat} {arr:Array Value} {i:Nat} {h:i<arr.size} {w:World} (v:Value) (hv:arr[i]=v) (k:K (a.put d v) w):K (a.put d arr[i]) w:=hv ▸ k
structure PolSm (p:Pol):Prop where
 tags:p.tags.length<=100000000
 schemes:p.schemes.length<=100000000
 css:p.css.length<=100000000
 drops:p.drops.length<=100000000
 attrs:p.attrs.length<=100000000
 forces:p.forces.length<=100000000
theorem nti_zero {p:Pol} {w W:World} {v0 v1 v2 v3 v4 v5:Value} {z:Array Value} {e e2:TypeId} (hW:W=(w.alloc (.cells #[v0,v1,v2,v3,v4,v5,.bool p.rel,.int .i64 p.depth,.int .i64 p.name,.int .i64 p.value] e)).alloc (.cells z e2)) (hz:z.size=10)
  (h0:Rx w (fun _=>False) v0 (fN p 0) 1 (fC p 0)) (h1:Rx w (fun _=>False) v1 (fN p 1) 1 (fC p 1)) (h2:Rx w (fun _=>False) v2 (fN p 2) 1 (fC p 2)) (h3:Rx w (fun _=>False) v3 (fN p 3) 1 (fC p 3)) (h4:Rx w (fun _=>False) v4 (fN p 4) 2 (fC p 4)) (h5:Rx w (fun _=>False) v5 (fN p 5) 3 (fC p 5)):NtI p w.heap.size 0 w W:=by
 have hb:Below w.heap.size w W:=by rw[hW];exact((Below.refl _ _).alloc (Nat.le_refl _) _).alloc (by simp) _
 have key: ∀{v:Value} {n size:Nat} {cells:List Value},Rx w (fun _=>False) v n size cells->Rx W (bd w.heap.size False) v n size cells:=fun h=>(h.mono (bad':=bd w.heap.size False) (fun b hlt hx=>by rcases hx with(hx|hx)|⟨hx,_⟩<;>omega)).below hb
 have kx: ∀j,{v:Value}->{n size:Nat}->{cells:List Value}->Rx w (fun _=>False) v n size cells->Rx W (bd w.heap.size (j<0)) v n size cells:=fun j {_ _ _ _} h=>(key h).mono fun b _ hx=>by
  rcases hx with hx|⟨hx,_⟩
  ·exact .inl hx
  ·omega
 refine⟨hb,by rw[hW];simp,fun j hj=> ?_,by rw[hW];simp[go_sem],by rw[hW];simp[go_sem],by rw[hW];simp[go_sem],by rw[hW];simp[go_sem],fun j=>by rw[hW];simp[go_sem],fun j hj=> ?_,fun j=>by rw[hW];simp[go_sem]⟩
 ·rcases(by omega:j=0\/j=1\/j=2\/j=3\/j=4\/j=5)with rfl|rfl|rfl|rfl|rfl|rfl
  ·exact⟨v0,by rw[hW];simp[go_sem],kx 0 h0⟩
  ·exact⟨v1,by rw[hW];simp[go_sem],kx 1 h1⟩
  ·exact⟨v2,by rw[hW];simp[go_sem],kx 2 h2⟩
  ·exact⟨v3,by rw[hW];simp[go_sem],kx 3 h3⟩
  ·exact⟨v4,by rw[hW];simp[go_sem],kx 4 h4⟩
  ·exact⟨v5,by rw[hW];simp[go_sem],kx 5 h5⟩
 ·refine⟨z[j]'(by omega), ?_⟩
  rw[hW,show w.heap.size+1=(w.alloc (.cells #[v0,v1,v2,v3,v4,v5,.bool p.rel,.int .i64 p.depth,.int .i64 p.name,.int .i64 p.value] e)).heap.size by simp]
  simp only[World.cell?_alloc_new]
  exact Array.getElem?_eq_getElem _
theorem nti_at {p:Pol} {B k:Nat} {w W:World} (h:NtI p B k w W) (hk:k<6): ∃A c,W.cell? ⟨B,k,none⟩=some (.slice A (fN p k) c)/\Rd W (.slice A (fN p k) c) (fN p k) (fS k) (fC p k):=by
 obtain⟨v,hv,A,c,he,_,hr,_⟩:=h.fld k hk
 have hm:mix p k k=p:=by unfold mix;rw[if_neg (by omega)]
 rw[hm]at he hr
 subst he
 exact⟨A,c,hv,hr⟩
theorem nti_lt {p:Pol} {B k:Nat} {w W:World} (h:NtI p B k w W):B<W.heap.size:=by have:=h.size;omega
theorem nti_end {p:Pol} {B:Nat} {w W W':World} (_h:NtI p B 6 w W) (ht:Turned (fun b=>b=B+1) W W') {u0 u1 u2 u3 u4 u5:Value}
  (h0:Rx W (bd B (0<6)) u0 (fN (mix p 6 0) 0) (fS 0) (fC (mix p 6 0) 0)) (h1:Rx W (bd B (1<6)) u1 (fN (mix p 6 1) 1) (fS 1) (fC (mix p 6 1) 1)) (h2:Rx W (bd B (2<6)) u2 (fN (mix p 6 2) 2) (fS 2) (fC (mix p 6 2) 2)) (h3:Rx W (bd B (3<6)) u3 (fN (mix p 6 3) 3) (fS 3) (fC (mix p 6 3) 3)) (h4:Rx W (bd B (4<6)) u4 (fN (mix p 6 4) 4) (fS 4) (fC (mix p 6 4) 4)) (h5:Rx W (bd B (5<6)) u5 (fN (mix p 6 5) 5) (fS 5) (fC (mix p 6 5) 5)):
  PolV W' (fun b=>b<B) (.agg #[u0,u1,u2,u3,u4,u5,.bool p.rel,.int .i64 p.depth,.int .i64 p.name,.int .i64 p.value]) (neatP p):=by
 have key: ∀{v:Value} {n size:Nat} {cells:List Value} {q:Prop},q->Rx W (bd B q) v n size cells->Rx W' (fun b=>b<B) v n size cells:=fun hq h=>(h.turned (ht.mono fun b hb=> .inl (.inr hb))).mono fun b _ hx=> .inr ⟨hq,hx⟩
 exact⟨u0,u1,u2,u3,u4,u5,rfl,key (by omega) h0,key (by omega) h1,key (by omega) h2,key (by omega) h3,key (by omega) h4,key (by omega) h5⟩
theorem neat_any (v:Value) (p:Pol) (w:World) (h:PolV w (fun _=>False) v p) (hs:PolSm p):Calls Tryz.prog 49 #[v] w fun e w'=> ∃v',e= .returned v'/\Below w.heap.size w w'/\PolV w' (fun b=>b<w.heap.size) v' (neatP p):=by
 have hmx:=mxd
 obtain⟨v0,v1,v2,v3,v4,v5,rfl,h0,h1,h2,h3,h4,h5⟩:=h
 have HZ:=Lib.hid (fun W z e e2 hW hz=>nti_zero (p:=p) (w:=w) (W:=W) (z:=z) (e:=e) (e2:=e2) hW hz h0 h1 h2 h3 h4 h5)
 have HSm:=Lib.hid hs
 clear h0 h1 h2 h3 h4 h5 hs
 go_enter Tryz.func49,Tryz.ntmps49
 go_upto_region 1 with fail
 refine name_world fun W0 hW0=> ?_
 have HI0:=Lib.hid (HZ.out W0 _ _ _ hW0 rfl)
 clear hW0 HZ
 go_wp2_with fail
 go_loopw [10] (fun i wr=> ∃k:Nat,k<=4/\i= .int .i64 k/\Hid (NtI p w.heap.size k w wr)) (fun i _=>4-(intOf i).toNat)
 case atStart=>exact⟨0,by omega,rfl,HI0⟩
 case round=>
  obtain⟨k,hk,rfl,HI⟩:=hrel
  have hBl:=nti_lt HI.out
  by_cases hlt:k<4
  ·obtain⟨A,c,hv,hr⟩:=nti_at HI.out (by omega)
   have hf:=HI.out.fz k
   have HR:=Lib.hid hr
   clear hr
   have HNt:Hid (Calls Tryz.prog 117 #[.slice A (fN p k) c,.func (.func 118) #[] #[]] wr (RetN wr (fN (neatP p) k) (fS k) (fC (neatP p) k))):=by
    rcases(by omega:k=0\/k=1\/k=2\/k=3)with rfl|rfl|rfl|rfl
    ·exact neatS_any A c p.tags wr HR.out (by have:=HSm.out.tags;omega)
    ·exact neatS_any A c p.schemes wr HR.out (by have:=HSm.out.schemes;omega)
    ·exact neatS_any A c p.css wr HR.out (by have:=HSm.out.css;omega)
    ·exact neatS_any A c p.drops wr HR.out (by have:=HSm.out.drops;omega)
   obtain⟨kk,hkk⟩: ∃kk,kk=k:=⟨_,rfl⟩
   rcases(by omega:k=0\/k=1\/k=2\/k=3)with rfl|rfl|rfl|rfl
   all_goals
    go_wp2_with fail
    refine pick_at (.pointer (some ⟨w.heap.size,kk,none⟩)) (by subst hkk;kernel_rfl) ?_
    subst hkk
    go_wp2_with(go_at_call 117;(with_reducible refine HNt.out.mono ?_);rintro e W1 ⟨A1,c1,rfl,hb1,hA1,hr1,hx1⟩;have HI1:=Lib.hid (HI.out.step (by omega) hb1 hA1 hr1 hx1);have hv1:=(hb1.cell hBl).trans hv;have hf1:=(World.frozen?_of_block (hb1.block _ hBl)).trans hf;clear hb1 hA1 hr1 hx1)
    go_roundw
    case rel=>exact⟨_,by omega,by go_num,HI1⟩
    case measure=>simp[intOf]
  ·obtain rfl:k=4:=by omega
   obtain⟨A4,c4,hv4,hr4⟩:=nti_at HI.out (by omega)
   have hf4:=HI.out.fz 4
   have HN4:=Lib.hid (show Calls Tryz.prog 119 #[.slice A4 (fN p 4) c4,.func (.func 120) #[] #[]] wr (RetN wr (fN (neatP p) 4) (fS 4) (fC (neatP p) 4))from neatA_any A4 c4 p.attrs wr hr4 (by have:=HSm.out.attrs;omega))
   clear hr4
   go_upto_region 7 with(go_at_call 119;(with_reducible refine HN4.out.mono ?_);rintro e W1 ⟨A1,c1,rfl,hb1,hA1,hr1,hx1⟩;have HI1:=Lib.hid (HI.out.step (by omega) hb1 hA1 hr1 hx1);have hv1:=(hb1.cell hBl).trans hv4;have hf1:=(World.frozen?_of_block (hb1.block _ hBl)).trans hf4;clear hb1 hA1 hr1 hx1)
   refine name_world fun W5 hW5=> ?_
   have HI5:Hid (NtI p w.heap.size 5 w W5):=by show NtI _ _ _ _ _;rw[hW5];exact HI1.out
   clear hW5 HI1 HI hBl
   have hBl:=nti_lt HI5.out
   obtain⟨A5,c5,hv5,hr5⟩:=nti_at HI5.out (by omega)
   have hf5:=HI5.out.fz 5
   have HN5:=Lib.hid (show Calls Tryz.prog 121 #[.slice A5 (fN p 5) c5,.func (.func 122) #[] #[]] W5 (RetN W5 (fN (neatP p) 5) (fS 5) (fC (neatP p) 5))from neatF_any A5 c5 p.forces W5 hr5 (by have:=HSm.out.forces;omega))
   clear hr5
   go_upto_region 8 with(go_at_call 121;(with_reducible refine HN5.out.mono ?_);rintro e W2 ⟨A2,c2,rfl,hb2,hA2,hr2,hx2⟩;have HI2:=Lib.hid (HI5.out.step (by omega) hb2 hA2 hr2 hx2);have hv2:=(hb2.cell hBl).trans hv5;have hf2:=(World.frozen?_of_block (hb2.block _ hBl)).trans hf5;clear hb2 hA2 hr2 hx2)
   refine name_world fun W6 hW6=> ?_
   have HI6:Hid (NtI p w.heap.size 6 w W6):=by show NtI _ _ _ _ _;rw[hW6];exact HI2.out
   clear hW6 HI2 HI5 hBl
   have hBl:=HI6.out.size
   obtain⟨u0,x0,g0⟩:=HI6.out.fld 0 (by omega)
   obtain⟨a0,d0,e0,_⟩:=id g0
   subst e0
   obtain⟨u1,x1,g1⟩:=HI6.out.fld 1 (by omega)
   obtain⟨a1,d1,e1,_⟩:=id g1
   subst e1
   obtain⟨u2,x2,g2⟩:=HI6.out.fld 2 (by omega)
   obtain⟨a2,d2,e2,_⟩:=id g2
   subst e2
   obtain⟨u3,x3,g3⟩:=HI6.out.fld 3 (by omega)
   obtain⟨a3,d3,e3,_⟩:=id g3
   subst e3
   obtain⟨u4,x4,g4⟩:=HI6.out.fld 4 (by omega)
   obtain⟨a4,d4,e4,_⟩:=id g4
   subst e4
   obtain⟨u5,x5,g5⟩:=HI6.out.fld 5 (by omega)
   obtain⟨a5,d5,e5,_⟩:=id g5
   subst e5
   have HG:=Lib.hid (fun W' ht=>nti_end HI6.out (W':=W') ht g0 g1 g2 g3 g4 g5)
   have x6:=HI6.out.c6
   have x7:=HI6.out.c7
   have x8:=HI6.out.c8
   have x9:=HI6.out.c9
   obtain⟨r0,y0⟩:=HI6.out.rc 0 (by omega)
   have z0:=HI6.out.rz 0
   obtain⟨r1,y1⟩:=HI6.out.rc 1 (by omega)
   have z1:=HI6.out.rz 1
   obtain⟨r2,y2⟩:=HI6.out.rc 2 (by omega)
   have z2:=HI6.out.rz 2
   obtain⟨r3,y3⟩:=HI6.out.rc 3 (by omega)
   have z3:=HI6.out.rz 3
   obtain⟨r4,y4⟩:=HI6.out.rc 4 (by omega)
   have z4:=HI6.out.rz 4
   obtain⟨r5,y5⟩:=HI6.out.rc 5 (by omega)
   have z5:=HI6.out.rz 5
   obtain⟨r6,y6⟩:=HI6.out.rc 6 (by omega)
   have z6:=HI6.out.rz 6
   obtain⟨r7,y7⟩:=HI6.out.rc 7 (by omega)
   have z7:=HI6.out.rz 7
   obtain⟨r8,y8⟩:=HI6.out.rc 8 (by omega)
   have z8:=HI6.out.rz 8
   obtain⟨r9,y9⟩:=HI6.out.rc 9 (by omega)
   have z9:=HI6.out.rz 9
   have HB6:=Lib.hid HI6.out.below
   clear HI6 g0 g1 g2 g3 g4 g5
   go_wp2_with fail
   ((try simp only[Exit.inBlock,Exit.then]);refine bodyPost_ret (v:= .agg #[.slice a0 (fN (mix p 6 0) 0) d0,.slice a1 (fN (mix p 6 1) 1) d1,.slice a2 (fN (mix p 6 2) 2) d2,.slice a3 (fN (mix p 6 3) 3) d3,.slice a4 (fN (mix p 6 4) 4) d4,.slice a5 (fN (mix p 6 5) 5) d5,.bool p.rel,.int .i64 p.depth,.int .i64 p.name,.int .i64 p.value]) (by(first|rw[results_cell_tmp rfl]|rw[results_cell1 rfl]);go_simp) rfl ?_)
   refine⟨_,rfl, ?_,HG.out _ ?_⟩
   ·exact HB6.out.trans bel
   ·exact Turned.setCell (Turned.setCell (Turned.setCell (Turned.setCell (Turned.setCell (Turned.setCell (Turned.setCell (Turned.setCell (Turned.setCell (Turned.setCell (pv:=fun b=>b=w.heap.size+1) (Turned.refl _ _) (p:=⟨w.heap.size+1,0,none⟩) (.inr rfl) _) (p:=⟨w.heap.size+1,1,none⟩) (.inr rfl) _) (p:=⟨w.heap.size+1,2,none⟩) (.inr rfl) _) (p:=⟨w.heap.size+1,3,none⟩) (.inr rfl) _) (p:=⟨w.heap.size+1,4,none⟩) (.inr rfl) _) (p:=⟨w.heap.size+1,5,none⟩) (.inr rfl) _) (p:=⟨w.heap.size+1,6,none⟩) (.inr rfl) _) (p:=⟨w.heap.size+1,7,none⟩) (.inr rfl) _) (p:=⟨w.heap.size+1,8,none⟩) (.inr rfl) _) (p:=⟨w.heap.size+1,9,none⟩) (.inr rfl) _
theorem ret_boolN {a b:Bool} (h:a=b):Ending.returned (.bool a)= .returned (.bool b):=by rw[h]
theorem within_any (n hi:Int) (w:World):Calls Tryz.prog 209 #[.int .i64 n,.int .i64 hi] w fun e w'=>e= .returned (.bool (inB n hi))/\w=w':=by
 have HN:Hid (inB n hi=decide (1<=n/\n<=hi)):=rfl
 by_cases h1:1<=n
 ·go_enter Tryz.func209,Tryz.ntmps209
  go_wp2_with fail
  go_ret
  exact⟨ret_boolN (by rw[HN.out];simp;try omega),rfl⟩
 ·go_enter Tryz.func209,Tryz.ntmps209
  go_wp2_with fail
  go_ret
  exact⟨ret_boolN (by rw[HN.out];simp;try omega),rfl⟩
theorem limits_any (v0 v1 v2 v3 v4 v5:Value) (p:Pol) (w:World):Calls Tryz.prog 128 #[.agg #[v0,v1,v2,v3,v4,v5,.bool p.rel,.int .i64 p.depth,.int .i64 p.name,.int .i64 p.value]] w (Ret (.bool (limB p)) w):=by
 obtain⟨B1,h1⟩: ∃B,inB p.depth 256=B:=⟨_,rfl⟩
 obtain⟨B2,h2⟩: ∃B,inB p.name 64=B:=⟨_,rfl⟩
 obtain⟨B3,h3⟩: ∃B,inB p.value 65536=B:=⟨_,rfl⟩
 have HN:Hid (limB p=(B1&&B2&&B3)):=by show _=_;rw[<-h1,<-h2,<-h3];rfl
 rw[HN.out]
 clear HN
 cases B1<;>cases B2<;>cases B3
 all_goals
  have H1:=Lib.hid (fun W=>h1 ▸ within_any p.depth 256 W)
  have H2:=Lib.hid (fun W=>h2 ▸ within_any p.name 64 W)
  have H3:=Lib.hid (fun W=>h3 ▸ within_any p.value 65536 W)
  clear h1 h2 h3
  go_enter Tryz.func128,Tryz.ntmps128
  go_wp2_with(first|(go_at_call 209;(with_reducible refine(H1.out _).mono ?_);rintro e w' ⟨rfl,rfl⟩)|(go_at_call 209;(with_reducible refine(H2.out _).mono ?_);rintro e w' ⟨rfl,rfl⟩)|(go_at_call 209;(with_reducible refine(H3.out _).mono ?_);rintro e w' ⟨rfl,rfl⟩))
  go_ret
  exact Ret.of rfl bel
theorem max_two (a b:Nat) (w:World):(Builtin.max2 (.int .i64 a) (.int .i64 b)).run Tryz.prog w= .ok (.int .i64 ((max a b:Nat):Int)) w:=by
 by_cases h:a<=b
 ·rw[Nat.max_eq_right h]
  simp[Builtin.max2];omega
 ·rw[Nat.max_eq_left (by omega)]
  simp[Builtin.max2];omega
theorem max_six (a b c d e f:Nat) (w:World):(Builtin.max_ #[3,3,3,3,3,3] 3 #[.int .i64 a,.int .i64 b,.int .i64 c,.int .i64 d,.int .i64 e,.int .i64 f]).run Tryz.prog w= .ok (.int .i64 ((max (max (max (max (max a b) c) d) e) f:Nat):Int)) w:=by
 simp only[Builtin.max_,List.foldlM_cons,List.foldlM_nil,Sem.run_bind,max_two,Result.andThen]
 rfl
theorem fit_l (a b c d e f:Nat):decide (((max (max (max (max (max a b) c) d) e) f:Nat):Int)<=200)=decide (a<=200/\b<=200/\c<=200/\d<=200/\e<=200/\f<=200):=by rw[decide_eq_decide];omega
theorem fit_r (a b c d e f:Nat):decide (((max a (max b (max c (max d (max e f)))):Nat):Int)<=200)=decide (a<=200/\b<=200/\c<=200/\d<=200/\e<=200/\f<=200):=by rw[decide_eq_decide];omega
theorem fits_any (v:Value) (bad:Nat->Prop) (p:Pol) (w:World) (h:PolV w bad v p):Calls Tryz.prog 50 #[v] w (Ret (.bool (fitB p)) w):=by
 obtain⟨v0,v1,v2,v3,v4,v5,rfl,⟨A0,c0,rfl,_⟩,⟨A1,c1,rfl,_⟩,⟨A2,c2,rfl,_⟩,⟨A3,c3,rfl,_⟩,⟨A4,c4,rfl,_⟩,⟨A5,c5,rfl,_⟩⟩:=h
 have HN:Hid (fitB p=decide (fN p 0<=200/\fN p 1<=200/\fN p 2<=200/\fN p 3<=200/\fN p 4<=200/\fN p 5<=200)):=rfl
 generalize fN p 0=n0 at*
 generalize fN p 1=n1 at*
 generalize fN p 2=n2 at*
 generalize fN p 3=n3 at*
 generalize fN p 4=n4 at*
 generalize fN p 5=n5 at*
 have hmax:=fun W=>max_six n0 n1 n2 n3 n4 n5 W
 go_enter Tryz.func50,Tryz.ntmps50
 go_wp2_with fail
 go_ret
 exact Ret.of (by rw[HN.out];first|exact congrArg Value.bool (fit_l n0 n1 n2 n3 n4 n5)|exact congrArg Value.bool (fit_r n0 n1 n2 n3 n4 n5)) bel
end Go.Proofs.YtiikamobcmgekaaGreatDoor

