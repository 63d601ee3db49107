import Derived.Test.YtccjfanpjojbnaaGreatDoorA3
import Derived.Test.YtccjfanpjojbnaaGreatDoorF3
namespace Go.Proofs.YtccjfanpjojbnaaGreatDoor
open Go.Ending renaming returned→aL
open Go.IntKind renaming i64→aC
open Lib renaming hid→aA
open Tryz renaming prog→aE
open Go.Value renaming agg→aR,bool→aI,int→aB,slice→aF
set_option maxRecDepth 1000000
set_option maxHeartbeats 8000000
open Go.RowKit
attribute [go_sem] Oper.semAt_some
theorem Dk {K:Act->World->Prop} {a:Act} {d:Option Nat} {arr:Array Value} {i:Nat} {h:i<arr.size} {w:World} (v:Value) (hv:arr[i]=v) (k:K (a.put d v) w):K (a.put d arr[i]) w:=hv ▸ k
structure GW (p:aO):Prop where
 tags:p.tags.length<=100000000
 schemes:p.schemes.length<=100000000
 css:p.css.length<=100000000
 drops:p.drops.length<=100000000
 attrs:p.attrs.length<=100000000
 forces:p.forces.length<=100000000
theorem Fd {p:aO} {w W:World} {v0 v1 v2 v3 v4 v5:Value} {z:Array Value} {e e2:TypeId} (hW:W=(w.alloc (.cells #[v0,v1,v2,v3,v4,v5,aI p.rel,aB aC p.depth,aB aC p.name,aB aC p.value] e)).alloc (.cells z e2)) (hz:z.size=10)
  (h0:Rx w (λ_=>False) v0 (fN p 0) 1 (fC p 0)) (h1:Rx w (λ_=>False) v1 (fN p 1) 1 (fC p 1)) (h2:Rx w (λ_=>False) v2 (fN p 2) 1 (fC p 2)) (h3:Rx w (λ_=>False) v3 (fN p 3) 1 (fC p 3)) (h4:Rx w (λ_=>False) v4 (fN p 4) 2 (fC p 4)) (h5:Rx w (λ_=>False) v5 (fN p 5) 3 (fC p 5)):rP p w.heap.size 0 w W:=by
 have hb:Below w.heap.size w W:=by rw[hW];exact((Below.refl _ _).alloc (Nat.le_refl _) _).alloc (by simp) _
 have key: ∀{v:Value} {n size:Nat} {cells:List Value},Rx w (λ_=>False) v n size cells->Rx W (bd w.heap.size False) v n size cells:=λh=>(h.mono (bad':=bd w.heap.size False) (λb hlt hx=>by rcases hx with(hx|hx)|⟨hx,_⟩<;>omega)).below hb;have kx: ∀j,{v:Value}->{n size:Nat}->{cells:List Value}->Rx w (λ_=>False) v n size cells->Rx W (bd w.heap.size (j<0)) v n size cells:=λj {_ _ _ _} h=>(key h).mono λb _ hx=>by
  rcases hx with hx|⟨hx,_⟩
  .exact .inl hx
  .omega
 refine⟨hb,by rw[hW];simp,λj hj=> ?_,by rw[hW];simp[go_sem],by rw[hW];simp[go_sem],by rw[hW];simp[go_sem],by rw[hW];simp[go_sem],λj=>by rw[hW];simp[go_sem],λj hj=> ?_,λj=>by rw[hW];simp[go_sem]⟩
 .rcases(by omega:j=0\/j=1\/j=2\/j=3\/j=4\/j=5)with rfl|rfl|rfl|rfl|rfl|rfl
  .exact⟨v0,by rw[hW];simp[go_sem],kx 0 h0⟩
  .exact⟨v1,by rw[hW];simp[go_sem],kx 1 h1⟩
  .exact⟨v2,by rw[hW];simp[go_sem],kx 2 h2⟩
  .exact⟨v3,by rw[hW];simp[go_sem],kx 3 h3⟩
  .exact⟨v4,by rw[hW];simp[go_sem],kx 4 h4⟩
  .exact⟨v5,by rw[hW];simp[go_sem],kx 5 h5⟩
 .refine⟨z[j]' om, ?_⟩;rw[hW,show w.heap.size+1=(w.alloc (.cells #[v0,v1,v2,v3,v4,v5,aI p.rel,aB aC p.depth,aB aC p.name,aB aC p.value] e)).heap.size by simp];simp only[World.cell?_alloc_new];exact Array.getElem?_eq_getElem _
theorem LO {p:aO} {B k:Nat} {w W:World} (h:rP p B k w W) (hk:k<6): ∃A c,W.cell? ⟨B,k,none⟩=some (aF A (fN p k) c)/\Rd W (aF A (fN p k) c) (fN p k) (fS k) (fC p k):=by
 obtain⟨v,hv,A,c,he,_,hr,_⟩:=h.fld k hk;have hm:iD p k k=p:=by unfold iD;rw[if_neg om]
 rw[hm]at he hr;subst he;exact⟨A,c,hv,hr⟩
theorem UN {p:aO} {B k:Nat} {w W:World} (h:rP p B k w W):B<W.heap.size:=by have:=h.size;omega
theorem Fe {p:aO} {B:Nat} {w W W':World} (_h:rP p B 6 w W) (ht:aJ (λb=>b=B+1) W W') {u0 u1 u2 u3 u4 u5:Value}
  (h0:Rx W (bd B (0<6)) u0 (fN (iD p 6 0) 0) (fS 0) (fC (iD p 6 0) 0)) (h1:Rx W (bd B (1<6)) u1 (fN (iD p 6 1) 1) (fS 1) (fC (iD p 6 1) 1)) (h2:Rx W (bd B (2<6)) u2 (fN (iD p 6 2) 2) (fS 2) (fC (iD p 6 2) 2)) (h3:Rx W (bd B (3<6)) u3 (fN (iD p 6 3) 3) (fS 3) (fC (iD p 6 3) 3)) (h4:Rx W (bd B (4<6)) u4 (fN (iD p 6 4) 4) (fS 4) (fC (iD p 6 4) 4)) (h5:Rx W (bd B (5<6)) u5 (fN (iD p 6 5) 5) (fS 5) (fC (iD p 6 5) 5)):
  jN W' (λb=>b<B) (aR #[u0,u1,u2,u3,u4,u5,aI p.rel,aB aC p.depth,aB aC p.name,aB aC p.value]) (eD p):=by
 have key: ∀{v:Value} {n size:Nat} {cells:List Value} {q:Prop},q->Rx W (bd B q) v n size cells->Rx W' (λb=>b<B) v n size cells:=λhq h=>(h.turned (ht.mono λb hb=> .inl (.inr hb))).mono λb _ hx=> .inr ⟨hq,hx⟩;exact⟨u0,u1,u2,u3,u4,u5,rfl,key om h0,key om h1,key om h2,key om h3,key om h4,key om h5⟩
theorem Fy (v:Value) (p:aO) (w:World) (h:jN w (λ_=>False) v p) (hs:GW p):Calls aE 29 #[v] w λe w'=> ∃v',e=aL v'/\Below w.heap.size w w'/\jN w' (λb=>b<w.heap.size) v' (eD p):=by
 have hmx:=bX;obtain⟨v0,v1,v2,v3,v4,v5,rfl,h0,h1,h2,h3,h4,h5⟩:=h;have HZ:=aA (λW z e e2 hW hz=>Fd (p:=p) (w:=w) (W:=W) (z:=z) (e:=e) (e2:=e2) hW hz h0 h1 h2 h3 h4 h5);have HSm:=aA hs;clear h0 h1 h2 h3 h4 h5 hs;go_enter Tryz.func29,Tryz.ntmps29;go_upto_region 1 with fail
 refine dL λW0 hW0=> ?_;have HI0:=aA (HZ.out W0 _ _ _ hW0 rfl);clear hW0 HZ;go_wp2_with fail
 go_loopw [10] (λi wr=> ∃k:Nat,k<=4/\i=aB aC k/\Hid (rP p w.heap.size k w wr)) (λi _=>4-(intOf i).toNat)
 case atStart=>exact⟨0,by omega,rfl,HI0⟩
 case round=>
  obtain⟨k,hk,rfl,HI⟩:=hrel;have hBl:=UN HI.out;by_cases hlt:k<4
  .obtain⟨A,c,hv,hr⟩:=LO HI.out om;have hf:=HI.out.fz k;have HR:=aA hr;clear hr;have HNt:Hid (Calls aE 48 #[aF A (fN p k) c,.func (.func 49) #[] #[]] wr (rO wr (fN (eD p) k) (fS k) (fC (eD p) k))):=by
    rcases(by omega:k=0\/k=1\/k=2\/k=3)with rfl|rfl|rfl|rfl
    .exact BS A c p.tags wr HR.out (by have:=HSm.out.tags;omega)
    .exact BS A c p.schemes wr HR.out (by have:=HSm.out.schemes;omega)
    .exact BS A c p.css wr HR.out (by have:=HSm.out.css;omega)
    .exact BS A c p.drops wr HR.out (by have:=HSm.out.drops;omega)
   obtain⟨kk,hkk⟩: ∃kk,kk=k:=⟨_,rfl⟩;rcases(by omega:k=0\/k=1\/k=2\/k=3)with rfl|rfl|rfl|rfl
   all_goals
    go_wp2_with fail
    refine Dk (Value.pointer (some ⟨w.heap.size,kk,none⟩)) (by subst hkk;kernel_rfl) ?_;subst hkk;go_wp2_with(go_at_call 48;(with_reducible refine HNt.out.mono ?_);rintro e W1 ⟨A1,c1,rfl,hb1,hA1,hr1,hx1⟩;have HI1:=aA (HI.out.step om hb1 hA1 hr1 hx1);have hv1:=(hb1.cell hBl).trans hv;have hf1:=(World.frozen?_of_block (hb1.block _ hBl)).trans hf;clear hb1 hA1 hr1 hx1)
    go_roundw
    case rel=>exact⟨_,by omega,by go_num,HI1⟩
    case measure=>simp[intOf]
  .obtain rfl:k=4:=by omega
   obtain⟨A4,c4,hv4,hr4⟩:=LO HI.out om;have hf4:=HI.out.fz 4;have HN4:=aA (show Calls aE 50 #[aF A4 (fN p 4) c4,.func (.func 51) #[] #[]] wr (rO wr (fN (eD p) 4) (fS 4) (fC (eD p) 4))from UZ A4 c4 p.attrs wr hr4 (by have:=HSm.out.attrs;omega));clear hr4;go_upto_region 7 with(go_at_call 50;(with_reducible refine HN4.out.mono ?_);rintro e W1 ⟨A1,c1,rfl,hb1,hA1,hr1,hx1⟩;have HI1:=aA (HI.out.step om hb1 hA1 hr1 hx1);have hv1:=(hb1.cell hBl).trans hv4;have hf1:=(World.frozen?_of_block (hb1.block _ hBl)).trans hf4;clear hb1 hA1 hr1 hx1)
   refine dL λW5 hW5=> ?_;have HI5:Hid (rP p w.heap.size 5 w W5):=by show rP _ _ _ _ _;rw[hW5];exact HI1.out
   clear hW5 HI1 HI hBl;have hBl:=UN HI5.out;obtain⟨A5,c5,hv5,hr5⟩:=LO HI5.out om;have hf5:=HI5.out.fz 5;have HN5:=aA (show Calls aE 52 #[aF A5 (fN p 5) c5,.func (.func 53) #[] #[]] W5 (rO W5 (fN (eD p) 5) (fS 5) (fC (eD p) 5))from UY A5 c5 p.forces W5 hr5 (by have:=HSm.out.forces;omega));clear hr5;go_upto_region 8 with(go_at_call 52;(with_reducible refine HN5.out.mono ?_);rintro e W2 ⟨A2,c2,rfl,hb2,hA2,hr2,hx2⟩;have HI2:=aA (HI5.out.step om hb2 hA2 hr2 hx2);have hv2:=(hb2.cell hBl).trans hv5;have hf2:=(World.frozen?_of_block (hb2.block _ hBl)).trans hf5;clear hb2 hA2 hr2 hx2)
   refine dL λW6 hW6=> ?_;have HI6:Hid (rP p w.heap.size 6 w W6):=by show rP _ _ _ _ _;rw[hW6];exact HI2.out
   clear hW6 HI2 HI5 hBl;have hBl:=HI6.out.size;obtain⟨u0,x0,g0⟩:=HI6.out.fld 0 om;obtain⟨a0,d0,e0,_⟩:=id g0;subst e0;obtain⟨u1,x1,g1⟩:=HI6.out.fld 1 om;obtain⟨a1,d1,e1,_⟩:=id g1;subst e1;obtain⟨u2,x2,g2⟩:=HI6.out.fld 2 om;obtain⟨a2,d2,e2,_⟩:=id g2;subst e2;obtain⟨u3,x3,g3⟩:=HI6.out.fld 3 om;obtain⟨a3,d3,e3,_⟩:=id g3;subst e3;obtain⟨u4,x4,g4⟩:=HI6.out.fld 4 om;obtain⟨a4,d4,e4,_⟩:=id g4;subst e4;obtain⟨u5,x5,g5⟩:=HI6.out.fld 5 om;obtain⟨a5,d5,e5,_⟩:=id g5;subst e5;have HG:=aA (λW' ht=>Fe HI6.out (W':=W') ht g0 g1 g2 g3 g4 g5);have x6:=HI6.out.c6;have x7:=HI6.out.c7;have x8:=HI6.out.c8;have x9:=HI6.out.c9;obtain⟨r0,y0⟩:=HI6.out.rc 0 om;have z0:=HI6.out.rz 0;obtain⟨r1,y1⟩:=HI6.out.rc 1 om;have z1:=HI6.out.rz 1;obtain⟨r2,y2⟩:=HI6.out.rc 2 om;have z2:=HI6.out.rz 2;obtain⟨r3,y3⟩:=HI6.out.rc 3 om;have z3:=HI6.out.rz 3;obtain⟨r4,y4⟩:=HI6.out.rc 4 om;have z4:=HI6.out.rz 4;obtain⟨r5,y5⟩:=HI6.out.rc 5 om;have z5:=HI6.out.rz 5;obtain⟨r6,y6⟩:=HI6.out.rc 6 om;have z6:=HI6.out.rz 6;obtain⟨r7,y7⟩:=HI6.out.rc 7 om;have z7:=HI6.out.rz 7;obtain⟨r8,y8⟩:=HI6.out.rc 8 om;have z8:=HI6.out.rz 8;obtain⟨r9,y9⟩:=HI6.out.rc 9 om;have z9:=HI6.out.rz 9;have HB6:=aA HI6.out.below;clear HI6 g0 g1 g2 g3 g4 g5;go_wp2_with fail
   ((try simp only[Exit.inBlock,Exit.then]);refine bodyPost_ret (v:= aR #[aF a0 (fN (iD p 6 0) 0) d0,aF a1 (fN (iD p 6 1) 1) d1,aF a2 (fN (iD p 6 2) 2) d2,aF a3 (fN (iD p 6 3) 3) d3,aF a4 (fN (iD p 6 4) 4) d4,aF a5 (fN (iD p 6 5) 5) d5,aI p.rel,aB aC p.depth,aB aC p.name,aB aC p.value]) (by(first|rw[results_cell_tmp rfl]|rw[fB rfl]);go_simp) rfl ?_);refine⟨_,rfl, ?_,HG.out _ ?_⟩
   .exact HB6.out.trans aG
   .exact aJ.setCell (aJ.setCell (aJ.setCell (aJ.setCell (aJ.setCell (aJ.setCell (aJ.setCell (aJ.setCell (aJ.setCell (aJ.setCell (pv:=λb=>b=w.heap.size+1) (aJ.refl _ _) (p:=⟨w.heap.size+1,0,none⟩) (.inr rfl) _) (p:=⟨w.heap.size+1,1,none⟩) (.inr rfl) _) (p:=⟨w.heap.size+1,2,none⟩) (.inr rfl) _) (p:=⟨w.heap.size+1,3,none⟩) (.inr rfl) _) (p:=⟨w.heap.size+1,4,none⟩) (.inr rfl) _) (p:=⟨w.heap.size+1,5,none⟩) (.inr rfl) _) (p:=⟨w.heap.size+1,6,none⟩) (.inr rfl) _) (p:=⟨w.heap.size+1,7,none⟩) (.inr rfl) _) (p:=⟨w.heap.size+1,8,none⟩) (.inr rfl) _) (p:=⟨w.heap.size+1,9,none⟩) (.inr rfl) _
theorem TE {a b:Bool} (h:a=b):aL (aI a)=aL (aI b):=by rw[h]
theorem IM (n hi:Int) (w:World):Calls aE 113 #[aB aC n,aB aC hi] w λe w'=>e=aL (aI (uQ n hi))/\w=w':=by
 have HN:Hid (uQ n hi=decide (1<=n/\n<=hi)):=rfl;by_cases h1:1<=n
 .go_enter Tryz.func113,Tryz.ntmps113;go_wp2_with fail
  go_ret;exact⟨TE (by rw[HN.out];simp;try omega),rfl⟩
 .go_enter Tryz.func113,Tryz.ntmps113;go_wp2_with fail
  go_ret;exact⟨TE (by rw[HN.out];simp;try omega),rfl⟩
theorem FF (v0 v1 v2 v3 v4 v5:Value) (p:aO) (w:World):Calls aE 59 #[aR #[v0,v1,v2,v3,v4,v5,aI p.rel,aB aC p.depth,aB aC p.name,aB aC p.value]] w (aH (aI (lK p)) w):=by
 obtain⟨B1,h1⟩: ∃B,uQ p.depth 256=B:=⟨_,rfl⟩;obtain⟨B2,h2⟩: ∃B,uQ p.name 64=B:=⟨_,rfl⟩;obtain⟨B3,h3⟩: ∃B,uQ p.value 65536=B:=⟨_,rfl⟩;have HN:Hid (lK p=(B1&&B2&&B3)):=by show _=_;rw[<-h1,<-h2,<-h3];rfl
 rw[HN.out];clear HN;cases B1<;>cases B2<;>cases B3;all_goals
  have H1:=aA (λW=>h1 ▸ IM p.depth 256 W);have H2:=aA (λW=>h2 ▸ IM p.name 64 W);have H3:=aA (λW=>h3 ▸ IM p.value 65536 W);clear h1 h2 h3;go_enter Tryz.func59,Tryz.ntmps59;go_wp2_with(first|(go_at_call 113;(with_reducible refine zQ (H1.out _) ?_))|(go_at_call 113;(with_reducible refine zQ (H2.out _) ?_))|(go_at_call 113;(with_reducible refine zQ (H3.out _) ?_)))
  go_ret;exact aH.of rfl aG
theorem Hq (a b:Nat) (w:World):(Builtin.max2 (aB aC a) (aB aC b)).run aE w= .ok (aB aC ((max a b:Nat):Int)) w:=by
 by_cases h:a<=b
 .rw[Nat.max_eq_right h];simp[Builtin.max2];omega
 .rw[Nat.max_eq_left om];simp[Builtin.max2];omega
theorem Hr (a b c d e f:Nat) (w:World):(Builtin.max_ #[3,3,3,3,3,3] 3 #[aB aC a,aB aC b,aB aC c,aB aC d,aB aC e,aB aC f]).run aE w= .ok (aB aC ((max (max (max (max (max a b) c) d) e) f:Nat):Int)) w:=by
 simp only[Builtin.max_,List.foldlM_cons,List.foldlM_nil,Sem.run_bind,Hq,Result.andThen];rfl
theorem Ls (a b c d e f:Nat):decide (((max (max (max (max (max a b) c) d) e) f:Nat):Int)<=200)=decide (a<=200/\b<=200/\c<=200/\d<=200/\e<=200/\f<=200):=by rw[decide_eq_decide];omega
theorem Lr (a b c d e f:Nat):decide (((max a (max b (max c (max d (max e f)))):Nat):Int)<=200)=decide (a<=200/\b<=200/\c<=200/\d<=200/\e<=200/\f<=200):=by rw[decide_eq_decide];omega
theorem XP (v:Value) (bad:Nat->Prop) (p:aO) (w:World) (h:jN w bad v p):Calls aE 30 #[v] w (aH (aI (oA p)) w):=by
 obtain⟨v0,v1,v2,v3,v4,v5,rfl,⟨A0,c0,rfl,_⟩,⟨A1,c1,rfl,_⟩,⟨A2,c2,rfl,_⟩,⟨A3,c3,rfl,_⟩,⟨A4,c4,rfl,_⟩,⟨A5,c5,rfl,_⟩⟩:=h;have HN:Hid (oA p=decide (fN p 0<=200/\fN p 1<=200/\fN p 2<=200/\fN p 3<=200/\fN p 4<=200/\fN p 5<=200)):=rfl;generalize fN p 0=n0 at*;generalize fN p 1=n1 at*;generalize fN p 2=n2 at*;generalize fN p 3=n3 at*;generalize fN p 4=n4 at*;generalize fN p 5=n5 at*;have hmax:=λW=>Hr n0 n1 n2 n3 n4 n5 W;go_enter Tryz.func30,Tryz.ntmps30;go_wp2_with fail
 go_ret;exact aH.of (by rw[HN.out];first|exact congrArg aI (Ls n0 n1 n2 n3 n4 n5)|exact congrArg aI (Lr n0 n1 n2 n3 n4 n5)) aG
theorem P6 {α:Type} {l m:List α} {k:Nat} {x:α} (h1:l[k]? =some x) (h2:m[k]? =some x) (h:l.take k=m.take k):l.take (k+1)=m.take (k+1):=by
 rw[List.take_add_one,List.take_add_one,h,h1,h2]
