/- The walks of values of styles: the iterator of the steps that pieces tell. -/
import Derived.Sort.CutIn
import Derived.Test.YtiikamobcmgekaaGreatDoorJDecD
import Derived.Test.YtiikamobcmgekaaGreatDoorJValE
namespace Go.Proofs.YtiikamobcmgekaaGreatDoor
set_option maxRecDepth 100000
set_option maxHeartbeats 16000000
open Go.RowKit Go.Shelf
attribute [local go_sem] Oper.semAt_some
theorem steps0_any (A:Option Addr) (n c:Nat) (w:World):Calls Tryz.prog 265 #[.slice A n c] w fun e w'=>e= .returned (.func (.func 289) #[] #[.pointer (some ⟨w.heap.size,0,none⟩)])/\w.alloc (.cells #[.slice A n c] 42)=w':=by
 go_enter Tryz.func265,Tryz.ntmps265
 go_wp2
 go_ret
 exact⟨rfl,rfl⟩
theorem at_abs {l:List Css} (h: ∀x∈l,CssOk x) (i:Nat):(atI l i).natAbs<=9223372036854775:=by
 unfold atI
 split
 ·rename_i x hx
  have hm:=h x (List.mem_of_getElem? hx)
  have h1:=hm.nlo
  have h2:=hm.nhi
  have:=tdiv_abs x.num
  omega
 ·simp
theorem guess_ok {l:List Css} (h: ∀x∈l,CssOk x):StOk (guessT l):=by
 have h1:=at_abs h 1
 have h3:=at_abs h 3
 have h9:((atI l 1).tdiv 90).natAbs=(atI l 1).natAbs/90:=by rw[Int.natAbs_tdiv];rfl
 unfold guessT
 split
 ·exact⟨by decide,by decide,by decide,by decide,by decide,by decide,fun h=>by simp at h⟩
 ·split
  ·exact⟨by simp only;omega,by simp only;omega,by simp only;omega,by simp only;omega,by simp only;omega,by simp only;omega,fun h=>by simp at h⟩
  ·split
   ·exact⟨by simp only;omega,by simp only;omega,by simp only;omega,by simp only;omega,by simp only;omega,by simp only;omega,fun _=>by simp only;omega⟩
   ·split
    ·exact⟨by simp only;omega,by simp only;omega,by simp only;omega,by simp only;omega,by simp only;omega,by simp only;omega,fun h=>by simp at h⟩
    ·exact⟨by decide,by decide,by decide,by decide,by decide,by decide,fun h=>by simp at h⟩
theorem hand_cons (x:Css) (l:List Css):handT (x::l).length (x::l)=if fitT (x::l)then(guessT (x::l),true)::handT (restT (x::l)).length (restT (x::l))else [(guessT (x::l),false)]:=by
 have h:=rest_len x l
 show handT (l.length+1) (x::l)=_
 simp only[handT]
 rw[hand_fuel l.length (restT (x::l)).length (restT (x::l)) h (Nat.le_refl _)]
theorem fit_len {l:List Css} (h:fitT l=true):(toldT (guessT l)).length<=l.length:=by
 simp only[fitT,decide_eq_true_eq]at h
 have:=congrArg List.length h
 rw[List.length_take]at this
 omega
theorem fit_min (l:List Css):fitT l=decide (l.take (min (toldT (guessT l)).length l.length)=toldT (guessT l)):=by
 unfold fitT
 rw[List.take_eq_take_min]
theorem name_worldIn {c:Code} {F:Fence} {n:Nat} {P:Program} {Q:Exit->Act->World->Prop} {a:Act} {w:World} (h: ∀W,w=W->c.wpIn F n P Q a W):c.wpIn F n P Q a w:=h w rfl
structure SB where
 st:St
 ok:Bool
def SB.of (p:St × Bool):SB:=⟨p.1,p.2⟩
def handV (l:List Css):List SB:=(handT l.length l).map SB.of
theorem handV_nil:handV []=[]:=rfl
theorem handV_yes {x:Css} {l:List Css} (h:fitT (x::l)=true):handV (x::l)=⟨guessT (x::l),true⟩::handV (restT (x::l)):=by
 unfold handV
 rw[hand_cons,if_pos h];rfl
theorem handV_no {x:Css} {l:List Css} (h:fitT (x::l)=false):handV (x::l)=[⟨guessT (x::l),false⟩]:=by
 unfold handV
 rw[hand_cons,if_neg (by simp[h])];rfl
theorem steps1_iter (lb:Nat) (bw:Nat->Prop) (A:Option Addr) (c:Nat) (l:List Css) (W:World) (hl:Boxed W lb 42 (.slice A l.length c)) (hbl: ¬bw lb) (hr:Rd W (.slice A l.length c) l.length 4 (cssCells l))
  (hA:l≠[]-> ∀b off s,A=some ⟨b,off,s⟩->s=none/\b≠lb/\ ¬bw b) (hA0:A=none->l=[]) (hc:l.length<=c) (hp: ∀x∈l,CssOk x) (hn:l.length<=1000000000):
  IterAt Tryz.prog 289 #[.pointer (some ⟨lb,0,none⟩)] (fun x:SB=> #[x.st.val,.bool x.ok]) (fun k=>k=lb) bw (handV l) W:=by
 intro ll J Jx hJ hY h0
 have hmx:=mxd
 refine callsIn_of_wp Tryz.func289 rfl trivial ?_ rfl
 simp only[Tryz.ntmps289,List.size_toArray,List.length_cons,List.length_nil,Nat.reduceAdd,Nat.reduceSub,Array.replicate_succ,Array.replicate_zero,List.push_toArray,List.append_toArray,List.nil_append,List.cons_append]
 obtain⟨xs,hxs⟩: ∃xs,handV l=xs:=⟨_,rfl⟩
 have HXS:=Lib.hid hxs
 rw[hxs]at hY ⊢
 clear hxs
 gi_wp2_with fail
 gi_loopw [6] (fun _ wr=> ∃(A':Option Addr) (c':Nat) (l':List Css) (pre:List SB),l'.length<=l.length/\Boxed wr lb 42 (.slice A' l'.length c')/\Rd wr (.slice A' l'.length c') l'.length 4 (cssCells l')/\
   Hid (l'≠[]-> ∀b off s,A'=some ⟨b,off,s⟩->s=none/\b≠lb/\ ¬bw b)/\Hid (A'=none->l'=[])/\l'.length<=c'/\Hid (∀x∈l',CssOk x)/\Hid (J pre wr)/\Hid (pre++handV l'=xs)) (fun _ wr=>lenSl wr lb)
 case atStart=>
  exact⟨A,c,l,[],Nat.le_refl _,hl,hr,hA,hA0,hc,hp,h0,HXS.out⟩
 case round=>
  clear hl hr hA hA0 hc hp h0
  obtain⟨A',c',l',pre,hle,hl,hr,HA,HA0,hc,HP,HJ,HK⟩:=hrel
  have g3:=hl.cell
  have g4:=hl.frozen
  have hlt2:=hl.lt
  cases l' with
  |nil=>
   have HX:Hid (J xs wr):=by
    have:=HK.out
    rw[handV_nil,List.append_nil]at this
    rw[<-this];exact HJ.out
   simp only[List.length_nil]at g3
   gi_wp2_with fail
   refine bodyPost_end (results_none rfl _ _ _) rfl ?_
   exact⟨⟨_,rfl⟩,.inl HX.out⟩
  |cons x r=>
   have hpos:(0:Int)<((x::r).length:Int):=by simp only[List.length_cons];omega
   obtain⟨b,off,rfl,hb,c0,c1,c2,c3⟩:=hr.css 0 (by simp)
   obtain⟨hsp,hblb,hbbw⟩:=HA.out (by simp) b off none rfl
   have HR:=Lib.hid hr
   have HL:=Lib.hid hl
   have hn9:(x::r).length<=1000000000:=by omega
   have HS:=Lib.hid (guess_ok HP.out)
   have HAt:=Lib.hid (fun(i:Nat) W (hW:Below wr.heap.size wr W)=>at16_any (some ⟨b,off,none⟩) (x::r).length c' (x::r) i W (by obtain⟨X,rfl⟩:=grow_of_below hW;exact hr.grow X) hn9 HP.out)
   have HG:Hid (guessT (x::r)=if x.text=moveT then⟨1,atI (x::r) 1,atI (x::r) 3⟩else if x.text=turnT then⟨2,(atI (x::r) 1).tdiv 90,0⟩else if x.text=scaleT then⟨3,atI (x::r) 1,0⟩else⟨4,0,0⟩):=rfl
   have hne0:(x::r).length≠0:=by simp
   simp only[List.getElem_cons_zero,Nat.zero_mul,Nat.add_zero,sv]at c0 c1 c2 c3
   have hz: ∀t:Bs,((⟨x.text.toArray⟩:ByteArray).toList==t)=decide (x.text=t):=fun t=>by rw[ByteArray.toList_eq,Bool.eq_iff_iff];simp
   have z1:=hz [116,114,97,110,115,108,97,116,101]
   have z2:=hz [114,111,116,97,116,101]
   have z3:=hz [115,99,97,108,101]
   clear hz hr hl
   generalize hT:(⟨x.text.toArray⟩:ByteArray)=a1 at*
   generalize(⟨x.unit.toArray⟩:ByteArray)=a2 at*
   generalize x.num=nn at*
   generalize x.kind=kk at*
   generalize hlen:(x::r).length=N at*
   have HLen:=Lib.hid hlen
   clear hlen
   have hy9: ∀i,(atI (x::r) i).natAbs<=9223372036854775:=at_abs HP.out
   by_cases t1:x.text=moveT
   ·rw[show decide (x.text=[116,114,97,110,115,108,97,116,101])=true from decide_eq_true t1]at z1
    rw[if_pos t1]at HG
    clear t1 z2 z3 hT hy9
    have HA1:=Lib.hid (fun W (hW:Below wr.heap.size wr W)=>show Calls Tryz.prog 290 #[.slice (some ⟨b,off,none⟩) N c',.int .i64 1] W (Ret (.int .i64 (atI (x::r) 1)) W)from HAt.out 1 W hW)
    have HA3:=Lib.hid (fun W (hW:Below wr.heap.size wr W)=>show Calls Tryz.prog 290 #[.slice (some ⟨b,off,none⟩) N c',.int .i64 3] W (Ret (.int .i64 (atI (x::r) 3)) W)from HAt.out 3 W hW)
    clear HAt
    generalize atI (x::r) 1=y1 at*
    generalize atI (x::r) 3=y3 at*
    gi_upto_region 4 with fail
    refine name_worldIn fun W4 hW4=> ?_
    have HB4:Hid (Below wr.heap.size wr W4):=by show Below _ _ _;rw[<-hW4];exact bel
    have hs4:wr.heap.size<W4.heap.size:=by rw[<-hW4];simp
    have k0:W4.cell? ⟨wr.heap.size,0,none⟩=some (.int .i64 4):=by rw[<-hW4];simp[go_sem]
    have k1:W4.cell? ⟨wr.heap.size,1,none⟩=some (.int .i64 0):=by rw[<-hW4];simp[go_sem]
    have k2:W4.cell? ⟨wr.heap.size,2,none⟩=some (.int .i64 0):=by rw[<-hW4];simp[go_sem]
    have f0:W4.frozen? ⟨wr.heap.size,0,none⟩=false:=by rw[<-hW4];simp[go_sem]
    have f1:W4.frozen? ⟨wr.heap.size,1,none⟩=false:=by rw[<-hW4];simp[go_sem]
    have f2:W4.frozen? ⟨wr.heap.size,2,none⟩=false:=by rw[<-hW4];simp[go_sem]
    have hl4:lb<W4.heap.size:=by omega
    have g5:=(HB4.out.cell hlt2).trans g3
    clear hW4
    refine wpIn_region_grow_tail 5 rfl (by kernel_rfl) (by kernel_rfl) ?_
    dsimp only[List.take,List.drop]
    repeat(gi_big_quiet_step (first|(gi_at_call 290;with_reducible exact CallsIn.grow_of (HA1.out _ (below_next HB4.out (below_grow _ _))))|(gi_at_call 290;with_reducible exact CallsIn.grow_of (HA3.out _ (below_next HB4.out (below_grow _ _))))))
    refine wpQuietIn_nil ?_
    intro _ hw';obtain⟨nq,hw''⟩:=hw';subst hw''
    gi_upto_region 9 with fail
    refine name_worldIn fun W9 hW9=> ?_
    have HB9:Hid (Below wr.heap.size wr W9):=by show Below _ _ _;rw[<-hW9];exact below_out HB4.out bel
    have m0:W9.cell? ⟨wr.heap.size,0,none⟩=some (.int .i64 (1)):=by rw[<-hW9];simp[go_sem,k0,hs4]
    have m1:W9.cell? ⟨wr.heap.size,1,none⟩=some (.int .i64 (y1)):=by rw[<-hW9];simp[go_sem,k1,hs4]
    have m2:W9.cell? ⟨wr.heap.size,2,none⟩=some (.int .i64 (y3)):=by rw[<-hW9];simp[go_sem,k2,hs4]
    clear hW9
    clear HB4 hs4 k0 k1 k2 f0 f1 f2 hl4 g5 HA1 HA3
    obtain⟨TS,hTS⟩: ∃TS,toldT (guessT (x::r))=TS:=⟨_,rfl⟩
    have HTo:=Lib.hid (fun W=>show Calls Tryz.prog 271 #[.agg #[.int .i64 (1),.int .i64 (y1),.int .i64 (y3)]] W (RetO W TS.length 4 72 (cssCells TS))from by
     have e9:=HG.out
     have h9:=told16_any ⟨1,y1,y3⟩ W (e9 ▸ HS.out)
     rw[show toldT ⟨1,y1,y3⟩=TS by rw[<-e9];exact hTS]at h9
     exact h9)
    have htl:3<=TS.length/\TS.length<=5:=by rw[<-hTS];exact told_len3 _
    have HFit:Hid (fitT (x::r)=decide ((x::r).take (min TS.length N)=TS)):=by show _=_;rw[fit_min,hTS,HLen.out]
    have HFl:Hid (fitT (x::r)=true->TS.length<=N):=fun h=>by have h9:=fit_len h;rw[hTS,HLen.out]at h9;exact h9
    have HRest:Hid (restT (x::r)=(x::r).drop TS.length):=by show _=_;unfold restT;rw[hTS]
    have HVy:Hid (fitT (x::r)=true->handV (x::r)=⟨⟨1,y1,y3⟩,true⟩::handV (restT (x::r))):=fun h=>by rw[handV_yes h,HG.out]
    have HVn:Hid (fitT (x::r)=false->handV (x::r)=[⟨⟨1,y1,y3⟩,false⟩]):=fun h=>by rw[handV_no h,HG.out]
    clear hTS HG HS
    generalize hms:min TS.length N=mn at*
    have hmn:mn<=N/\mn<=TS.length:=by omega
    obtain⟨hmn1,hmn2⟩:=hmn
    have HMs:=Lib.hid hms
    clear hms
    have s9:wr.heap.size<W9.heap.size:=World.block_lt_of_cell? W9 _ m0
    have hl9:lb<W9.heap.size:=by omega
    have g9:=(HB9.out.cell hlt2).trans g3
    refine wpIn_wide_row 6 [(0,true),(3,true),(4,true),(1,false),(2,true),(5,true)] (fun W=>Below W9.heap.size W9 W) hmx (by rintro⟨_,_,h⟩;have h2:(∃v,Ending.outgrown= .returned v)/\_:=h;obtain⟨⟨v,hv⟩,_⟩:=h2;cases hv) (by kernel_rfl) (by kernel_rfl) (by kernel_rfl) (by decide) rfl (fun c a d v w h=>by have h2:_/\(∃v,Ending.panicked c= .returned v)/\_:=h;obtain⟨_,⟨v,hv⟩,_⟩:=h2;cases hv) (by kernel_rfl) ((Below.refl _ _).drew) ?_
    refine wpRow_read (v:= .agg #[.int .i64 (1),.int .i64 (y1),.int .i64 (y3)]) rfl rfl (fun W hW=>by have q0:=(hW.cell s9).trans m0;have q1:=(hW.cell s9).trans m1;have q2:=(hW.cell s9).trans m2;simp[execOp,go_sem,q0,q1,q2]) ?_
    refine wpRow_read (v:= .slice (some ⟨b,off,none⟩) N c') rfl rfl (fun W hW=>by have q0:=(hW.cell hl9).trans g9;simp[execOp,go_sem,q0]) ?_
    refine wpRow_read (v:= .int .i64 (N:Nat)) rfl rfl (fun W _=>by simp[execOp,go_sem]) ?_
    refine wpRow_op rfl rfl fun Kc hKc=> ?_
    unfold Oper.wp
    simp[execOp,go_sem]
    refine(HTo.out _).mono ?_
    rintro e w' ⟨v3,X3,rfl,rfl,ho3⟩
    obtain⟨gt,cap3,rfl⟩:=Go.Joins.ownsRow_form ho3 (by omega)
    apply hKc
    refine⟨bel, ?_⟩
    refine wpRow_read (v:= .int .i64 (TS.length:Nat)) rfl rfl (fun W _=>by simp[execOp,go_sem]) ?_
    refine wpRow_read (v:= .int .i64 (mn:Nat)) rfl rfl (fun W _=>by have:=HMs.out;simp[execOp,go_sem];omega) ?_
    dsimp only[wpRow,List.drop]
    go_wp2_with fail
    gi_upto_region 10 with fail
    refine name_worldIn fun W10 hW10=> ?_
    have HB10:Hid (Below wr.heap.size wr W10):=by show Below _ _ _;rw[<-hW10];exact below_out HB9.out bel
    have HB9':Hid (Below W9.heap.size W9 W10):=by show Below _ _ _;rw[<-hW10];exact bel
    have s10:wr.heap.size<W10.heap.size:=Nat.lt_of_lt_of_le s9 HB9'.out.size
    have hl10:lb<W10.heap.size:=by omega
    have n0:=(HB9'.out.cell s9).trans m0
    have n1:=(HB9'.out.cell s9).trans m1
    have n2:=(HB9'.out.cell s9).trans m2
    have g10:=(HB10.out.cell hlt2).trans g3
    have HRt:Hid (Rd W10 (.slice (some ⟨b,off,none⟩) mn c') ((x::r).take mn).length 4 (cssCells ((x::r).take mn))):=by
     show Rd _ _ _ _ _
     have hq1:=HR.out
     rw[<-HLen.out]at hq1
     have hq:=Rd.take4 hq1 mn (by rw[HLen.out];exact hmn1)
     have h8:((x::r).take mn).length=mn:=by rw[List.length_take,HLen.out];omega
     rw[h8]at hq ⊢
     obtain⟨X,hX⟩:=grow_of_below HB10.out
     rw[hX];exact hq.grow X
    have HEq:=Lib.hid (fun W (hB:Below W10.heap.size W10 W) A2 n2 c2 (hb:Rd W (.slice A2 n2 c2) TS.length 4 (cssCells TS))=>equal_any (some ⟨b,off,none⟩) A2 mn n2 c' c2 ((x::r).take mn) TS W (by obtain⟨X,rfl⟩:=grow_of_below hB;exact HRt.out.grow X) hb)
    rw[<-HFit.out]at HEq
    clear hW10 ho3 HB9 HB9' m0 m1 m2 s9 hl9 g9
    have i1:(0:Int)<=(mn:Int)/\(mn:Int)<=c':=by omega
    refine wpIn_wide_row 6 [(0,true),(1,true),(2,true),(3,true),(4,false),(5,false)] (fun W=>Below W10.heap.size W10 W) hmx (by rintro⟨_,_,h⟩;have h2:(∃v,Ending.outgrown= .returned v)/\_:=h;obtain⟨⟨v,hv⟩,_⟩:=h2;cases hv) (by kernel_rfl) (by kernel_rfl) (by kernel_rfl) (by decide) rfl (fun c a d v w h=>by have h2:_/\(∃v,Ending.panicked c= .returned v)/\_:=h;obtain⟨_,⟨v,hv⟩,_⟩:=h2;cases hv) (by kernel_rfl) ((Below.refl _ _).drew) ?_
    refine wpRow_read (v:= .slice (some ⟨b,off,none⟩) N c') rfl rfl (fun W hW=>by have q0:=(hW.cell hl10).trans g10;simp[execOp,go_sem,q0]) ?_
    refine wpRow_read (v:= .int .i64 (mn:Nat)) rfl rfl (fun W _=>by simp[execOp,go_sem]) ?_
    refine wpRow_read (v:= .slice (some ⟨b,off,none⟩) mn c') rfl rfl (fun W _=>by simp[execOp,go_sem];omega) ?_
    refine wpRow_read (v:= .agg #[.int .i64 (1),.int .i64 (y1),.int .i64 (y3)]) rfl rfl (fun W hW=>by have q0:=(hW.cell s10).trans n0;have q1:=(hW.cell s10).trans n1;have q2:=(hW.cell s10).trans n2;simp[execOp,go_sem,q0,q1,q2]) ?_
    refine wpRow_op rfl rfl fun Kc hKc=> ?_
    unfold Oper.wp
    simp[execOp,go_sem]
    refine(HTo.out _).mono ?_
    rintro e w' ⟨v4,X4,rfl,rfl,ho4⟩
    obtain⟨gt4,cap4,rfl⟩:=Go.Joins.ownsRow_form ho4 (by omega)
    apply hKc
    refine⟨bel, ?_⟩
    refine wpRow_op rfl rfl fun Kd hKd=> ?_
    unfold Oper.wp
    simp[execOp,go_sem]
    refine(HEq.out _ bel _ _ _ (Rd.own ho4)).mono ?_
    rintro e w' ⟨rfl,X5,rfl⟩
    apply hKd
    refine⟨bel, ?_⟩
    dsimp only[wpRow,List.drop]
    go_wp2_with fail
    gi_upto_region 11 with fail
    refine name_worldIn fun W11 hW11=> ?_
    have HB11:Hid (Below wr.heap.size wr W11):=by show Below _ _ _;rw[<-hW11];exact below_out HB10.out bel
    have HB12:Hid (Below W10.heap.size W10 W11):=by show Below _ _ _;rw[<-hW11];exact bel
    have p0:=(HB12.out.cell s10).trans n0
    have p1:=(HB12.out.cell s10).trans n1
    have p2:=(HB12.out.cell s10).trans n2
    have HT11:Hid (Turned (fun _=>False) wr W11):=Turned.of_below HB11.out
    have HJ11:=Lib.hid (hJ _ _ _ HJ.out (HT11.out.mono fun _ h=>h.elim))
    have HL11:=Lib.hid (HT11.out.boxed HL.out (fun h=>h))
    clear hW11 ho4 HB10 HB12 n0 n1 n2 s10 hl10 g10 HRt HEq HTo HJ HB11
    cases hfit:fitT (x::r)
    ·have HX:Hid (pre++[⟨⟨1,y1,y3⟩,false⟩]=xs):=by show _=_;rw[<-HK.out,HVn.out hfit]
     clear hfit HFit HFl HVy HVn HRest HK
     gi_wp2_with fail
     refine upon_yield (hY pre ⟨⟨1,y1,y3⟩,false⟩ _ ⟨[],by rw[List.append_nil];exact HX.out⟩ HJ11.out) rfl ?_
     rintro e W3 (⟨rfl,hJ3,ht3⟩|⟨rfl,hJx⟩)
     ·refine⟨_,rfl, ?_⟩
      gi_wp2_with fail
      refine bodyPost_ret (results_none rfl _ _ _) rfl ?_
      rw[HX.out]at hJ3
      exact⟨⟨_,rfl⟩,.inl hJ3⟩
     ·refine⟨_,rfl, ?_⟩
      gi_wp2_with fail
      refine bodyPost_ret (results_none rfl _ _ _) rfl ?_
      exact⟨⟨_,rfl⟩,.inr ⟨pre,_,⟨[],by rw[List.append_nil];exact HX.out⟩,hJx⟩⟩
    ·have hmt:mn=TS.length:=by have h1:=HFl.out hfit;have h2:=HMs.out;omega
     have HX:Hid (pre++[⟨⟨1,y1,y3⟩,true⟩]++handV ((x::r).drop mn)=xs):=by show _=_;rw[<-HK.out,HVy.out hfit,HRest.out,hmt,List.append_assoc];rfl
     have hm3:3<=mn:=by omega
     have hdk:((x::r).drop mn).length=N-mn:=by rw[List.length_drop,HLen.out]
     have hr4:=Rd.drop4 (show Rd wr (.slice (some ⟨b,off,none⟩) N c') (x::r).length 4 (cssCells (x::r)) by rw[HLen.out];exact HR.out) mn (by rw[HLen.out];exact hmn1)
     obtain⟨Av,hAv⟩: ∃Av,(if c'=mn then some (⟨b,off,none⟩:Addr)else some ⟨b,off+mn*4,none⟩)=Av:=⟨_,rfl⟩
     have HAv2:Hid (∀b' off' s,Av=some ⟨b',off',s⟩->s=none/\b'=b):=fun b' off' s h=>by
      rw[<-hAv]at h
      split at h<;>(cases h;exact⟨rfl,rfl⟩)
     have HAv3:Hid (Av≠none):=by
      show _≠_
      rw[<-hAv];split<;>simp
     have hr5:Rd wr (.slice Av ((x::r).drop mn).length (c'-mn)) ((x::r).drop mn).length 4 (cssCells ((x::r).drop mn)):=by
      by_cases hck:c'=mn
      ·refine⟨flat_len Css.cells 4 (fun _=>rfl) _,by rw[hdk];have:=hr4.2.1;omega,_,_,rfl,fun hn0=> ?_⟩
       rw[hdk]at hn0;omega
      ·rw[if_neg hck]at hAv
       rw[<-hAv];exact hr4
     rw[hdk]at hr5
     have HR4:=Lib.hid hr5
     have HDK:=Lib.hid hdk
     have HP4:Hid (∀y∈(x::r).drop mn,CssOk y):=fun y hy=>HP.out y (List.mem_of_mem_drop hy)
     have hkc:mn<=c':=by omega
     clear hfit HFit HFl HVy HVn HRest HK hr5 hr4 hdk hmt htl HMs hmn2
     gi_wp2_with fail
     refine upon_yield (hY pre ⟨⟨1,y1,y3⟩,true⟩ _ ⟨_,HX.out⟩ HJ11.out) rfl ?_
     rintro e W3 (⟨rfl,hJ3,ht3⟩|⟨rfl,hJx⟩)
     ·refine⟨_,rfl, ?_⟩
      have HL4:=Lib.hid (ht3.boxed HL11.out hbl)
      have t3:=HL4.out.cell
      have t4:=HL4.out.frozen
      have tlt:=HL4.out.lt
      have HT3:=Lib.hid ht3
      have HJ3:=Lib.hid hJ3
      clear hJ3 ht3 g3 g4 p0 p1 p2 c0 c1 c2 c3
      gi_wp2_with fail
      go_roundw
      case rel=>
       have hTl:Turned (fun k=>k=lb) W3 (W3.setCell ⟨lb,0,none⟩ (.slice Av (N-mn) (c'-mn))):=Turned.setCell (pv:=fun k=>k=lb) (Turned.refl _ _) (Or.inr rfl) _
       refine⟨Av,c'-mn,(x::r).drop mn,_,by rw[HDK.out];omega,by rw[HDK.out];exact HL4.out.set _, ?_, ?_,fun h=>absurd h HAv3.out,by rw[HDK.out];omega,HP4.out,hJ _ _ _ HJ3.out hTl,HX.out⟩
       ·rw[HDK.out]
        refine Rd.turned (pv:=bw) (Rd.turned (pv:=fun _=>False) HR4.out HT11.out ?_) HT3.out ?_ |>.turned hTl ?_
        all_goals(intro b' off' s h;obtain⟨rfl,rfl⟩:=HAv2.out _ _ _ h;first|assumption|exact hblb|exact fun h=>h)
       ·intro _ b' off' s h
        obtain⟨rfl,rfl⟩:=HAv2.out _ _ _ h
        exact⟨rfl,hblb,hbbw⟩
      case measure=>
       rw[lenSl_boxed (HL4.out.set _),lenSl_boxed HL.out];omega
     ·refine⟨_,rfl, ?_⟩
      gi_wp2_with fail
      refine bodyPost_ret (results_none rfl _ _ _) rfl ?_
      exact⟨⟨_,rfl⟩,.inr ⟨pre,_,⟨_,HX.out⟩,hJx⟩⟩
   rw[if_neg t1]at HG
   rw[show decide (x.text=[116,114,97,110,115,108,97,116,101])=false from decide_eq_false t1]at z1
   by_cases t2:x.text=turnT
   ·rw[show decide (x.text=[114,111,116,97,116,101])=true from decide_eq_true t2]at z2
    rw[if_pos t2]at HG
    have hy:=hy9 1
    clear t1 t2 z3 hT hy9
    have HA1:=Lib.hid (fun W (hW:Below wr.heap.size wr W)=>show Calls Tryz.prog 290 #[.slice (some ⟨b,off,none⟩) N c',.int .i64 1] W (Ret (.int .i64 (atI (x::r) 1)) W)from HAt.out 1 W hW)
    clear HAt
    generalize atI (x::r) 1=y1 at*
    have hq:wrap64 (y1.tdiv 90)=y1.tdiv 90:=IntWalk.wrap64_in _ (by have e9:(y1.tdiv 90).natAbs=y1.natAbs/90:=(by rw[Int.natAbs_tdiv];rfl);omega)
    gi_upto_region 9 with(gi_at_call 290;(with_reducible refine(callsIn_wide' (HA1.out _ bel)).mono ?_);rintro e w' ⟨rfl,X1,rfl⟩)
    refine name_worldIn fun W9 hW9=> ?_
    have HB9:Hid (Below wr.heap.size wr W9):=by show Below _ _ _;rw[<-hW9];exact bel
    have m0:W9.cell? ⟨wr.heap.size,0,none⟩=some (.int .i64 (2)):=by rw[<-hW9];simp[go_sem]
    have m1:W9.cell? ⟨wr.heap.size,1,none⟩=some (.int .i64 (y1.tdiv 90)):=by rw[<-hW9];simp[go_sem]
    have m2:W9.cell? ⟨wr.heap.size,2,none⟩=some (.int .i64 (0)):=by rw[<-hW9];simp[go_sem]
    clear hW9
    clear HA1
    obtain⟨TS,hTS⟩: ∃TS,toldT (guessT (x::r))=TS:=⟨_,rfl⟩
    have HTo:=Lib.hid (fun W=>show Calls Tryz.prog 271 #[.agg #[.int .i64 (2),.int .i64 (y1.tdiv 90),.int .i64 (0)]] W (RetO W TS.length 4 72 (cssCells TS))from by
     have e9:=HG.out
     have h9:=told16_any ⟨2,y1.tdiv 90,0⟩ W (e9 ▸ HS.out)
     rw[show toldT ⟨2,y1.tdiv 90,0⟩=TS by rw[<-e9];exact hTS]at h9
     exact h9)
    have htl:3<=TS.length/\TS.length<=5:=by rw[<-hTS];exact told_len3 _
    have HFit:Hid (fitT (x::r)=decide ((x::r).take (min TS.length N)=TS)):=by show _=_;rw[fit_min,hTS,HLen.out]
    have HFl:Hid (fitT (x::r)=true->TS.length<=N):=fun h=>by have h9:=fit_len h;rw[hTS,HLen.out]at h9;exact h9
    have HRest:Hid (restT (x::r)=(x::r).drop TS.length):=by show _=_;unfold restT;rw[hTS]
    have HVy:Hid (fitT (x::r)=true->handV (x::r)=⟨⟨2,y1.tdiv 90,0⟩,true⟩::handV (restT (x::r))):=fun h=>by rw[handV_yes h,HG.out]
    have HVn:Hid (fitT (x::r)=false->handV (x::r)=[⟨⟨2,y1.tdiv 90,0⟩,false⟩]):=fun h=>by rw[handV_no h,HG.out]
    clear hTS HG HS
    generalize hms:min TS.length N=mn at*
    have hmn:mn<=N/\mn<=TS.length:=by omega
    obtain⟨hmn1,hmn2⟩:=hmn
    have HMs:=Lib.hid hms
    clear hms
    have s9:wr.heap.size<W9.heap.size:=World.block_lt_of_cell? W9 _ m0
    have hl9:lb<W9.heap.size:=by omega
    have g9:=(HB9.out.cell hlt2).trans g3
    refine wpIn_wide_row 6 [(0,true),(3,true),(4,true),(1,false),(2,true),(5,true)] (fun W=>Below W9.heap.size W9 W) hmx (by rintro⟨_,_,h⟩;have h2:(∃v,Ending.outgrown= .returned v)/\_:=h;obtain⟨⟨v,hv⟩,_⟩:=h2;cases hv) (by kernel_rfl) (by kernel_rfl) (by kernel_rfl) (by decide) rfl (fun c a d v w h=>by have h2:_/\(∃v,Ending.panicked c= .returned v)/\_:=h;obtain⟨_,⟨v,hv⟩,_⟩:=h2;cases hv) (by kernel_rfl) ((Below.refl _ _).drew) ?_
    refine wpRow_read (v:= .agg #[.int .i64 (2),.int .i64 (y1.tdiv 90),.int .i64 (0)]) rfl rfl (fun W hW=>by have q0:=(hW.cell s9).trans m0;have q1:=(hW.cell s9).trans m1;have q2:=(hW.cell s9).trans m2;simp[execOp,go_sem,q0,q1,q2]) ?_
    refine wpRow_read (v:= .slice (some ⟨b,off,none⟩) N c') rfl rfl (fun W hW=>by have q0:=(hW.cell hl9).trans g9;simp[execOp,go_sem,q0]) ?_
    refine wpRow_read (v:= .int .i64 (N:Nat)) rfl rfl (fun W _=>by simp[execOp,go_sem]) ?_
    refine wpRow_op rfl rfl fun Kc hKc=> ?_
    unfold Oper.wp
    simp[execOp,go_sem]
    refine(HTo.out _).mono ?_
    rintro e w' ⟨v3,X3,rfl,rfl,ho3⟩
    obtain⟨gt,cap3,rfl⟩:=Go.Joins.ownsRow_form ho3 (by omega)
    apply hKc
    refine⟨bel, ?_⟩
    refine wpRow_read (v:= .int .i64 (TS.length:Nat)) rfl rfl (fun W _=>by simp[execOp,go_sem]) ?_
    refine wpRow_read (v:= .int .i64 (mn:Nat)) rfl rfl (fun W _=>by have:=HMs.out;simp[execOp,go_sem];omega) ?_
    dsimp only[wpRow,List.drop]
    go_wp2_with fail
    gi_upto_region 10 with fail
    refine name_worldIn fun W10 hW10=> ?_
    have HB10:Hid (Below wr.heap.size wr W10):=by show Below _ _ _;rw[<-hW10];exact below_out HB9.out bel
    have HB9':Hid (Below W9.heap.size W9 W10):=by show Below _ _ _;rw[<-hW10];exact bel
    have s10:wr.heap.size<W10.heap.size:=Nat.lt_of_lt_of_le s9 HB9'.out.size
    have hl10:lb<W10.heap.size:=by omega
    have n0:=(HB9'.out.cell s9).trans m0
    have n1:=(HB9'.out.cell s9).trans m1
    have n2:=(HB9'.out.cell s9).trans m2
    have g10:=(HB10.out.cell hlt2).trans g3
    have HRt:Hid (Rd W10 (.slice (some ⟨b,off,none⟩) mn c') ((x::r).take mn).length 4 (cssCells ((x::r).take mn))):=by
     show Rd _ _ _ _ _
     have hq1:=HR.out
     rw[<-HLen.out]at hq1
     have hq:=Rd.take4 hq1 mn (by rw[HLen.out];exact hmn1)
     have h8:((x::r).take mn).length=mn:=by rw[List.length_take,HLen.out];omega
     rw[h8]at hq ⊢
     obtain⟨X,hX⟩:=grow_of_below HB10.out
     rw[hX];exact hq.grow X
    have HEq:=Lib.hid (fun W (hB:Below W10.heap.size W10 W) A2 n2 c2 (hb:Rd W (.slice A2 n2 c2) TS.length 4 (cssCells TS))=>equal_any (some ⟨b,off,none⟩) A2 mn n2 c' c2 ((x::r).take mn) TS W (by obtain⟨X,rfl⟩:=grow_of_below hB;exact HRt.out.grow X) hb)
    rw[<-HFit.out]at HEq
    clear hW10 ho3 HB9 HB9' m0 m1 m2 s9 hl9 g9
    have i1:(0:Int)<=(mn:Int)/\(mn:Int)<=c':=by omega
    refine wpIn_wide_row 6 [(0,true),(1,true),(2,true),(3,true),(4,false),(5,false)] (fun W=>Below W10.heap.size W10 W) hmx (by rintro⟨_,_,h⟩;have h2:(∃v,Ending.outgrown= .returned v)/\_:=h;obtain⟨⟨v,hv⟩,_⟩:=h2;cases hv) (by kernel_rfl) (by kernel_rfl) (by kernel_rfl) (by decide) rfl (fun c a d v w h=>by have h2:_/\(∃v,Ending.panicked c= .returned v)/\_:=h;obtain⟨_,⟨v,hv⟩,_⟩:=h2;cases hv) (by kernel_rfl) ((Below.refl _ _).drew) ?_
    refine wpRow_read (v:= .slice (some ⟨b,off,none⟩) N c') rfl rfl (fun W hW=>by have q0:=(hW.cell hl10).trans g10;simp[execOp,go_sem,q0]) ?_
    refine wpRow_read (v:= .int .i64 (mn:Nat)) rfl rfl (fun W _=>by simp[execOp,go_sem]) ?_
    refine wpRow_read (v:= .slice (some ⟨b,off,none⟩) mn c') rfl rfl (fun W _=>by simp[execOp,go_sem];omega) ?_
    refine wpRow_read (v:= .agg #[.int .i64 (2),.int .i64 (y1.tdiv 90),.int .i64 (0)]) rfl rfl (fun W hW=>by have q0:=(hW.cell s10).trans n0;have q1:=(hW.cell s10).trans n1;have q2:=(hW.cell s10).trans n2;simp[execOp,go_sem,q0,q1,q2]) ?_
    refine wpRow_op rfl rfl fun Kc hKc=> ?_
    unfold Oper.wp
    simp[execOp,go_sem]
    refine(HTo.out _).mono ?_
    rintro e w' ⟨v4,X4,rfl,rfl,ho4⟩
    obtain⟨gt4,cap4,rfl⟩:=Go.Joins.ownsRow_form ho4 (by omega)
    apply hKc
    refine⟨bel, ?_⟩
    refine wpRow_op rfl rfl fun Kd hKd=> ?_
    unfold Oper.wp
    simp[execOp,go_sem]
    refine(HEq.out _ bel _ _ _ (Rd.own ho4)).mono ?_
    rintro e w' ⟨rfl,X5,rfl⟩
    apply hKd
    refine⟨bel, ?_⟩
    dsimp only[wpRow,List.drop]
    go_wp2_with fail
    gi_upto_region 11 with fail
    refine name_worldIn fun W11 hW11=> ?_
    have HB11:Hid (Below wr.heap.size wr W11):=by show Below _ _ _;rw[<-hW11];exact below_out HB10.out bel
    have HB12:Hid (Below W10.heap.size W10 W11):=by show Below _ _ _;rw[<-hW11];exact bel
    have p0:=(HB12.out.cell s10).trans n0
    have p1:=(HB12.out.cell s10).trans n1
    have p2:=(HB12.out.cell s10).trans n2
    have HT11:Hid (Turned (fun _=>False) wr W11):=Turned.of_below HB11.out
    have HJ11:=Lib.hid (hJ _ _ _ HJ.out (HT11.out.mono fun _ h=>h.elim))
    have HL11:=Lib.hid (HT11.out.boxed HL.out (fun h=>h))
    clear hW11 ho4 HB10 HB12 n0 n1 n2 s10 hl10 g10 HRt HEq HTo HJ HB11
    cases hfit:fitT (x::r)
    ·have HX:Hid (pre++[⟨⟨2,y1.tdiv 90,0⟩,false⟩]=xs):=by show _=_;rw[<-HK.out,HVn.out hfit]
     clear hfit HFit HFl HVy HVn HRest HK
     gi_wp2_with fail
     refine upon_yield (hY pre ⟨⟨2,y1.tdiv 90,0⟩,false⟩ _ ⟨[],by rw[List.append_nil];exact HX.out⟩ HJ11.out) rfl ?_
     rintro e W3 (⟨rfl,hJ3,ht3⟩|⟨rfl,hJx⟩)
     ·refine⟨_,rfl, ?_⟩
      gi_wp2_with fail
      refine bodyPost_ret (results_none rfl _ _ _) rfl ?_
      rw[HX.out]at hJ3
      exact⟨⟨_,rfl⟩,.inl hJ3⟩
     ·refine⟨_,rfl, ?_⟩
      gi_wp2_with fail
      refine bodyPost_ret (results_none rfl _ _ _) rfl ?_
      exact⟨⟨_,rfl⟩,.inr ⟨pre,_,⟨[],by rw[List.append_nil];exact HX.out⟩,hJx⟩⟩
    ·have hmt:mn=TS.length:=by have h1:=HFl.out hfit;have h2:=HMs.out;omega
     have HX:Hid (pre++[⟨⟨2,y1.tdiv 90,0⟩,true⟩]++handV ((x::r).drop mn)=xs):=by show _=_;rw[<-HK.out,HVy.out hfit,HRest.out,hmt,List.append_assoc];rfl
     have hm3:3<=mn:=by omega
     have hdk:((x::r).drop mn).length=N-mn:=by rw[List.length_drop,HLen.out]
     have hr4:=Rd.drop4 (show Rd wr (.slice (some ⟨b,off,none⟩) N c') (x::r).length 4 (cssCells (x::r)) by rw[HLen.out];exact HR.out) mn (by rw[HLen.out];exact hmn1)
     obtain⟨Av,hAv⟩: ∃Av,(if c'=mn then some (⟨b,off,none⟩:Addr)else some ⟨b,off+mn*4,none⟩)=Av:=⟨_,rfl⟩
     have HAv2:Hid (∀b' off' s,Av=some ⟨b',off',s⟩->s=none/\b'=b):=fun b' off' s h=>by
      rw[<-hAv]at h
      split at h<;>(cases h;exact⟨rfl,rfl⟩)
     have HAv3:Hid (Av≠none):=by
      show _≠_
      rw[<-hAv];split<;>simp
     have hr5:Rd wr (.slice Av ((x::r).drop mn).length (c'-mn)) ((x::r).drop mn).length 4 (cssCells ((x::r).drop mn)):=by
      by_cases hck:c'=mn
      ·refine⟨flat_len Css.cells 4 (fun _=>rfl) _,by rw[hdk];have:=hr4.2.1;omega,_,_,rfl,fun hn0=> ?_⟩
       rw[hdk]at hn0;omega
      ·rw[if_neg hck]at hAv
       rw[<-hAv];exact hr4
     rw[hdk]at hr5
     have HR4:=Lib.hid hr5
     have HDK:=Lib.hid hdk
     have HP4:Hid (∀y∈(x::r).drop mn,CssOk y):=fun y hy=>HP.out y (List.mem_of_mem_drop hy)
     have hkc:mn<=c':=by omega
     clear hfit HFit HFl HVy HVn HRest HK hr5 hr4 hdk hmt htl HMs hmn2
     gi_wp2_with fail
     refine upon_yield (hY pre ⟨⟨2,y1.tdiv 90,0⟩,true⟩ _ ⟨_,HX.out⟩ HJ11.out) rfl ?_
     rintro e W3 (⟨rfl,hJ3,ht3⟩|⟨rfl,hJx⟩)
     ·refine⟨_,rfl, ?_⟩
      have HL4:=Lib.hid (ht3.boxed HL11.out hbl)
      have t3:=HL4.out.cell
      have t4:=HL4.out.frozen
      have tlt:=HL4.out.lt
      have HT3:=Lib.hid ht3
      have HJ3:=Lib.hid hJ3
      clear hJ3 ht3 g3 g4 p0 p1 p2 c0 c1 c2 c3
      gi_wp2_with fail
      go_roundw
      case rel=>
       have hTl:Turned (fun k=>k=lb) W3 (W3.setCell ⟨lb,0,none⟩ (.slice Av (N-mn) (c'-mn))):=Turned.setCell (pv:=fun k=>k=lb) (Turned.refl _ _) (Or.inr rfl) _
       refine⟨Av,c'-mn,(x::r).drop mn,_,by rw[HDK.out];omega,by rw[HDK.out];exact HL4.out.set _, ?_, ?_,fun h=>absurd h HAv3.out,by rw[HDK.out];omega,HP4.out,hJ _ _ _ HJ3.out hTl,HX.out⟩
       ·rw[HDK.out]
        refine Rd.turned (pv:=bw) (Rd.turned (pv:=fun _=>False) HR4.out HT11.out ?_) HT3.out ?_ |>.turned hTl ?_
        all_goals(intro b' off' s h;obtain⟨rfl,rfl⟩:=HAv2.out _ _ _ h;first|assumption|exact hblb|exact fun h=>h)
       ·intro _ b' off' s h
        obtain⟨rfl,rfl⟩:=HAv2.out _ _ _ h
        exact⟨rfl,hblb,hbbw⟩
      case measure=>
       rw[lenSl_boxed (HL4.out.set _),lenSl_boxed HL.out];omega
     ·refine⟨_,rfl, ?_⟩
      gi_wp2_with fail
      refine bodyPost_ret (results_none rfl _ _ _) rfl ?_
      exact⟨⟨_,rfl⟩,.inr ⟨pre,_,⟨_,HX.out⟩,hJx⟩⟩
   rw[if_neg t2]at HG
   rw[show decide (x.text=[114,111,116,97,116,101])=false from decide_eq_false t2]at z2
   by_cases t3:x.text=scaleT
   ·rw[show decide (x.text=[115,99,97,108,101])=true from decide_eq_true t3]at z3
    rw[if_pos t3]at HG
    clear t1 t2 t3 hT hy9
    have HA1:=Lib.hid (fun W (hW:Below wr.heap.size wr W)=>show Calls Tryz.prog 290 #[.slice (some ⟨b,off,none⟩) N c',.int .i64 1] W (Ret (.int .i64 (atI (x::r) 1)) W)from HAt.out 1 W hW)
    clear HAt
    generalize atI (x::r) 1=y1 at*
    gi_upto_region 9 with(gi_at_call 290;(with_reducible refine(callsIn_wide' (HA1.out _ bel)).mono ?_);rintro e w' ⟨rfl,X1,rfl⟩)
    refine name_worldIn fun W9 hW9=> ?_
    have HB9:Hid (Below wr.heap.size wr W9):=by show Below _ _ _;rw[<-hW9];exact bel
    have m0:W9.cell? ⟨wr.heap.size,0,none⟩=some (.int .i64 (3)):=by rw[<-hW9];simp[go_sem]
    have m1:W9.cell? ⟨wr.heap.size,1,none⟩=some (.int .i64 (y1)):=by rw[<-hW9];simp[go_sem]
    have m2:W9.cell? ⟨wr.heap.size,2,none⟩=some (.int .i64 (0)):=by rw[<-hW9];simp[go_sem]
    clear hW9
    clear HA1
    obtain⟨TS,hTS⟩: ∃TS,toldT (guessT (x::r))=TS:=⟨_,rfl⟩
    have HTo:=Lib.hid (fun W=>show Calls Tryz.prog 271 #[.agg #[.int .i64 (3),.int .i64 (y1),.int .i64 (0)]] W (RetO W TS.length 4 72 (cssCells TS))from by
     have e9:=HG.out
     have h9:=told16_any ⟨3,y1,0⟩ W (e9 ▸ HS.out)
     rw[show toldT ⟨3,y1,0⟩=TS by rw[<-e9];exact hTS]at h9
     exact h9)
    have htl:3<=TS.length/\TS.length<=5:=by rw[<-hTS];exact told_len3 _
    have HFit:Hid (fitT (x::r)=decide ((x::r).take (min TS.length N)=TS)):=by show _=_;rw[fit_min,hTS,HLen.out]
    have HFl:Hid (fitT (x::r)=true->TS.length<=N):=fun h=>by have h9:=fit_len h;rw[hTS,HLen.out]at h9;exact h9
    have HRest:Hid (restT (x::r)=(x::r).drop TS.length):=by show _=_;unfold restT;rw[hTS]
    have HVy:Hid (fitT (x::r)=true->handV (x::r)=⟨⟨3,y1,0⟩,true⟩::handV (restT (x::r))):=fun h=>by rw[handV_yes h,HG.out]
    have HVn:Hid (fitT (x::r)=false->handV (x::r)=[⟨⟨3,y1,0⟩,false⟩]):=fun h=>by rw[handV_no h,HG.out]
    clear hTS HG HS
    generalize hms:min TS.length N=mn at*
    have hmn:mn<=N/\mn<=TS.length:=by omega
    obtain⟨hmn1,hmn2⟩:=hmn
    have HMs:=Lib.hid hms
    clear hms
    have s9:wr.heap.size<W9.heap.size:=World.block_lt_of_cell? W9 _ m0
    have hl9:lb<W9.heap.size:=by omega
    have g9:=(HB9.out.cell hlt2).trans g3
    refine wpIn_wide_row 6 [(0,true),(3,true),(4,true),(1,false),(2,true),(5,true)] (fun W=>Below W9.heap.size W9 W) hmx (by rintro⟨_,_,h⟩;have h2:(∃v,Ending.outgrown= .returned v)/\_:=h;obtain⟨⟨v,hv⟩,_⟩:=h2;cases hv) (by kernel_rfl) (by kernel_rfl) (by kernel_rfl) (by decide) rfl (fun c a d v w h=>by have h2:_/\(∃v,Ending.panicked c= .returned v)/\_:=h;obtain⟨_,⟨v,hv⟩,_⟩:=h2;cases hv) (by kernel_rfl) ((Below.refl _ _).drew) ?_
    refine wpRow_read (v:= .agg #[.int .i64 (3),.int .i64 (y1),.int .i64 (0)]) rfl rfl (fun W hW=>by have q0:=(hW.cell s9).trans m0;have q1:=(hW.cell s9).trans m1;have q2:=(hW.cell s9).trans m2;simp[execOp,go_sem,q0,q1,q2]) ?_
    refine wpRow_read (v:= .slice (some ⟨b,off,none⟩) N c') rfl rfl (fun W hW=>by have q0:=(hW.cell hl9).trans g9;simp[execOp,go_sem,q0]) ?_
    refine wpRow_read (v:= .int .i64 (N:Nat)) rfl rfl (fun W _=>by simp[execOp,go_sem]) ?_
    refine wpRow_op rfl rfl fun Kc hKc=> ?_
    unfold Oper.wp
    simp[execOp,go_sem]
    refine(HTo.out _).mono ?_
    rintro e w' ⟨v3,X3,rfl,rfl,ho3⟩
    obtain⟨gt,cap3,rfl⟩:=Go.Joins.ownsRow_form ho3 (by omega)
    apply hKc
    refine⟨bel, ?_⟩
    refine wpRow_read (v:= .int .i64 (TS.length:Nat)) rfl rfl (fun W _=>by simp[execOp,go_sem]) ?_
    refine wpRow_read (v:= .int .i64 (mn:Nat)) rfl rfl (fun W _=>by have:=HMs.out;simp[execOp,go_sem];omega) ?_
    dsimp only[wpRow,List.drop]
    go_wp2_with fail
    gi_upto_region 10 with fail
    refine name_worldIn fun W10 hW10=> ?_
    have HB10:Hid (Below wr.heap.size wr W10):=by show Below _ _ _;rw[<-hW10];exact below_out HB9.out bel
    have HB9':Hid (Below W9.heap.size W9 W10):=by show Below _ _ _;rw[<-hW10];exact bel
    have s10:wr.heap.size<W10.heap.size:=Nat.lt_of_lt_of_le s9 HB9'.out.size
    have hl10:lb<W10.heap.size:=by omega
    have n0:=(HB9'.out.cell s9).trans m0
    have n1:=(HB9'.out.cell s9).trans m1
    have n2:=(HB9'.out.cell s9).trans m2
    have g10:=(HB10.out.cell hlt2).trans g3
    have HRt:Hid (Rd W10 (.slice (some ⟨b,off,none⟩) mn c') ((x::r).take mn).length 4 (cssCells ((x::r).take mn))):=by
     show Rd _ _ _ _ _
     have hq1:=HR.out
     rw[<-HLen.out]at hq1
     have hq:=Rd.take4 hq1 mn (by rw[HLen.out];exact hmn1)
     have h8:((x::r).take mn).length=mn:=by rw[List.length_take,HLen.out];omega
     rw[h8]at hq ⊢
     obtain⟨X,hX⟩:=grow_of_below HB10.out
     rw[hX];exact hq.grow X
    have HEq:=Lib.hid (fun W (hB:Below W10.heap.size W10 W) A2 n2 c2 (hb:Rd W (.slice A2 n2 c2) TS.length 4 (cssCells TS))=>equal_any (some ⟨b,off,none⟩) A2 mn n2 c' c2 ((x::r).take mn) TS W (by obtain⟨X,rfl⟩:=grow_of_below hB;exact HRt.out.grow X) hb)
    rw[<-HFit.out]at HEq
    clear hW10 ho3 HB9 HB9' m0 m1 m2 s9 hl9 g9
    have i1:(0:Int)<=(mn:Int)/\(mn:Int)<=c':=by omega
    refine wpIn_wide_row 6 [(0,true),(1,true),(2,true),(3,true),(4,false),(5,false)] (fun W=>Below W10.heap.size W10 W) hmx (by rintro⟨_,_,h⟩;have h2:(∃v,Ending.outgrown= .returned v)/\_:=h;obtain⟨⟨v,hv⟩,_⟩:=h2;cases hv) (by kernel_rfl) (by kernel_rfl) (by kernel_rfl) (by decide) rfl (fun c a d v w h=>by have h2:_/\(∃v,Ending.panicked c= .returned v)/\_:=h;obtain⟨_,⟨v,hv⟩,_⟩:=h2;cases hv) (by kernel_rfl) ((Below.refl _ _).drew) ?_
    refine wpRow_read (v:= .slice (some ⟨b,off,none⟩) N c') rfl rfl (fun W hW=>by have q0:=(hW.cell hl10).trans g10;simp[execOp,go_sem,q0]) ?_
    refine wpRow_read (v:= .int .i64 (mn:Nat)) rfl rfl (fun W _=>by simp[execOp,go_sem]) ?_
    refine wpRow_read (v:= .slice (some ⟨b,off,none⟩) mn c') rfl rfl (fun W _=>by simp[execOp,go_sem];omega) ?_
    refine wpRow_read (v:= .agg #[.int .i64 (3),.int .i64 (y1),.int .i64 (0)]) rfl rfl (fun W hW=>by have q0:=(hW.cell s10).trans n0;have q1:=(hW.cell s10).trans n1;have q2:=(hW.cell s10).trans n2;simp[execOp,go_sem,q0,q1,q2]) ?_
    refine wpRow_op rfl rfl fun Kc hKc=> ?_
    unfold Oper.wp
    simp[execOp,go_sem]
    refine(HTo.out _).mono ?_
    rintro e w' ⟨v4,X4,rfl,rfl,ho4⟩
    obtain⟨gt4,cap4,rfl⟩:=Go.Joins.ownsRow_form ho4 (by omega)
    apply hKc
    refine⟨bel, ?_⟩
    refine wpRow_op rfl rfl fun Kd hKd=> ?_
    unfold Oper.wp
    simp[execOp,go_sem]
    refine(HEq.out _ bel _ _ _ (Rd.own ho4)).mono ?_
    rintro e w' ⟨rfl,X5,rfl⟩
    apply hKd
    refine⟨bel, ?_⟩
    dsimp only[wpRow,List.drop]
    go_wp2_with fail
    gi_upto_region 11 with fail
    refine name_worldIn fun W11 hW11=> ?_
    have HB11:Hid (Below wr.heap.size wr W11):=by show Below _ _ _;rw[<-hW11];exact below_out HB10.out bel
    have HB12:Hid (Below W10.heap.size W10 W11):=by show Below _ _ _;rw[<-hW11];exact bel
    have p0:=(HB12.out.cell s10).trans n0
    have p1:=(HB12.out.cell s10).trans n1
    have p2:=(HB12.out.cell s10).trans n2
    have HT11:Hid (Turned (fun _=>False) wr W11):=Turned.of_below HB11.out
    have HJ11:=Lib.hid (hJ _ _ _ HJ.out (HT11.out.mono fun _ h=>h.elim))
    have HL11:=Lib.hid (HT11.out.boxed HL.out (fun h=>h))
    clear hW11 ho4 HB10 HB12 n0 n1 n2 s10 hl10 g10 HRt HEq HTo HJ HB11
    cases hfit:fitT (x::r)
    ·have HX:Hid (pre++[⟨⟨3,y1,0⟩,false⟩]=xs):=by show _=_;rw[<-HK.out,HVn.out hfit]
     clear hfit HFit HFl HVy HVn HRest HK
     gi_wp2_with fail
     refine upon_yield (hY pre ⟨⟨3,y1,0⟩,false⟩ _ ⟨[],by rw[List.append_nil];exact HX.out⟩ HJ11.out) rfl ?_
     rintro e W3 (⟨rfl,hJ3,ht3⟩|⟨rfl,hJx⟩)
     ·refine⟨_,rfl, ?_⟩
      gi_wp2_with fail
      refine bodyPost_ret (results_none rfl _ _ _) rfl ?_
      rw[HX.out]at hJ3
      exact⟨⟨_,rfl⟩,.inl hJ3⟩
     ·refine⟨_,rfl, ?_⟩
      gi_wp2_with fail
      refine bodyPost_ret (results_none rfl _ _ _) rfl ?_
      exact⟨⟨_,rfl⟩,.inr ⟨pre,_,⟨[],by rw[List.append_nil];exact HX.out⟩,hJx⟩⟩
    ·have hmt:mn=TS.length:=by have h1:=HFl.out hfit;have h2:=HMs.out;omega
     have HX:Hid (pre++[⟨⟨3,y1,0⟩,true⟩]++handV ((x::r).drop mn)=xs):=by show _=_;rw[<-HK.out,HVy.out hfit,HRest.out,hmt,List.append_assoc];rfl
     have hm3:3<=mn:=by omega
     have hdk:((x::r).drop mn).length=N-mn:=by rw[List.length_drop,HLen.out]
     have hr4:=Rd.drop4 (show Rd wr (.slice (some ⟨b,off,none⟩) N c') (x::r).length 4 (cssCells (x::r)) by rw[HLen.out];exact HR.out) mn (by rw[HLen.out];exact hmn1)
     obtain⟨Av,hAv⟩: ∃Av,(if c'=mn then some (⟨b,off,none⟩:Addr)else some ⟨b,off+mn*4,none⟩)=Av:=⟨_,rfl⟩
     have HAv2:Hid (∀b' off' s,Av=some ⟨b',off',s⟩->s=none/\b'=b):=fun b' off' s h=>by
      rw[<-hAv]at h
      split at h<;>(cases h;exact⟨rfl,rfl⟩)
     have HAv3:Hid (Av≠none):=by
      show _≠_
      rw[<-hAv];split<;>simp
     have hr5:Rd wr (.slice Av ((x::r).drop mn).length (c'-mn)) ((x::r).drop mn).length 4 (cssCells ((x::r).drop mn)):=by
      by_cases hck:c'=mn
      ·refine⟨flat_len Css.cells 4 (fun _=>rfl) _,by rw[hdk];have:=hr4.2.1;omega,_,_,rfl,fun hn0=> ?_⟩
       rw[hdk]at hn0;omega
      ·rw[if_neg hck]at hAv
       rw[<-hAv];exact hr4
     rw[hdk]at hr5
     have HR4:=Lib.hid hr5
     have HDK:=Lib.hid hdk
     have HP4:Hid (∀y∈(x::r).drop mn,CssOk y):=fun y hy=>HP.out y (List.mem_of_mem_drop hy)
     have hkc:mn<=c':=by omega
     clear hfit HFit HFl HVy HVn HRest HK hr5 hr4 hdk hmt htl HMs hmn2
     gi_wp2_with fail
     refine upon_yield (hY pre ⟨⟨3,y1,0⟩,true⟩ _ ⟨_,HX.out⟩ HJ11.out) rfl ?_
     rintro e W3 (⟨rfl,hJ3,ht3⟩|⟨rfl,hJx⟩)
     ·refine⟨_,rfl, ?_⟩
      have HL4:=Lib.hid (ht3.boxed HL11.out hbl)
      have t3:=HL4.out.cell
      have t4:=HL4.out.frozen
      have tlt:=HL4.out.lt
      have HT3:=Lib.hid ht3
      have HJ3:=Lib.hid hJ3
      clear hJ3 ht3 g3 g4 p0 p1 p2 c0 c1 c2 c3
      gi_wp2_with fail
      go_roundw
      case rel=>
       have hTl:Turned (fun k=>k=lb) W3 (W3.setCell ⟨lb,0,none⟩ (.slice Av (N-mn) (c'-mn))):=Turned.setCell (pv:=fun k=>k=lb) (Turned.refl _ _) (Or.inr rfl) _
       refine⟨Av,c'-mn,(x::r).drop mn,_,by rw[HDK.out];omega,by rw[HDK.out];exact HL4.out.set _, ?_, ?_,fun h=>absurd h HAv3.out,by rw[HDK.out];omega,HP4.out,hJ _ _ _ HJ3.out hTl,HX.out⟩
       ·rw[HDK.out]
        refine Rd.turned (pv:=bw) (Rd.turned (pv:=fun _=>False) HR4.out HT11.out ?_) HT3.out ?_ |>.turned hTl ?_
        all_goals(intro b' off' s h;obtain⟨rfl,rfl⟩:=HAv2.out _ _ _ h;first|assumption|exact hblb|exact fun h=>h)
       ·intro _ b' off' s h
        obtain⟨rfl,rfl⟩:=HAv2.out _ _ _ h
        exact⟨rfl,hblb,hbbw⟩
      case measure=>
       rw[lenSl_boxed (HL4.out.set _),lenSl_boxed HL.out];omega
     ·refine⟨_,rfl, ?_⟩
      gi_wp2_with fail
      refine bodyPost_ret (results_none rfl _ _ _) rfl ?_
      exact⟨⟨_,rfl⟩,.inr ⟨pre,_,⟨_,HX.out⟩,hJx⟩⟩
   rw[if_neg t3]at HG
   rw[show decide (x.text=[115,99,97,108,101])=false from decide_eq_false t3]at z3
   clear t1 t2 t3 hT hy9 HAt
   gi_upto_region 9 with fail
   refine name_worldIn fun W9 hW9=> ?_
   have HB9:Hid (Below wr.heap.size wr W9):=by show Below _ _ _;rw[<-hW9];exact bel
   have m0:W9.cell? ⟨wr.heap.size,0,none⟩=some (.int .i64 (4)):=by rw[<-hW9];simp[go_sem]
   have m1:W9.cell? ⟨wr.heap.size,1,none⟩=some (.int .i64 (0)):=by rw[<-hW9];simp[go_sem]
   have m2:W9.cell? ⟨wr.heap.size,2,none⟩=some (.int .i64 (0)):=by rw[<-hW9];simp[go_sem]
   clear hW9
   obtain⟨TS,hTS⟩: ∃TS,toldT (guessT (x::r))=TS:=⟨_,rfl⟩
   have HTo:=Lib.hid (fun W=>show Calls Tryz.prog 271 #[.agg #[.int .i64 (4),.int .i64 (0),.int .i64 (0)]] W (RetO W TS.length 4 72 (cssCells TS))from by
    have e9:=HG.out
    have h9:=told16_any ⟨4,0,0⟩ W (e9 ▸ HS.out)
    rw[show toldT ⟨4,0,0⟩=TS by rw[<-e9];exact hTS]at h9
    exact h9)
   have htl:3<=TS.length/\TS.length<=5:=by rw[<-hTS];exact told_len3 _
   have HFit:Hid (fitT (x::r)=decide ((x::r).take (min TS.length N)=TS)):=by show _=_;rw[fit_min,hTS,HLen.out]
   have HFl:Hid (fitT (x::r)=true->TS.length<=N):=fun h=>by have h9:=fit_len h;rw[hTS,HLen.out]at h9;exact h9
   have HRest:Hid (restT (x::r)=(x::r).drop TS.length):=by show _=_;unfold restT;rw[hTS]
   have HVy:Hid (fitT (x::r)=true->handV (x::r)=⟨⟨4,0,0⟩,true⟩::handV (restT (x::r))):=fun h=>by rw[handV_yes h,HG.out]
   have HVn:Hid (fitT (x::r)=false->handV (x::r)=[⟨⟨4,0,0⟩,false⟩]):=fun h=>by rw[handV_no h,HG.out]
   clear hTS HG HS
   generalize hms:min TS.length N=mn at*
   have hmn:mn<=N/\mn<=TS.length:=by omega
   obtain⟨hmn1,hmn2⟩:=hmn
   have HMs:=Lib.hid hms
   clear hms
   have s9:wr.heap.size<W9.heap.size:=World.block_lt_of_cell? W9 _ m0
   have hl9:lb<W9.heap.size:=by omega
   have g9:=(HB9.out.cell hlt2).trans g3
   refine wpIn_wide_row 6 [(0,true),(3,true),(4,true),(1,false),(2,true),(5,true)] (fun W=>Below W9.heap.size W9 W) hmx (by rintro⟨_,_,h⟩;have h2:(∃v,Ending.outgrown= .returned v)/\_:=h;obtain⟨⟨v,hv⟩,_⟩:=h2;cases hv) (by kernel_rfl) (by kernel_rfl) (by kernel_rfl) (by decide) rfl (fun c a d v w h=>by have h2:_/\(∃v,Ending.panicked c= .returned v)/\_:=h;obtain⟨_,⟨v,hv⟩,_⟩:=h2;cases hv) (by kernel_rfl) ((Below.refl _ _).drew) ?_
   refine wpRow_read (v:= .agg #[.int .i64 (4),.int .i64 (0),.int .i64 (0)]) rfl rfl (fun W hW=>by have q0:=(hW.cell s9).trans m0;have q1:=(hW.cell s9).trans m1;have q2:=(hW.cell s9).trans m2;simp[execOp,go_sem,q0,q1,q2]) ?_
   refine wpRow_read (v:= .slice (some ⟨b,off,none⟩) N c') rfl rfl (fun W hW=>by have q0:=(hW.cell hl9).trans g9;simp[execOp,go_sem,q0]) ?_
   refine wpRow_read (v:= .int .i64 (N:Nat)) rfl rfl (fun W _=>by simp[execOp,go_sem]) ?_
   refine wpRow_op rfl rfl fun Kc hKc=> ?_
   unfold Oper.wp
   simp[execOp,go_sem]
   refine(HTo.out _).mono ?_
   rintro e w' ⟨v3,X3,rfl,rfl,ho3⟩
   obtain⟨gt,cap3,rfl⟩:=Go.Joins.ownsRow_form ho3 (by omega)
   apply hKc
   refine⟨bel, ?_⟩
   refine wpRow_read (v:= .int .i64 (TS.length:Nat)) rfl rfl (fun W _=>by simp[execOp,go_sem]) ?_
   refine wpRow_read (v:= .int .i64 (mn:Nat)) rfl rfl (fun W _=>by have:=HMs.out;simp[execOp,go_sem];omega) ?_
   dsimp only[wpRow,List.drop]
   go_wp2_with fail
   gi_upto_region 10 with fail
   refine name_worldIn fun W10 hW10=> ?_
   have HB10:Hid (Below wr.heap.size wr W10):=by show Below _ _ _;rw[<-hW10];exact below_out HB9.out bel
   have HB9':Hid (Below W9.heap.size W9 W10):=by show Below _ _ _;rw[<-hW10];exact bel
   have s10:wr.heap.size<W10.heap.size:=Nat.lt_of_lt_of_le s9 HB9'.out.size
   have hl10:lb<W10.heap.size:=by omega
   have n0:=(HB9'.out.cell s9).trans m0
   have n1:=(HB9'.out.cell s9).trans m1
   have n2:=(HB9'.out.cell s9).trans m2
   have g10:=(HB10.out.cell hlt2).trans g3
   have HRt:Hid (Rd W10 (.slice (some ⟨b,off,none⟩) mn c') ((x::r).take mn).length 4 (cssCells ((x::r).take mn))):=by
    show Rd _ _ _ _ _
    have hq1:=HR.out
    rw[<-HLen.out]at hq1
    have hq:=Rd.take4 hq1 mn (by rw[HLen.out];exact hmn1)
    have h8:((x::r).take mn).length=mn:=by rw[List.length_take,HLen.out];omega
    rw[h8]at hq ⊢
    obtain⟨X,hX⟩:=grow_of_below HB10.out
    rw[hX];exact hq.grow X
   have HEq:=Lib.hid (fun W (hB:Below W10.heap.size W10 W) A2 n2 c2 (hb:Rd W (.slice A2 n2 c2) TS.length 4 (cssCells TS))=>equal_any (some ⟨b,off,none⟩) A2 mn n2 c' c2 ((x::r).take mn) TS W (by obtain⟨X,rfl⟩:=grow_of_below hB;exact HRt.out.grow X) hb)
   rw[<-HFit.out]at HEq
   clear hW10 ho3 HB9 HB9' m0 m1 m2 s9 hl9 g9
   have i1:(0:Int)<=(mn:Int)/\(mn:Int)<=c':=by omega
   refine wpIn_wide_row 6 [(0,true),(1,true),(2,true),(3,true),(4,false),(5,false)] (fun W=>Below W10.heap.size W10 W) hmx (by rintro⟨_,_,h⟩;have h2:(∃v,Ending.outgrown= .returned v)/\_:=h;obtain⟨⟨v,hv⟩,_⟩:=h2;cases hv) (by kernel_rfl) (by kernel_rfl) (by kernel_rfl) (by decide) rfl (fun c a d v w h=>by have h2:_/\(∃v,Ending.panicked c= .returned v)/\_:=h;obtain⟨_,⟨v,hv⟩,_⟩:=h2;cases hv) (by kernel_rfl) ((Below.refl _ _).drew) ?_
   refine wpRow_read (v:= .slice (some ⟨b,off,none⟩) N c') rfl rfl (fun W hW=>by have q0:=(hW.cell hl10).trans g10;simp[execOp,go_sem,q0]) ?_
   refine wpRow_read (v:= .int .i64 (mn:Nat)) rfl rfl (fun W _=>by simp[execOp,go_sem]) ?_
   refine wpRow_read (v:= .slice (some ⟨b,off,none⟩) mn c') rfl rfl (fun W _=>by simp[execOp,go_sem];omega) ?_
   refine wpRow_read (v:= .agg #[.int .i64 (4),.int .i64 (0),.int .i64 (0)]) rfl rfl (fun W hW=>by have q0:=(hW.cell s10).trans n0;have q1:=(hW.cell s10).trans n1;have q2:=(hW.cell s10).trans n2;simp[execOp,go_sem,q0,q1,q2]) ?_
   refine wpRow_op rfl rfl fun Kc hKc=> ?_
   unfold Oper.wp
   simp[execOp,go_sem]
   refine(HTo.out _).mono ?_
   rintro e w' ⟨v4,X4,rfl,rfl,ho4⟩
   obtain⟨gt4,cap4,rfl⟩:=Go.Joins.ownsRow_form ho4 (by omega)
   apply hKc
   refine⟨bel, ?_⟩
   refine wpRow_op rfl rfl fun Kd hKd=> ?_
   unfold Oper.wp
   simp[execOp,go_sem]
   refine(HEq.out _ bel _ _ _ (Rd.own ho4)).mono ?_
   rintro e w' ⟨rfl,X5,rfl⟩
   apply hKd
   refine⟨bel, ?_⟩
   dsimp only[wpRow,List.drop]
   go_wp2_with fail
   gi_upto_region 11 with fail
   refine name_worldIn fun W11 hW11=> ?_
   have HB11:Hid (Below wr.heap.size wr W11):=by show Below _ _ _;rw[<-hW11];exact below_out HB10.out bel
   have HB12:Hid (Below W10.heap.size W10 W11):=by show Below _ _ _;rw[<-hW11];exact bel
   have p0:=(HB12.out.cell s10).trans n0
   have p1:=(HB12.out.cell s10).trans n1
   have p2:=(HB12.out.cell s10).trans n2
   have HT11:Hid (Turned (fun _=>False) wr W11):=Turned.of_below HB11.out
   have HJ11:=Lib.hid (hJ _ _ _ HJ.out (HT11.out.mono fun _ h=>h.elim))
   have HL11:=Lib.hid (HT11.out.boxed HL.out (fun h=>h))
   clear hW11 ho4 HB10 HB12 n0 n1 n2 s10 hl10 g10 HRt HEq HTo HJ HB11
   cases hfit:fitT (x::r)
   ·have HX:Hid (pre++[⟨⟨4,0,0⟩,false⟩]=xs):=by show _=_;rw[<-HK.out,HVn.out hfit]
    clear hfit HFit HFl HVy HVn HRest HK
    gi_wp2_with fail
    refine upon_yield (hY pre ⟨⟨4,0,0⟩,false⟩ _ ⟨[],by rw[List.append_nil];exact HX.out⟩ HJ11.out) rfl ?_
    rintro e W3 (⟨rfl,hJ3,ht3⟩|⟨rfl,hJx⟩)
    ·refine⟨_,rfl, ?_⟩
     gi_wp2_with fail
     refine bodyPost_ret (results_none rfl _ _ _) rfl ?_
     rw[HX.out]at hJ3
     exact⟨⟨_,rfl⟩,.inl hJ3⟩
    ·refine⟨_,rfl, ?_⟩
     gi_wp2_with fail
     refine bodyPost_ret (results_none rfl _ _ _) rfl ?_
     exact⟨⟨_,rfl⟩,.inr ⟨pre,_,⟨[],by rw[List.append_nil];exact HX.out⟩,hJx⟩⟩
   ·have hmt:mn=TS.length:=by have h1:=HFl.out hfit;have h2:=HMs.out;omega
    have HX:Hid (pre++[⟨⟨4,0,0⟩,true⟩]++handV ((x::r).drop mn)=xs):=by show _=_;rw[<-HK.out,HVy.out hfit,HRest.out,hmt,List.append_assoc];rfl
    have hm3:3<=mn:=by omega
    have hdk:((x::r).drop mn).length=N-mn:=by rw[List.length_drop,HLen.out]
    have hr4:=Rd.drop4 (show Rd wr (.slice (some ⟨b,off,none⟩) N c') (x::r).length 4 (cssCells (x::r)) by rw[HLen.out];exact HR.out) mn (by rw[HLen.out];exact hmn1)
    obtain⟨Av,hAv⟩: ∃Av,(if c'=mn then some (⟨b,off,none⟩:Addr)else some ⟨b,off+mn*4,none⟩)=Av:=⟨_,rfl⟩
    have HAv2:Hid (∀b' off' s,Av=some ⟨b',off',s⟩->s=none/\b'=b):=fun b' off' s h=>by
     rw[<-hAv]at h
     split at h<;>(cases h;exact⟨rfl,rfl⟩)
    have HAv3:Hid (Av≠none):=by
     show _≠_
     rw[<-hAv];split<;>simp
    have hr5:Rd wr (.slice Av ((x::r).drop mn).length (c'-mn)) ((x::r).drop mn).length 4 (cssCells ((x::r).drop mn)):=by
     by_cases hck:c'=mn
     ·refine⟨flat_len Css.cells 4 (fun _=>rfl) _,by rw[hdk];have:=hr4.2.1;omega,_,_,rfl,fun hn0=> ?_⟩
      rw[hdk]at hn0;omega
     ·rw[if_neg hck]at hAv
      rw[<-hAv];exact hr4
    rw[hdk]at hr5
    have HR4:=Lib.hid hr5
    have HDK:=Lib.hid hdk
    have HP4:Hid (∀y∈(x::r).drop mn,CssOk y):=fun y hy=>HP.out y (List.mem_of_mem_drop hy)
    have hkc:mn<=c':=by omega
    clear hfit HFit HFl HVy HVn HRest HK hr5 hr4 hdk hmt htl HMs hmn2
    gi_wp2_with fail
    refine upon_yield (hY pre ⟨⟨4,0,0⟩,true⟩ _ ⟨_,HX.out⟩ HJ11.out) rfl ?_
    rintro e W3 (⟨rfl,hJ3,ht3⟩|⟨rfl,hJx⟩)
    ·refine⟨_,rfl, ?_⟩
     have HL4:=Lib.hid (ht3.boxed HL11.out hbl)
     have t3:=HL4.out.cell
     have t4:=HL4.out.frozen
     have tlt:=HL4.out.lt
     have HT3:=Lib.hid ht3
     have HJ3:=Lib.hid hJ3
     clear hJ3 ht3 g3 g4 p0 p1 p2 c0 c1 c2 c3
     gi_wp2_with fail
     go_roundw
     case rel=>
      have hTl:Turned (fun k=>k=lb) W3 (W3.setCell ⟨lb,0,none⟩ (.slice Av (N-mn) (c'-mn))):=Turned.setCell (pv:=fun k=>k=lb) (Turned.refl _ _) (Or.inr rfl) _
      refine⟨Av,c'-mn,(x::r).drop mn,_,by rw[HDK.out];omega,by rw[HDK.out];exact HL4.out.set _, ?_, ?_,fun h=>absurd h HAv3.out,by rw[HDK.out];omega,HP4.out,hJ _ _ _ HJ3.out hTl,HX.out⟩
      ·rw[HDK.out]
       refine Rd.turned (pv:=bw) (Rd.turned (pv:=fun _=>False) HR4.out HT11.out ?_) HT3.out ?_ |>.turned hTl ?_
       all_goals(intro b' off' s h;obtain⟨rfl,rfl⟩:=HAv2.out _ _ _ h;first|assumption|exact hblb|exact fun h=>h)
      ·intro _ b' off' s h
       obtain⟨rfl,rfl⟩:=HAv2.out _ _ _ h
       exact⟨rfl,hblb,hbbw⟩
     case measure=>
      rw[lenSl_boxed (HL4.out.set _),lenSl_boxed HL.out];omega
    ·refine⟨_,rfl, ?_⟩
     gi_wp2_with fail
     refine bodyPost_ret (results_none rfl _ _ _) rfl ?_
     exact⟨⟨_,rfl⟩,.inr ⟨pre,_,⟨_,HX.out⟩,hJx⟩⟩
end Go.Proofs.YtiikamobcmgekaaGreatDoor

