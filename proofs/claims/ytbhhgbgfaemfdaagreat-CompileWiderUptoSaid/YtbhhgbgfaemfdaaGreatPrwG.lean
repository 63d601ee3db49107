/- The walk of print.Within. (written by gen_within2.py) -/
import Derived.Test.YtbhhgbgfaemfdaaGreatRGW
import Derived.BigRegion
import Derived.Test.YtbhhgbgfaemfdaaGreatPrwF
namespace Go.Proofs.YtbhhgbgfaemfdaaGreat
set_option maxRecDepth 100000
set_option maxHeartbeats 8000000
open Go.RowKit
attribute [local go_sem] Oper.semAt_some
def withA (q:Pol) (a:Alw):Bool:=decide (a∈q.attrs)||decide ((⟨[42],a.name⟩:Alw)∈q.attrs)
def withL (p q:Pol):Bool:=(!p.rel||q.rel)&&decide (p.depth<=q.depth)&&decide (p.name<=q.name)&&decide (p.value<=q.value)
theorem within_parts (p q:Pol):withinR p q=(p.attrs.all (withA q)&&(amongB p.tags q.tags&&amongB p.schemes q.schemes&&amongB p.css q.css&&amongB q.drops p.drops)&&withL p q):=rfl
theorem within9_any (v u:Value) (p q:Pol) (w:World) (h:PolV w (fun _=>False) v p) (g:PolV w (fun _=>False) u q):Calls Tryz.prog 27 #[v,u] w (Ret (.bool (withinR p q)) w):=by
 rw[within_parts]
 obtain⟨v0,v1,v2,v3,v4,v5,rfl,⟨A0,k0,rfl,z0,h0,y0⟩,⟨A1,k1,rfl,z1,h1,y1⟩,⟨A2,k2,rfl,z2,h2,y2⟩,⟨A3,k3,rfl,z3,h3,y3⟩,⟨A4,k4,rfl,z4,h4,y4⟩,⟨A5,k5,rfl,z5,h5,y5⟩⟩:=h
 obtain⟨u0,u1,u2,u3,u4,u5,rfl,⟨C0,j0,rfl,x0,g0,t0⟩,⟨C1,j1,rfl,x1,g1,t1⟩,⟨C2,j2,rfl,x2,g2,t2⟩,⟨C3,j3,rfl,x3,g3,t3⟩,⟨C4,j4,rfl,x4,g4,t4⟩,⟨C5,j5,rfl,x5,g5,t5⟩⟩:=g
 have HT:=Lib.hid (fun W hb=>among_any (.slice A0 (fN p 0) k0) (.slice C0 (fN q 0) j0) p.tags q.tags W (Rd.belowW (W:=W) h0 hb) (Rd.belowW g0 hb))
 have HS:=Lib.hid (fun W hb=>among_any (.slice A1 (fN p 1) k1) (.slice C1 (fN q 1) j1) p.schemes q.schemes W (Rd.belowW (W:=W) h1 hb) (Rd.belowW g1 hb))
 have HC:=Lib.hid (fun W hb=>among_any (.slice A2 (fN p 2) k2) (.slice C2 (fN q 2) j2) p.css q.css W (Rd.belowW (W:=W) h2 hb) (Rd.belowW g2 hb))
 have HD:=Lib.hid (fun W hb=>among_any (.slice C3 (fN q 3) j3) (.slice A3 (fN p 3) k3) q.drops p.drops W (Rd.belowW (W:=W) g3 hb) (Rd.belowW h3 hb))
 have HX:=Lib.hid (fun W t n hb=>ctnA_any (.slice C4 (fN q 4) j4) q.attrs ⟨t,n⟩ W (Rd.belowW (W:=W) g4 hb))
 have H4:=Lib.hid h4
 have HL0:=Lib.hid (show p.attrs.all (withA q)=(p.attrs.drop 0).all (withA q) by rw[List.drop_zero])
 obtain⟨n,hn⟩: ∃n,fN p 4=n:=⟨_,rfl⟩
 have HN:Hid (p.attrs.length=n):=hn
 have hnm:n<=9223372036854775807:=by rw[<-hn];exact h4.2.1
 rw[hn]at H4 ⊢
 generalize amongB p.tags q.tags=T at*
 generalize amongB p.schemes q.schemes=S at*
 generalize amongB p.css q.css=C at*
 generalize amongB q.drops p.drops=D at*
 obtain⟨ALL,hALL⟩: ∃r,p.attrs.all (withA q)=r:=⟨_,rfl⟩
 rw[hALL]at HL0 ⊢
 have HLm:Hid (withL p q=((!p.rel||q.rel)&&decide (p.depth<=q.depth)&&decide (p.name<=q.name)&&decide (p.value<=q.value))):=rfl
 clear z0 z1 z2 z3 z4 z5 h0 h1 h2 h3 h4 h5 hn y0 y1 y2 y3 y4 y5 x0 x1 x2 x3 x4 x5 g0 g1 g2 g3 g4 g5 t0 t1 t2 t3 t4 t5 hALL
 go_enter Tryz.func27,Tryz.ntmps27
 go_upto_region 1 with fail
 refine name_world fun W0 hW0=> ?_
 obtain⟨B,hB⟩: ∃B,w.heap.size=B:=⟨_,rfl⟩
 have hb0:Below w.heap.size w W0:=by rw[hW0];exact bel
 have c0:W0.cell? ⟨B,0,none⟩=some (.slice A0 (fN p 0) k0):=by rw[hW0,<-hB];simp[go_sem]
 have c1:W0.cell? ⟨B,1,none⟩=some (.slice A1 (fN p 1) k1):=by rw[hW0,<-hB];simp[go_sem]
 have c2:W0.cell? ⟨B,2,none⟩=some (.slice A2 (fN p 2) k2):=by rw[hW0,<-hB];simp[go_sem]
 have c3:W0.cell? ⟨B,3,none⟩=some (.slice A3 (fN p 3) k3):=by rw[hW0,<-hB];simp[go_sem]
 have c4:W0.cell? ⟨B,4,none⟩=some (.slice A4 n k4):=by rw[hW0,<-hB];simp[go_sem]
 have c5:W0.cell? ⟨B,5,none⟩=some (.slice A5 (fN p 5) k5):=by rw[hW0,<-hB];simp[go_sem]
 have c6:W0.cell? ⟨B,6,none⟩=some (.bool p.rel):=by rw[hW0,<-hB];simp[go_sem]
 have c7:W0.cell? ⟨B,7,none⟩=some (.int .i64 p.depth):=by rw[hW0,<-hB];simp[go_sem]
 have c8:W0.cell? ⟨B,8,none⟩=some (.int .i64 p.name):=by rw[hW0,<-hB];simp[go_sem]
 have c9:W0.cell? ⟨B,9,none⟩=some (.int .i64 p.value):=by rw[hW0,<-hB];simp[go_sem]
 have d0:W0.cell? ⟨B+1,0,none⟩=some (.slice C0 (fN q 0) j0):=by rw[hW0,<-hB];simp[go_sem]
 have d1:W0.cell? ⟨B+1,1,none⟩=some (.slice C1 (fN q 1) j1):=by rw[hW0,<-hB];simp[go_sem]
 have d2:W0.cell? ⟨B+1,2,none⟩=some (.slice C2 (fN q 2) j2):=by rw[hW0,<-hB];simp[go_sem]
 have d3:W0.cell? ⟨B+1,3,none⟩=some (.slice C3 (fN q 3) j3):=by rw[hW0,<-hB];simp[go_sem]
 have d4:W0.cell? ⟨B+1,4,none⟩=some (.slice C4 (fN q 4) j4):=by rw[hW0,<-hB];simp[go_sem]
 have d5:W0.cell? ⟨B+1,5,none⟩=some (.slice C5 (fN q 5) j5):=by rw[hW0,<-hB];simp[go_sem]
 have d6:W0.cell? ⟨B+1,6,none⟩=some (.bool q.rel):=by rw[hW0,<-hB];simp[go_sem]
 have d7:W0.cell? ⟨B+1,7,none⟩=some (.int .i64 q.depth):=by rw[hW0,<-hB];simp[go_sem]
 have d8:W0.cell? ⟨B+1,8,none⟩=some (.int .i64 q.name):=by rw[hW0,<-hB];simp[go_sem]
 have d9:W0.cell? ⟨B+1,9,none⟩=some (.int .i64 q.value):=by rw[hW0,<-hB];simp[go_sem]
 have hBl:B+1<W0.heap.size:=World.block_lt_of_cell? W0 _ d0
 have HB0:=Lib.hid hb0
 rw[hB]
 clear hW0 hb0
 go_wp2_with fail
 go_loopw [10] (fun i wr=> ∃k:Nat,k<=n/\i= .int .i64 (k:Nat)/\Hid (ALL=(p.attrs.drop k).all (withA q))/\Hid (Below W0.heap.size W0 wr)) (fun i _=>n-(intOf i).toNat)
 case atStart=>exact⟨0,by omega,rfl,HL0.out,by show Below _ _ _;exact bel⟩
 case round=>
  clear HL0
  obtain⟨k,hk,rfl,HK,HB⟩:=hrel
  have hBw:=HB.out
  have HBw:=Lib.hid (HB0.out.trans (hBw.mono HB0.out.size))
  have hBr:B+1<wr.heap.size:=Nat.lt_of_lt_of_le hBl hBw.size
  have hBr0:B<wr.heap.size:=by omega
  have cc: ∀j v,W0.cell? ⟨B,j,none⟩=some v->wr.cell? ⟨B,j,none⟩=some v:=fun j v hv=>(hBw.cell (p:=⟨B,j,none⟩) (show B<_ by omega)).trans hv
  have dd: ∀j v,W0.cell? ⟨B+1,j,none⟩=some v->wr.cell? ⟨B+1,j,none⟩=some v:=fun j v hv=>(hBw.cell (p:=⟨B+1,j,none⟩) hBl).trans hv
  have HCC:=Lib.hid cc
  have HDD:=Lib.hid dd
  have e4:=dd _ _ d4
  clear cc dd
  by_cases hlt:k<n
  ·obtain⟨b,off,rfl,hb,hc⟩:=H4.out.2.2.elim (fun A h=>h.elim fun c h=>by obtain⟨h1,h2⟩:=h;cases h1;exact h2 (by omega))
   have hkl:k<p.attrs.length:=by rw[HN.out];exact hlt
   obtain⟨x,hx⟩: ∃x,p.attrs[k]=x:=⟨_,rfl⟩
   have x0:wr.cell? ⟨b,off+k*2,none⟩=some (.string ⟨x.tag.toArray⟩):=(HBw.out.cell (p:=⟨b,off+k*2,none⟩) hb).trans (hc (k*2+0) (sv x.tag) (by show(p.attrs.flatMap Alw.cells)[_]? =_;rw[flat_atC Alw.cells 2 (fun _=>rfl) p.attrs k 0 hkl (by omega),hx];rfl))
   have x1:wr.cell? ⟨b,off+k*2+1,none⟩=some (.string ⟨x.name.toArray⟩):=(HBw.out.cell (p:=⟨b,off+k*2+1,none⟩) hb).trans ((congrArg (fun i=>w.cell? ⟨b,i,none⟩) (by omega)).trans (hc (k*2+1) (sv x.name) (by show(p.attrs.flatMap Alw.cells)[_]? =_;rw[flat_atC Alw.cells 2 (fun _=>rfl) p.attrs k 1 hkl (by omega),hx];rfl)))
   have hbr:b<wr.heap.size:=Nat.lt_of_lt_of_le hb HBw.out.size
   have HD9:Hid (p.attrs.drop k=x::p.attrs.drop (k+1)):=by show _=_;rw[List.drop_eq_getElem_cons hkl,hx]
   have HX1:=Lib.hid (fun W (hb:Below w.heap.size w W)=>show Calls Tryz.prog 49 #[.slice C4 (fN q 4) j4,.agg #[.string ⟨x.tag.toArray⟩,.string ⟨x.name.toArray⟩]] W (Ret (.bool (decide (x∈q.attrs))) W)from HX.out W x.tag x.name hb)
   have HX2:=Lib.hid (fun W (hb:Below w.heap.size w W)=>show Calls Tryz.prog 49 #[.slice C4 (fN q 4) j4,.agg #[.string ⟨#[42]⟩,.string ⟨x.name.toArray⟩]] W (Ret (.bool (decide ((⟨[42],x.name⟩:Alw)∈q.attrs))) W)from HX.out W [42] x.name hb)
   have HW:Hid (withA q x=(decide (x∈q.attrs)||decide ((⟨[42],x.name⟩:Alw)∈q.attrs))):=rfl
   obtain⟨R1,hR1⟩: ∃r,decide (x∈q.attrs)=r:=⟨_,rfl⟩
   obtain⟨R2,hR2⟩: ∃r,decide ((⟨[42],x.name⟩:Alw)∈q.attrs)=r:=⟨_,rfl⟩
   rw[hR1]at HX1 HW
   rw[hR2]at HX2 HW
   have HGW:=Lib.hid (fun W (hb:Below wr.heap.size wr W)=>HBw.out.trans (hb.mono HBw.out.size))
   clear hc hx hkl HX hR1 hR2
   generalize(⟨x.tag.toArray⟩:ByteArray)=xt at*
   generalize(⟨x.name.toArray⟩:ByteArray)=xn at*
   have HT:Hid (ALL=((R1||R2)&&(p.attrs.drop (k+1)).all (withA q))):=by show _=_;rw[HK.out,HD9.out,List.all_cons,HW.out]
   clear HK HD9 HW
   cases R1<;>cases R2
   case false.false=>
    have HF:Hid (ALL=false):=by show _=_;rw[HT.out];rfl
    clear HT
    go_wp2_with(first
     |(go_at_call 49;(with_reducible refine(Ret.flat (HX1.out _ (HGW.out _ bel))).mono ?_);rintro e W1 ⟨rfl,X1,rfl⟩)
     |(go_at_call 49;(with_reducible refine(HX1.out _ (HGW.out _ bel)).mono ?_);rintro e W1 ⟨rfl,X1,rfl⟩)
     |(go_at_call 49;(with_reducible refine(Ret.flat (HX2.out _ (HGW.out _ bel))).mono ?_);rintro e W1 ⟨rfl,X1,rfl⟩)
     |(go_at_call 49;(with_reducible refine(HX2.out _ (HGW.out _ bel)).mono ?_);rintro e W1 ⟨rfl,X1,rfl⟩))
    go_ret
    exact Ret.of (by rw[HF.out];rfl) (HBw.out.trans ((bel:Below wr.heap.size wr _).mono HBw.out.size))
   all_goals
    have HF:Hid (ALL=(p.attrs.drop (k+1)).all (withA q)):=by show _=_;rw[HT.out];rfl
    clear HT
    go_wp2_with(first
     |(go_at_call 49;(with_reducible refine(Ret.flat (HX1.out _ (HGW.out _ bel))).mono ?_);rintro e W1 ⟨rfl,X1,rfl⟩)
     |(go_at_call 49;(with_reducible refine(HX1.out _ (HGW.out _ bel)).mono ?_);rintro e W1 ⟨rfl,X1,rfl⟩)
     |(go_at_call 49;(with_reducible refine(Ret.flat (HX2.out _ (HGW.out _ bel))).mono ?_);rintro e W1 ⟨rfl,X1,rfl⟩)
     |(go_at_call 49;(with_reducible refine(HX2.out _ (HGW.out _ bel)).mono ?_);rintro e W1 ⟨rfl,X1,rfl⟩))
    go_roundw
    case rel=>exact⟨k+1,by omega,by go_num,HF.out,by show Below _ _ _;exact HB.out.trans ((bel:Below wr.heap.size wr _).mono HB.out.size)⟩
    case measure=>simp[intOf];omega
  ·have HT9:Hid (ALL=true):=by show _=_;rw[HK.out,List.drop_eq_nil_of_le (by rw[HN.out];omega)];rfl
   rw[HT9.out]
   obtain⟨e0,e1,e2,e3⟩:=(⟨HCC.out _ _ c0,HCC.out _ _ c1,HCC.out _ _ c2,HCC.out _ _ c3⟩:_/\_/\_/\_)
   obtain⟨f0,f1,f2,f3⟩:=(⟨HDD.out _ _ d0,HDD.out _ _ d1,HDD.out _ _ d2,HDD.out _ _ d3⟩:_/\_/\_/\_)
   obtain⟨e6,e7,e8,e9⟩:=(⟨HCC.out _ _ c6,HCC.out _ _ c7,HCC.out _ _ c8,HCC.out _ _ c9⟩:_/\_/\_/\_)
   obtain⟨f6,f7,f8,f9⟩:=(⟨HDD.out _ _ d6,HDD.out _ _ d7,HDD.out _ _ d8,HDD.out _ _ d9⟩:_/\_/\_/\_)
   have HGW:=Lib.hid (fun W (hb:Below wr.heap.size wr W)=>HBw.out.trans (hb.mono HBw.out.size))
   clear HK HCC HDD HX H4 c0 c1 c2 c3 c4 c5 c6 c7 c8 c9 d0 d1 d2 d3 d4 d5 d6 d7 d8 d9 e4
   generalize p.rel=r1 at*
   generalize q.rel=r2 at*
   generalize p.depth=m1 at*
   generalize q.depth=m2 at*
   generalize p.name=n1 at*
   generalize q.name=n2 at*
   generalize p.value=o1 at*
   generalize q.value=o2 at*
   have AM: ∀T9:Bool,T9=true\/T9=false:=fun T9=>by cases T9<;>simp
   cases T
   case' true=>cases S
   case' true.true=>cases C
   case' true.true.true=>cases D
   case true.true.true.true=>
    go_upto_region 12 with(first
      |(go_at_call 50;(with_reducible refine(Ret.flat (HT.out _ (HGW.out _ bel))).mono ?_);rintro e W1 ⟨rfl,X1,rfl⟩)
      |(go_at_call 50;(with_reducible refine(HT.out _ (HGW.out _ bel)).mono ?_);rintro e W1 ⟨rfl,X1,rfl⟩)
      |(go_at_call 50;(with_reducible refine(Ret.flat (HS.out _ (HGW.out _ bel))).mono ?_);rintro e W1 ⟨rfl,X1,rfl⟩)
      |(go_at_call 50;(with_reducible refine(HS.out _ (HGW.out _ bel)).mono ?_);rintro e W1 ⟨rfl,X1,rfl⟩)
      |(go_at_call 50;(with_reducible refine(Ret.flat (HC.out _ (HGW.out _ bel))).mono ?_);rintro e W1 ⟨rfl,X1,rfl⟩)
      |(go_at_call 50;(with_reducible refine(HC.out _ (HGW.out _ bel)).mono ?_);rintro e W1 ⟨rfl,X1,rfl⟩)
      |(go_at_call 50;(with_reducible refine(Ret.flat (HD.out _ (HGW.out _ bel))).mono ?_);rintro e W1 ⟨rfl,X1,rfl⟩)
      |(go_at_call 50;(with_reducible refine(HD.out _ (HGW.out _ bel)).mono ?_);rintro e W1 ⟨rfl,X1,rfl⟩))
    refine name_world fun W9 hW9=> ?_
    have hb9:Below wr.heap.size wr W9:=by rw[hW9];exact bel
    have l6:=(hb9.cell (p:=⟨B,6,none⟩) hBr0).trans e6
    have l7:=(hb9.cell (p:=⟨B,7,none⟩) hBr0).trans e7
    have l8:=(hb9.cell (p:=⟨B,8,none⟩) hBr0).trans e8
    have l9:=(hb9.cell (p:=⟨B,9,none⟩) hBr0).trans e9
    have m6:=(hb9.cell (p:=⟨B+1,6,none⟩) hBr).trans f6
    have m7:=(hb9.cell (p:=⟨B+1,7,none⟩) hBr).trans f7
    have m8:=(hb9.cell (p:=⟨B+1,8,none⟩) hBr).trans f8
    have m9:=(hb9.cell (p:=⟨B+1,9,none⟩) hBr).trans f9
    have q0:B<W9.heap.size:=Nat.lt_of_lt_of_le hBr0 hb9.size
    have q1:B+1<W9.heap.size:=Nat.lt_of_lt_of_le hBr hb9.size
    have HBq:=Lib.hid (HBw.out.trans (hb9.mono HBw.out.size))
    clear hW9 hb9 e0 e1 e2 e3 e6 e7 e8 e9 f0 f1 f2 f3 f6 f7 f8 f9 hBw
    obtain⟨L,hL⟩: ∃L,(!r1||r2)=L:=⟨_,rfl⟩
    rw[hL]at HLm
    clear HT HS HC HD HGW
    cases L
    case false=>
     obtain rfl:r1=true:=by cases r1<;>simp_all
     obtain rfl:r2=false:=by cases r2<;>simp_all
     clear hL
     go_wp2_with fail
     go_ret
     exact Ret.of (by rw[HT9.out,HLm.out];rfl) (HBq.out.trans ((bel:Below W9.heap.size W9 _).mono HBq.out.size))
    case true=>
     by_cases b1:m1<=m2
     ·by_cases b2:n1<=n2
      ·by_cases b3:o1<=o2
       all_goals
        cases r1<;>cases r2<;>try(exfalso;revert hL;decide)
        all_goals
         clear hL
         go_wp2_with fail
         go_ret
         exact Ret.of (by rw[HT9.out,HLm.out];simp[b1,b2,b3]<;>omega) (HBq.out.trans ((bel:Below W9.heap.size W9 _).mono HBq.out.size))
      ·cases r1<;>cases r2<;>try(exfalso;revert hL;decide)
       all_goals
        clear hL
        go_wp2_with fail
        go_ret
        exact Ret.of (by rw[HT9.out,HLm.out];simp[b1]<;>omega) (HBq.out.trans ((bel:Below W9.heap.size W9 _).mono HBq.out.size))
     ·cases r1<;>cases r2<;>try(exfalso;revert hL;decide)
      all_goals
       clear hL
       go_wp2_with fail
       go_ret
       exact Ret.of (by rw[HT9.out,HLm.out];simp<;>omega) (HBq.out.trans ((bel:Below W9.heap.size W9 _).mono HBq.out.size))
   all_goals
    clear HLm
    go_wp2_with(first
      |(go_at_call 50;(with_reducible refine(Ret.flat (HT.out _ (HGW.out _ bel))).mono ?_);rintro e W1 ⟨rfl,X1,rfl⟩)
      |(go_at_call 50;(with_reducible refine(HT.out _ (HGW.out _ bel)).mono ?_);rintro e W1 ⟨rfl,X1,rfl⟩)
      |(go_at_call 50;(with_reducible refine(Ret.flat (HS.out _ (HGW.out _ bel))).mono ?_);rintro e W1 ⟨rfl,X1,rfl⟩)
      |(go_at_call 50;(with_reducible refine(HS.out _ (HGW.out _ bel)).mono ?_);rintro e W1 ⟨rfl,X1,rfl⟩)
      |(go_at_call 50;(with_reducible refine(Ret.flat (HC.out _ (HGW.out _ bel))).mono ?_);rintro e W1 ⟨rfl,X1,rfl⟩)
      |(go_at_call 50;(with_reducible refine(HC.out _ (HGW.out _ bel)).mono ?_);rintro e W1 ⟨rfl,X1,rfl⟩)
      |(go_at_call 50;(with_reducible refine(Ret.flat (HD.out _ (HGW.out _ bel))).mono ?_);rintro e W1 ⟨rfl,X1,rfl⟩)
      |(go_at_call 50;(with_reducible refine(HD.out _ (HGW.out _ bel)).mono ?_);rintro e W1 ⟨rfl,X1,rfl⟩))
    go_ret
    exact Ret.of (by simp) (HBw.out.trans ((bel:Below wr.heap.size wr _).mono HBw.out.size))
end Go.Proofs.YtbhhgbgfaemfdaaGreat

