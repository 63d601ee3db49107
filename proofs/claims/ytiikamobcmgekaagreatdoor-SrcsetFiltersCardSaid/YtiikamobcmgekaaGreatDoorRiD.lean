/- The walk of cribbleref08.Same. (written by gen_same.py) -/
import Derived.BigRegion
import Derived.Test.YtiikamobcmgekaaGreatDoorRA
import Derived.Test.YtiikamobcmgekaaGreatDoorWN
namespace Go.Proofs.YtiikamobcmgekaaGreatDoor
open Lib renaming hid→z2c
open List renaming drop_eq_nil_of_le→z2o,drop_zero→z2w
open Nat renaming lt_of_lt_of_le→z2g
set_option maxRecDepth 100000
set_option maxHeartbeats 8000000
open Go.RowKit
attribute [local go_sem] Oper.semAt_some
theorem z1l (p q:Pol):decide (p=q)=(decide (p.tags=q.tags)&&(decide (p.schemes=q.schemes)&&(decide (p.css=q.css)&&(decide (p.drops=q.drops)&&(decide (p.rel=q.rel)&&(decide (p.depth=q.depth)&&(decide (p.name=q.name)&&(decide (p.value=q.value)&&(decide (p.attrs=q.attrs)&&decide (p.forces=q.forces)))))))))):=by
 rw[Bool.eq_iff_iff];simp only[Bool.and_eq_true,decide_eq_true_eq];constructor
 ·rintro rfl;simp
 ·rintro⟨h0,h1,h2,h3,h6,h7,h8,h9,h4,h5⟩;cases p;cases q;simp only at h0 h1 h2 h3 h4 h5 h6 h7 h8 h9;subst h0 h1 h2 h3 h4 h5 h6 h7 h8 h9;rfl
theorem Rd.belowX {w W:World} {v:Value} {n size:Nat} {xs:List Value} (h:Rd w v n size xs) (hb:Below w.heap.size w W):Rd W v n size xs:=by
 obtain⟨X,rfl⟩:=zao hb;exact h.grow X
theorem zwq (v u:Value) (p q:Pol) (bad:Nat->Prop) (bad2:Nat->Prop) (w:World) (h:PolV w bad v p) (g:PolV w bad2 u q) (hs:zir p) (gs:zir q):Calls Tryz.prog 154 #[v,u] w (Ret (.bool (decide (p=q))) w):=by
 have hmx:=mxd;obtain⟨v0,v1,v2,v3,v4,v5,rfl,⟨A0,k0,rfl,_,h0,_⟩,⟨A1,k1,rfl,_,h1,_⟩,⟨A2,k2,rfl,_,h2,_⟩,⟨A3,k3,rfl,_,h3,_⟩,⟨A4,k4,rfl,_,h4,_⟩,⟨A5,k5,rfl,_,h5,_⟩⟩:=h;obtain⟨u0,u1,u2,u3,u4,u5,rfl,⟨B0,m0,rfl,_,g0,_⟩,⟨B1,m1,rfl,_,g1,_⟩,⟨B2,m2,rfl,_,g2,_⟩,⟨B3,m3,rfl,_,g3,_⟩,⟨B4,m4,rfl,_,g4,_⟩,⟨B5,m5,rfl,_,g5,_⟩⟩:=g;have H0:=z2c h0;have G0:=z2c g0;have H1:=z2c h1;have G1:=z2c g1;have H2:=z2c h2;have G2:=z2c g2;have H3:=z2c h3;have G3:=z2c g3;have H4:=z2c h4;have G4:=z2c g4;have H5:=z2c h5;have G5:=z2c g5;have ha4:fN p 4<=100000000:=hs.attrs;have ha5:fN p 5<=100000000:=hs.forces;have hb4:fN q 4<=100000000:=gs.attrs;have hb5:fN q 5<=100000000:=gs.forces;have HE:=z2c (z1l p q);obtain⟨R,hR⟩: ∃R,decide (p=q)=R:=⟨_,rfl⟩;rw[hR]at HE ⊢;clear hR hs gs h0 g0 h1 g1 h2 g2 h3 g3 h4 g4 h5 g5;go_enter Tryz.func154,Tryz.ntmps154;go_upto_region 1 with fail
 refine zae fun W0 hW0=> ?_;obtain⟨B,hB⟩: ∃B,w.heap.size=B:=⟨_,rfl⟩;rw[hB];have hb0:Below w.heap.size w W0:=by rw[hW0];exact bel
 have c0:W0.cell? ⟨B,0,none⟩=some (.slice A0 (fN p 0) k0):=by rw[hW0,<-hB];simp[go_sem]
 have d0:W0.cell? ⟨B+1,0,none⟩=some (.slice B0 (fN q 0) m0):=by rw[hW0,<-hB];simp[go_sem]
 have c1:W0.cell? ⟨B,1,none⟩=some (.slice A1 (fN p 1) k1):=by rw[hW0,<-hB];simp[go_sem]
 have d1:W0.cell? ⟨B+1,1,none⟩=some (.slice B1 (fN q 1) m1):=by rw[hW0,<-hB];simp[go_sem]
 have c2:W0.cell? ⟨B,2,none⟩=some (.slice A2 (fN p 2) k2):=by rw[hW0,<-hB];simp[go_sem]
 have d2:W0.cell? ⟨B+1,2,none⟩=some (.slice B2 (fN q 2) m2):=by rw[hW0,<-hB];simp[go_sem]
 have c3:W0.cell? ⟨B,3,none⟩=some (.slice A3 (fN p 3) k3):=by rw[hW0,<-hB];simp[go_sem]
 have d3:W0.cell? ⟨B+1,3,none⟩=some (.slice B3 (fN q 3) m3):=by rw[hW0,<-hB];simp[go_sem]
 have c4:W0.cell? ⟨B,4,none⟩=some (.slice A4 (fN p 4) k4):=by rw[hW0,<-hB];simp[go_sem]
 have d4:W0.cell? ⟨B+1,4,none⟩=some (.slice B4 (fN q 4) m4):=by rw[hW0,<-hB];simp[go_sem]
 have c5:W0.cell? ⟨B,5,none⟩=some (.slice A5 (fN p 5) k5):=by rw[hW0,<-hB];simp[go_sem]
 have d5:W0.cell? ⟨B+1,5,none⟩=some (.slice B5 (fN q 5) m5):=by rw[hW0,<-hB];simp[go_sem]
 have c6:W0.cell? ⟨B,6,none⟩=some (.bool p.rel):=by rw[hW0,<-hB];simp[go_sem]
 have d6:W0.cell? ⟨B+1,6,none⟩=some (.bool q.rel):=by rw[hW0,<-hB];simp[go_sem]
 have c7:W0.cell? ⟨B,7,none⟩=some (.int .i64 p.depth):=by rw[hW0,<-hB];simp[go_sem]
 have d7:W0.cell? ⟨B+1,7,none⟩=some (.int .i64 q.depth):=by rw[hW0,<-hB];simp[go_sem]
 have c8:W0.cell? ⟨B,8,none⟩=some (.int .i64 p.name):=by rw[hW0,<-hB];simp[go_sem]
 have d8:W0.cell? ⟨B+1,8,none⟩=some (.int .i64 q.name):=by rw[hW0,<-hB];simp[go_sem]
 have c9:W0.cell? ⟨B,9,none⟩=some (.int .i64 p.value):=by rw[hW0,<-hB];simp[go_sem]
 have d9:W0.cell? ⟨B+1,9,none⟩=some (.int .i64 q.value):=by rw[hW0,<-hB];simp[go_sem]
 have hBl:B+1<W0.heap.size:=by rw[hW0,<-hB];simp
 have HB0:=z2c hb0;clear hW0 hb0;have HC0:=z2c (fun W (hb:Below w.heap.size w W)=>show Calls Tryz.prog 223 #[.slice A0 (fN p 0) k0,.slice B0 (fN q 0) m0] W (Ret (.bool (decide (p.tags=q.tags))) W)from zhl A0 B0 _ _ k0 m0 p.tags q.tags W (H0.out.belowX hb) (G0.out.belowX hb));have HC1:=z2c (fun W (hb:Below w.heap.size w W)=>show Calls Tryz.prog 223 #[.slice A1 (fN p 1) k1,.slice B1 (fN q 1) m1] W (Ret (.bool (decide (p.schemes=q.schemes))) W)from zhl A1 B1 _ _ k1 m1 p.schemes q.schemes W (H1.out.belowX hb) (G1.out.belowX hb));have HC2:=z2c (fun W (hb:Below w.heap.size w W)=>show Calls Tryz.prog 223 #[.slice A2 (fN p 2) k2,.slice B2 (fN q 2) m2] W (Ret (.bool (decide (p.css=q.css))) W)from zhl A2 B2 _ _ k2 m2 p.css q.css W (H2.out.belowX hb) (G2.out.belowX hb));have HC3:=z2c (fun W (hb:Below w.heap.size w W)=>show Calls Tryz.prog 223 #[.slice A3 (fN p 3) k3,.slice B3 (fN q 3) m3] W (Ret (.bool (decide (p.drops=q.drops))) W)from zhl A3 B3 _ _ k3 m3 p.drops q.drops W (H3.out.belowX hb) (G3.out.belowX hb));generalize decide (p.tags=q.tags)=D0 at*;generalize decide (p.schemes=q.schemes)=D1 at*;generalize decide (p.css=q.css)=D2 at*;generalize decide (p.drops=q.drops)=D3 at*;clear H0 H1 H2 H3 G0 G1 G2 G3;cases D0 with
 |false=>
  have HR:Hid (R=false):=by show _=_;rw[HE.out];simp
  clear HE;go_wp2_with(first|(go_at_call 223;(with_reducible refine(HC0.out _ HB0.out).mono ?_);rintro e Wk0 ⟨rfl,Xk0,hXk0⟩;have HK0:=z2c (show Below W0.heap.size W0 Wk0 from(Below.refl W0.heap.size W0).trans ((show Below W0.heap.size W0 Wk0 by rw[hXk0];exact bel).mono (Below.refl W0.heap.size W0).size));clear hXk0;have cc0:=(HK0.out.cell (p:=⟨B,1,none⟩) (by show B<_;omega)).trans c1;have dd0:=(HK0.out.cell (p:=⟨B+1,1,none⟩) hBl).trans d1;have hbl0:B+1<Wk0.heap.size:=z2g hBl HK0.out.size))
  go_ret;exact Ret.of (by rw[HR.out];rfl) (HB0.out.trans (HK0.out.mono HB0.out.size))
 |true=>
  cases D1 with
  |false=>
   have HR:Hid (R=false):=by show _=_;rw[HE.out];simp
   clear HE;go_wp2_with(first|(go_at_call 223;(with_reducible refine(HC0.out _ HB0.out).mono ?_);rintro e Wk0 ⟨rfl,Xk0,hXk0⟩;have HK0:=z2c (show Below W0.heap.size W0 Wk0 from(Below.refl W0.heap.size W0).trans ((show Below W0.heap.size W0 Wk0 by rw[hXk0];exact bel).mono (Below.refl W0.heap.size W0).size));clear hXk0;have cc0:=(HK0.out.cell (p:=⟨B,1,none⟩) (by show B<_;omega)).trans c1;have dd0:=(HK0.out.cell (p:=⟨B+1,1,none⟩) hBl).trans d1;have hbl0:B+1<Wk0.heap.size:=z2g hBl HK0.out.size)|(go_at_call 223;(with_reducible refine(HC1.out _ (HB0.out.trans (HK0.out.mono HB0.out.size))).mono ?_);rintro e Wk1 ⟨rfl,Xk1,hXk1⟩;have HK1:=z2c (show Below W0.heap.size W0 Wk1 from HK0.out.trans ((show Below Wk0.heap.size Wk0 Wk1 by rw[hXk1];exact bel).mono HK0.out.size));clear hXk1;have cc1:=(HK1.out.cell (p:=⟨B,2,none⟩) (by show B<_;omega)).trans c2;have dd1:=(HK1.out.cell (p:=⟨B+1,2,none⟩) hBl).trans d2;have hbl1:B+1<Wk1.heap.size:=z2g hBl HK1.out.size))
   go_ret;exact Ret.of (by rw[HR.out];rfl) (HB0.out.trans (HK1.out.mono HB0.out.size))
  |true=>
   cases D2 with
   |false=>
    have HR:Hid (R=false):=by show _=_;rw[HE.out];simp
    clear HE;go_wp2_with(first|(go_at_call 223;(with_reducible refine(HC0.out _ HB0.out).mono ?_);rintro e Wk0 ⟨rfl,Xk0,hXk0⟩;have HK0:=z2c (show Below W0.heap.size W0 Wk0 from(Below.refl W0.heap.size W0).trans ((show Below W0.heap.size W0 Wk0 by rw[hXk0];exact bel).mono (Below.refl W0.heap.size W0).size));clear hXk0;have cc0:=(HK0.out.cell (p:=⟨B,1,none⟩) (by show B<_;omega)).trans c1;have dd0:=(HK0.out.cell (p:=⟨B+1,1,none⟩) hBl).trans d1;have hbl0:B+1<Wk0.heap.size:=z2g hBl HK0.out.size)|(go_at_call 223;(with_reducible refine(HC1.out _ (HB0.out.trans (HK0.out.mono HB0.out.size))).mono ?_);rintro e Wk1 ⟨rfl,Xk1,hXk1⟩;have HK1:=z2c (show Below W0.heap.size W0 Wk1 from HK0.out.trans ((show Below Wk0.heap.size Wk0 Wk1 by rw[hXk1];exact bel).mono HK0.out.size));clear hXk1;have cc1:=(HK1.out.cell (p:=⟨B,2,none⟩) (by show B<_;omega)).trans c2;have dd1:=(HK1.out.cell (p:=⟨B+1,2,none⟩) hBl).trans d2;have hbl1:B+1<Wk1.heap.size:=z2g hBl HK1.out.size)|(go_at_call 223;(with_reducible refine(HC2.out _ (HB0.out.trans (HK1.out.mono HB0.out.size))).mono ?_);rintro e Wk2 ⟨rfl,Xk2,hXk2⟩;have HK2:=z2c (show Below W0.heap.size W0 Wk2 from HK1.out.trans ((show Below Wk1.heap.size Wk1 Wk2 by rw[hXk2];exact bel).mono HK1.out.size));clear hXk2;have cc2:=(HK2.out.cell (p:=⟨B,3,none⟩) (by show B<_;omega)).trans c3;have dd2:=(HK2.out.cell (p:=⟨B+1,3,none⟩) hBl).trans d3;have hbl2:B+1<Wk2.heap.size:=z2g hBl HK2.out.size))
    go_ret;exact Ret.of (by rw[HR.out];rfl) (HB0.out.trans (HK2.out.mono HB0.out.size))
   |true=>
    cases D3 with
    |false=>
     have HR:Hid (R=false):=by show _=_;rw[HE.out];simp
     clear HE;go_wp2_with(first|(go_at_call 223;(with_reducible refine(HC0.out _ HB0.out).mono ?_);rintro e Wk0 ⟨rfl,Xk0,hXk0⟩;have HK0:=z2c (show Below W0.heap.size W0 Wk0 from(Below.refl W0.heap.size W0).trans ((show Below W0.heap.size W0 Wk0 by rw[hXk0];exact bel).mono (Below.refl W0.heap.size W0).size));clear hXk0;have cc0:=(HK0.out.cell (p:=⟨B,1,none⟩) (by show B<_;omega)).trans c1;have dd0:=(HK0.out.cell (p:=⟨B+1,1,none⟩) hBl).trans d1;have hbl0:B+1<Wk0.heap.size:=z2g hBl HK0.out.size)|(go_at_call 223;(with_reducible refine(HC1.out _ (HB0.out.trans (HK0.out.mono HB0.out.size))).mono ?_);rintro e Wk1 ⟨rfl,Xk1,hXk1⟩;have HK1:=z2c (show Below W0.heap.size W0 Wk1 from HK0.out.trans ((show Below Wk0.heap.size Wk0 Wk1 by rw[hXk1];exact bel).mono HK0.out.size));clear hXk1;have cc1:=(HK1.out.cell (p:=⟨B,2,none⟩) (by show B<_;omega)).trans c2;have dd1:=(HK1.out.cell (p:=⟨B+1,2,none⟩) hBl).trans d2;have hbl1:B+1<Wk1.heap.size:=z2g hBl HK1.out.size)|(go_at_call 223;(with_reducible refine(HC2.out _ (HB0.out.trans (HK1.out.mono HB0.out.size))).mono ?_);rintro e Wk2 ⟨rfl,Xk2,hXk2⟩;have HK2:=z2c (show Below W0.heap.size W0 Wk2 from HK1.out.trans ((show Below Wk1.heap.size Wk1 Wk2 by rw[hXk2];exact bel).mono HK1.out.size));clear hXk2;have cc2:=(HK2.out.cell (p:=⟨B,3,none⟩) (by show B<_;omega)).trans c3;have dd2:=(HK2.out.cell (p:=⟨B+1,3,none⟩) hBl).trans d3;have hbl2:B+1<Wk2.heap.size:=z2g hBl HK2.out.size)|(go_at_call 223;(with_reducible refine(HC3.out _ (HB0.out.trans (HK2.out.mono HB0.out.size))).mono ?_);rintro e Wk3 ⟨rfl,Xk3,hXk3⟩;have HK3:=z2c (show Below W0.heap.size W0 Wk3 from HK2.out.trans ((show Below Wk2.heap.size Wk2 Wk3 by rw[hXk3];exact bel).mono HK2.out.size));clear hXk3))
     go_ret;exact Ret.of (by rw[HR.out];rfl) (HB0.out.trans (HK3.out.mono HB0.out.size))
    |true=>
     have HE2:Hid (R=(decide (p.rel=q.rel)&&(decide (p.depth=q.depth)&&(decide (p.name=q.name)&&(decide (p.value=q.value)&&(decide (p.attrs=q.attrs)&&decide (p.forces=q.forces))))))):=by show _=_;rw[HE.out];simp
     clear HE;go_upto_region 3 with(first|(go_at_call 223;(with_reducible refine(HC0.out _ HB0.out).mono ?_);rintro e Wk0 ⟨rfl,Xk0,hXk0⟩;have HK0:=z2c (show Below W0.heap.size W0 Wk0 from(Below.refl W0.heap.size W0).trans ((show Below W0.heap.size W0 Wk0 by rw[hXk0];exact bel).mono (Below.refl W0.heap.size W0).size));clear hXk0;have cc0:=(HK0.out.cell (p:=⟨B,1,none⟩) (by show B<_;omega)).trans c1;have dd0:=(HK0.out.cell (p:=⟨B+1,1,none⟩) hBl).trans d1;have hbl0:B+1<Wk0.heap.size:=z2g hBl HK0.out.size)|(go_at_call 223;(with_reducible refine(HC1.out _ (HB0.out.trans (HK0.out.mono HB0.out.size))).mono ?_);rintro e Wk1 ⟨rfl,Xk1,hXk1⟩;have HK1:=z2c (show Below W0.heap.size W0 Wk1 from HK0.out.trans ((show Below Wk0.heap.size Wk0 Wk1 by rw[hXk1];exact bel).mono HK0.out.size));clear hXk1;have cc1:=(HK1.out.cell (p:=⟨B,2,none⟩) (by show B<_;omega)).trans c2;have dd1:=(HK1.out.cell (p:=⟨B+1,2,none⟩) hBl).trans d2;have hbl1:B+1<Wk1.heap.size:=z2g hBl HK1.out.size)|(go_at_call 223;(with_reducible refine(HC2.out _ (HB0.out.trans (HK1.out.mono HB0.out.size))).mono ?_);rintro e Wk2 ⟨rfl,Xk2,hXk2⟩;have HK2:=z2c (show Below W0.heap.size W0 Wk2 from HK1.out.trans ((show Below Wk1.heap.size Wk1 Wk2 by rw[hXk2];exact bel).mono HK1.out.size));clear hXk2;have cc2:=(HK2.out.cell (p:=⟨B,3,none⟩) (by show B<_;omega)).trans c3;have dd2:=(HK2.out.cell (p:=⟨B+1,3,none⟩) hBl).trans d3;have hbl2:B+1<Wk2.heap.size:=z2g hBl HK2.out.size)|(go_at_call 223;(with_reducible refine(HC3.out _ (HB0.out.trans (HK2.out.mono HB0.out.size))).mono ?_);rintro e Wk3 ⟨rfl,Xk3,hXk3⟩;have HK3:=z2c (show Below W0.heap.size W0 Wk3 from HK2.out.trans ((show Below Wk2.heap.size Wk2 Wk3 by rw[hXk3];exact bel).mono HK2.out.size));clear hXk3))
     have HB3:=z2c (HB0.out.trans (HK3.out.mono HB0.out.size));have c4:=(HK3.out.cell (p:=⟨B,4,none⟩) (by show B<_;omega)).trans c4;have d4:=(HK3.out.cell (p:=⟨B+1,4,none⟩) hBl).trans d4;have c5:=(HK3.out.cell (p:=⟨B,5,none⟩) (by show B<_;omega)).trans c5;have d5:=(HK3.out.cell (p:=⟨B+1,5,none⟩) hBl).trans d5;have c6:=(HK3.out.cell (p:=⟨B,6,none⟩) (by show B<_;omega)).trans c6;have d6:=(HK3.out.cell (p:=⟨B+1,6,none⟩) hBl).trans d6;have c7:=(HK3.out.cell (p:=⟨B,7,none⟩) (by show B<_;omega)).trans c7;have d7:=(HK3.out.cell (p:=⟨B+1,7,none⟩) hBl).trans d7;have c8:=(HK3.out.cell (p:=⟨B,8,none⟩) (by show B<_;omega)).trans c8;have d8:=(HK3.out.cell (p:=⟨B+1,8,none⟩) hBl).trans d8;have c9:=(HK3.out.cell (p:=⟨B,9,none⟩) (by show B<_;omega)).trans c9;have d9:=(HK3.out.cell (p:=⟨B+1,9,none⟩) hBl).trans d9;have hBl:B+1<Wk3.heap.size:=z2g hBl HK3.out.size;clear cc0 cc1 cc2 dd0 dd1 dd2 hbl0 hbl1 hbl2 HK0 HK1 HK2 HK3 HC0 HC1 HC2 HC3;by_cases hx0:fN p 4=fN q 4;rotate_left
     ·have e0:((fN p 4:Int) !=(fN q 4:Int))=true:=by simp;omega
      have HR:Hid (R=false):=by show _=_;rw[HE2.out,decide_eq_false (p:=p.attrs=q.attrs) (fun h=>hx0 (congrArg List.length h))];simp
      clear HE2 hx0;go_wp2_with fail
      go_ret;exact Ret.of (by rw[HR.out];rfl) HB3.out
     have e0:((fN p 4:Int) !=(fN q 4:Int))=false:=by simp;omega
     by_cases hx1:fN p 5=fN q 5;rotate_left
     ·have e1:((fN p 5:Int) !=(fN q 5:Int))=true:=by simp;omega
      have HR:Hid (R=false):=by show _=_;rw[HE2.out,decide_eq_false (p:=p.forces=q.forces) (fun h=>hx1 (congrArg List.length h))];simp
      clear HE2 hx1;go_wp2_with fail
      go_ret;exact Ret.of (by rw[HR.out];rfl) HB3.out
     have e1:((fN p 5:Int) !=(fN q 5:Int))=false:=by simp;omega
     by_cases hx2:p.rel=q.rel;rotate_left
     ·have e2:(p.rel !=q.rel)=true:=by simpa using hx2
      have HR:Hid (R=false):=by show _=_;rw[HE2.out,decide_eq_false (p:=p.rel=q.rel) hx2];simp
      clear HE2;go_wp2_with fail
      go_ret;exact Ret.of (by rw[HR.out];rfl) HB3.out
     have e2:(p.rel !=q.rel)=false:=by simpa using hx2
     by_cases hx3:p.depth=q.depth;rotate_left
     ·have e3:(p.depth !=q.depth)=true:=by simp;omega
      have HR:Hid (R=false):=by show _=_;rw[HE2.out,decide_eq_false (p:=p.depth=q.depth) hx3];simp
      clear HE2;go_wp2_with fail
      go_ret;exact Ret.of (by rw[HR.out];rfl) HB3.out
     have e3:(p.depth !=q.depth)=false:=by simp;omega
     by_cases hx4:p.name=q.name;rotate_left
     ·have e4:(p.name !=q.name)=true:=by simp;omega
      have HR:Hid (R=false):=by show _=_;rw[HE2.out,decide_eq_false (p:=p.name=q.name) hx4];simp
      clear HE2;go_wp2_with fail
      go_ret;exact Ret.of (by rw[HR.out];rfl) HB3.out
     have e4:(p.name !=q.name)=false:=by simp;omega
     by_cases hx5:p.value=q.value;rotate_left
     ·have e5:(p.value !=q.value)=true:=by simp;omega
      have HR:Hid (R=false):=by show _=_;rw[HE2.out,decide_eq_false (p:=p.value=q.value) hx5];simp
      clear HE2;go_wp2_with fail
      go_ret;exact Ret.of (by rw[HR.out];rfl) HB3.out
     have e5:(p.value !=q.value)=false:=by simp;omega
     have HE3:Hid (R=(decide (p.attrs.drop 0=q.attrs.drop 0)&&decide (p.forces=q.forces))):=by show _=_;rw[HE2.out,z2w,z2w,decide_eq_true hx2,decide_eq_true hx3,decide_eq_true hx4,decide_eq_true hx5];simp
     clear HE2;go_wp2_with fail
     clear e0 e1 e2 e3 e4 e5 hx2 hx3 hx4 hx5 c6 c7 c8 c9 d6 d7 d8 d9;have HX0:=z2c hx0;have HX1:=z2c hx1;rw[<-hx0]at d4 hb4;rw[<-hx1]at d5 hb5;clear hx0 hx1;obtain⟨n4,hn4⟩: ∃n,fN p 4=n:=⟨_,rfl⟩;obtain⟨n5,hn5⟩: ∃n,fN p 5=n:=⟨_,rfl⟩;have HN4:=z2c hn4;have HN5:=z2c hn5;rw[hn4]at c4 d4 ha4;rw[hn5]at c5 d5 ha5;clear hb4 hb5 hn4 hn5;go_loopw [5] (fun i wr=> ∃k:Nat,k<=n4/\i= .int .i64 (k:Nat)/\Hid (R=(decide (p.attrs.drop k=q.attrs.drop k)&&decide (p.forces=q.forces)))/\Hid (Below w.heap.size w wr)/\Hid (Below Wk3.heap.size Wk3 wr)) (fun i _=>n4-(intOf i).toNat)
     case atStart=>exact⟨0,by omega,rfl,HE3.out,HB3.out,by show Below _ _ _;exact bel⟩
     case round=>
      clear HE3 HB3;obtain⟨k,hk,rfl,HK,HB,HD⟩:=hrel;have c4r:=(HD.out.cell (p:=⟨B,4,none⟩) (by show B<_;omega)).trans c4;have d4r:=(HD.out.cell (p:=⟨B+1,4,none⟩) hBl).trans d4;have hBr:B+1<wr.heap.size:=z2g hBl HD.out.size;by_cases hlt:k<n4
      ·obtain⟨ba,oa,hAd,hlt_a,ha⟩: ∃b off,A4=some ⟨b,off,none⟩/\b<w.heap.size/\ ∀i u,(fC p 4)[i]? =some u->w.cell? ⟨b,off+i,none⟩=some u:=by
        obtain⟨_,_,A',c',e,h4⟩:=H4.out;cases e;exact h4 (by rw[HN4.out];omega)
       obtain⟨bb,ob,hBd,hlt_b,hb⟩: ∃b off,B4=some ⟨b,off,none⟩/\b<w.heap.size/\ ∀i u,(fC q 4)[i]? =some u->w.cell? ⟨b,off+i,none⟩=some u:=by
        obtain⟨_,_,A',c',e,h4⟩:=G4.out;cases e;exact h4 (by rw[<-HX0.out,HN4.out];omega)
       subst hAd hBd;have hka:k<p.attrs.length:=by show k<fN p 4;rw[HN4.out];exact hlt
       have hkb:k<q.attrs.length:=by show k<fN q 4;rw[<-HX0.out,HN4.out];exact hlt
       have HS:=z2c (fun h=>zfb hka hkb h HX0.out);have HS2:=z2c (zfa hka hkb);obtain⟨x,hx⟩: ∃x,p.attrs[k]=x:=⟨_,rfl⟩;obtain⟨y,hy⟩: ∃y,q.attrs[k]=y:=⟨_,rfl⟩;rw[hx,hy]at HS HS2;have a0:wr.cell? ⟨ba,oa+k*2,none⟩=some (.string ⟨x.tag.toArray⟩):=by
        have h9:=ha (k*2+0) (sv x.tag) (by show(p.attrs.flatMap Alw.cells)[k*2+0]? =_;rw[za3 Alw.cells 2 zd4 p.attrs k 0 hka (by omega),hx];rfl);exact(HB.out.cell hlt_a).trans ((congrArg (fun i=>w.cell? ⟨ba,i,none⟩) (by omega)).trans h9)
       have a1:wr.cell? ⟨ba,oa+k*2+1,none⟩=some (.string ⟨x.name.toArray⟩):=by
        have h9:=ha (k*2+1) (sv x.name) (by show(p.attrs.flatMap Alw.cells)[k*2+1]? =_;rw[za3 Alw.cells 2 zd4 p.attrs k 1 hka (by omega),hx];rfl);exact(HB.out.cell hlt_a).trans ((congrArg (fun i=>w.cell? ⟨ba,i,none⟩) (by omega)).trans h9)
       have b0:wr.cell? ⟨bb,ob+k*2,none⟩=some (.string ⟨y.tag.toArray⟩):=by
        have h9:=hb (k*2+0) (sv y.tag) (by show(q.attrs.flatMap Alw.cells)[k*2+0]? =_;rw[za3 Alw.cells 2 zd4 q.attrs k 0 hkb (by omega),hy];rfl);exact(HB.out.cell hlt_b).trans ((congrArg (fun i=>w.cell? ⟨bb,i,none⟩) (by omega)).trans h9)
       have b1:wr.cell? ⟨bb,ob+k*2+1,none⟩=some (.string ⟨y.name.toArray⟩):=by
        have h9:=hb (k*2+1) (sv y.name) (by show(q.attrs.flatMap Alw.cells)[k*2+1]? =_;rw[za3 Alw.cells 2 zd4 q.attrs k 1 hkb (by omega),hy];rfl);exact(HB.out.cell hlt_b).trans ((congrArg (fun i=>w.cell? ⟨bb,i,none⟩) (by omega)).trans h9)
       have c1: ¬(n4:Int)<=k:=by omega
       have hba:ba<wr.heap.size:=z2g hlt_a HB.out.size;have hbb:bb<wr.heap.size:=z2g hlt_b HB.out.size;have hdr:Below wr.heap.size wr wr.drew:=bel;have HDr:=z2c hdr;clear ha hb hx hy hdr;by_cases hxy:x=y
       ·have HT:Hid (R=(decide (p.attrs.drop (k+1)=q.attrs.drop (k+1))&&decide (p.forces=q.forces))):=by show _=_;rw[HK.out,HS.out hxy]
        have e0:((⟨x.tag.toArray⟩:ByteArray).toList==(⟨y.tag.toArray⟩:ByteArray).toList)=true:=by rw[zbz,hxy];simp
        have e1:((⟨x.name.toArray⟩:ByteArray).toList==(⟨y.name.toArray⟩:ByteArray).toList)=true:=by rw[zbz,hxy];simp
        clear HK HS HS2 hxy;generalize(⟨x.tag.toArray⟩:ByteArray)=x0s at*;generalize(⟨x.name.toArray⟩:ByteArray)=x1s at*;generalize(⟨y.tag.toArray⟩:ByteArray)=y0s at*;generalize(⟨y.name.toArray⟩:ByteArray)=y1s at*;go_upto_region 8 with fail
        go_region;go_wp2_with fail
        go_roundw
        case rel=>exact⟨k+1,by omega,by go_num,HT.out,HB.out.trans (HDr.out.mono HB.out.size),HD.out.trans (HDr.out.mono HD.out.size)⟩
        case measure=>simp[intOf];omega
       ·have HT:Hid (R=false):=by show _=_;rw[HK.out,HS2.out hxy];try simp
        have e0:(((⟨x.tag.toArray⟩:ByteArray).toList==(⟨y.tag.toArray⟩:ByteArray).toList)&&((⟨x.name.toArray⟩:ByteArray).toList==(⟨y.name.toArray⟩:ByteArray).toList))=false:=by
         simp only[zbz];cases x;cases y;simp only[Alw.mk.injEq]at hxy;simpa[and_assoc]using hxy
        clear HK HS HS2 hxy;generalize(⟨x.tag.toArray⟩:ByteArray)=x0s at*;generalize(⟨x.name.toArray⟩:ByteArray)=x1s at*;generalize(⟨y.tag.toArray⟩:ByteArray)=y0s at*;generalize(⟨y.name.toArray⟩:ByteArray)=y1s at*;go_upto_region 8 with fail
        go_region;go_wp2_with fail
        go_ret;exact Ret.of (by rw[HT.out];rfl) (HB.out.trans (HDr.out.mono HB.out.size))
      ·have HE4:Hid (R=decide (p.forces.drop 0=q.forces.drop 0)):=by
        show _=_;rw[HK.out,z2o (by show fN p 4<=k;rw[HN4.out];omega),z2o (by show fN q 4<=k;rw[<-HX0.out,HN4.out];omega),z2w,z2w];simp
       clear HK;go_wp2_with fail
       go_loopw [6] (fun i wr=> ∃k:Nat,k<=n5/\i= .int .i64 (k:Nat)/\Hid (R=decide (p.forces.drop k=q.forces.drop k))/\Hid (Below w.heap.size w wr)/\Hid (Below Wk3.heap.size Wk3 wr)) (fun i _=>n5-(intOf i).toNat)
       case atStart=>exact⟨0,by omega,rfl,HE4.out,HB.out,HD.out⟩
       case round=>
        clear HE4 HB HD hlt hk;obtain⟨k,hk,rfl,HK,HB,HD⟩:=hrel;have c5r:=(HD.out.cell (p:=⟨B,5,none⟩) (by show B<_;omega)).trans c5;have d5r:=(HD.out.cell (p:=⟨B+1,5,none⟩) hBl).trans d5;have hBr:B+1<wr.heap.size:=z2g hBl HD.out.size;by_cases hlt:k<n5
        ·obtain⟨ba,oa,hAd,hlt_a,ha⟩: ∃b off,A5=some ⟨b,off,none⟩/\b<w.heap.size/\ ∀i u,(fC p 5)[i]? =some u->w.cell? ⟨b,off+i,none⟩=some u:=by
          obtain⟨_,_,A',c',e,h4⟩:=H5.out;cases e;exact h4 (by rw[HN5.out];omega)
         obtain⟨bb,ob,hBd,hlt_b,hb⟩: ∃b off,B5=some ⟨b,off,none⟩/\b<w.heap.size/\ ∀i u,(fC q 5)[i]? =some u->w.cell? ⟨b,off+i,none⟩=some u:=by
          obtain⟨_,_,A',c',e,h4⟩:=G5.out;cases e;exact h4 (by rw[<-HX1.out,HN5.out];omega)
         subst hAd hBd;have hka:k<p.forces.length:=by show k<fN p 5;rw[HN5.out];exact hlt
         have hkb:k<q.forces.length:=by show k<fN q 5;rw[<-HX1.out,HN5.out];exact hlt
         have HS:=z2c (fun h=>zfb hka hkb h HX1.out);have HS2:=z2c (zfa hka hkb);obtain⟨x,hx⟩: ∃x,p.forces[k]=x:=⟨_,rfl⟩;obtain⟨y,hy⟩: ∃y,q.forces[k]=y:=⟨_,rfl⟩;rw[hx,hy]at HS HS2;have a0:wr.cell? ⟨ba,oa+k*3,none⟩=some (.string ⟨x.tag.toArray⟩):=by
          have h9:=ha (k*3+0) (sv x.tag) (by show(p.forces.flatMap Frc.cells)[k*3+0]? =_;rw[za3 Frc.cells 3 zcl p.forces k 0 hka (by omega),hx];rfl);exact(HB.out.cell hlt_a).trans ((congrArg (fun i=>w.cell? ⟨ba,i,none⟩) (by omega)).trans h9)
         have a1:wr.cell? ⟨ba,oa+k*3+1,none⟩=some (.string ⟨x.name.toArray⟩):=by
          have h9:=ha (k*3+1) (sv x.name) (by show(p.forces.flatMap Frc.cells)[k*3+1]? =_;rw[za3 Frc.cells 3 zcl p.forces k 1 hka (by omega),hx];rfl);exact(HB.out.cell hlt_a).trans ((congrArg (fun i=>w.cell? ⟨ba,i,none⟩) (by omega)).trans h9)
         have a2:wr.cell? ⟨ba,oa+k*3+2,none⟩=some (.string ⟨x.value.toArray⟩):=by
          have h9:=ha (k*3+2) (sv x.value) (by show(p.forces.flatMap Frc.cells)[k*3+2]? =_;rw[za3 Frc.cells 3 zcl p.forces k 2 hka (by omega),hx];rfl);exact(HB.out.cell hlt_a).trans ((congrArg (fun i=>w.cell? ⟨ba,i,none⟩) (by omega)).trans h9)
         have b0:wr.cell? ⟨bb,ob+k*3,none⟩=some (.string ⟨y.tag.toArray⟩):=by
          have h9:=hb (k*3+0) (sv y.tag) (by show(q.forces.flatMap Frc.cells)[k*3+0]? =_;rw[za3 Frc.cells 3 zcl q.forces k 0 hkb (by omega),hy];rfl);exact(HB.out.cell hlt_b).trans ((congrArg (fun i=>w.cell? ⟨bb,i,none⟩) (by omega)).trans h9)
         have b1:wr.cell? ⟨bb,ob+k*3+1,none⟩=some (.string ⟨y.name.toArray⟩):=by
          have h9:=hb (k*3+1) (sv y.name) (by show(q.forces.flatMap Frc.cells)[k*3+1]? =_;rw[za3 Frc.cells 3 zcl q.forces k 1 hkb (by omega),hy];rfl);exact(HB.out.cell hlt_b).trans ((congrArg (fun i=>w.cell? ⟨bb,i,none⟩) (by omega)).trans h9)
         have b2:wr.cell? ⟨bb,ob+k*3+2,none⟩=some (.string ⟨y.value.toArray⟩):=by
          have h9:=hb (k*3+2) (sv y.value) (by show(q.forces.flatMap Frc.cells)[k*3+2]? =_;rw[za3 Frc.cells 3 zcl q.forces k 2 hkb (by omega),hy];rfl);exact(HB.out.cell hlt_b).trans ((congrArg (fun i=>w.cell? ⟨bb,i,none⟩) (by omega)).trans h9)
         have c1: ¬(n5:Int)<=k:=by omega
         have hba:ba<wr.heap.size:=z2g hlt_a HB.out.size;have hbb:bb<wr.heap.size:=z2g hlt_b HB.out.size;have hdr:Below wr.heap.size wr wr.drew:=bel;have HDr:=z2c hdr;clear ha hb hx hy hdr;by_cases hxy:x=y
         ·have HT:Hid (R=decide (p.forces.drop (k+1)=q.forces.drop (k+1))):=by show _=_;rw[HK.out,HS.out hxy]
          have e0:((⟨x.tag.toArray⟩:ByteArray).toList==(⟨y.tag.toArray⟩:ByteArray).toList)=true:=by rw[zbz,hxy];simp
          have e1:((⟨x.name.toArray⟩:ByteArray).toList==(⟨y.name.toArray⟩:ByteArray).toList)=true:=by rw[zbz,hxy];simp
          have e2:((⟨x.value.toArray⟩:ByteArray).toList==(⟨y.value.toArray⟩:ByteArray).toList)=true:=by rw[zbz,hxy];simp
          clear HK HS HS2 hxy;generalize(⟨x.tag.toArray⟩:ByteArray)=x0s at*;generalize(⟨x.name.toArray⟩:ByteArray)=x1s at*;generalize(⟨x.value.toArray⟩:ByteArray)=x2s at*;generalize(⟨y.tag.toArray⟩:ByteArray)=y0s at*;generalize(⟨y.name.toArray⟩:ByteArray)=y1s at*;generalize(⟨y.value.toArray⟩:ByteArray)=y2s at*;go_upto_region 13 with fail
          go_region;go_wp2_with fail
          go_roundw
          case rel=>exact⟨k+1,by omega,by go_num,HT.out,HB.out.trans (HDr.out.mono HB.out.size),HD.out.trans (HDr.out.mono HD.out.size)⟩
          case measure=>simp[intOf];omega
         ·have HT:Hid (R=false):=by show _=_;rw[HK.out,HS2.out hxy];try simp
          have e0:(((⟨x.tag.toArray⟩:ByteArray).toList==(⟨y.tag.toArray⟩:ByteArray).toList)&&((⟨x.name.toArray⟩:ByteArray).toList==(⟨y.name.toArray⟩:ByteArray).toList)&&((⟨x.value.toArray⟩:ByteArray).toList==(⟨y.value.toArray⟩:ByteArray).toList))=false:=by
           simp only[zbz];cases x;cases y;simp only[Frc.mk.injEq]at hxy;simpa[and_assoc]using hxy
          clear HK HS HS2 hxy;generalize(⟨x.tag.toArray⟩:ByteArray)=x0s at*;generalize(⟨x.name.toArray⟩:ByteArray)=x1s at*;generalize(⟨x.value.toArray⟩:ByteArray)=x2s at*;generalize(⟨y.tag.toArray⟩:ByteArray)=y0s at*;generalize(⟨y.name.toArray⟩:ByteArray)=y1s at*;generalize(⟨y.value.toArray⟩:ByteArray)=y2s at*;go_upto_region 13 with fail
          go_region;go_wp2_with fail
          go_ret;exact Ret.of (by rw[HT.out];rfl) (HB.out.trans (HDr.out.mono HB.out.size))
        ·have HT:Hid (R=true):=by
          show _=_;rw[HK.out,z2o (by show fN p 5<=k;rw[HN5.out];omega),z2o (by show fN q 5<=k;rw[<-HX1.out,HN5.out];omega)];simp
         go_wp2_with fail
         go_ret;exact Ret.of (by rw[HT.out];rfl) HB.out
end Go.Proofs.YtiikamobcmgekaaGreatDoor

