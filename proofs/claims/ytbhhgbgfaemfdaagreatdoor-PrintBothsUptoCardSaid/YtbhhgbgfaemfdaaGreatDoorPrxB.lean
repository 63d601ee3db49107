/- The walk of the reference's Within of chapter 09. (written by gen_rwith2.py) -/
import Derived.BigRegion
import Derived.Test.YtbhhgbgfaemfdaaGreatDoorPrxA
namespace Go.Proofs.YtbhhgbgfaemfdaaGreatDoor
open Lib renaming hid→z2g
open List renaming setIfInBounds_toArray→z2d,set_cons_succ→z2f,set_cons_zero→z2e
open Nat renaming lt_of_lt_of_le→z2h
set_option maxRecDepth 100000
set_option maxHeartbeats 16000000
open Go.RowKit
attribute [local go_sem] Oper.semAt_some
theorem zuq (q:Pol) (x:Alw):zf7 q x=q.attrs.any (fun b=>decide (b.name=x.name)&&(decide (b.tag=[42])||decide (b.tag=x.tag))):=by
 unfold zf7
 rw[Bool.eq_iff_iff,List.any_eq_true]
 simp only[Bool.and_eq_true,Bool.or_eq_true,decide_eq_true_eq]
 obtain⟨xt,xn⟩:=x
 constructor
 ·rintro(h|h)
  ·exact⟨_,h,rfl,.inr rfl⟩
  ·exact⟨_,h,rfl,.inl rfl⟩
 ·rintro⟨⟨bt,bn⟩,hb,h1,h2⟩
  simp only at h1 h2
  subst h1
  rcases h2 with h2|h2
  ·subst h2;exact .inr hb
  ·subst h2;exact .inl hb
theorem z1j (v u:Value) (p q:Pol) (w:World) (h:PolV w (fun _=>False) v p) (g:PolV w (fun _=>False) u q):Calls Tryz.prog 38 #[v,u] w (Ret (.bool (zlx p q)) w):=by
 have hmx:Tryz.prog.follows .mixedOrders=true:=by kernel_rfl
 rw[zh4]
 obtain⟨v0,v1,v2,v3,v4,v5,rfl,⟨A0,k0,rfl,z0,h0,y0⟩,⟨A1,k1,rfl,z1,h1,y1⟩,⟨A2,k2,rfl,z2,h2,y2⟩,⟨A3,k3,rfl,z3,h3,y3⟩,⟨A4,k4,rfl,z4,h4,y4⟩,⟨A5,k5,rfl,z5,h5,y5⟩⟩:=h
 obtain⟨u0,u1,u2,u3,u4,u5,rfl,⟨C0,j0,rfl,x0,g0,t0⟩,⟨C1,j1,rfl,x1,g1,t1⟩,⟨C2,j2,rfl,x2,g2,t2⟩,⟨C3,j3,rfl,x3,g3,t3⟩,⟨C4,j4,rfl,x4,g4,t4⟩,⟨C5,j5,rfl,x5,g5,t5⟩⟩:=g
 have HT:=z2g (fun W hb=>zin (.slice A0 (fN p 0) k0) (.slice C0 (fN q 0) j0) p.tags q.tags W (Rd.belowW (W:=W) h0 hb) (Rd.belowW g0 hb))
 have HS:=z2g (fun W hb=>zin (.slice A1 (fN p 1) k1) (.slice C1 (fN q 1) j1) p.schemes q.schemes W (Rd.belowW (W:=W) h1 hb) (Rd.belowW g1 hb))
 have HC:=z2g (fun W hb=>zin (.slice A2 (fN p 2) k2) (.slice C2 (fN q 2) j2) p.css q.css W (Rd.belowW (W:=W) h2 hb) (Rd.belowW g2 hb))
 have HD:=z2g (fun W hb=>zin (.slice C3 (fN q 3) j3) (.slice A3 (fN p 3) k3) q.drops p.drops W (Rd.belowW (W:=W) g3 hb) (Rd.belowW h3 hb))
 have H4:=z2g h4
 have G4:=z2g g4
 obtain⟨n1,hn1⟩: ∃n,fN p 4=n:=⟨_,rfl⟩
 have HN1:Hid (p.attrs.length=n1):=hn1
 have hm1:n1<=9223372036854775807:=by rw[<-hn1];exact h4.2.1
 obtain⟨n2,hn2⟩: ∃n,fN q 4=n:=⟨_,rfl⟩
 have HN2:Hid (q.attrs.length=n2):=hn2
 have hm2:n2<=9223372036854775807:=by rw[<-hn2];exact g4.2.1
 rw[hn1]at H4 ⊢
 rw[hn2]at G4 ⊢
 have HL0:=z2g (show p.attrs.all (zf7 q)=(p.attrs.drop 0).all (zf7 q) by rw[List.drop_zero])
 generalize zcs p.tags q.tags=T at*
 generalize zcs p.schemes q.schemes=S at*
 generalize zcs p.css q.css=C at*
 generalize zcs q.drops p.drops=D at*
 obtain⟨ALL,hALL⟩: ∃r,p.attrs.all (zf7 q)=r:=⟨_,rfl⟩
 rw[hALL]at HL0 ⊢
 have HLm:Hid (z02 p q=((!p.rel||q.rel)&&decide (p.depth<=q.depth)&&decide (p.name<=q.name)&&decide (p.value<=q.value))):=rfl
 clear z0 z1 z2 z3 z4 z5 h0 h1 h2 h3 h4 h5 hn1 hn2 y0 y1 y2 y3 y4 y5 x0 x1 x2 x3 x4 x5 g0 g1 g2 g3 g4 g5 t0 t1 t2 t3 t4 t5 hALL
 go_enter Tryz.func38,Tryz.ntmps38
 go_upto_region 1 with fail
 refine zaf fun W0 hW0=> ?_
 obtain⟨B,hB⟩: ∃B,w.heap.size=B:=⟨_,rfl⟩
 have hb0:Below w.heap.size w W0:=by rw[hW0];exact bel
 have c0:W0.cell? ⟨B,0,none⟩=some (.slice A0 (fN p 0) k0):=by rw[hW0,<-hB];simp[go_sem]
 have c1:W0.cell? ⟨B,1,none⟩=some (.slice A1 (fN p 1) k1):=by rw[hW0,<-hB];simp[go_sem]
 have c2:W0.cell? ⟨B,2,none⟩=some (.slice A2 (fN p 2) k2):=by rw[hW0,<-hB];simp[go_sem]
 have c3:W0.cell? ⟨B,3,none⟩=some (.slice A3 (fN p 3) k3):=by rw[hW0,<-hB];simp[go_sem]
 have c4:W0.cell? ⟨B,4,none⟩=some (.slice A4 (n1) k4):=by rw[hW0,<-hB];simp[go_sem]
 have c5:W0.cell? ⟨B,5,none⟩=some (.slice A5 (fN p 5) k5):=by rw[hW0,<-hB];simp[go_sem]
 have c6:W0.cell? ⟨B,6,none⟩=some (.bool p.rel):=by rw[hW0,<-hB];simp[go_sem]
 have c7:W0.cell? ⟨B,7,none⟩=some (.int .i64 p.depth):=by rw[hW0,<-hB];simp[go_sem]
 have c8:W0.cell? ⟨B,8,none⟩=some (.int .i64 p.name):=by rw[hW0,<-hB];simp[go_sem]
 have c9:W0.cell? ⟨B,9,none⟩=some (.int .i64 p.value):=by rw[hW0,<-hB];simp[go_sem]
 have d0:W0.cell? ⟨B+1,0,none⟩=some (.slice C0 (fN q 0) j0):=by rw[hW0,<-hB];simp[go_sem]
 have d1:W0.cell? ⟨B+1,1,none⟩=some (.slice C1 (fN q 1) j1):=by rw[hW0,<-hB];simp[go_sem]
 have d2:W0.cell? ⟨B+1,2,none⟩=some (.slice C2 (fN q 2) j2):=by rw[hW0,<-hB];simp[go_sem]
 have d3:W0.cell? ⟨B+1,3,none⟩=some (.slice C3 (fN q 3) j3):=by rw[hW0,<-hB];simp[go_sem]
 have d4:W0.cell? ⟨B+1,4,none⟩=some (.slice C4 (n2) j4):=by rw[hW0,<-hB];simp[go_sem]
 have d5:W0.cell? ⟨B+1,5,none⟩=some (.slice C5 (fN q 5) j5):=by rw[hW0,<-hB];simp[go_sem]
 have d6:W0.cell? ⟨B+1,6,none⟩=some (.bool q.rel):=by rw[hW0,<-hB];simp[go_sem]
 have d7:W0.cell? ⟨B+1,7,none⟩=some (.int .i64 q.depth):=by rw[hW0,<-hB];simp[go_sem]
 have d8:W0.cell? ⟨B+1,8,none⟩=some (.int .i64 q.name):=by rw[hW0,<-hB];simp[go_sem]
 have d9:W0.cell? ⟨B+1,9,none⟩=some (.int .i64 q.value):=by rw[hW0,<-hB];simp[go_sem]
 have hBl:B+1<W0.heap.size:=World.block_lt_of_cell? W0 _ d0
 have hBl0:B<W0.heap.size:=by omega
 have HB0:=z2g hb0
 rw[hB]
 obtain⟨B1,hB1⟩: ∃B1,B+1=B1:=⟨_,rfl⟩
 rw[hB1]at hBl d0 d1 d2 d3 d4 d5 d6 d7 d8 d9 ⊢
 clear hW0 hb0 hB hB1
 have HEs:=z2g (fun y:Bs=>show((⟨y.toArray⟩:ByteArray).toList==[42])=decide (y=[42]) by rw[zbj])
 go_wp2_with fail
 go_loopw [5] (fun i wr=> ∃k:Nat,k<=n1/\i= .int .i64 (k:Nat)/\Hid (ALL=(p.attrs.drop k).all (zf7 q))/\Hid (Below W0.heap.size W0 wr)) (fun i _=>n1-(intOf i).toNat)
 case atStart=>exact⟨0,by omega,rfl,HL0.out,by show Below _ _ _;exact bel⟩
 case round=>
  clear HL0
  obtain⟨i,hi,rfl,HK,HB⟩:=hrel
  have r4:=(HB.out.cell (p:=⟨B,4,none⟩) hBl0).trans c4
  have hbr0:B<wr.heap.size:=z2h hBl0 HB.out.size
  have hbr1:B1<wr.heap.size:=z2h hBl HB.out.size
  by_cases hlt:i<n1
  ·obtain⟨b,off,hAe,hb,hcc⟩: ∃b off,A4=some ⟨b,off,none⟩/\b<w.heap.size/\ ∀j u,(fC p 4)[j]? =some u->w.cell? ⟨b,off+j,none⟩=some u:=by
    obtain⟨_,_,A',c',e,h9⟩:=H4.out
    cases e
    obtain⟨b,off,h1,h2,h3⟩:=h9 (by omega)
    exact⟨b,off,h1,h2,h3⟩
   subst hAe
   have hkl:i<p.attrs.length:=by rw[HN1.out];exact hlt
   obtain⟨x,hx⟩: ∃x,p.attrs[i]=x:=⟨_,rfl⟩
   have hbw:b<W0.heap.size:=z2h hb HB0.out.size
   have e0:W0.cell? ⟨b,off+i*2,none⟩=some (.string ⟨x.tag.toArray⟩):=(HB0.out.cell (p:=⟨b,off+i*2,none⟩) hb).trans (hcc (i*2+0) (sv x.tag) (by show(p.attrs.flatMap Alw.cells)[_]? =_;rw[za1 Alw.cells 2 (fun _=>rfl) p.attrs i 0 hkl (by omega),hx];rfl))
   have e1:W0.cell? ⟨b,off+i*2+1,none⟩=some (.string ⟨x.name.toArray⟩):=(HB0.out.cell (p:=⟨b,off+i*2+1,none⟩) hb).trans ((congrArg (fun i=>w.cell? ⟨b,i,none⟩) (by omega)).trans (hcc (i*2+1) (sv x.name) (by show(p.attrs.flatMap Alw.cells)[_]? =_;rw[za1 Alw.cells 2 (fun _=>rfl) p.attrs i 1 hkl (by omega),hx];rfl)))
   have HX:Hid (p.attrs.drop i=x::p.attrs.drop (i+1)):=by show _=_;rw[List.drop_eq_getElem_cons hkl,hx]
   have HEt:=z2g (fun y:Bs=>show((⟨y.toArray⟩:ByteArray).toList==(⟨x.tag.toArray⟩:ByteArray).toList)=decide (y=x.tag) by rw[zfg])
   have HEn:=z2g (fun y:Bs=>show((⟨y.toArray⟩:ByteArray).toList==(⟨x.name.toArray⟩:ByteArray).toList)=decide (y=x.name) by rw[zfg])
   obtain⟨R,hR⟩: ∃R,q.attrs.any (fun b=>decide (b.name=x.name)&&(decide (b.tag=[42])||decide (b.tag=x.tag)))=R:=⟨_,rfl⟩
   have HR0:Hid (R=(false||(q.attrs.drop 0).any (fun b=>decide (b.name=x.name)&&(decide (b.tag=[42])||decide (b.tag=x.tag))))):=by show _=_;rw[<-hR,List.drop_zero];rfl
   have HQ1:Hid (ALL=(R&&(p.attrs.drop (i+1)).all (zf7 q))):=by show _=_;rw[HK.out,HX.out,List.all_cons,zuq,hR]
   clear hcc hx hkl HK HX hR hb
   generalize(⟨x.tag.toArray⟩:ByteArray)=xt at*
   generalize(⟨x.name.toArray⟩:ByteArray)=xn at*
   obtain⟨W1,hW1⟩: ∃W,wr=W:=⟨_,rfl⟩
   rw[hW1]at HB hbr0 hbr1 r4 ⊢
   clear hW1
   go_wp2_with fail
   clear r4
   go_loopw [6,7] (fun hh j wx=> ∃(k:Nat) (O:Bool),k<=n2/\j= .int .i64 (k:Nat)/\hh= .bool O/\Hid (R=(O||(q.attrs.drop k).any (fun b=>decide (b.name=x.name)&&(decide (b.tag=[42])||decide (b.tag=x.tag)))))/\Hid (Below W0.heap.size W0 wx)) (fun _ j _=>n2-(intOf j).toNat)
   case atStart=>exact⟨0,false,by omega,rfl,rfl,HR0.out,by show Below _ _ _;exact HB.out.trans ((bel:Below W1.heap.size W1 _).mono HB.out.size)⟩
   case round=>
    clear HR0 HB hbr0 hbr1
    obtain⟨k,O,hk,rfl,rfl,HKk,HB⟩:=hrel
    have s4:=(HB.out.cell (p:=⟨B1,4,none⟩) hBl).trans d4
    have hbr0:B<wr.heap.size:=z2h hBl0 HB.out.size
    have hbr1:B1<wr.heap.size:=z2h hBl HB.out.size
    by_cases hlt2:k<n2
    ·obtain⟨b',off',hAe,hb',hcc⟩: ∃b off,C4=some ⟨b,off,none⟩/\b<w.heap.size/\ ∀j u,(fC q 4)[j]? =some u->w.cell? ⟨b,off+j,none⟩=some u:=by
      obtain⟨_,_,A',c',e,h9⟩:=G4.out
      cases e
      obtain⟨b,off,h1,h2,h3⟩:=h9 (by omega)
      exact⟨b,off,h1,h2,h3⟩
     subst hAe
     have hkl:k<q.attrs.length:=by rw[HN2.out];exact hlt2
     obtain⟨y,hy⟩: ∃y,q.attrs[k]=y:=⟨_,rfl⟩
     have hbw':b'<W0.heap.size:=z2h hb' HB0.out.size
     have f0:W0.cell? ⟨b',off'+k*2,none⟩=some (.string ⟨y.tag.toArray⟩):=(HB0.out.cell (p:=⟨b',off'+k*2,none⟩) hb').trans (hcc (k*2+0) (sv y.tag) (by show(q.attrs.flatMap Alw.cells)[_]? =_;rw[za1 Alw.cells 2 (fun _=>rfl) q.attrs k 0 hkl (by omega),hy];rfl))
     have f1:W0.cell? ⟨b',off'+k*2+1,none⟩=some (.string ⟨y.name.toArray⟩):=(HB0.out.cell (p:=⟨b',off'+k*2+1,none⟩) hb').trans ((congrArg (fun i=>w.cell? ⟨b',i,none⟩) (by omega)).trans (hcc (k*2+1) (sv y.name) (by show(q.attrs.flatMap Alw.cells)[_]? =_;rw[za1 Alw.cells 2 (fun _=>rfl) q.attrs k 1 hkl (by omega),hy];rfl)))
     have q1:=HEn.out y.name
     have q2:=HEs.out y.tag
     have q3:=HEt.out y.tag
     have HT2:Hid (R=((O||(decide (y.name=x.name)&&(decide (y.tag=[42])||decide (y.tag=x.tag))))||(q.attrs.drop (k+1)).any (fun b=>decide (b.name=x.name)&&(decide (b.tag=[42])||decide (b.tag=x.tag))))):=by show _=_;rw[HKk.out,List.drop_eq_getElem_cons hkl,hy,List.any_cons,Bool.or_assoc]
     generalize decide (y.name=x.name)=D1 at*
     generalize decide (y.tag=[42])=D2 at*
     generalize decide (y.tag=x.tag)=D3 at*
     clear hcc hy hkl HKk hb'
     generalize(⟨y.tag.toArray⟩:ByteArray)=yt at*
     generalize(⟨y.name.toArray⟩:ByteArray)=yn at*
     go_upto_region 8 with fail
     have hS0:Below W0.heap.size W0 wr.drew:=HB.out.trans ((bel:Below wr.heap.size wr _).mono HB.out.size)
     cases O with
     |true=>
      refine zai 40 [(0,true),(1,true),(2,true),(3,true),(4,true),(5,true),(6,true),(7,true),(8,true),(9,true),(10,true),(11,true),(12,true),(13,true),(14,true),(15,true),(16,true),(17,true),(18,true),(19,true),(20,true),(21,true),(22,true),(23,true),(24,true),(25,true),(26,true),(27,true),(28,true),(29,true),(30,true),(31,true),(32,true),(33,true),(34,true),(35,true),(36,true),(37,true),(38,true),(39,true)] (fun V=>Below W0.heap.size W0 V) hmx (by kernel_rfl) (by kernel_rfl) (by kernel_rfl) (by decide) rfl (fun c a d v w h=>by first|exact h|(obtain⟨x,y⟩:=(h:_/\_);cases d<;>exact⟨x,y⟩)) (by kernel_rfl) (by exact hS0) ?_
      refine zaa (v:= .bool true) 22 rfl rfl rfl (fun W hW=>by simp[execOp,go_sem]) ?_
      simp only[Act.put,z2d,z2f,z2e]
      refine zaa (v:= .bool true) 23 rfl rfl rfl (fun W hW=>by simp[execOp,go_sem]) ?_
      simp only[Act.put,z2d,z2f,z2e]
      refine zab 24 rfl rfl rfl ?_
      simp only[Act.put,z2d,z2f,z2e]
      refine zab 25 rfl rfl rfl ?_
      simp only[Act.put,z2d,z2f,z2e]
      refine zab 26 rfl rfl rfl ?_
      simp only[Act.put,z2d,z2f,z2e]
      refine zab 27 rfl rfl rfl ?_
      simp only[Act.put,z2d,z2f,z2e]
      refine zab 28 rfl rfl rfl ?_
      simp only[Act.put,z2d,z2f,z2e]
      refine zab 29 rfl rfl rfl ?_
      simp only[Act.put,z2d,z2f,z2e]
      refine zab 30 rfl rfl rfl ?_
      simp only[Act.put,z2d,z2f,z2e]
      refine zab 31 rfl rfl rfl ?_
      simp only[Act.put,z2d,z2f,z2e]
      refine zab 32 rfl rfl rfl ?_
      simp only[Act.put,z2d,z2f,z2e]
      refine zab 33 rfl rfl rfl ?_
      simp only[Act.put,z2d,z2f,z2e]
      refine zab 34 rfl rfl rfl ?_
      simp only[Act.put,z2d,z2f,z2e]
      refine zab 35 rfl rfl rfl ?_
      simp only[Act.put,z2d,z2f,z2e]
      refine zab 36 rfl rfl rfl ?_
      simp only[Act.put,z2d,z2f,z2e]
      refine zab 37 rfl rfl rfl ?_
      simp only[Act.put,z2d,z2f,z2e]
      refine zab 38 rfl rfl rfl ?_
      simp only[Act.put,z2d,z2f,z2e]
      refine zab 39 rfl rfl rfl ?_
      simp only[Act.put,z2d,z2f,z2e]
      refine zab 40 rfl rfl rfl ?_
      simp only[Act.put,z2d,z2f,z2e]
      refine zab 41 rfl rfl rfl ?_
      simp only[Act.put,z2d,z2f,z2e]
      refine zab 42 rfl rfl rfl ?_
      simp only[Act.put,z2d,z2f,z2e]
      refine zab 43 rfl rfl rfl ?_
      simp only[Act.put,z2d,z2f,z2e]
      refine zab 44 rfl rfl rfl ?_
      simp only[Act.put,z2d,z2f,z2e]
      refine zab 45 rfl rfl rfl ?_
      simp only[Act.put,z2d,z2f,z2e]
      refine zab 46 rfl rfl rfl ?_
      simp only[Act.put,z2d,z2f,z2e]
      refine zab 47 rfl rfl rfl ?_
      simp only[Act.put,z2d,z2f,z2e]
      refine zab 48 rfl rfl rfl ?_
      simp only[Act.put,z2d,z2f,z2e]
      refine zab 49 rfl rfl rfl ?_
      simp only[Act.put,z2d,z2f,z2e]
      refine zab 50 rfl rfl rfl ?_
      simp only[Act.put,z2d,z2f,z2e]
      refine zab 51 rfl rfl rfl ?_
      simp only[Act.put,z2d,z2f,z2e]
      refine zab 52 rfl rfl rfl ?_
      simp only[Act.put,z2d,z2f,z2e]
      refine zab 53 rfl rfl rfl ?_
      simp only[Act.put,z2d,z2f,z2e]
      refine zab 54 rfl rfl rfl ?_
      simp only[Act.put,z2d,z2f,z2e]
      refine zab 55 rfl rfl rfl ?_
      simp only[Act.put,z2d,z2f,z2e]
      refine zab 56 rfl rfl rfl ?_
      simp only[Act.put,z2d,z2f,z2e]
      refine zab 57 rfl rfl rfl ?_
      simp only[Act.put,z2d,z2f,z2e]
      refine zab 58 rfl rfl rfl ?_
      simp only[Act.put,z2d,z2f,z2e]
      refine zab 59 rfl rfl rfl ?_
      simp only[Act.put,z2d,z2f,z2e]
      refine zab 60 rfl rfl rfl ?_
      simp only[Act.put,z2d,z2f,z2e]
      refine zaa (v:= .bool true) 61 rfl rfl rfl (fun W hW=>by simp[execOp,go_sem]) ?_
      simp only[Act.put,z2d,z2f,z2e]
      dsimp only[zbe,List.drop]
      go_wp2_with fail
      go_roundw
      case rel=>exact⟨k+1,_,by omega,by go_num,rfl,HT2.out,hS0.trans ((bel:Below wr.drew.heap.size wr.drew _).mono hS0.size)⟩
      case measure=>simp[intOf];omega
     |false=>
      cases D1 with
      |false=>
       refine zai 40 [(0,true),(1,true),(2,true),(3,true),(4,true),(5,true),(6,true),(7,true),(8,true),(9,true),(10,true),(11,true),(12,true),(13,true),(14,true),(15,true),(16,true),(17,true),(18,true),(19,true),(20,true),(21,true),(22,true),(23,true),(24,true),(25,true),(26,true),(27,true),(28,true),(29,true),(30,true),(31,true),(32,true),(33,true),(34,true),(35,true),(36,true),(37,true),(38,true),(39,true)] (fun V=>Below W0.heap.size W0 V) hmx (by kernel_rfl) (by kernel_rfl) (by kernel_rfl) (by decide) rfl (fun c a d v w h=>by first|exact h|(obtain⟨x,y⟩:=(h:_/\_);cases d<;>exact⟨x,y⟩)) (by kernel_rfl) (by exact hS0) ?_
       refine zaa (v:= .bool false) 22 rfl rfl rfl (fun W hW=>by simp[execOp,go_sem]) ?_
       simp only[Act.put,z2d,z2f,z2e]
       refine zaa (v:= .bool false) 23 rfl rfl rfl (fun W hW=>by simp[execOp,go_sem]) ?_
       simp only[Act.put,z2d,z2f,z2e]
       refine zaa (v:= .pointer (some ⟨B1,4,none⟩)) 24 rfl rfl rfl (fun W hW=>by simp[execOp,go_sem]) ?_
       simp only[Act.put,z2d,z2f,z2e]
       refine zaa (v:= .slice (some ⟨b',off',none⟩) n2 j4) 25 rfl rfl rfl (fun W hW=>by have q:=(hW.cell (p:=⟨B1,4,none⟩) hBl).trans d4;simp[execOp,go_sem,q]) ?_
       simp only[Act.put,z2d,z2f,z2e]
       refine zaa (v:= .int .i64 (k:Nat)) 26 rfl rfl rfl (fun W hW=>by simp[execOp,go_sem]) ?_
       simp only[Act.put,z2d,z2f,z2e]
       refine zaa (v:= .pointer (some ⟨b',off'+k*2,none⟩)) 27 rfl rfl rfl (fun W hW=>by simp[execOp,go_sem,hlt2];try omega) ?_
       simp only[Act.put,z2d,z2f,z2e]
       refine zaa (v:= .pointer (some ⟨b',off'+k*2+1,none⟩)) 28 rfl rfl rfl (fun W hW=>by simp[execOp,go_sem]) ?_
       simp only[Act.put,z2d,z2f,z2e]
       refine zaa (v:= .string yn) 29 rfl rfl rfl (fun W hW=>by have q:=(hW.cell (p:=⟨b',off'+k*2+1,none⟩) hbw').trans f1;simp[execOp,go_sem,q]) ?_
       simp only[Act.put,z2d,z2f,z2e]
       refine zaa (v:= .pointer (some ⟨B,4,none⟩)) 30 rfl rfl rfl (fun W hW=>by simp[execOp,go_sem]) ?_
       simp only[Act.put,z2d,z2f,z2e]
       refine zaa (v:= .slice (some ⟨b,off,none⟩) n1 k4) 31 rfl rfl rfl (fun W hW=>by have q:=(hW.cell (p:=⟨B,4,none⟩) hBl0).trans c4;simp[execOp,go_sem,q]) ?_
       simp only[Act.put,z2d,z2f,z2e]
       refine zaa (v:= .int .i64 (i:Nat)) 32 rfl rfl rfl (fun W hW=>by simp[execOp,go_sem]) ?_
       simp only[Act.put,z2d,z2f,z2e]
       refine zaa (v:= .pointer (some ⟨b,off+i*2,none⟩)) 33 rfl rfl rfl (fun W hW=>by simp[execOp,go_sem,hlt];try omega) ?_
       simp only[Act.put,z2d,z2f,z2e]
       refine zaa (v:= .pointer (some ⟨b,off+i*2+1,none⟩)) 34 rfl rfl rfl (fun W hW=>by simp[execOp,go_sem]) ?_
       simp only[Act.put,z2d,z2f,z2e]
       refine zaa (v:= .string xn) 35 rfl rfl rfl (fun W hW=>by have q:=(hW.cell (p:=⟨b,off+i*2+1,none⟩) hbw).trans e1;simp[execOp,go_sem,q]) ?_
       simp only[Act.put,z2d,z2f,z2e]
       refine zaa (v:= .bool false) 36 rfl rfl rfl (fun W hW=>by simp[execOp,go_sem,q1]) ?_
       simp only[Act.put,z2d,z2f,z2e]
       refine zaa (v:= .bool false) 37 rfl rfl rfl (fun W hW=>by simp[execOp,go_sem]) ?_
       simp only[Act.put,z2d,z2f,z2e]
       refine zab 38 rfl rfl rfl ?_
       simp only[Act.put,z2d,z2f,z2e]
       refine zab 39 rfl rfl rfl ?_
       simp only[Act.put,z2d,z2f,z2e]
       refine zab 40 rfl rfl rfl ?_
       simp only[Act.put,z2d,z2f,z2e]
       refine zab 41 rfl rfl rfl ?_
       simp only[Act.put,z2d,z2f,z2e]
       refine zab 42 rfl rfl rfl ?_
       simp only[Act.put,z2d,z2f,z2e]
       refine zab 43 rfl rfl rfl ?_
       simp only[Act.put,z2d,z2f,z2e]
       refine zab 44 rfl rfl rfl ?_
       simp only[Act.put,z2d,z2f,z2e]
       refine zab 45 rfl rfl rfl ?_
       simp only[Act.put,z2d,z2f,z2e]
       refine zab 46 rfl rfl rfl ?_
       simp only[Act.put,z2d,z2f,z2e]
       refine zab 47 rfl rfl rfl ?_
       simp only[Act.put,z2d,z2f,z2e]
       refine zab 48 rfl rfl rfl ?_
       simp only[Act.put,z2d,z2f,z2e]
       refine zab 49 rfl rfl rfl ?_
       simp only[Act.put,z2d,z2f,z2e]
       refine zab 50 rfl rfl rfl ?_
       simp only[Act.put,z2d,z2f,z2e]
       refine zab 51 rfl rfl rfl ?_
       simp only[Act.put,z2d,z2f,z2e]
       refine zab 52 rfl rfl rfl ?_
       simp only[Act.put,z2d,z2f,z2e]
       refine zab 53 rfl rfl rfl ?_
       simp only[Act.put,z2d,z2f,z2e]
       refine zab 54 rfl rfl rfl ?_
       simp only[Act.put,z2d,z2f,z2e]
       refine zab 55 rfl rfl rfl ?_
       simp only[Act.put,z2d,z2f,z2e]
       refine zab 56 rfl rfl rfl ?_
       simp only[Act.put,z2d,z2f,z2e]
       refine zab 57 rfl rfl rfl ?_
       simp only[Act.put,z2d,z2f,z2e]
       refine zab 58 rfl rfl rfl ?_
       simp only[Act.put,z2d,z2f,z2e]
       refine zab 59 rfl rfl rfl ?_
       simp only[Act.put,z2d,z2f,z2e]
       refine zaa (v:= .bool false) 60 rfl rfl rfl (fun W hW=>by simp[execOp,go_sem]) ?_
       simp only[Act.put,z2d,z2f,z2e]
       refine zaa (v:= .bool false) 61 rfl rfl rfl (fun W hW=>by simp[execOp,go_sem]) ?_
       simp only[Act.put,z2d,z2f,z2e]
       dsimp only[zbe,List.drop]
       go_wp2_with fail
       go_roundw
       case rel=>exact⟨k+1,_,by omega,by go_num,rfl,HT2.out,hS0.trans ((bel:Below wr.drew.heap.size wr.drew _).mono hS0.size)⟩
       case measure=>simp[intOf];omega
      |true=>
       cases D2 with
       |true=>
        refine zai 40 [(0,true),(1,true),(2,true),(3,true),(4,true),(5,true),(6,true),(7,true),(8,true),(9,true),(10,true),(11,true),(12,true),(13,true),(14,true),(15,true),(16,true),(17,true),(18,true),(19,true),(20,true),(21,true),(22,true),(23,true),(24,true),(25,true),(26,true),(27,true),(28,true),(29,true),(30,true),(31,true),(32,true),(33,true),(34,true),(35,true),(36,true),(37,true),(38,true),(39,true)] (fun V=>Below W0.heap.size W0 V) hmx (by kernel_rfl) (by kernel_rfl) (by kernel_rfl) (by decide) rfl (fun c a d v w h=>by first|exact h|(obtain⟨x,y⟩:=(h:_/\_);cases d<;>exact⟨x,y⟩)) (by kernel_rfl) (by exact hS0) ?_
        refine zaa (v:= .bool false) 22 rfl rfl rfl (fun W hW=>by simp[execOp,go_sem]) ?_
        simp only[Act.put,z2d,z2f,z2e]
        refine zaa (v:= .bool false) 23 rfl rfl rfl (fun W hW=>by simp[execOp,go_sem]) ?_
        simp only[Act.put,z2d,z2f,z2e]
        refine zaa (v:= .pointer (some ⟨B1,4,none⟩)) 24 rfl rfl rfl (fun W hW=>by simp[execOp,go_sem]) ?_
        simp only[Act.put,z2d,z2f,z2e]
        refine zaa (v:= .slice (some ⟨b',off',none⟩) n2 j4) 25 rfl rfl rfl (fun W hW=>by have q:=(hW.cell (p:=⟨B1,4,none⟩) hBl).trans d4;simp[execOp,go_sem,q]) ?_
        simp only[Act.put,z2d,z2f,z2e]
        refine zaa (v:= .int .i64 (k:Nat)) 26 rfl rfl rfl (fun W hW=>by simp[execOp,go_sem]) ?_
        simp only[Act.put,z2d,z2f,z2e]
        refine zaa (v:= .pointer (some ⟨b',off'+k*2,none⟩)) 27 rfl rfl rfl (fun W hW=>by simp[execOp,go_sem,hlt2];try omega) ?_
        simp only[Act.put,z2d,z2f,z2e]
        refine zaa (v:= .pointer (some ⟨b',off'+k*2+1,none⟩)) 28 rfl rfl rfl (fun W hW=>by simp[execOp,go_sem]) ?_
        simp only[Act.put,z2d,z2f,z2e]
        refine zaa (v:= .string yn) 29 rfl rfl rfl (fun W hW=>by have q:=(hW.cell (p:=⟨b',off'+k*2+1,none⟩) hbw').trans f1;simp[execOp,go_sem,q]) ?_
        simp only[Act.put,z2d,z2f,z2e]
        refine zaa (v:= .pointer (some ⟨B,4,none⟩)) 30 rfl rfl rfl (fun W hW=>by simp[execOp,go_sem]) ?_
        simp only[Act.put,z2d,z2f,z2e]
        refine zaa (v:= .slice (some ⟨b,off,none⟩) n1 k4) 31 rfl rfl rfl (fun W hW=>by have q:=(hW.cell (p:=⟨B,4,none⟩) hBl0).trans c4;simp[execOp,go_sem,q]) ?_
        simp only[Act.put,z2d,z2f,z2e]
        refine zaa (v:= .int .i64 (i:Nat)) 32 rfl rfl rfl (fun W hW=>by simp[execOp,go_sem]) ?_
        simp only[Act.put,z2d,z2f,z2e]
        refine zaa (v:= .pointer (some ⟨b,off+i*2,none⟩)) 33 rfl rfl rfl (fun W hW=>by simp[execOp,go_sem,hlt];try omega) ?_
        simp only[Act.put,z2d,z2f,z2e]
        refine zaa (v:= .pointer (some ⟨b,off+i*2+1,none⟩)) 34 rfl rfl rfl (fun W hW=>by simp[execOp,go_sem]) ?_
        simp only[Act.put,z2d,z2f,z2e]
        refine zaa (v:= .string xn) 35 rfl rfl rfl (fun W hW=>by have q:=(hW.cell (p:=⟨b,off+i*2+1,none⟩) hbw).trans e1;simp[execOp,go_sem,q]) ?_
        simp only[Act.put,z2d,z2f,z2e]
        refine zaa (v:= .bool true) 36 rfl rfl rfl (fun W hW=>by simp[execOp,go_sem,q1]) ?_
        simp only[Act.put,z2d,z2f,z2e]
        refine zaa (v:= .bool true) 37 rfl rfl rfl (fun W hW=>by simp[execOp,go_sem]) ?_
        simp only[Act.put,z2d,z2f,z2e]
        refine zaa (v:= .pointer (some ⟨B1,4,none⟩)) 38 rfl rfl rfl (fun W hW=>by simp[execOp,go_sem]) ?_
        simp only[Act.put,z2d,z2f,z2e]
        refine zaa (v:= .slice (some ⟨b',off',none⟩) n2 j4) 39 rfl rfl rfl (fun W hW=>by have q:=(hW.cell (p:=⟨B1,4,none⟩) hBl).trans d4;simp[execOp,go_sem,q]) ?_
        simp only[Act.put,z2d,z2f,z2e]
        refine zaa (v:= .int .i64 (k:Nat)) 40 rfl rfl rfl (fun W hW=>by simp[execOp,go_sem]) ?_
        simp only[Act.put,z2d,z2f,z2e]
        refine zaa (v:= .pointer (some ⟨b',off'+k*2,none⟩)) 41 rfl rfl rfl (fun W hW=>by simp[execOp,go_sem,hlt2];try omega) ?_
        simp only[Act.put,z2d,z2f,z2e]
        refine zaa (v:= .pointer (some ⟨b',off'+k*2,none⟩)) 42 rfl rfl rfl (fun W hW=>by simp[execOp,go_sem]) ?_
        simp only[Act.put,z2d,z2f,z2e]
        refine zaa (v:= .string yt) 43 rfl rfl rfl (fun W hW=>by have q:=(hW.cell (p:=⟨b',off'+k*2,none⟩) hbw').trans f0;simp[execOp,go_sem,q]) ?_
        simp only[Act.put,z2d,z2f,z2e]
        refine zaa (v:= .bool true) 44 rfl rfl rfl (fun W hW=>by simp[execOp,go_sem,q2]) ?_
        simp only[Act.put,z2d,z2f,z2e]
        refine zaa (v:= .bool true) 45 rfl rfl rfl (fun W hW=>by simp[execOp,go_sem]) ?_
        simp only[Act.put,z2d,z2f,z2e]
        refine zab 46 rfl rfl rfl ?_
        simp only[Act.put,z2d,z2f,z2e]
        refine zab 47 rfl rfl rfl ?_
        simp only[Act.put,z2d,z2f,z2e]
        refine zab 48 rfl rfl rfl ?_
        simp only[Act.put,z2d,z2f,z2e]
        refine zab 49 rfl rfl rfl ?_
        simp only[Act.put,z2d,z2f,z2e]
        refine zab 50 rfl rfl rfl ?_
        simp only[Act.put,z2d,z2f,z2e]
        refine zab 51 rfl rfl rfl ?_
        simp only[Act.put,z2d,z2f,z2e]
        refine zab 52 rfl rfl rfl ?_
        simp only[Act.put,z2d,z2f,z2e]
        refine zab 53 rfl rfl rfl ?_
        simp only[Act.put,z2d,z2f,z2e]
        refine zab 54 rfl rfl rfl ?_
        simp only[Act.put,z2d,z2f,z2e]
        refine zab 55 rfl rfl rfl ?_
        simp only[Act.put,z2d,z2f,z2e]
        refine zab 56 rfl rfl rfl ?_
        simp only[Act.put,z2d,z2f,z2e]
        refine zab 57 rfl rfl rfl ?_
        simp only[Act.put,z2d,z2f,z2e]
        refine zab 58 rfl rfl rfl ?_
        simp only[Act.put,z2d,z2f,z2e]
        refine zaa (v:= .bool true) 59 rfl rfl rfl (fun W hW=>by simp[execOp,go_sem]) ?_
        simp only[Act.put,z2d,z2f,z2e]
        refine zaa (v:= .bool true) 60 rfl rfl rfl (fun W hW=>by simp[execOp,go_sem]) ?_
        simp only[Act.put,z2d,z2f,z2e]
        refine zaa (v:= .bool true) 61 rfl rfl rfl (fun W hW=>by simp[execOp,go_sem]) ?_
        simp only[Act.put,z2d,z2f,z2e]
        dsimp only[zbe,List.drop]
        go_wp2_with fail
        go_roundw
        case rel=>exact⟨k+1,_,by omega,by go_num,rfl,HT2.out,hS0.trans ((bel:Below wr.drew.heap.size wr.drew _).mono hS0.size)⟩
        case measure=>simp[intOf];omega
       |false=>
        refine zai 40 [(0,true),(1,true),(2,true),(3,true),(4,true),(5,true),(6,true),(7,true),(8,true),(9,true),(10,true),(11,true),(12,true),(13,true),(14,true),(15,true),(16,true),(17,true),(18,true),(19,true),(20,true),(21,true),(22,true),(23,true),(24,true),(25,true),(26,true),(27,true),(28,true),(29,true),(30,true),(31,true),(32,true),(33,true),(34,true),(35,true),(36,true),(37,true),(38,true),(39,true)] (fun V=>Below W0.heap.size W0 V) hmx (by kernel_rfl) (by kernel_rfl) (by kernel_rfl) (by decide) rfl (fun c a d v w h=>by first|exact h|(obtain⟨x,y⟩:=(h:_/\_);cases d<;>exact⟨x,y⟩)) (by kernel_rfl) (by exact hS0) ?_
        refine zaa (v:= .bool false) 22 rfl rfl rfl (fun W hW=>by simp[execOp,go_sem]) ?_
        simp only[Act.put,z2d,z2f,z2e]
        refine zaa (v:= .bool false) 23 rfl rfl rfl (fun W hW=>by simp[execOp,go_sem]) ?_
        simp only[Act.put,z2d,z2f,z2e]
        refine zaa (v:= .pointer (some ⟨B1,4,none⟩)) 24 rfl rfl rfl (fun W hW=>by simp[execOp,go_sem]) ?_
        simp only[Act.put,z2d,z2f,z2e]
        refine zaa (v:= .slice (some ⟨b',off',none⟩) n2 j4) 25 rfl rfl rfl (fun W hW=>by have q:=(hW.cell (p:=⟨B1,4,none⟩) hBl).trans d4;simp[execOp,go_sem,q]) ?_
        simp only[Act.put,z2d,z2f,z2e]
        refine zaa (v:= .int .i64 (k:Nat)) 26 rfl rfl rfl (fun W hW=>by simp[execOp,go_sem]) ?_
        simp only[Act.put,z2d,z2f,z2e]
        refine zaa (v:= .pointer (some ⟨b',off'+k*2,none⟩)) 27 rfl rfl rfl (fun W hW=>by simp[execOp,go_sem,hlt2];try omega) ?_
        simp only[Act.put,z2d,z2f,z2e]
        refine zaa (v:= .pointer (some ⟨b',off'+k*2+1,none⟩)) 28 rfl rfl rfl (fun W hW=>by simp[execOp,go_sem]) ?_
        simp only[Act.put,z2d,z2f,z2e]
        refine zaa (v:= .string yn) 29 rfl rfl rfl (fun W hW=>by have q:=(hW.cell (p:=⟨b',off'+k*2+1,none⟩) hbw').trans f1;simp[execOp,go_sem,q]) ?_
        simp only[Act.put,z2d,z2f,z2e]
        refine zaa (v:= .pointer (some ⟨B,4,none⟩)) 30 rfl rfl rfl (fun W hW=>by simp[execOp,go_sem]) ?_
        simp only[Act.put,z2d,z2f,z2e]
        refine zaa (v:= .slice (some ⟨b,off,none⟩) n1 k4) 31 rfl rfl rfl (fun W hW=>by have q:=(hW.cell (p:=⟨B,4,none⟩) hBl0).trans c4;simp[execOp,go_sem,q]) ?_
        simp only[Act.put,z2d,z2f,z2e]
        refine zaa (v:= .int .i64 (i:Nat)) 32 rfl rfl rfl (fun W hW=>by simp[execOp,go_sem]) ?_
        simp only[Act.put,z2d,z2f,z2e]
        refine zaa (v:= .pointer (some ⟨b,off+i*2,none⟩)) 33 rfl rfl rfl (fun W hW=>by simp[execOp,go_sem,hlt];try omega) ?_
        simp only[Act.put,z2d,z2f,z2e]
        refine zaa (v:= .pointer (some ⟨b,off+i*2+1,none⟩)) 34 rfl rfl rfl (fun W hW=>by simp[execOp,go_sem]) ?_
        simp only[Act.put,z2d,z2f,z2e]
        refine zaa (v:= .string xn) 35 rfl rfl rfl (fun W hW=>by have q:=(hW.cell (p:=⟨b,off+i*2+1,none⟩) hbw).trans e1;simp[execOp,go_sem,q]) ?_
        simp only[Act.put,z2d,z2f,z2e]
        refine zaa (v:= .bool true) 36 rfl rfl rfl (fun W hW=>by simp[execOp,go_sem,q1]) ?_
        simp only[Act.put,z2d,z2f,z2e]
        refine zaa (v:= .bool true) 37 rfl rfl rfl (fun W hW=>by simp[execOp,go_sem]) ?_
        simp only[Act.put,z2d,z2f,z2e]
        refine zaa (v:= .pointer (some ⟨B1,4,none⟩)) 38 rfl rfl rfl (fun W hW=>by simp[execOp,go_sem]) ?_
        simp only[Act.put,z2d,z2f,z2e]
        refine zaa (v:= .slice (some ⟨b',off',none⟩) n2 j4) 39 rfl rfl rfl (fun W hW=>by have q:=(hW.cell (p:=⟨B1,4,none⟩) hBl).trans d4;simp[execOp,go_sem,q]) ?_
        simp only[Act.put,z2d,z2f,z2e]
        refine zaa (v:= .int .i64 (k:Nat)) 40 rfl rfl rfl (fun W hW=>by simp[execOp,go_sem]) ?_
        simp only[Act.put,z2d,z2f,z2e]
        refine zaa (v:= .pointer (some ⟨b',off'+k*2,none⟩)) 41 rfl rfl rfl (fun W hW=>by simp[execOp,go_sem,hlt2];try omega) ?_
        simp only[Act.put,z2d,z2f,z2e]
        refine zaa (v:= .pointer (some ⟨b',off'+k*2,none⟩)) 42 rfl rfl rfl (fun W hW=>by simp[execOp,go_sem]) ?_
        simp only[Act.put,z2d,z2f,z2e]
        refine zaa (v:= .string yt) 43 rfl rfl rfl (fun W hW=>by have q:=(hW.cell (p:=⟨b',off'+k*2,none⟩) hbw').trans f0;simp[execOp,go_sem,q]) ?_
        simp only[Act.put,z2d,z2f,z2e]
        refine zaa (v:= .bool false) 44 rfl rfl rfl (fun W hW=>by simp[execOp,go_sem,q2]) ?_
        simp only[Act.put,z2d,z2f,z2e]
        refine zaa (v:= .bool false) 45 rfl rfl rfl (fun W hW=>by simp[execOp,go_sem]) ?_
        simp only[Act.put,z2d,z2f,z2e]
        refine zaa (v:= .pointer (some ⟨B1,4,none⟩)) 46 rfl rfl rfl (fun W hW=>by simp[execOp,go_sem]) ?_
        simp only[Act.put,z2d,z2f,z2e]
        refine zaa (v:= .slice (some ⟨b',off',none⟩) n2 j4) 47 rfl rfl rfl (fun W hW=>by have q:=(hW.cell (p:=⟨B1,4,none⟩) hBl).trans d4;simp[execOp,go_sem,q]) ?_
        simp only[Act.put,z2d,z2f,z2e]
        refine zaa (v:= .int .i64 (k:Nat)) 48 rfl rfl rfl (fun W hW=>by simp[execOp,go_sem]) ?_
        simp only[Act.put,z2d,z2f,z2e]
        refine zaa (v:= .pointer (some ⟨b',off'+k*2,none⟩)) 49 rfl rfl rfl (fun W hW=>by simp[execOp,go_sem,hlt2];try omega) ?_
        simp only[Act.put,z2d,z2f,z2e]
        refine zaa (v:= .pointer (some ⟨b',off'+k*2,none⟩)) 50 rfl rfl rfl (fun W hW=>by simp[execOp,go_sem]) ?_
        simp only[Act.put,z2d,z2f,z2e]
        refine zaa (v:= .string yt) 51 rfl rfl rfl (fun W hW=>by have q:=(hW.cell (p:=⟨b',off'+k*2,none⟩) hbw').trans f0;simp[execOp,go_sem,q]) ?_
        simp only[Act.put,z2d,z2f,z2e]
        refine zaa (v:= .pointer (some ⟨B,4,none⟩)) 52 rfl rfl rfl (fun W hW=>by simp[execOp,go_sem]) ?_
        simp only[Act.put,z2d,z2f,z2e]
        refine zaa (v:= .slice (some ⟨b,off,none⟩) n1 k4) 53 rfl rfl rfl (fun W hW=>by have q:=(hW.cell (p:=⟨B,4,none⟩) hBl0).trans c4;simp[execOp,go_sem,q]) ?_
        simp only[Act.put,z2d,z2f,z2e]
        refine zaa (v:= .int .i64 (i:Nat)) 54 rfl rfl rfl (fun W hW=>by simp[execOp,go_sem]) ?_
        simp only[Act.put,z2d,z2f,z2e]
        refine zaa (v:= .pointer (some ⟨b,off+i*2,none⟩)) 55 rfl rfl rfl (fun W hW=>by simp[execOp,go_sem,hlt];try omega) ?_
        simp only[Act.put,z2d,z2f,z2e]
        refine zaa (v:= .pointer (some ⟨b,off+i*2,none⟩)) 56 rfl rfl rfl (fun W hW=>by simp[execOp,go_sem]) ?_
        simp only[Act.put,z2d,z2f,z2e]
        refine zaa (v:= .string xt) 57 rfl rfl rfl (fun W hW=>by have q:=(hW.cell (p:=⟨b,off+i*2,none⟩) hbw).trans e0;simp[execOp,go_sem,q]) ?_
        simp only[Act.put,z2d,z2f,z2e]
        refine zaa (v:= .bool D3) 58 rfl rfl rfl (fun W hW=>by simp[execOp,go_sem,q3]) ?_
        simp only[Act.put,z2d,z2f,z2e]
        refine zaa (v:= .bool D3) 59 rfl rfl rfl (fun W hW=>by simp[execOp,go_sem]) ?_
        simp only[Act.put,z2d,z2f,z2e]
        refine zaa (v:= .bool D3) 60 rfl rfl rfl (fun W hW=>by simp[execOp,go_sem]) ?_
        simp only[Act.put,z2d,z2f,z2e]
        refine zaa (v:= .bool D3) 61 rfl rfl rfl (fun W hW=>by simp[execOp,go_sem]) ?_
        simp only[Act.put,z2d,z2f,z2e]
        dsimp only[zbe,List.drop]
        go_wp2_with fail
        go_roundw
        case rel=>exact⟨k+1,_,by omega,by go_num,rfl,HT2.out,hS0.trans ((bel:Below wr.drew.heap.size wr.drew _).mono hS0.size)⟩
        case measure=>simp[intOf];omega
    ·have HF:Hid (R=O):=by show _=_;rw[HKk.out,List.drop_eq_nil_of_le (by rw[HN2.out];omega)];simp
     clear HKk
     cases O with
     |true=>
      have HQ2:Hid (ALL=(p.attrs.drop (i+1)).all (zf7 q)):=by show _=_;rw[HQ1.out,HF.out];rfl
      clear HQ1 HF
      go_wp2_with fail
      go_roundw
      case rel=>exact⟨i+1,by omega,by go_num,HQ2.out,HB.out.trans ((bel:Below wr.heap.size wr _).mono HB.out.size)⟩
      case measure=>simp[intOf];omega
     |false=>
      have HQ2:Hid (ALL=false):=by show _=_;rw[HQ1.out,HF.out];rfl
      have HBw:=z2g (HB0.out.trans (HB.out.mono HB0.out.size))
      clear HQ1 HF
      go_wp2_with fail
      go_ret
      exact Ret.of (by rw[HQ2.out];rfl) (HBw.out.trans ((bel:Below wr.heap.size wr _).mono HBw.out.size))
  ·have HT9:Hid (ALL=true):=by show _=_;rw[HK.out,List.drop_eq_nil_of_le (by rw[HN1.out];omega)];rfl
   have HBw:=z2g (HB0.out.trans (HB.out.mono HB0.out.size))
   have HGW:=z2g (fun W (hb:Below wr.heap.size wr W)=>HBw.out.trans (hb.mono HBw.out.size))
   have cc0:=(HB.out.cell (p:=⟨B,0,none⟩) hBl0).trans c0
   have cc1:=(HB.out.cell (p:=⟨B,1,none⟩) hBl0).trans c1
   have cc2:=(HB.out.cell (p:=⟨B,2,none⟩) hBl0).trans c2
   have cc3:=(HB.out.cell (p:=⟨B,3,none⟩) hBl0).trans c3
   have cc6:=(HB.out.cell (p:=⟨B,6,none⟩) hBl0).trans c6
   have cc7:=(HB.out.cell (p:=⟨B,7,none⟩) hBl0).trans c7
   have cc8:=(HB.out.cell (p:=⟨B,8,none⟩) hBl0).trans c8
   have cc9:=(HB.out.cell (p:=⟨B,9,none⟩) hBl0).trans c9
   have dd0:=(HB.out.cell (p:=⟨B1,0,none⟩) hBl).trans d0
   have dd1:=(HB.out.cell (p:=⟨B1,1,none⟩) hBl).trans d1
   have dd2:=(HB.out.cell (p:=⟨B1,2,none⟩) hBl).trans d2
   have dd3:=(HB.out.cell (p:=⟨B1,3,none⟩) hBl).trans d3
   have dd6:=(HB.out.cell (p:=⟨B1,6,none⟩) hBl).trans d6
   have dd7:=(HB.out.cell (p:=⟨B1,7,none⟩) hBl).trans d7
   have dd8:=(HB.out.cell (p:=⟨B1,8,none⟩) hBl).trans d8
   have dd9:=(HB.out.cell (p:=⟨B1,9,none⟩) hBl).trans d9
   clear HK H4 G4 c0 c1 c2 c3 c4 c5 c6 c7 c8 c9 d0 d1 d2 d3 d4 d5 d6 d7 d8 d9
   generalize p.rel=r1 at*
   generalize q.rel=r2 at*
   generalize p.depth=m1 at*
   generalize q.depth=m2 at*
   generalize p.name=nn1 at*
   generalize q.name=nn2 at*
   generalize p.value=o1 at*
   generalize q.value=o2 at*
   cases T
   case' true=>cases S
   case' true.true=>cases C
   case' true.true.true=>cases D
   case true.true.true.true=>
    go_upto_region 13 with(first
     |(go_at_call 78;(with_reducible refine(Ret.flat (HT.out _ (HGW.out _ bel))).mono ?_);rintro e W1 ⟨rfl,X1,rfl⟩)
     |(go_at_call 78;(with_reducible refine(HT.out _ (HGW.out _ bel)).mono ?_);rintro e W1 ⟨rfl,X1,rfl⟩)
     |(go_at_call 78;(with_reducible refine(Ret.flat (HS.out _ (HGW.out _ bel))).mono ?_);rintro e W1 ⟨rfl,X1,rfl⟩)
     |(go_at_call 78;(with_reducible refine(HS.out _ (HGW.out _ bel)).mono ?_);rintro e W1 ⟨rfl,X1,rfl⟩)
     |(go_at_call 78;(with_reducible refine(Ret.flat (HC.out _ (HGW.out _ bel))).mono ?_);rintro e W1 ⟨rfl,X1,rfl⟩)
     |(go_at_call 78;(with_reducible refine(HC.out _ (HGW.out _ bel)).mono ?_);rintro e W1 ⟨rfl,X1,rfl⟩)
     |(go_at_call 78;(with_reducible refine(Ret.flat (HD.out _ (HGW.out _ bel))).mono ?_);rintro e W1 ⟨rfl,X1,rfl⟩)
     |(go_at_call 78;(with_reducible refine(HD.out _ (HGW.out _ bel)).mono ?_);rintro e W1 ⟨rfl,X1,rfl⟩))
    refine zaf fun W9 hW9=> ?_
    have hb9:Below wr.heap.size wr W9:=by rw[hW9];exact bel
    have l6:=(hb9.cell (p:=⟨B,6,none⟩) hbr0).trans cc6
    have l7:=(hb9.cell (p:=⟨B,7,none⟩) hbr0).trans cc7
    have l8:=(hb9.cell (p:=⟨B,8,none⟩) hbr0).trans cc8
    have l9:=(hb9.cell (p:=⟨B,9,none⟩) hbr0).trans cc9
    have m6:=(hb9.cell (p:=⟨B1,6,none⟩) hbr1).trans dd6
    have m7:=(hb9.cell (p:=⟨B1,7,none⟩) hbr1).trans dd7
    have m8:=(hb9.cell (p:=⟨B1,8,none⟩) hbr1).trans dd8
    have m9:=(hb9.cell (p:=⟨B1,9,none⟩) hbr1).trans dd9
    have g0:B<W9.heap.size:=z2h hbr0 hb9.size
    have g1:B1<W9.heap.size:=z2h hbr1 hb9.size
    have HBq:=z2g (HBw.out.trans (hb9.mono HBw.out.size))
    clear hW9 hb9 cc0 cc1 cc2 cc3 cc6 cc7 cc8 cc9 dd0 dd1 dd2 dd3 dd6 dd7 dd8 dd9
    obtain⟨L,hL⟩: ∃L,(!r1||r2)=L:=⟨_,rfl⟩
    rw[hL]at HLm
    clear HT HS HC HD HGW
    cases L
    case false=>
     obtain rfl:r1=true:=by cases r1<;>simp_all
     obtain rfl:r2=false:=by cases r2<;>simp_all
     clear hL
     go_wp2_with fail
     go_ret
     exact Ret.of (by rw[HT9.out,HLm.out];rfl) (HBq.out.trans ((bel:Below W9.heap.size W9 _).mono HBq.out.size))
    case true=>
     by_cases b1:m1<=m2
     ·by_cases b2:nn1<=nn2
      ·by_cases b3:o1<=o2
       all_goals
        cases r1<;>cases r2<;>try(exfalso;revert hL;decide)
        all_goals
         clear hL
         go_wp2_with fail
         go_ret
         exact Ret.of (by rw[HT9.out,HLm.out];simp[b1,b2,b3]<;>omega) (HBq.out.trans ((bel:Below W9.heap.size W9 _).mono HBq.out.size))
      ·cases r1<;>cases r2<;>try(exfalso;revert hL;decide)
       all_goals
        clear hL
        go_wp2_with fail
        go_ret
        exact Ret.of (by rw[HT9.out,HLm.out];simp[b1]<;>omega) (HBq.out.trans ((bel:Below W9.heap.size W9 _).mono HBq.out.size))
     ·cases r1<;>cases r2<;>try(exfalso;revert hL;decide)
      all_goals
       clear hL
       go_wp2_with fail
       go_ret
       exact Ret.of (by rw[HT9.out,HLm.out];simp<;>omega) (HBq.out.trans ((bel:Below W9.heap.size W9 _).mono HBq.out.size))
   all_goals
    clear HLm
    go_wp2_with(first
      |(go_at_call 78;(with_reducible refine(Ret.flat (HT.out _ (HGW.out _ bel))).mono ?_);rintro e W1 ⟨rfl,X1,rfl⟩)
      |(go_at_call 78;(with_reducible refine(HT.out _ (HGW.out _ bel)).mono ?_);rintro e W1 ⟨rfl,X1,rfl⟩)
      |(go_at_call 78;(with_reducible refine(Ret.flat (HS.out _ (HGW.out _ bel))).mono ?_);rintro e W1 ⟨rfl,X1,rfl⟩)
      |(go_at_call 78;(with_reducible refine(HS.out _ (HGW.out _ bel)).mono ?_);rintro e W1 ⟨rfl,X1,rfl⟩)
      |(go_at_call 78;(with_reducible refine(Ret.flat (HC.out _ (HGW.out _ bel))).mono ?_);rintro e W1 ⟨rfl,X1,rfl⟩)
      |(go_at_call 78;(with_reducible refine(HC.out _ (HGW.out _ bel)).mono ?_);rintro e W1 ⟨rfl,X1,rfl⟩)
      |(go_at_call 78;(with_reducible refine(Ret.flat (HD.out _ (HGW.out _ bel))).mono ?_);rintro e W1 ⟨rfl,X1,rfl⟩)
      |(go_at_call 78;(with_reducible refine(HD.out _ (HGW.out _ bel)).mono ?_);rintro e W1 ⟨rfl,X1,rfl⟩))
    go_ret
    exact Ret.of (by simp) (HBw.out.trans ((bel:Below wr.heap.size wr _).mono HBw.out.size))
end Go.Proofs.YtbhhgbgfaemfdaaGreatDoor

