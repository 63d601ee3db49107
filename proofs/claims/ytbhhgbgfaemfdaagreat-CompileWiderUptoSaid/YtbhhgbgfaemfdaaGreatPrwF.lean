/- The walks of print.among and print.Within. (written by gen_within.py) -/
import Derived.Test.YtbhhgbgfaemfdaaGreatRGW
import Derived.BigRegion
import Derived.Test.YtbhhgbgfaemfdaaGreatC3
import Derived.Test.YtbhhgbgfaemfdaaGreatR1
import Derived.Test.YtbhhgbgfaemfdaaGreatRG
import Derived.Test.YtbhhgbgfaemfdaaGreatPrnPlain
namespace Go.Proofs.YtbhhgbgfaemfdaaGreat
set_option maxRecDepth 100000
set_option maxHeartbeats 1600000
open Go.RowKit
attribute [local go_sem] Oper.semAt_some
theorem strange9_any (b:Nat) (v:Value) (o:List Bs) (t:Bs) (W:World) (hc:W.cell? ⟨b,0,none⟩=some v) (h:Rd W v o.length 1 (o.map sv)):Calls Tryz.prog 90 #[sv t,.pointer (some ⟨b,0,none⟩)] W (Ret (.bool (!decide (t∈o))) W):=by
 have HC:=Lib.hid (contains_any v o t W h)
 have hb:=World.block_lt_of_cell? W _ hc
 unfold sv
 generalize decide (t∈o)=D at*
 generalize(⟨t.toArray⟩:ByteArray)=x at*
 clear h
 go_enter Tryz.func90,Tryz.ntmps90
 go_wp2_with(go_at_call 91;(with_reducible refine HC.out.mono ?_);rintro e w' ⟨rfl,rfl⟩)
 go_ret
 exact Ret.of rfl bel
theorem among_eq (l o:List Bs):(!l.any fun t=> !decide (t∈o))=amongB l o:=by
 unfold amongB
 rw[Bool.eq_iff_iff]
 simp
theorem among_any (v u:Value) (l o:List Bs) (w:World) (h:Rd w v l.length 1 (l.map sv)) (g:Rd w u o.length 1 (o.map sv)):Calls Tryz.prog 50 #[v,u] w (Ret (.bool (amongB l o)) w):=by
 have hk:Hid (Below w.heap.size w (w.alloc (.cells #[u] 36))):=by show Below _ _ _;exact bel
 obtain⟨A2,c2,rfl⟩: ∃A c,u= .slice A o.length c:=by obtain⟨_,_,A,c,e,_⟩:=g;exact⟨A,c,e⟩
 have hcl:(w.alloc (.cells #[.slice A2 o.length c2] 36)).cell? ⟨w.heap.size,0,none⟩=some (.slice A2 o.length c2):=by simp[go_sem]
 have HF:=Lib.hid (hasS_fn v l 90 #[] #[.pointer (some ⟨w.heap.size,0,none⟩)] (fun t=> !decide (t∈o)) _ (h.belowW hk.out) ⟨enters_of Tryz.func90 (by kernel_rfl) rfl,fun t _ W hW=>strange9_any w.heap.size _ o t W ((hW.cell (p:=⟨w.heap.size,0,none⟩) (by simp)).trans hcl) (g.belowW (hk.out.trans (hW.mono hk.out.size)))⟩)
 have HE:=Lib.hid (among_eq l o)
 generalize l.any (fun t=> !decide (t∈o))=D at*
 clear h g hcl hk
 go_enter Tryz.func50,Tryz.ntmps50
 go_wp2_with(go_at_call 59;(refine HF.out.mono ?_);rintro e W1 ⟨rfl,X1,rfl⟩)
 go_ret
 exact Ret.of (by first|rfl|(rw[HE.out];rfl)|rw[HE.out]) bel
theorem idxA_any (v:Value) (l:List Alw) (y:Alw) (w:World) (h:Rd w v l.length 2 (l.flatMap Alw.cells)):
  Calls Tryz.prog 89 #[v,.agg #[.string ⟨y.tag.toArray⟩,.string ⟨y.name.toArray⟩]] w fun e w'=> ∃i:Int,e= .returned (.int .i64 i)/\decide (0<=i)=decide (y∈l)/\Below w.heap.size w w':=by
 have hmx:Tryz.prog.follows .mixedOrders=true:=by kernel_rfl
 obtain⟨_,hm,A,c,rfl,h4⟩:=h
 obtain⟨n,hn⟩: ∃n,l.length=n:=⟨_,rfl⟩
 have HN:=Lib.hid hn
 have HD0:Hid (decide (y∈l)=decide (y∈l.drop 0)):=by show _=_;rw[List.drop_zero]
 obtain⟨D,hD⟩: ∃D,decide (y∈l)=D:=⟨_,rfl⟩
 rw[hD]at HD0 ⊢
 rw[hn]at hm h4 ⊢
 clear hn hD
 have H4:=Lib.hid h4
 have HQ:=Lib.hid (fun x:Alw=>show(((⟨y.tag.toArray⟩:ByteArray).toList==(⟨x.tag.toArray⟩:ByteArray).toList)&&((⟨y.name.toArray⟩:ByteArray).toList==(⟨x.name.toArray⟩:ByteArray).toList))=decide (y=x) by
  rw[ba_bq,ba_bq]
  obtain⟨y1,y2⟩:=y
  obtain⟨x1,x2⟩:=x
  rw[Bool.eq_iff_iff];simp)
 clear h4
 generalize hxs:(⟨y.tag.toArray⟩:ByteArray)=yt at*
 generalize hxn:(⟨y.name.toArray⟩:ByteArray)=yn at*
 clear hxs hxn
 go_enter Tryz.func89,Tryz.ntmps89
 go_wp2_with fail
 obtain⟨W0,hW0⟩: ∃W0,w.alloc (.cells #[.string yt,.string yn] 65)=W0:=⟨_,rfl⟩
 have HB0:Hid (Below w.heap.size w W0):=by show Below _ _ _;rw[<-hW0];exact bel
 have y0:W0.cell? ⟨w.heap.size,0,none⟩=some (.string yt):=by rw[<-hW0];simp[go_sem]
 have y1:W0.cell? ⟨w.heap.size,1,none⟩=some (.string yn):=by rw[<-hW0];simp[go_sem]
 have hl0:w.heap.size<W0.heap.size:=World.block_lt_of_cell? W0 _ y0
 obtain⟨B,hB⟩: ∃B,w.heap.size=B:=⟨_,rfl⟩
 rw[hB]at y0 y1 hl0
 rw[hW0,hB]
 clear hW0
 go_loopw [8] (fun i wr=> ∃k:Nat,k<=n/\i= .int .i64 (k:Nat)/\Hid (D=decide (y∈l.drop k))/\Hid (Below W0.heap.size W0 wr)) (fun i _=>n-(intOf i).toNat)
 case atStart=>exact⟨0,by omega,rfl,HD0.out,by show Below _ _ _;exact bel⟩
 case round=>
  clear HD0
  obtain⟨k,hk,rfl,HK,HB⟩:=hrel
  have HBw:=Lib.hid (HB0.out.trans (HB.out.mono HB0.out.size))
  have z0:=(HB.out.cell (p:=⟨B,0,none⟩) hl0).trans y0
  have z1:=(HB.out.cell (p:=⟨B,1,none⟩) hl0).trans y1
  have hz:B<wr.heap.size:=Nat.lt_of_lt_of_le hl0 HB.out.size
  by_cases hlt:k<n
  ·obtain⟨b,off,rfl,hb,hc⟩:=H4.out (by omega)
   have hkl:k<l.length:=by rw[HN.out];exact hlt
   obtain⟨x,hx⟩: ∃x,l[k]=x:=⟨_,rfl⟩
   have x0:wr.cell? ⟨b,off+k*2,none⟩=some (.string ⟨x.tag.toArray⟩):=(HBw.out.cell (p:=⟨b,off+k*2,none⟩) hb).trans (hc (k*2+0) (sv x.tag) (by rw[flat_atC Alw.cells 2 (fun _=>rfl) l k 0 hkl (by omega),hx];rfl))
   have x1:wr.cell? ⟨b,off+k*2+1,none⟩=some (.string ⟨x.name.toArray⟩):=(HBw.out.cell (p:=⟨b,off+k*2+1,none⟩) hb).trans ((congrArg (fun i=>w.cell? ⟨b,i,none⟩) (by omega)).trans (hc (k*2+1) (sv x.name) (by rw[flat_atC Alw.cells 2 (fun _=>rfl) l k 1 hkl (by omega),hx];rfl)))
   have hbr:b<wr.heap.size:=Nat.lt_of_lt_of_le hb HBw.out.size
   have HD:Hid (l.drop k=x::l.drop (k+1)):=by show _=_;rw[List.drop_eq_getElem_cons hkl,hx]
   have hq:=HQ.out x
   clear hc hx hkl HQ y0 y1
   generalize(⟨x.tag.toArray⟩:ByteArray)=xt at*
   generalize(⟨x.name.toArray⟩:ByteArray)=xn at*
   by_cases he:y=x
   ·rw[decide_eq_true he]at hq
    have HT:Hid (D=true):=by show _=_;rw[HK.out,HD.out,he];simp
    clear HK HD he
    go_wp2_with fail
    go_region
    go_wp2_with fail
    go_ret
    exact⟨k,rfl,by rw[HT.out];simp,HBw.out.trans ((bel:Below wr.heap.size wr _).mono HBw.out.size)⟩
   ·rw[decide_eq_false he]at hq
    have HT:Hid (D=decide (y∈l.drop (k+1))):=by show _=_;rw[HK.out,HD.out];simp[he]
    clear HK HD he
    go_wp2_with fail
    go_region
    go_wp2_with fail
    go_roundw
    case rel=>exact⟨k+1,by omega,by go_num,HT.out,by show Below _ _ _;exact HB.out.trans ((bel:Below wr.heap.size wr _).mono HB.out.size)⟩
    case measure=>simp[intOf];omega
  ·have HT:Hid (D=false):=by show _=_;rw[HK.out,List.drop_eq_nil_of_le (by rw[HN.out];omega)];rfl
   go_wp2_with fail
   go_ret
   exact⟨-1,rfl,by rw[HT.out];rfl,HBw.out⟩
theorem ctnA_any (v:Value) (l:List Alw) (y:Alw) (w:World) (h:Rd w v l.length 2 (l.flatMap Alw.cells)):
  Calls Tryz.prog 49 #[v,.agg #[.string ⟨y.tag.toArray⟩,.string ⟨y.name.toArray⟩]] w (Ret (.bool (decide (y∈l))) w):=by
 have HI:=Lib.hid (fun W (hb:Below w.heap.size w W)=>idxA_any v l y W (h.belowW hb))
 clear h
 generalize(⟨y.tag.toArray⟩:ByteArray)=yt at*
 generalize(⟨y.name.toArray⟩:ByteArray)=yn at*
 go_enter Tryz.func49,Tryz.ntmps49
 go_wp2_with(go_at_call 89;go_loud(refine(HI.out _ bel).mono ?_);rintro e w' ⟨i,rfl,hi,hb⟩;have HB:=Lib.hid (below_out (B:=w.heap.size) (a:=w) bel (hb.mono (by simp)));have HI2:=Lib.hid hi;clear hb hi)
 go_ret
 exact Ret.of (by rw[<-HI2.out];simp) HB.out
end Go.Proofs.YtbhhgbgfaemfdaaGreat

