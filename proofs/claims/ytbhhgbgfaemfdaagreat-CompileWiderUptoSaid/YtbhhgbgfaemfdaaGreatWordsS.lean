/- The reference's list, each thing once: string. -/
import Derived.BigRegion
import Derived.Test.YtbhhgbgfaemfdaaGreatPA
import Derived.Test.YtbhhgbgfaemfdaaGreatS3
namespace Go.Proofs.YtbhhgbgfaemfdaaGreat
set_option maxRecDepth 1000000
set_option maxHeartbeats 8000000
open Go.RowKit
open KS
open Go.Proofs.YtbhhgbgfaemfdaaGreat renaming ltB→Z2,swoB→Z3
attribute [local go_sem] Oper.semAt_some
theorem Rd.atS {w:World} {A:Option Addr} {n c:Nat} {l:List Bs} (h:Rd w (.slice A n c) l.length 1 ((l).map sv)) (k:Nat) (x:Bs) (hx:l[k]? =some x): ∃b off,A=some ⟨b,off,none⟩/\b<w.heap.size/\w.cell? ⟨b,off+k,none⟩=some (sv x):=by
 obtain⟨h1,_,A',c',e,h4⟩:=h
 cases e
 obtain⟨hl,hxe⟩:=List.getElem?_eq_some_iff.1 hx
 obtain⟨b,off,rfl,hb,hc⟩:=h4 (by omega)
 exact⟨b,off,rfl,hb,hc k (sv x) (by rw[List.getElem?_map,hx];rfl)⟩
theorem list_cellsS (x:Bs) (O:List Bs) (a:Nat):(O.take a++x::O.drop a).map sv=(#[]:Array Value).toList++((O).map sv).take (a)++[sv x]++((O).map sv).drop (a):=by
 rw[List.map_append,List.map_cons,<-List.map_take,<-List.map_drop];simp
open Go.Proofs.YtbhhgbgfaemfdaaGreat renaming list_cellsS→Zw
theorem unWordsS22 {P:Prop} (h:P:=by
 have hmx:Tryz.prog.follows .mixedOrders=true:=by kernel_rfl
 have hn0:n=d.length:=by obtain⟨_,_,_,_,he,_⟩:=h;cases he;rfl
 subst hn0
 first|cases isS;have HR:=Lib.hid (fun W (hB:Below w.heap.size w W)=>show Rd W (.slice A d.length c) d.length 1 ((d).map sv)from by obtain⟨X,rfl⟩:=grow_of_below hB;exact h.grow X)|cases isA;have HR:=Lib.hid (fun W (hB:Below w.heap.size w W)=>show Rd W (.slice A d.length c) d.length 2 ((d).flatMap Alw.cells)from by obtain⟨X,rfl⟩:=grow_of_below hB;exact h.grow X)|have HR:=Lib.hid (fun W (hB:Below w.heap.size w W)=>show Rd W (.slice A d.length c) d.length 3 ((d).flatMap Frc.cells)from by obtain⟨X,rfl⟩:=grow_of_below hB;exact h.grow X)
 clear h
 first|go_enter Tryz.func127,Tryz.ntmps127|go_enter Tryz.func128,Tryz.ntmps128|go_enter Tryz.func129,Tryz.ntmps129
 go_wp2_with fail
 first|cases isS;go_loopw [3,4] (fun vo i wr=> ∃k:Nat,k<=d.length/\i= .int .i64 k/\Hid (Below w.heap.size w wr)/\Hid (wr.ownsRow w.heap.size 9 1 vo (neatL ltB (d.take k)).length ((neatL ltB (d.take k)).map sv))) (fun _ i _=>d.length-(intOf i).toNat)|cases isA;go_loopw [3,4] (fun vo i wr=> ∃k:Nat,k<=d.length/\i= .int .i64 k/\Hid (Below w.heap.size w wr)/\Hid (wr.ownsRow w.heap.size 65 2 vo (neatL ltA (d.take k)).length ((neatL ltA (d.take k)).flatMap Alw.cells))) (fun _ i _=>d.length-(intOf i).toNat)|go_loopw [3,4] (fun vo i wr=> ∃k:Nat,k<=d.length/\i= .int .i64 k/\Hid (Below w.heap.size w wr)/\Hid (wr.ownsRow w.heap.size 67 3 vo (neatL ltF (d.take k)).length ((neatL ltF (d.take k)).flatMap Frc.cells))) (fun _ i _=>d.length-(intOf i).toNat)
 case atStart=>exact⟨0,by omega,rfl,Below.refl _ _,World.ownsRow_nil _ _ _ _⟩
 case round=>
  obtain⟨k,hk,rfl,HB,HO⟩:=hrel
  by_cases hlt:k<d.length
  ·obtain⟨x,hx⟩: ∃x,d[k]? =some x:=⟨d[k],List.getElem?_eq_getElem hlt⟩
   have HS:=Lib.hid (fold_step Z2 d k x hx)
   have hol:(neatL Z2 (d.take k)).length<=100000000:=by have:=neat_len Z2 (d.take k);rw[List.length_take]at this;omega
   generalize neatL Z2 (d.take k)=O at*
   have HX:=Lib.hid hx
   clear hx
   rcases HO.out.2 with⟨rfl,h0⟩|⟨g,cap,cur,rfl,hg1,hg2,hcap,hcap2,hcu1,hcu2⟩
   ·obtain rfl:O=[]:=List.eq_nil_of_length_eq_zero h0
    have HI:Hid (neatL Z2 (d.take (k+1))=[x]):=HS.out
    first|cases isS;have HCe:Hid (([x]).map sv=[sv x]):=rfl|cases isA;have HCe:Hid (([x]).flatMap Alw.cells=[sv x.tag,sv x.name]):=rfl|have HCe:Hid (([x]).flatMap Frc.cells=[sv x.tag,sv x.name,sv x.value]):=rfl
    clear HS h0 hol
    go_wp2_with fail
    go_loopw [5] (fun s5 wv=>s5= .int .i64 0/\Hid (Below w.heap.size w wv)) (fun _ _=>0)
    case atStart=>exact⟨rfl,HB⟩
    case round=>
     clear HB HO
     obtain⟨rfl,HB⟩:=hrel
     first|cases isS;obtain⟨b,off,he,hb,x0⟩:=Rd.atS (HR.out wr HB.out) k x HX.out|cases isA;obtain⟨b,off,he,hb,x0,x1⟩:=Rd.atA (HR.out wr HB.out) k x HX.out|obtain⟨b,off,he,hb,x0,x1,x2⟩:=Rd.atF (HR.out wr HB.out) k x HX.out
     cases he
     first
      |cases isS
       simp only[sv]at x0
       simp only[sv]at HCe
       generalize(⟨x.toArray⟩:ByteArray)=xs0 at*
      |cases isA
       simp only[sv]at x0 x1
       simp only[sv]at HCe
       generalize(⟨x.tag.toArray⟩:ByteArray)=xs0 at*
       generalize(⟨x.name.toArray⟩:ByteArray)=xs1 at*
      |simp only[sv]at x0 x1 x2
       simp only[sv]at HCe
       generalize(⟨x.tag.toArray⟩:ByteArray)=xs0 at*
       generalize(⟨x.name.toArray⟩:ByteArray)=xs1 at*
       generalize(⟨x.value.toArray⟩:ByteArray)=xs2 at*
     go_wp2_with fail
     refine wp_region_grow (by kernel_rfl) (by kernel_rfl) ?_
     repeat(go_big_quiet_step(fail))
     refine wpQuiet_nil ?_
     intro _ hw';obtain⟨nq,hw''⟩:=hw';subst hw''
     go_wp2_with fail
     refine wp_region_grow (by kernel_rfl) (by kernel_rfl) ?_
     repeat(go_big_quiet_step(fail))
     refine wpQuiet_nil ?_
     intro _ hw';obtain⟨nq,hw''⟩:=hw';subst hw''
     go_upto_region 9 with fail
     refine name_world fun W8 hW8=> ?_
     have HB8:Hid (Below wr.heap.size wr W8):=by show Below _ _ _;rw[hW8];exact bel
     have hb8:b<W8.heap.size:=Nat.lt_of_lt_of_le hb HB8.out.size
     have x0:=(HB8.out.cell hb).trans x0
     first
      |cases isS
      |cases isA
       have x1:=(HB8.out.cell hb).trans x1
      |have x1:=(HB8.out.cell hb).trans x1
       have x2:=(HB8.out.cell hb).trans x2
     clear hW8
     first
      |cases isS
       go_wp2_with(first
        |(at_builtin;go_loud(refine append_any rfl _ _ 36 rfl sltS W8.heap.size rfl (own_lit (c:= #[]) (n:=0) (size:=1) rfl (by unfold maxLen;omega)) (by simp[go_sem]) 0 [] (.inl ⟨rfl,rfl⟩) rfl (fun u hu=>by cases hu) (by unfold maxLen;omega) (by omega) ?_);intro v1 W1 ho1 hg1;have HB1:=own_step (w:=W8) hg1 (own_lit (c:= #[]) (n:=0) (size:=1) rfl (by unfold maxLen;omega)) bel;have hz1:=HB1.out.size;have HO1:=Lib.hid ho1;have x0:=(HB1.out.cell hb8).trans x0;clear ho1 hg1)
        |(at_builtin;refine append_abs rfl _ _ 36 rfl sltS W8.heap.size rfl (HO1.out.alloc _) (by simp[go_sem]<;>omega) ⟨_,0,none⟩ 1 1 [.string xs0] rfl rfl (new_cells (c:= #[.string xs0]) (by simp[go_sem])) (by simp[Value.oneCell']) (by unfold maxLen;omega) (by omega) ?_;intro v2 W2 ho2 hg2;have HB2:=own_step (w:=W8) hg2 (HO1.out.alloc _) (below_out HB1.out bel);have HO2:=Lib.hid ho2;clear ho2 hg2)
        |(at_builtin;go_loud(refine append_any rfl _ _ 36 rfl sltS W8.heap.size rfl HO2.out (by have:=HB2.out.size;omega) 0 [] (.inl ⟨rfl,rfl⟩) rfl (fun u hu=>by cases hu) (by unfold maxLen;omega) (by omega) ?_);intro v3 W3 ho3 hg3;have HB3:=own_step (w:=W8) hg3 HO2.out HB2.out;have HO3:=Lib.hid ho3;clear ho3 hg3))
      |cases isA
       go_wp2_with(first
        |(at_builtin;go_loud(refine append_any rfl _ _ 37 rfl sltA W8.heap.size rfl (own_lit (c:= #[]) (n:=0) (size:=2) rfl (by unfold maxLen;omega)) (by simp[go_sem]) 0 [] (.inl ⟨rfl,rfl⟩) rfl (fun u hu=>by cases hu) (by unfold maxLen;omega) (by omega) ?_);intro v1 W1 ho1 hg1;have HB1:=own_step (w:=W8) hg1 (own_lit (c:= #[]) (n:=0) (size:=2) rfl (by unfold maxLen;omega)) bel;have hz1:=HB1.out.size;have HO1:=Lib.hid ho1;have x0:=(HB1.out.cell hb8).trans x0;have x1:=(HB1.out.cell hb8).trans x1;clear ho1 hg1)
        |(at_builtin;refine append_abs rfl _ _ 37 rfl sltA W8.heap.size rfl (HO1.out.alloc _) (by simp[go_sem]<;>omega) ⟨_,0,none⟩ 1 1 [.string xs0,.string xs1] rfl rfl (new_cells (c:= #[.string xs0,.string xs1]) (by simp[go_sem])) (by simp[Value.oneCell']) (by unfold maxLen;omega) (by omega) ?_;intro v2 W2 ho2 hg2;have HB2:=own_step (w:=W8) hg2 (HO1.out.alloc _) (below_out HB1.out bel);have HO2:=Lib.hid ho2;clear ho2 hg2)
        |(at_builtin;go_loud(refine append_any rfl _ _ 37 rfl sltA W8.heap.size rfl HO2.out (by have:=HB2.out.size;omega) 0 [] (.inl ⟨rfl,rfl⟩) rfl (fun u hu=>by cases hu) (by unfold maxLen;omega) (by omega) ?_);intro v3 W3 ho3 hg3;have HB3:=own_step (w:=W8) hg3 HO2.out HB2.out;have HO3:=Lib.hid ho3;clear ho3 hg3))
      |go_wp2_with(first
        |(at_builtin;go_loud(refine append_any rfl _ _ 38 rfl sltF W8.heap.size rfl (own_lit (c:= #[]) (n:=0) (size:=3) rfl (by unfold maxLen;omega)) (by simp[go_sem]) 0 [] (.inl ⟨rfl,rfl⟩) rfl (fun u hu=>by cases hu) (by unfold maxLen;omega) (by omega) ?_);intro v1 W1 ho1 hg1;have HB1:=own_step (w:=W8) hg1 (own_lit (c:= #[]) (n:=0) (size:=3) rfl (by unfold maxLen;omega)) bel;have hz1:=HB1.out.size;have HO1:=Lib.hid ho1;have x0:=(HB1.out.cell hb8).trans x0;have x1:=(HB1.out.cell hb8).trans x1;have x2:=(HB1.out.cell hb8).trans x2;clear ho1 hg1)
        |(at_builtin;refine append_abs rfl _ _ 38 rfl sltF W8.heap.size rfl (HO1.out.alloc _) (by simp[go_sem]<;>omega) ⟨_,0,none⟩ 1 1 [.string xs0,.string xs1,.string xs2] rfl rfl (new_cells (c:= #[.string xs0,.string xs1,.string xs2]) (by simp[go_sem])) (by simp[Value.oneCell']) (by unfold maxLen;omega) (by omega) ?_;intro v2 W2 ho2 hg2;have HB2:=own_step (w:=W8) hg2 (HO1.out.alloc _) (below_out HB1.out bel);have HO2:=Lib.hid ho2;clear ho2 hg2)
        |(at_builtin;go_loud(refine append_any rfl _ _ 38 rfl sltF W8.heap.size rfl HO2.out (by have:=HB2.out.size;omega) 0 [] (.inl ⟨rfl,rfl⟩) rfl (fun u hu=>by cases hu) (by unfold maxLen;omega) (by omega) ?_);intro v3 W3 ho3 hg3;have HB3:=own_step (w:=W8) hg3 HO2.out HB2.out;have HO3:=Lib.hid ho3;clear ho3 hg3))
     go_roundw
     case rel=>
      refine⟨k+1,by omega,by go_num,below_next HB.out (below_next HB8.out HB3.out), ?_⟩
      show World.ownsRow _ _ _ _ _ _ _
      have h9:=own_base HO3.out (below_next HB.out HB8.out).size
      rw[HI.out,HCe.out]
      exact h9
     case measure=>simp[intOf];omega
   ·clear hcu1 hcu2 hg2 cur
    go_wp2_with fail
    first|cases isS;go_loopw [5] (fun s5 wv=> ∃a:Nat,a<=O.length/\s5= .int .i64 a/\Hid (Below w.heap.size w wv)/\Hid (wv.ownsRow w.heap.size 9 1 (.slice (some ⟨g,0,none⟩) O.length cap) O.length ((O).map sv))/\Hid (∀y∈O.take a,ltB y x=true)) (fun s5 _=>O.length-(intOf s5).toNat)|cases isA;go_loopw [5] (fun s5 wv=> ∃a:Nat,a<=O.length/\s5= .int .i64 a/\Hid (Below w.heap.size w wv)/\Hid (wv.ownsRow w.heap.size 65 2 (.slice (some ⟨g,0,none⟩) O.length cap) O.length ((O).flatMap Alw.cells))/\Hid (∀y∈O.take a,ltA y x=true)) (fun s5 _=>O.length-(intOf s5).toNat)|go_loopw [5] (fun s5 wv=> ∃a:Nat,a<=O.length/\s5= .int .i64 a/\Hid (Below w.heap.size w wv)/\Hid (wv.ownsRow w.heap.size 67 3 (.slice (some ⟨g,0,none⟩) O.length cap) O.length ((O).flatMap Frc.cells))/\Hid (∀y∈O.take a,ltF y x=true)) (fun s5 _=>O.length-(intOf s5).toNat)
    case atStart=>exact⟨0,by omega,rfl,HB,HO,by show ∀_∈_,_;intro y hy;simp at hy⟩
    case round=>
     clear HB HO
     obtain⟨a,ha,rfl,HB,HO,HA⟩:=hrel
     first|cases isS;obtain⟨b,off,he,hb,x0⟩:=Rd.atS (HR.out wr HB.out) k x HX.out|cases isA;obtain⟨b,off,he,hb,x0,x1⟩:=Rd.atA (HR.out wr HB.out) k x HX.out|obtain⟨b,off,he,hb,x0,x1,x2⟩:=Rd.atF (HR.out wr HB.out) k x HX.out
     cases he
     first|cases isS;simp only[sv]at x0|cases isA;simp only[sv]at x0 x1|simp only[sv]at x0 x1 x2
     have hgl:g<wr.heap.size:=(HO.out.lt g rfl).2
     have HCe0:=Lib.hid (fun a=>Zw x O a)
     simp only[sv]at HCe0
     by_cases hal:a<O.length
     ·obtain⟨y,hy⟩: ∃y,O[a]? =some y:=⟨O[a],List.getElem?_eq_getElem hal⟩
      have HY:=Lib.hid hy
      first|cases isS;obtain⟨b2,off2,he2,hb2,y0⟩:=Rd.atS (Rd.own HO.out) a y hy|cases isA;obtain⟨b2,off2,he2,hb2,y0,y1⟩:=Rd.atA (Rd.own HO.out) a y hy|obtain⟨b2,off2,he2,hb2,y0,y1,y2⟩:=Rd.atF (Rd.own HO.out) a y hy
      cases he2
      first
       |cases isS
        simp only[Nat.zero_add,sv]at y0
        have q1:Op.bytesLess (⟨y.toArray⟩:ByteArray).toList (⟨x.toArray⟩:ByteArray).toList=ltB y x:=by rw[ByteArray.toList_eq,ByteArray.toList_eq];exact bytes_less y x
        have q2:((⟨y.toArray⟩:ByteArray).toList==(⟨x.toArray⟩:ByteArray).toList)=ev ltB y x:=by rw[ba_bq,ev_B]
       |cases isA
        simp only[Nat.zero_add,sv]at y0 y1
        have HAh:=Lib.hid (fun W=>rahead_any y x W)
        have q2:(((⟨y.tag.toArray⟩:ByteArray).toList==(⟨x.tag.toArray⟩:ByteArray).toList)&&((⟨y.name.toArray⟩:ByteArray).toList==(⟨x.name.toArray⟩:ByteArray).toList))=ev ltA y x:=by rw[ba_bq,ba_bq];exact(ev_A y x).symm
        simp only[Alw.agg,sv]at HAh
       |simp only[Nat.zero_add,sv]at y0 y1 y2
        have HAh:=Lib.hid (fun W=>rahead_any (keyF y) (keyF x) W)
        have HKy:=Lib.hid (fun W=>rkey_any y W)
        have HKx:=Lib.hid (fun W=>rkey_any x W)
        have q2:(((⟨y.tag.toArray⟩:ByteArray).toList==(⟨x.tag.toArray⟩:ByteArray).toList)&&((⟨y.name.toArray⟩:ByteArray).toList==(⟨x.name.toArray⟩:ByteArray).toList))=ev ltF y x:=by rw[ba_bq,ba_bq];exact(ev_A (keyF y) (keyF x)).symm
        have HLe:Hid (ltA (keyF y) (keyF x)=ltF y x):=rfl
        rw[HLe.out]at HAh
        simp only[Alw.agg,Frc.agg,keyF,sv]at HAh HKy HKx
      clear hy
      first
       |cases isS
        generalize(⟨x.toArray⟩:ByteArray)=xs0 at*
        generalize(⟨y.toArray⟩:ByteArray)=ys0 at*
       |cases isA
        generalize(⟨x.tag.toArray⟩:ByteArray)=xs0 at*
        generalize(⟨x.name.toArray⟩:ByteArray)=xs1 at*
        generalize(⟨y.tag.toArray⟩:ByteArray)=ys0 at*
        generalize(⟨y.name.toArray⟩:ByteArray)=ys1 at*
       |generalize(⟨x.tag.toArray⟩:ByteArray)=xs0 at*
        generalize(⟨x.name.toArray⟩:ByteArray)=xs1 at*
        generalize(⟨x.value.toArray⟩:ByteArray)=xs2 at*
        generalize(⟨y.tag.toArray⟩:ByteArray)=ys0 at*
        generalize(⟨y.name.toArray⟩:ByteArray)=ys1 at*
        generalize(⟨y.value.toArray⟩:ByteArray)=ys2 at*
      cases hl:Z2 y x
      ·have HI0:Hid (neatL Z2 (d.take (k+1))=if ev Z2 y x=true then O else O.take a++x::O.drop a):=by
        show _=_
        rw[HS.out,ins_at Z3 x O a (by omega) HA.out (fun z hz=>by rw[HY.out]at hz;cases hz;exact hl),HY.out]
       first|cases isS;rw[hl]at q1|rw[hl]at HAh
       cases hev:ev Z2 y x
       ·rw[hev]at HI0 q2
        have HI:Hid (neatL Z2 (d.take (k+1))=O.take a++x::O.drop a):=HI0.out
        clear hl hev HI0 HS
        first
         |cases isS
         |have HAh:=Lib.hid HAh.out
        go_wp2_with fail
        refine wp_region_grow (by kernel_rfl) (by kernel_rfl) ?_
        first|cases isS;repeat(go_big_quiet_step(fail))|cases isA;repeat(go_big_quiet_step((go_at_call 148;with_reducible exact Calls.grow_of (HAh.out _))))|(repeat(go_big_quiet_step((first|(go_at_call 149;with_reducible exact Calls.grow_of (HKy.out _))|(go_at_call 149;with_reducible exact Calls.grow_of (HKx.out _))|(go_at_call 148;with_reducible exact Calls.grow_of (HAh.out _))))))
        refine wpQuiet_nil ?_
        intro _ hw';obtain⟨nq,hw''⟩:=hw';subst hw''
        go_wp2_with fail
        refine wp_region_grow (by kernel_rfl) (by kernel_rfl) ?_
        first|cases isF;(repeat(go_big_quiet_step((first|(go_at_call 149;with_reducible exact Calls.grow_of (HKy.out _))|(go_at_call 149;with_reducible exact Calls.grow_of (HKx.out _))))))|repeat(go_big_quiet_step(fail))
        refine wpQuiet_nil ?_
        intro _ hw';obtain⟨nq,hw''⟩:=hw';subst hw''
        go_upto_region 9 with fail
        refine name_world fun W8 hW8=> ?_
        have HB8:Hid (Below wr.heap.size wr W8):=by show Below _ _ _;rw[hW8];exact bel
        have hb8:b<W8.heap.size:=Nat.lt_of_lt_of_le hb HB8.out.size
        have x0:=(HB8.out.cell hb).trans x0
        first
         |cases isS
         |cases isA
          have x1:=(HB8.out.cell hb).trans x1
         |have x1:=(HB8.out.cell hb).trans x1
          have x2:=(HB8.out.cell hb).trans x2
        clear hW8
        have HO8:=Lib.hid (own_below HO.out HB8.out)
        have HP1:=Lib.hid (Rd.part (Rd.own HO8.out) a (by omega))
        have HP2:=Lib.hid (Rd.rest (Rd.own HO8.out) (a:=a) (by omega))
        first
         |cases isS
          rw[Nat.mul_one]at HP1 HP2
         |skip
        obtain⟨hlA,hlB⟩:=And.intro HP1.out.1 HP2.out.1
        have HNa:=Lib.hid (fun W (hB:Below W8.heap.size W8 W)=>news_rd HP1.out (fun h=>by cases h) hB)
        have hca:a<=cap:=by omega
        have i1:(0:Int)<=a/\(a:Int)<=cap:=by omega
        have i2:(0:Int)<=a/\(a:Int)<=O.length/\(O.length:Int)<=cap:=by omega
        have HCe:=Lib.hid (HCe0.out a)
        clear HCe0
        have hcc2: ¬cap=a:=by omega
        have HNb:=Lib.hid (fun W (hB:Below W8.heap.size W8 W)=>news_rd HP2.out (fun h=>by cases h) hB)
        first
         |cases isS
          go_wp2_with(first
           |(at_builtin;go_loud(refine append_any rfl _ _ 36 rfl sltS W8.heap.size rfl (own_lit (c:= #[]) (n:=0) (size:=1) rfl (by unfold maxLen;omega)) (by simp[go_sem]) a _ (HNa.out _ bel) hlA (fun u hu=>cells_oneS O u (List.mem_of_mem_take hu)) (by unfold maxLen;omega) (by omega) ?_);intro v1 W1 ho1 hg1;have HB1:=own_step (w:=W8) hg1 (own_lit (c:= #[]) (n:=0) (size:=1) rfl (by unfold maxLen;omega)) bel;have hz1:=HB1.out.size;have HO1:=Lib.hid ho1;have x0:=(HB1.out.cell hb8).trans x0;clear ho1 hg1)
           |(at_builtin;refine append_abs rfl _ _ 36 rfl sltS W8.heap.size rfl (HO1.out.alloc _) (by simp[go_sem]<;>omega) ⟨_,0,none⟩ 1 1 [.string xs0] rfl rfl (new_cells (c:= #[.string xs0]) (by simp[go_sem])) (by simp[Value.oneCell']) (by unfold maxLen;omega) (by omega) ?_;intro v2 W2 ho2 hg2;have HB2:=own_step (w:=W8) hg2 (HO1.out.alloc _) (below_out HB1.out bel);have HO2:=Lib.hid ho2;clear ho2 hg2)
           |(at_builtin;go_loud(refine append_any rfl _ _ 36 rfl sltS W8.heap.size rfl HO2.out (by have:=HB2.out.size;omega) (O.length-a) _ (HNb.out _ HB2.out) hlB (fun u hu=>cells_oneS O u (List.mem_of_mem_drop hu)) (by unfold maxLen;omega) (by omega) ?_);intro v3 W3 ho3 hg3;have HB3:=own_step (w:=W8) hg3 HO2.out HB2.out;have HO3:=Lib.hid ho3;clear ho3 hg3))
         |cases isA
          go_wp2_with(first
           |(at_builtin;go_loud(refine append_any rfl _ _ 37 rfl sltA W8.heap.size rfl (own_lit (c:= #[]) (n:=0) (size:=2) rfl (by unfold maxLen;omega)) (by simp[go_sem]) a _ (HNa.out _ bel) hlA (fun u hu=>cells_oneA O u (List.mem_of_mem_take hu)) (by unfold maxLen;omega) (by omega) ?_);intro v1 W1 ho1 hg1;have HB1:=own_step (w:=W8) hg1 (own_lit (c:= #[]) (n:=0) (size:=2) rfl (by unfold maxLen;omega)) bel;have hz1:=HB1.out.size;have HO1:=Lib.hid ho1;have x0:=(HB1.out.cell hb8).trans x0;have x1:=(HB1.out.cell hb8).trans x1;clear ho1 hg1)
           |(at_builtin;refine append_abs rfl _ _ 37 rfl sltA W8.heap.size rfl (HO1.out.alloc _) (by simp[go_sem]<;>omega) ⟨_,0,none⟩ 1 1 [.string xs0,.string xs1] rfl rfl (new_cells (c:= #[.string xs0,.string xs1]) (by simp[go_sem])) (by simp[Value.oneCell']) (by unfold maxLen;omega) (by omega) ?_;intro v2 W2 ho2 hg2;have HB2:=own_step (w:=W8) hg2 (HO1.out.alloc _) (below_out HB1.out bel);have HO2:=Lib.hid ho2;clear ho2 hg2)
           |(at_builtin;go_loud(refine append_any rfl _ _ 37 rfl sltA W8.heap.size rfl HO2.out (by have:=HB2.out.size;omega) (O.length-a) _ (HNb.out _ HB2.out) hlB (fun u hu=>cells_oneA O u (List.mem_of_mem_drop hu)) (by unfold maxLen;omega) (by omega) ?_);intro v3 W3 ho3 hg3;have HB3:=own_step (w:=W8) hg3 HO2.out HB2.out;have HO3:=Lib.hid ho3;clear ho3 hg3))
         |go_wp2_with(first
           |(at_builtin;go_loud(refine append_any rfl _ _ 38 rfl sltF W8.heap.size rfl (own_lit (c:= #[]) (n:=0) (size:=3) rfl (by unfold maxLen;omega)) (by simp[go_sem]) a _ (HNa.out _ bel) hlA (fun u hu=>cells_oneF O u (List.mem_of_mem_take hu)) (by unfold maxLen;omega) (by omega) ?_);intro v1 W1 ho1 hg1;have HB1:=own_step (w:=W8) hg1 (own_lit (c:= #[]) (n:=0) (size:=3) rfl (by unfold maxLen;omega)) bel;have hz1:=HB1.out.size;have HO1:=Lib.hid ho1;have x0:=(HB1.out.cell hb8).trans x0;have x1:=(HB1.out.cell hb8).trans x1;have x2:=(HB1.out.cell hb8).trans x2;clear ho1 hg1)
           |(at_builtin;refine append_abs rfl _ _ 38 rfl sltF W8.heap.size rfl (HO1.out.alloc _) (by simp[go_sem]<;>omega) ⟨_,0,none⟩ 1 1 [.string xs0,.string xs1,.string xs2] rfl rfl (new_cells (c:= #[.string xs0,.string xs1,.string xs2]) (by simp[go_sem])) (by simp[Value.oneCell']) (by unfold maxLen;omega) (by omega) ?_;intro v2 W2 ho2 hg2;have HB2:=own_step (w:=W8) hg2 (HO1.out.alloc _) (below_out HB1.out bel);have HO2:=Lib.hid ho2;clear ho2 hg2)
           |(at_builtin;go_loud(refine append_any rfl _ _ 38 rfl sltF W8.heap.size rfl HO2.out (by have:=HB2.out.size;omega) (O.length-a) _ (HNb.out _ HB2.out) hlB (fun u hu=>cells_oneF O u (List.mem_of_mem_drop hu)) (by unfold maxLen;omega) (by omega) ?_);intro v3 W3 ho3 hg3;have HB3:=own_step (w:=W8) hg3 HO2.out HB2.out;have HO3:=Lib.hid ho3;clear ho3 hg3))
        go_roundw
        case rel=>
         refine⟨k+1,by omega,by go_num,below_next HB.out (below_next HB8.out HB3.out), ?_⟩
         show World.ownsRow _ _ _ _ _ _ _
         have h9:=own_base HO3.out (below_next HB.out HB8.out).size
         rw[HI.out]
         have e1:(O.take a++x::O.drop a).length=0+a+1+(O.length-a):=by simp only[List.length_append,List.length_take,List.length_cons,List.length_drop];omega
         rw[e1,HCe.out]
         exact h9
        case measure=>simp[intOf];omega
       ·rw[hev]at HI0 q2
        have HI:Hid (neatL Z2 (d.take (k+1))=O):=HI0.out
        clear hl hev HI0 HS
        first
         |cases isS
         |have HAh:=Lib.hid HAh.out
        go_wp2_with fail
        refine wp_region_grow (by kernel_rfl) (by kernel_rfl) ?_
        first|cases isS;repeat(go_big_quiet_step(fail))|cases isA;repeat(go_big_quiet_step((go_at_call 148;with_reducible exact Calls.grow_of (HAh.out _))))|(repeat(go_big_quiet_step((first|(go_at_call 149;with_reducible exact Calls.grow_of (HKy.out _))|(go_at_call 149;with_reducible exact Calls.grow_of (HKx.out _))|(go_at_call 148;with_reducible exact Calls.grow_of (HAh.out _))))))
        refine wpQuiet_nil ?_
        intro _ hw';obtain⟨nq,hw''⟩:=hw';subst hw''
        go_wp2_with fail
        refine wp_region_grow (by kernel_rfl) (by kernel_rfl) ?_
        first|cases isF;(repeat(go_big_quiet_step((first|(go_at_call 149;with_reducible exact Calls.grow_of (HKy.out _))|(go_at_call 149;with_reducible exact Calls.grow_of (HKx.out _))))))|repeat(go_big_quiet_step(fail))
        refine wpQuiet_nil ?_
        intro _ hw';obtain⟨nq,hw''⟩:=hw';subst hw''
        go_wp2_with fail
        go_roundw
        case rel=>
         refine⟨k+1,by omega,by go_num,below_next HB.out bel, ?_⟩
         show World.ownsRow _ _ _ _ _ _ _
         rw[HI.out]
         exact own_below HO.out bel
        case measure=>simp[intOf];omega
      ·first|cases isS;rw[hl]at q1|rw[hl]at HAh
       have HA2:Hid (∀z∈O.take (a+1),Z2 z x=true):=take_more_lt HA.out HY.out hl
       clear hl q2
       first
        |cases isS
        |have HAh:=Lib.hid HAh.out
       go_wp2_with fail
       refine wp_region_grow (by kernel_rfl) (by kernel_rfl) ?_
       first|cases isS;repeat(go_big_quiet_step(fail))|cases isA;repeat(go_big_quiet_step((go_at_call 148;with_reducible exact Calls.grow_of (HAh.out _))))|(repeat(go_big_quiet_step((first|(go_at_call 149;with_reducible exact Calls.grow_of (HKy.out _))|(go_at_call 149;with_reducible exact Calls.grow_of (HKx.out _))|(go_at_call 148;with_reducible exact Calls.grow_of (HAh.out _))))))
       refine wpQuiet_nil ?_
       intro _ hw';obtain⟨nq,hw''⟩:=hw';subst hw''
       go_wp2_with fail
       go_roundw
       case rel=>exact⟨a+1,by omega,by go_num,below_next HB.out bel,own_below HO.out bel,HA2⟩
       case measure=>simp[intOf];omega
     ·have HI:Hid (neatL Z2 (d.take (k+1))=O.take a++x::O.drop a):=by
       show _=_
       rw[HS.out,ins_at Z3 x O a (by omega) HA.out (fun z hz=>by rw[List.getElem?_eq_none (by omega)]at hz;cases hz),List.getElem?_eq_none (by omega)]
       simp only
       rw[List.take_of_length_le (by omega),List.drop_of_length_le (by omega)]
      first
       |cases isS
        generalize(⟨x.toArray⟩:ByteArray)=xs0 at*
       |cases isA
        generalize(⟨x.tag.toArray⟩:ByteArray)=xs0 at*
        generalize(⟨x.name.toArray⟩:ByteArray)=xs1 at*
       |generalize(⟨x.tag.toArray⟩:ByteArray)=xs0 at*
        generalize(⟨x.name.toArray⟩:ByteArray)=xs1 at*
        generalize(⟨x.value.toArray⟩:ByteArray)=xs2 at*
      clear HS
      go_wp2_with fail
      refine wp_region_grow (by kernel_rfl) (by kernel_rfl) ?_
      repeat(go_big_quiet_step(fail))
      refine wpQuiet_nil ?_
      intro _ hw';obtain⟨nq,hw''⟩:=hw';subst hw''
      go_wp2_with fail
      refine wp_region_grow (by kernel_rfl) (by kernel_rfl) ?_
      repeat(go_big_quiet_step(fail))
      refine wpQuiet_nil ?_
      intro _ hw';obtain⟨nq,hw''⟩:=hw';subst hw''
      go_upto_region 9 with fail
      refine name_world fun W8 hW8=> ?_
      have HB8:Hid (Below wr.heap.size wr W8):=by show Below _ _ _;rw[hW8];exact bel
      have hb8:b<W8.heap.size:=Nat.lt_of_lt_of_le hb HB8.out.size
      have x0:=(HB8.out.cell hb).trans x0
      first
       |cases isS
       |cases isA
        have x1:=(HB8.out.cell hb).trans x1
       |have x1:=(HB8.out.cell hb).trans x1
        have x2:=(HB8.out.cell hb).trans x2
      clear hW8
      have HO8:=Lib.hid (own_below HO.out HB8.out)
      have HP1:=Lib.hid (Rd.part (Rd.own HO8.out) a (by omega))
      have HP2:=Lib.hid (Rd.rest (Rd.own HO8.out) (a:=a) (by omega))
      first
       |cases isS
        rw[Nat.mul_one]at HP1 HP2
       |skip
      obtain⟨hlA,hlB⟩:=And.intro HP1.out.1 HP2.out.1
      have HNa:=Lib.hid (fun W (hB:Below W8.heap.size W8 W)=>news_rd HP1.out (fun h=>by cases h) hB)
      have hca:a<=cap:=by omega
      have i1:(0:Int)<=a/\(a:Int)<=cap:=by omega
      have i2:(0:Int)<=a/\(a:Int)<=O.length/\(O.length:Int)<=cap:=by omega
      have HCe:=Lib.hid (HCe0.out a)
      clear HCe0
      by_cases hcc:a=cap
      ·subst hcc
       have hOa:O.length-a=0:=by omega
       first|cases isS;have hdr:((O).map sv).drop (a)=[]:=List.eq_nil_of_length_eq_zero (by rw[hlB,hOa,Nat.zero_mul])|cases isA;have hdr:((O).flatMap Alw.cells).drop (a*2)=[]:=List.eq_nil_of_length_eq_zero (by rw[hlB,hOa,Nat.zero_mul])|have hdr:((O).flatMap Frc.cells).drop (a*3)=[]:=List.eq_nil_of_length_eq_zero (by rw[hlB,hOa,Nat.zero_mul])
       rw[hdr]at HCe
       first
        |cases isS
         go_wp2_with(first
          |(at_builtin;go_loud(refine append_any rfl _ _ 36 rfl sltS W8.heap.size rfl (own_lit (c:= #[]) (n:=0) (size:=1) rfl (by unfold maxLen;omega)) (by simp[go_sem]) a _ (HNa.out _ bel) hlA (fun u hu=>cells_oneS O u (List.mem_of_mem_take hu)) (by unfold maxLen;omega) (by omega) ?_);intro v1 W1 ho1 hg1;have HB1:=own_step (w:=W8) hg1 (own_lit (c:= #[]) (n:=0) (size:=1) rfl (by unfold maxLen;omega)) bel;have hz1:=HB1.out.size;have HO1:=Lib.hid ho1;have x0:=(HB1.out.cell hb8).trans x0;clear ho1 hg1)
          |(at_builtin;refine append_abs rfl _ _ 36 rfl sltS W8.heap.size rfl (HO1.out.alloc _) (by simp[go_sem]<;>omega) ⟨_,0,none⟩ 1 1 [.string xs0] rfl rfl (new_cells (c:= #[.string xs0]) (by simp[go_sem])) (by simp[Value.oneCell']) (by unfold maxLen;omega) (by omega) ?_;intro v2 W2 ho2 hg2;have HB2:=own_step (w:=W8) hg2 (HO1.out.alloc _) (below_out HB1.out bel);have HO2:=Lib.hid ho2;clear ho2 hg2)
          |(at_builtin;go_loud(refine append_any rfl _ _ 36 rfl sltS W8.heap.size rfl HO2.out (by have:=HB2.out.size;omega) 0 [] (.inr ⟨⟨g,0,none⟩,0,rfl,fun j u hu=>by simp at hu⟩) rfl (fun u hu=>by cases hu) (by unfold maxLen;omega) (by omega) ?_);intro v3 W3 ho3 hg3;have HB3:=own_step (w:=W8) hg3 HO2.out HB2.out;have HO3:=Lib.hid ho3;clear ho3 hg3))
        |cases isA
         go_wp2_with(first
          |(at_builtin;go_loud(refine append_any rfl _ _ 37 rfl sltA W8.heap.size rfl (own_lit (c:= #[]) (n:=0) (size:=2) rfl (by unfold maxLen;omega)) (by simp[go_sem]) a _ (HNa.out _ bel) hlA (fun u hu=>cells_oneA O u (List.mem_of_mem_take hu)) (by unfold maxLen;omega) (by omega) ?_);intro v1 W1 ho1 hg1;have HB1:=own_step (w:=W8) hg1 (own_lit (c:= #[]) (n:=0) (size:=2) rfl (by unfold maxLen;omega)) bel;have hz1:=HB1.out.size;have HO1:=Lib.hid ho1;have x0:=(HB1.out.cell hb8).trans x0;have x1:=(HB1.out.cell hb8).trans x1;clear ho1 hg1)
          |(at_builtin;refine append_abs rfl _ _ 37 rfl sltA W8.heap.size rfl (HO1.out.alloc _) (by simp[go_sem]<;>omega) ⟨_,0,none⟩ 1 1 [.string xs0,.string xs1] rfl rfl (new_cells (c:= #[.string xs0,.string xs1]) (by simp[go_sem])) (by simp[Value.oneCell']) (by unfold maxLen;omega) (by omega) ?_;intro v2 W2 ho2 hg2;have HB2:=own_step (w:=W8) hg2 (HO1.out.alloc _) (below_out HB1.out bel);have HO2:=Lib.hid ho2;clear ho2 hg2)
          |(at_builtin;go_loud(refine append_any rfl _ _ 37 rfl sltA W8.heap.size rfl HO2.out (by have:=HB2.out.size;omega) 0 [] (.inr ⟨⟨g,0,none⟩,0,rfl,fun j u hu=>by simp at hu⟩) rfl (fun u hu=>by cases hu) (by unfold maxLen;omega) (by omega) ?_);intro v3 W3 ho3 hg3;have HB3:=own_step (w:=W8) hg3 HO2.out HB2.out;have HO3:=Lib.hid ho3;clear ho3 hg3))
        |go_wp2_with(first
          |(at_builtin;go_loud(refine append_any rfl _ _ 38 rfl sltF W8.heap.size rfl (own_lit (c:= #[]) (n:=0) (size:=3) rfl (by unfold maxLen;omega)) (by simp[go_sem]) a _ (HNa.out _ bel) hlA (fun u hu=>cells_oneF O u (List.mem_of_mem_take hu)) (by unfold maxLen;omega) (by omega) ?_);intro v1 W1 ho1 hg1;have HB1:=own_step (w:=W8) hg1 (own_lit (c:= #[]) (n:=0) (size:=3) rfl (by unfold maxLen;omega)) bel;have hz1:=HB1.out.size;have HO1:=Lib.hid ho1;have x0:=(HB1.out.cell hb8).trans x0;have x1:=(HB1.out.cell hb8).trans x1;have x2:=(HB1.out.cell hb8).trans x2;clear ho1 hg1)
          |(at_builtin;refine append_abs rfl _ _ 38 rfl sltF W8.heap.size rfl (HO1.out.alloc _) (by simp[go_sem]<;>omega) ⟨_,0,none⟩ 1 1 [.string xs0,.string xs1,.string xs2] rfl rfl (new_cells (c:= #[.string xs0,.string xs1,.string xs2]) (by simp[go_sem])) (by simp[Value.oneCell']) (by unfold maxLen;omega) (by omega) ?_;intro v2 W2 ho2 hg2;have HB2:=own_step (w:=W8) hg2 (HO1.out.alloc _) (below_out HB1.out bel);have HO2:=Lib.hid ho2;clear ho2 hg2)
          |(at_builtin;go_loud(refine append_any rfl _ _ 38 rfl sltF W8.heap.size rfl HO2.out (by have:=HB2.out.size;omega) 0 [] (.inr ⟨⟨g,0,none⟩,0,rfl,fun j u hu=>by simp at hu⟩) rfl (fun u hu=>by cases hu) (by unfold maxLen;omega) (by omega) ?_);intro v3 W3 ho3 hg3;have HB3:=own_step (w:=W8) hg3 HO2.out HB2.out;have HO3:=Lib.hid ho3;clear ho3 hg3))
       go_roundw
       case rel=>
        refine⟨k+1,by omega,by go_num,below_next HB.out (below_next HB8.out HB3.out), ?_⟩
        show World.ownsRow _ _ _ _ _ _ _
        have h9:=own_base HO3.out (below_next HB.out HB8.out).size
        rw[HI.out]
        have e1:(O.take a++x::O.drop a).length=0+a+1+0:=by simp only[List.length_append,List.length_take,List.length_cons,List.length_drop];omega
        rw[e1,HCe.out]
        exact h9
       case measure=>simp[intOf];omega
      ·have hcc2: ¬cap=a:=fun h=>hcc h.symm
       have HNb:=Lib.hid (fun W (hB:Below W8.heap.size W8 W)=>news_rd HP2.out (fun h=>by cases h) hB)
       first
        |cases isS
         go_wp2_with(first
          |(at_builtin;go_loud(refine append_any rfl _ _ 36 rfl sltS W8.heap.size rfl (own_lit (c:= #[]) (n:=0) (size:=1) rfl (by unfold maxLen;omega)) (by simp[go_sem]) a _ (HNa.out _ bel) hlA (fun u hu=>cells_oneS O u (List.mem_of_mem_take hu)) (by unfold maxLen;omega) (by omega) ?_);intro v1 W1 ho1 hg1;have HB1:=own_step (w:=W8) hg1 (own_lit (c:= #[]) (n:=0) (size:=1) rfl (by unfold maxLen;omega)) bel;have hz1:=HB1.out.size;have HO1:=Lib.hid ho1;have x0:=(HB1.out.cell hb8).trans x0;clear ho1 hg1)
          |(at_builtin;refine append_abs rfl _ _ 36 rfl sltS W8.heap.size rfl (HO1.out.alloc _) (by simp[go_sem]<;>omega) ⟨_,0,none⟩ 1 1 [.string xs0] rfl rfl (new_cells (c:= #[.string xs0]) (by simp[go_sem])) (by simp[Value.oneCell']) (by unfold maxLen;omega) (by omega) ?_;intro v2 W2 ho2 hg2;have HB2:=own_step (w:=W8) hg2 (HO1.out.alloc _) (below_out HB1.out bel);have HO2:=Lib.hid ho2;clear ho2 hg2)
          |(at_builtin;go_loud(refine append_any rfl _ _ 36 rfl sltS W8.heap.size rfl HO2.out (by have:=HB2.out.size;omega) (O.length-a) _ (HNb.out _ HB2.out) hlB (fun u hu=>cells_oneS O u (List.mem_of_mem_drop hu)) (by unfold maxLen;omega) (by omega) ?_);intro v3 W3 ho3 hg3;have HB3:=own_step (w:=W8) hg3 HO2.out HB2.out;have HO3:=Lib.hid ho3;clear ho3 hg3))
        |cases isA
         go_wp2_with(first
          |(at_builtin;go_loud(refine append_any rfl _ _ 37 rfl sltA W8.heap.size rfl (own_lit (c:= #[]) (n:=0) (size:=2) rfl (by unfold maxLen;omega)) (by simp[go_sem]) a _ (HNa.out _ bel) hlA (fun u hu=>cells_oneA O u (List.mem_of_mem_take hu)) (by unfold maxLen;omega) (by omega) ?_);intro v1 W1 ho1 hg1;have HB1:=own_step (w:=W8) hg1 (own_lit (c:= #[]) (n:=0) (size:=2) rfl (by unfold maxLen;omega)) bel;have hz1:=HB1.out.size;have HO1:=Lib.hid ho1;have x0:=(HB1.out.cell hb8).trans x0;have x1:=(HB1.out.cell hb8).trans x1;clear ho1 hg1)
          |(at_builtin;refine append_abs rfl _ _ 37 rfl sltA W8.heap.size rfl (HO1.out.alloc _) (by simp[go_sem]<;>omega) ⟨_,0,none⟩ 1 1 [.string xs0,.string xs1] rfl rfl (new_cells (c:= #[.string xs0,.string xs1]) (by simp[go_sem])) (by simp[Value.oneCell']) (by unfold maxLen;omega) (by omega) ?_;intro v2 W2 ho2 hg2;have HB2:=own_step (w:=W8) hg2 (HO1.out.alloc _) (below_out HB1.out bel);have HO2:=Lib.hid ho2;clear ho2 hg2)
          |(at_builtin;go_loud(refine append_any rfl _ _ 37 rfl sltA W8.heap.size rfl HO2.out (by have:=HB2.out.size;omega) (O.length-a) _ (HNb.out _ HB2.out) hlB (fun u hu=>cells_oneA O u (List.mem_of_mem_drop hu)) (by unfold maxLen;omega) (by omega) ?_);intro v3 W3 ho3 hg3;have HB3:=own_step (w:=W8) hg3 HO2.out HB2.out;have HO3:=Lib.hid ho3;clear ho3 hg3))
        |go_wp2_with(first
          |(at_builtin;go_loud(refine append_any rfl _ _ 38 rfl sltF W8.heap.size rfl (own_lit (c:= #[]) (n:=0) (size:=3) rfl (by unfold maxLen;omega)) (by simp[go_sem]) a _ (HNa.out _ bel) hlA (fun u hu=>cells_oneF O u (List.mem_of_mem_take hu)) (by unfold maxLen;omega) (by omega) ?_);intro v1 W1 ho1 hg1;have HB1:=own_step (w:=W8) hg1 (own_lit (c:= #[]) (n:=0) (size:=3) rfl (by unfold maxLen;omega)) bel;have hz1:=HB1.out.size;have HO1:=Lib.hid ho1;have x0:=(HB1.out.cell hb8).trans x0;have x1:=(HB1.out.cell hb8).trans x1;have x2:=(HB1.out.cell hb8).trans x2;clear ho1 hg1)
          |(at_builtin;refine append_abs rfl _ _ 38 rfl sltF W8.heap.size rfl (HO1.out.alloc _) (by simp[go_sem]<;>omega) ⟨_,0,none⟩ 1 1 [.string xs0,.string xs1,.string xs2] rfl rfl (new_cells (c:= #[.string xs0,.string xs1,.string xs2]) (by simp[go_sem])) (by simp[Value.oneCell']) (by unfold maxLen;omega) (by omega) ?_;intro v2 W2 ho2 hg2;have HB2:=own_step (w:=W8) hg2 (HO1.out.alloc _) (below_out HB1.out bel);have HO2:=Lib.hid ho2;clear ho2 hg2)
          |(at_builtin;go_loud(refine append_any rfl _ _ 38 rfl sltF W8.heap.size rfl HO2.out (by have:=HB2.out.size;omega) (O.length-a) _ (HNb.out _ HB2.out) hlB (fun u hu=>cells_oneF O u (List.mem_of_mem_drop hu)) (by unfold maxLen;omega) (by omega) ?_);intro v3 W3 ho3 hg3;have HB3:=own_step (w:=W8) hg3 HO2.out HB2.out;have HO3:=Lib.hid ho3;clear ho3 hg3))
       go_roundw
       case rel=>
        refine⟨k+1,by omega,by go_num,below_next HB.out (below_next HB8.out HB3.out), ?_⟩
        show World.ownsRow _ _ _ _ _ _ _
        have h9:=own_base HO3.out (below_next HB.out HB8.out).size
        rw[HI.out]
        have e1:(O.take a++x::O.drop a).length=0+a+1+(O.length-a):=by simp only[List.length_append,List.length_take,List.length_cons,List.length_drop];omega
        rw[e1,HCe.out]
        exact h9
       case measure=>simp[intOf];omega
  ·have hkl:k=d.length:=by omega
   subst hkl
   rw[List.take_length]at HO
   go_wp2_with fail
   go_ret
   obtain⟨A',c',rfl,hc'⟩:=own_cap HO.out
   exact⟨A',c',rfl,HB.out,own_cpz HO.out,Rd.own HO.out,fun _ b off s h=>by subst h;exact(HO.out.lt b rfl).1⟩):P:=h
theorem wordsS_any (A:Option Addr) (n c:Nat) (d:List Bs) (w:World) (h:Rd w (.slice A n c) d.length 1 ((d).map sv)) (hn:d.length<=100000000):
  Calls Tryz.prog 127 #[.slice A n c] w (RetN w (neatL ltB d).length 1 ((neatL ltB d).map sv)):=unWordsS22
end Go.Proofs.YtbhhgbgfaemfdaaGreat

