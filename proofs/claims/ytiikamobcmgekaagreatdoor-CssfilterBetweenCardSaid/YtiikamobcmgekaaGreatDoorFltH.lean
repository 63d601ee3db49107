/- The walk of awake of chapter 17. -/
import Derived.Test.YtiikamobcmgekaaGreatDoorCmpM
import Derived.Test.YtiikamobcmgekaaGreatDoorFltF
import Derived.Test.YtiikamobcmgekaaGreatDoorJDecR
namespace Go.Proofs.YtiikamobcmgekaaGreatDoor
set_option maxRecDepth 100000
set_option maxHeartbeats 4000000
open Go.RowKit Go.Shelf
attribute [local go_sem] Oper.semAt_some
theorem flt_right (P:Pol) (s:Bs):(fltD P s).all rightD=true:=List.all_eq_true.2 fun d hd=>(flt_kept d hd).right
theorem flt_shortD (P:Pol) {s:Bs} (h: ∀d∈declsL (cssL s),ShortD d): ∀d∈fltD P s,ShortD d:=fun d hd=>all_shortD h d (last_mem hd)
theorem filter17_any (g:Nat) (P:Pol) (s:Bs) (w:World) (hr:RulesV w g P) (hw:Tb w) (hx:Mx w) (hm:s.length<=100000000) (hD: ∀d∈declsL (cssL s),ShortD d) (hn:(declsL (cssL s)).length<=1000000) (hl:(fltD P s).length<=2000):
  Calls Tryz.prog 15 #[.pointer (some ⟨g,0,none⟩),.string ⟨s.toArray⟩] w (Ret (.tuple #[.string ⟨(textD (fltD P s)).toArray⟩,.bool (decide (0<(fltD P s).length))]) w):=by
 have HDe:=Lib.hid (decls17_any g P s w hr hw hx hm hD hn)
 have hS:=flt_shortD P hD
 have hR:=flt_right P s
 generalize fltD P s=F at*
 have HTx:=Lib.hid (fun(A:Option Addr) (n c:Nat) (W:World) (hb:Below w.heap.size w W) (h:RdD W (.slice A n c) F)=>show Calls Tryz.prog 35 #[.slice A n c] W (Ret (.tuple #[.string ⟨(textD F).toArray⟩,.bool true]) W)from by
  have h1:=dtext_any A n c F W (Tb.below hw hb) (Mx.below hx hb) h hS hl
  rw[hR]at h1
  exact h1)
 generalize(⟨(textD F).toArray⟩:ByteArray)=TB at*
 generalize(⟨s.toArray⟩:ByteArray)=S at*
 clear hr hw hx hm hD hS hR
 go_enter Tryz.func15,Tryz.ntmps15
 go_wp2_with(first
  |(go_at_call 34;(with_reducible refine HDe.out.mono ?_);rintro e W1 ⟨A1,c1,rfl,hb1,_,_,hr1⟩;have HB1:=Lib.hid hb1;have HR1:=Lib.hid hr1;clear hb1 hr1)
  |(go_at_call 35;(with_reducible refine(HTx.out _ _ _ _ HB1.out HR1.out).mono ?_);rintro e w' ⟨rfl,X2,rfl⟩))
 go_ret2
 exact Ret.of (by simp) (HB1.out.trans ((bel:Below W1.heap.size W1 _).mono HB1.out.size))
def awT17:Bs:=[99,115,115,32,99,111,108,111,114,32,119,105,100,116,104,59]
def awP17:Pol:=⟨[],[],[[99,111,108,111,114],[119,105,100,116,104]],[],[],[],false,64,32,1024⟩
def awS17:Bs:=[67,79,76,79,82,58,114,101,100,59,32,119,105,100,116,104,58,32,117,114,108,40,120,41]
theorem aw17_ok:compR awT17= .ok awP17:=by kernel_rfl
theorem aw17_flt:fltD awP17 awS17=[⟨[99,111,108,111,114],[⟨1,[114,101,100],0,[]⟩],false⟩]:=by decide+kernel
theorem aw17_text:textD [⟨[99,111,108,111,114],[⟨1,[114,101,100],0,[]⟩],false⟩]=[99,111,108,111,114,58,32,114,101,100]:=by decide+kernel
theorem awake17_any (w:World) (hT:Tb w) (hX:Mx w):Calls Tryz.prog 14 #[] w (Ret (.bool true) w):=by
 have HT:=Lib.hid (fun W (hb:Below w.heap.size w W)=>And.intro (Tb.below hT hb) (Mx.below hX hb))
 have HP:=Lib.hid (fun W=>show Calls Tryz.prog 8 #[.string ⟨#[99,115,115,32,99,111,108,111,114,32,119,105,100,116,104,59]⟩] W _ from comp_ok aw17_ok W)
 clear hT hX
 go_enter Tryz.func14,Tryz.ntmps14
 go_upto_region 2 with(go_at_call 8;(with_reducible refine(HP.out _).mono ?_);rintro e W1 ⟨g,rfl,hb1,hr1⟩;have HB1:=Lib.hid hb1;have HR1:=Lib.hid hr1;clear hb1 hr1)
 have HF1:=Lib.hid (show Calls Tryz.prog 15 #[.pointer (some ⟨g,0,none⟩),.string ⟨#[67,79,76,79,82,58,114,101,100,59,32,119,105,100,116,104,58,32,117,114,108,40,120,41]⟩] W1 (Ret (.tuple #[.string ⟨#[99,111,108,111,114,58,32,114,101,100]⟩,.bool true]) W1)from by
  have p:=parsed_short (s:=awS17) (by decide)
  have h:=filter17_any g awP17 awS17 W1 HR1.out (HT.out W1 HB1.out).1 (HT.out W1 HB1.out).2 (by decide) (fun d hd=>(p.2 d hd).1) (by have:=p.1;omega) (by rw[aw17_flt];decide)
  rw[aw17_flt,aw17_text]at h
  exact h)
 go_wp2_with(go_at_call 15;(with_reducible refine HF1.out.mono ?_);rintro e V1 ⟨rfl,Y1,rfl⟩)
 go_ret
 exact Ret.of rfl (HB1.out.trans ((bel:Below W1.heap.size W1 _).mono HB1.out.size))
end Go.Proofs.YtiikamobcmgekaaGreatDoor
