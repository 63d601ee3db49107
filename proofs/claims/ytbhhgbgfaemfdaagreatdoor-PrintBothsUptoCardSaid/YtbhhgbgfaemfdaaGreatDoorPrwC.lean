/- The walk of the closure that tells a limit. -/
import Derived.Lib.AppendIntMem
import Derived.Test.YtbhhgbgfaemfdaaGreatDoorPrwB
namespace Go.Proofs.YtbhhgbgfaemfdaaGreatDoor
open Lib renaming itoa→z4k
open List renaming setIfInBounds_toArray→z2d,set_cons_succ→z2f,set_cons_zero→z2e
set_option maxRecDepth 100000
set_option maxHeartbeats 4000000
open Go.RowKit
attribute [local go_sem] Oper.semAt_some
def Ten (w:World):Prop:=Lib.TabIs Tryz.prog w "internal/strconv.uint64pow10" .u64 Lib.pow10Tab
theorem Ten.below {w w':World} (h:Ten w) (hb:Below w.heap.size w w'):Ten w':=by
 have hg:Tryz.prog.globalNamed "internal/strconv.uint64pow10" =some 0:=by kernel_rfl
 unfold Ten Lib.TabIs World.var? at h ⊢
 rw[hg,Option.bind_some]at h ⊢
 by_cases hl:0<w.heap.size
 ·rw[hb.block _ hl];exact h
 ·rw[Array.getElem?_eq_none (Nat.le_of_not_lt hl)]at h
  cases h
section
variable {P:Program} {ops:Array Oper} {Q:Exit->Act->World->Prop} {S:World->Prop}
theorem zci {L:Act->World->Prop} {is:List (Nat × Bool)} {i:Nat} {a:Act} {w:World} {o:Oper} {v:Value} (d:Nat) (ho:ops[i]? =some o) (hd:o.dst=some d) (hw:Region.wanted o (yielded ops a.tmps)=true)
  (hv: ∀W,S W->(execOp a.eval o).run P W= .ok (.value v) W) (h:zbe P ops Q S L is (a.put (some d) v) w):zbe P ops Q S L ((i,true)::is) a w:=zaq ho hw hv (hd ▸ h)
end
def limT:Bs:=[108,105,109,105,116]
theorem zhr (B:Nat) (k O:Bs) (n:Int) (w:World) (hT:Ten w) (hB:Boxed w B 9 (.string ⟨O.toArray⟩)) (h0:0<=n) (h1:n<=1000000000) (hO:O.length<=35184372088832) (hm:(sayS limT [k,z4k n]).length<=35184372088832):
  Calls Tryz.prog 61 #[.string ⟨k.toArray⟩,.int .i64 n,.pointer (some ⟨B,0,none⟩)] w fun e w'=>e= .returned (.tuple #[])/\Boxed w' B 9 (.string ⟨(O++sayS limT [k,z4k n]).toArray⟩)/\zac (fun b=>b=B) w w':=by
 have hmx:Tryz.prog.follows .mixedOrders=true:=by kernel_rfl
 have HF:=Lib.hid (fun W (hb:Below w.heap.size w W)=>Tryz.strconv_FormatInt_10 n (by omega) (by omega) W (hT.below hb))
 have HS:=Lib.hid (fun W v (hW:Ws W v [limT,k,z4k n])=>ze6 v limT [k,z4k n] W hW (by simp) hm)
 have HSum:Hid ((⟨O.toArray⟩:ByteArray)++⟨(sayS limT [k,z4k n]).toArray⟩=⟨(O++sayS limT [k,z4k n]).toArray⟩):=by
  refine zb7 ?_
  simp
 have hOz:(⟨O.toArray⟩:ByteArray).size<=35184372088832:=by show O.toArray.size<=_;simpa using hO
 have hSz:(⟨(sayS limT [k,z4k n]).toArray⟩:ByteArray).size<=35184372088832:=by show(sayS limT [k,z4k n]).toArray.size<=_;simpa using hm
 have HL:=Lib.hid (show [sv limT,sv k,sv (z4k n)]=[limT,k,z4k n].map sv from rfl)
 have HB:=Lib.hid hB
 have f1:=hB.cell
 have f2:=hB.frozen
 have f3:=hB.lt
 have hm2:=hm
 clear hT hB hm
 obtain⟨F,hF⟩: ∃F,z4k n=F:=⟨_,rfl⟩
 rw[hF]at HF HS HSum hSz HL hm2 ⊢
 obtain⟨T,hT⟩: ∃T,sayS limT [k,F]=T:=⟨_,rfl⟩
 rw[hT]at HS HSum hSz hm2 ⊢
 clear hF hT
 go_enter Tryz.func61,Tryz.ntmps61
 refine zai 7 [(0,true),(1,true),(2,true),(3,false),(4,false),(5,false),(6,false)] (fun V=>Below w.heap.size w V) hmx (by kernel_rfl) (by kernel_rfl) (by kernel_rfl) (by decide) rfl (fun c a d v w h=>by first|exact h|(obtain⟨x,y⟩:=(h:_/\_);cases d<;>exact⟨x,y⟩)) (by kernel_rfl) (by show Below _ _ _;exact bel) ?_
 refine zci (v:= .string ⟨O.toArray⟩) 5 rfl rfl rfl (fun W hW=>by have d:=(hW.cell (p:=⟨B,0,none⟩) f3).trans f1;simp[execOp,go_sem,d]) ?_
 simp only[Act.put,z2d,z2f,z2e]
 refine zci (v:= .string ⟨k.toArray⟩) 6 rfl rfl rfl (fun W hW=>by simp[execOp,go_sem]) ?_
 simp only[Act.put,z2d,z2f,z2e]
 refine zci (v:= .int .i64 n) 7 rfl rfl rfl (fun W hW=>by simp[execOp,go_sem]) ?_
 simp only[Act.put,z2d,z2f,z2e]
 refine zaj rfl rfl ?_
 intro Kc hKc
 unfold Oper.wp
 simp[execOp,go_sem]
 refine(HF.out _ bel).mono ?_
 rintro e V1 ⟨rfl,q1,os1,hV1⟩
 have hw1:Below w.heap.size w V1:=(bel:Below w.heap.size w w.drew).trans (by rw[hV1];exact Lib.below_grow _ _ (by simp) _ _)
 clear hV1
 apply hKc
 refine⟨hw1, ?_⟩
 try simp only[Act.put,z2d,z2f,z2e]
 refine zaj rfl rfl ?_
 intro Kc hKc
 unfold Oper.wp
 simp[execOp,go_sem]
 apply hKc
 have hw2:Below w.heap.size w (V1.alloc (.cells #[.string ⟨#[108,105,109,105,116]⟩,.string ⟨k.toArray⟩,.string ⟨F.toArray⟩] 9)):=hw1.trans ((bel:Below V1.heap.size V1 _).mono hw1.size)
 refine⟨hw2, ?_⟩
 try simp only[Act.put,z2d,z2f,z2e]
 refine zaj rfl rfl ?_
 intro Kc hKc
 unfold Oper.wp
 simp[execOp,go_sem]
 refine(HS.out _ _ (zq4 (l:=[limT,k,F]) rfl)).mono ?_
 rintro e V3 ⟨rfl,X3,hV3⟩
 have hw3:Below w.heap.size w V3:=hw2.trans ((show Below _ _ V3 by rw[hV3];exact zal _ _).mono hw2.size)
 clear hV3
 apply hKc
 refine⟨hw3, ?_⟩
 try simp only[Act.put,z2d,z2f,z2e]
 refine zaj rfl rfl ?_
 intro Kc hKc
 unfold Oper.wp
 simp[execOp,go_sem]
 rw[if_neg (by omega)]
 apply hKc
 refine⟨hw3, ?_⟩
 try simp only[Act.put,z2d,z2f,z2e]
 dsimp only[zbe,List.drop]
 have hB3:Boxed V3 B 9 (.string ⟨O.toArray⟩):=(zac.of_below (pv:=fun _=>False) hw3).boxed HB.out (fun h=>h)
 have g2:=hB3.frozen
 have g1:=hB3.cell
 rw[HSum.out]
 go_wp2_with fail
 go_end0
 exact⟨rfl,hB3.set _,zac.setCell (pv:=fun b=>b=B) (p:=⟨B,0,none⟩) (zac.of_below hw3) (.inr rfl) _⟩
end Go.Proofs.YtbhhgbgfaemfdaaGreatDoor

