/- The small thing that is tried first. -/
import Derived.Test.YtiikamobcmgekaaGreatDoorPicN
namespace Go.Proofs.YtiikamobcmgekaaGreatDoor
open Go.RowKit Go.Shelf
def w1:Bs:=[97,32,49,120,44,32,98]
theorem awake_pics:picL w1=[⟨[97],[49,120]⟩,⟨[98],[]⟩]:=by decide
theorem awake_text:textP [⟨[97],[49,120]⟩,⟨[98],[]⟩]=w1:=by decide
theorem awake_size:sizeB [49,48,119]=true:=by decide
set_option maxRecDepth 100000 in
set_option maxHeartbeats 4000000 in
theorem awake12_any (w:World):Calls Tryz.prog 7 #[] w (Ret (.bool true) w):=by
 have HP:=Lib.hid (fun W=>show Calls Tryz.prog 12 #[.string ⟨#[97,32,49,120,44,32,98]⟩] W (RetS W 2 2 (picCells [⟨[97],[49,120]⟩,⟨[98],[]⟩]))from awake_pics ▸ pics_any w1 W (by decide))
 have HT:=Lib.hid (fun(A:Option Addr) (n c:Nat) (W:World) (h:Rd W (.slice A n c) 2 2 (picCells [⟨[97],[49,120]⟩,⟨[98],[]⟩]))=>show Calls Tryz.prog 18 #[.slice A n c] W (Ret (.string ⟨#[97,32,49,120,44,32,98]⟩) W)from by
  have:=pictext_any A n c _ W h (by decide) (by decide) (by decide)
  rw[awake_text]at this;exact this)
 have HZ:=Lib.hid (fun W=>show Calls Tryz.prog 19 #[.string ⟨#[49,48,119]⟩] W (Ret (.bool true) W)from awake_size ▸ sizeok_any [49,48,119] W (by decide))
 have hmx:Tryz.prog.follows .mixedOrders=true:=by kernel_rfl
 go_enter Tryz.func7,Tryz.ntmps7
 go_wp2_with(first|(go_at_call 12;(with_reducible refine(HP.out _).mono ?_);rintro e w' ⟨A3,c3,X3,rfl,rfl,hc3,hr3⟩;obtain⟨b,off,rfl,hb,c0,c1⟩:=hr3.pic 0 (by decide);simp only[List.getElem_cons_zero,Nat.zero_mul,Nat.add_zero,sv]at c0 c1;have HR3:=Lib.hid hr3;clear hr3)|(go_at_call 18;(with_reducible refine(HT.out _ _ _ _ HR3.out).mono ?_);rintro e w' ⟨rfl,X4,rfl⟩)|(go_at_call 19;(with_reducible refine(HZ.out _).mono ?_);rintro e w' ⟨rfl,X5,rfl⟩))
 go_ret
 exact Ret.of rfl bel
end Go.Proofs.YtiikamobcmgekaaGreatDoor

