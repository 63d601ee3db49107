/- The walks of pictures: digits of a size. -/
import Derived.Test.YtiikamobcmgekaaGreatDoorClsD
import Derived.Test.YtiikamobcmgekaaGreatDoorPicPlainB
namespace Go.Proofs.YtiikamobcmgekaaGreatDoor
open Go.RowKit Go.Shelf
theorem idxF_until (p:UInt8->Bool) (l:Bs):(0<=idxF p l/\idxF p l=tw (fun c=> !p c) l)\/(idxF p l<0/\tw (fun c=> !p c) l=l.length):=by
 unfold idxF
 have:=tw_le (fun c=> !p c) l
 split
 ·left;omega
 ·right;omega
set_option maxHeartbeats 800000 in
theorem until_any (s:ByteArray) (g:Nat) (p:UInt8->Bool) (w:World) (hp:PredU g p) (hm:s.size<=9223372036854775807):
  Calls Tryz.prog 32 #[.string s,.func (.func g) #[] #[]] w (Ret (.int .i64 (tw (fun c=> !p c) s.data.toList)) w):=by
 have HB:=Lib.hid (fun W=>len_data s ▸ bytes_rd W 5 s (grownCap W s.size 0 5) hm)
 have HP:=Lib.hid hp
 have HU:=Lib.hid (idxF_until p s.data.toList)
 rw[len_data]at HU
 have HL:=Lib.hid (len_data s)
 clear hp
 rcases HU.out with⟨h1,h2⟩|⟨h1,h2⟩
 ·have H2:=Lib.hid h2
  clear HU h2
  go_enter Tryz.func32,Tryz.ntmps32
  go_wp2_with(go_at_call 90;refine(indexFunc_any _ _ _ _ _ (HB.out _) HP.out).mono ?_;rintro e w' ⟨rfl,rfl⟩)
  go_ret
  exact Ret.of (by rw[<-H2.out];rfl) bel
 ·have H2:=Lib.hid h2
  clear HU h2
  go_enter Tryz.func32,Tryz.ntmps32
  go_wp2_with(go_at_call 90;refine(indexFunc_any _ _ _ _ _ (HB.out _) HP.out).mono ?_;rintro e w' ⟨rfl,rfl⟩)
  go_ret
  exact Ret.of (by rw[H2.out];rfl) bel
theorem space_pred:PredU 33 spB:=⟨enters_of Tryz.func33 (by kernel_rfl) rfl,space_any⟩
set_option maxHeartbeats 400000 in
theorem nodig_any (c:UInt8) (w:World):Calls Tryz.prog 107 #[.int .u8 c.toNat] w fun e w'=>e= .returned (.bool (!digB c))/\w=w':=by
 go_enter Tryz.func107,Tryz.ntmps107
 go_wp2_with(go_at_call 108;refine(digit_any _ _).mono ?_;rintro e w' ⟨rfl,rfl⟩)
 all_goals go_ret
 all_goals exact⟨rfl,rfl⟩
theorem nodig_pred:PredU 107 (fun c=> !digB c):=⟨enters_of Tryz.func107 (by kernel_rfl) rfl,nodig_any⟩
set_option maxHeartbeats 400000 in
theorem between_src (c:UInt8) (w:World):Calls Tryz.prog 64 #[.int .u8 c.toNat] w fun e w'=>e= .returned (.bool (!sepB c))/\w=w':=by
 cases hs:spB c
 ·have HX:Hid ((!sepB c)=((c.toNat:Int) !=44)):=by
   show _=_
   unfold sepB;rw[hs,Bool.eq_iff_iff];simp;omega
  go_enter Tryz.func64,Tryz.ntmps64
  go_wp2_with(go_at_call 33;refine(space_any _ _).mono ?_;rintro e w' ⟨rfl,rfl⟩;rw[hs])
  all_goals go_ret
  all_goals exact⟨ret_bool HX.out.symm,rfl⟩
 ·have HX:Hid ((!sepB c)=false):=by
   show _=_
   unfold sepB;rw[hs];rfl
  go_enter Tryz.func64,Tryz.ntmps64
  go_wp2_with(go_at_call 33;refine(space_any _ _).mono ?_;rintro e w' ⟨rfl,rfl⟩;rw[hs])
  all_goals go_ret
  all_goals exact⟨ret_bool HX.out.symm,rfl⟩
theorem between_pred:PredU 64 (fun c=> !sepB c):=⟨enters_of Tryz.func64 (by kernel_rfl) rfl,between_src⟩
theorem not_not (p:UInt8->Bool):(fun c=> !(fun c=> !p c) c)=p:=by funext c;simp
set_option maxHeartbeats 800000 in
theorem digits_any (s:ByteArray) (w:World) (hm:s.size<=9223372036854775807):
  Calls Tryz.prog 44 #[.string s] w (Ret (.tuple #[.string ⟨(s.data.toList.dropWhile digB).toArray⟩,.bool (decide (1<=tw digB s.data.toList)&&decide (tw digB s.data.toList<=9))]) w):=by
 have HU:=Lib.hid (fun W=>not_not digB ▸ until_any s _ _ W nodig_pred hm)
 have hle:=tw_le digB s.data.toList
 rw[len_data]at hle
 have HS:=Lib.hid (str_drop s (tw digB s.data.toList))
 have HD:=Lib.hid (drop_tw digB s.data.toList)
 generalize tw digB s.data.toList=n at*
 by_cases h1:1<=n
 ·by_cases h2:n<=9
  all_goals
   go_enter Tryz.func44,Tryz.ntmps44
   go_wp2_with(go_at_call 32;(with_reducible refine(HU.out _).mono ?_);rintro e w' ⟨rfl,X,rfl⟩)
   go_ret2
   exact Ret.of (by rw[<-HD.out,<-HS.out];simp[h1,h2];try omega) bel
 ·go_enter Tryz.func44,Tryz.ntmps44
  go_wp2_with(go_at_call 32;(with_reducible refine(HU.out _).mono ?_);rintro e w' ⟨rfl,X,rfl⟩)
  go_ret2
  exact Ret.of (by rw[<-HD.out,<-HS.out];simp;try omega) bel
end Go.Proofs.YtiikamobcmgekaaGreatDoor
