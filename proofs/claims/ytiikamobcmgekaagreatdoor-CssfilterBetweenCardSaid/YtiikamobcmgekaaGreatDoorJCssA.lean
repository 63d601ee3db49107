/- The walks of styles: bytes' classes, and how many of a kind there are. -/
import Derived.Test.YtiikamobcmgekaaGreatDoorLB
import Derived.Shelf.Abstract
import Derived.Lib.Strings
import Derived.Test.YtiikamobcmgekaaGreatDoorProg
import Derived.Test.YtiikamobcmgekaaGreatDoorKA
import Derived.Test.YtiikamobcmgekaaGreatDoorJDecPlain
namespace Go.Proofs.YtiikamobcmgekaaGreatDoor
set_option maxHeartbeats 1600000
open Go.RowKit Go.Shelf
theorem letter_bitsQ (c:UInt8):btwB (bits .or .u8 c.toNat 32) 97 122=letB c:=by
 have h: ∀n:Fin 256,btwB (bits .or .u8 ((n.val:Nat):Int) 32) 97 122=(decide (65<=n.val/\n.val<=90)||decide (97<=n.val/\n.val<=122)):=by decide+kernel
 exact h ⟨c.toNat,c.toNat_lt⟩
theorem letter_anyQ (c:UInt8) (w:World):Calls Tryz.prog 161 #[.int .u8 c.toNat] w fun e w'=>e= .returned (.bool (letB c))/\w=w':=by
 go_enter Tryz.func161,Tryz.ntmps161
 go_wp2_with(go_at_call 91;refine(between_any _ _ _ _).mono ?_;rintro e w' ⟨rfl,rfl⟩)
 all_goals go_ret
 all_goals exact⟨ret_bool (letter_bitsQ c),rfl⟩
theorem begins_any (c:UInt8) (w:World):Calls Tryz.prog 276 #[.int .u8 c.toNat] w fun e w'=>e= .returned (.bool (begB c))/\w=w':=by
 have HB:Hid (begB c=(letB c||decide (c.toNat=95))):=rfl
 cases hl:letB c
 all_goals
  have HL:Hid (∀W,Calls Tryz.prog 161 #[.int .u8 c.toNat] W fun e w'=>e= .returned (.bool _)/\W=w'):=fun W=>hl ▸ letter_anyQ c W
  go_enter Tryz.func276,Tryz.ntmps276
  go_wp2_with(go_at_call 161;(with_reducible refine(HL.out _).mono ?_);rintro e w' ⟨rfl,rfl⟩)
  all_goals go_ret
  all_goals exact⟨ret_bool (by rw[HB.out,hl];first|rfl|(rw[Bool.eq_iff_iff];simp<;>omega)),rfl⟩
theorem goes_anyQ (c:UInt8) (w:World):Calls Tryz.prog 244 #[.int .u8 c.toNat] w fun e w'=>e= .returned (.bool (goB c))/\w=w':=by
 have HB:Hid (goB c=(begB c||digB c||decide (c.toNat=45))):=rfl
 cases hl:begB c<;>cases hd0:digB c
 all_goals
  have HL:Hid (∀W,Calls Tryz.prog 276 #[.int .u8 c.toNat] W fun e w'=>e= .returned (.bool _)/\W=w'):=fun W=>hl ▸ begins_any c W
  have HD:Hid (∀W,Calls Tryz.prog 108 #[.int .u8 c.toNat] W fun e w'=>e= .returned (.bool _)/\W=w'):=fun W=>hd0 ▸ digit_any c W
  go_enter Tryz.func244,Tryz.ntmps244
  go_wp2_with(first|(go_at_call 276;(with_reducible refine(HL.out _).mono ?_);rintro e w' ⟨rfl,rfl⟩)|(go_at_call 108;(with_reducible refine(HD.out _).mono ?_);rintro e w' ⟨rfl,rfl⟩))
  all_goals go_ret
  all_goals exact⟨ret_bool (by rw[HB.out,hl,hd0];first|rfl|(rw[Bool.eq_iff_iff];simp<;>omega)),rfl⟩
theorem plain_any (c:UInt8) (w:World):Calls Tryz.prog 279 #[.int .u8 c.toNat] w fun e w'=>e= .returned (.bool (plB c))/\w=w':=by
 go_enter Tryz.func279,Tryz.ntmps279
 go_wp2
 all_goals go_ret
 all_goals exact⟨ret_bool (by rw[Bool.eq_iff_iff];simp[plB]at*;try omega),rfl⟩
theorem goes_predQ:PredU 244 goB:=⟨enters_of Tryz.func244 (by kernel_rfl) rfl,goes_anyQ⟩
theorem plain_pred:PredU 279 plB:=⟨enters_of Tryz.func279 (by kernel_rfl) rfl,plain_any⟩
theorem twc_t {p:UInt8->Bool} {c:UInt8} (r:Bs) (h:p c=true):twc p (c::r)=twc p r+1:=by simp[twc,h]
theorem twc_f {p:UInt8->Bool} {c:UInt8} (r:Bs) (h:p c=false):twc p (c::r)=0:=by simp[twc,h]
theorem row_anyQ (s:ByteArray) (at_:Nat) (g:Nat) (p:UInt8->Bool) (w:World) (hp:PredU g p) (ha:at_<=s.size) (hm:s.size<=140737488355328):
  Calls Tryz.prog 243 #[.string s,.int .i64 at_,.func (.func g) #[] #[]] w fun e w'=>e= .returned (.int .i64 (twc p (s.data.toList.drop at_)))/\w=w':=by
 obtain⟨eg,hp⟩:=hp
 have hp:=Lib.hid hp
 obtain⟨T,hT⟩: ∃T,twc p (s.data.toList.drop at_)=T:=⟨_,rfl⟩
 have HT:=Lib.hid hT
 rw[hT]
 clear hT
 go_enter Tryz.func243,Tryz.ntmps243
 go_wp2_with fail
 go_loop [7] (fun i=> ∃k:Nat,at_+k<=s.size/\i= .int .i64 k/\Hid (T=k+twc p (s.data.toList.drop (at_+k)))) (fun i=>s.size-(intOf i).toNat)
 case atStart=>exact⟨0,by omega,rfl,by show _=_;rw[<-HT.out];simp⟩
 case round=>
  obtain⟨k,hk,rfl,HK⟩:=hrel
  by_cases hlt:at_+k<s.size
  ·have HD:Hid (s.data.toList.drop (at_+k)=s[at_+k]::s.data.toList.drop (at_+k+1)):=drop_at s _ hlt
   have hix:((at_:Int)+k).toNat=at_+k:=by omega
   cases hpc:p s[at_+k]
   ·have HN:Hid (T=k):=by show _=_;rw[HK.out,HD.out,twc_f _ hpc];omega
    go_wp2_with((with_reducible refine(hp.out s[at_+k] _).mono ?_);rintro e w' ⟨rfl,rfl⟩;rw[hpc])
    go_ret
    exact⟨ret_int (by rw[HN.out]),rfl⟩
   ·have HN:Hid (T=k+1+twc p (s.data.toList.drop (at_+(k+1)))):=by show _=_;rw[HK.out,HD.out,twc_t _ hpc,Nat.add_assoc at_ k 1];omega
    go_wp2_with((with_reducible refine(hp.out s[at_+k] _).mono ?_);rintro e w' ⟨rfl,rfl⟩;rw[hpc])
    go_round
    case rel=>exact⟨k+1,by omega,by go_num,HN⟩
    case measure=>simp[intOf];omega
  ·have HN:Hid (T=k):=by show _=_;rw[HK.out,drop_end _ _ (by omega)];simp[twc]
   go_wp2
   go_ret
   exact⟨ret_int (by rw[HN.out]),rfl⟩
end Go.Proofs.YtiikamobcmgekaaGreatDoor

