/- The walks of bytes and words. -/
import Derived.Shelf.Abstract
import Derived.Lib.Strings
import Derived.Test.YtiikamobcmgekaaGreatDoorKB
import Derived.Test.YtiikamobcmgekaaGreatDoorProg
import Derived.Test.YtiikamobcmgekaaGreatDoorKA
namespace Go.Proofs.YtiikamobcmgekaaGreatDoor
structure LE where
 kind:Nat
 at_:Nat
 text:Bs
 err:Nat
def yldS (k:Nat->Bs->List LE) (a:Nat):Bs->List LE
 |[]=>[]
 |c::r=>match pieceL (c::r)with
  | .ok kd t n=>⟨kd,a,t,0⟩::k (a+n) ((c::r).drop n)
  | .bad n=>[⟨0,a+n,[],2⟩]
def yldF:Nat->Nat->Bs->List LE
 |0,_,_=>[]
 |f+1,a,l=>yldS (yldF f) (a+blk false l) (l.drop (blk false l))
theorem yldS_congr {k k':Nat->Bs->List LE} (a:Nat) (r:Bs) (h: ∀b l,l.length<r.length->k b l=k' b l):yldS k a r=yldS k' a r:=by
 cases r with
 |nil=>rfl
 |cons c r=>
  simp only[yldS]
  cases hp:pieceL (c::r)with
  |bad n=>rfl
  |ok kd t n=>
   have:=(pieceL_le (c::r)).1 kd t n hp
   simp only
   rw[h _ _ (by rw[List.length_drop];omega)]
theorem yldF_more (f g:Nat) (a:Nat) (l:Bs) (hf:l.length<f) (hg:l.length<g):yldF f a l=yldF g a l:=by
 induction f generalizing g a l with
 |zero=>omega
 |succ f ih=>
  cases g with
  |zero=>omega
  |succ g=>
   unfold yldF
   refine yldS_congr _ _ fun b l' hl'=> ?_
   rw[List.length_drop]at hl'
   exact ih g _ _ (by omega) (by omega)
def yldL (a:Nat) (l:Bs):List LE:=yldF (l.length+1) a l
theorem yldF_len (f a:Nat) (l:Bs):(yldF f a l).length<=f:=by
 induction f generalizing a l with
 |zero=>simp[yldF]
 |succ f ih=>
  unfold yldF
  generalize l.drop (blk false l)=r
  cases r with
  |nil=>simp[yldS]
  |cons c r=>
   simp only[yldS]
   cases hp:pieceL (c::r)with
   |ok k t n=>simp;exact ih _ _
   |bad n=>simp
theorem yldL_len (a:Nat) (l:Bs):(yldL a l).length<=l.length+1:=yldF_len _ a l
def yldH (a:Nat) (r:Bs):List LE:=yldS yldL a r
theorem yldL_eq (a:Nat) (l:Bs):yldL a l=yldH (a+blk false l) (l.drop (blk false l)):=by
 show yldF (l.length+1) a l=_
 unfold yldF yldH
 refine yldS_congr _ _ fun b l' hl'=> ?_
 rw[List.length_drop]at hl'
 exact yldF_more _ _ _ _ (by omega) (by omega)
theorem yldH_ok {a:Nat} {r:Bs} {k:Nat} {t:Bs} {n:Nat} (hr:r≠[]) (h:pieceL r= .ok k t n):yldH a r=⟨k,a,t,0⟩::yldL (a+n) (r.drop n):=by
 cases r with
 |nil=>exact absurd rfl hr
 |cons c r=>simp only[yldH,yldS,h]
theorem yldH_bad {a:Nat} {r:Bs} {n:Nat} (hr:r≠[]) (h:pieceL r= .bad n):yldH a r=[⟨0,a+n,[],2⟩]:=by
 cases r with
 |nil=>exact absurd rfl hr
 |cons c r=>simp only[yldH,yldS,h]
def toSR:List LE->SR
 |[]=> .ok []
 |x::r=>if x.err=0 then(toSR r).cons ⟨x.kind,x.at_,x.text⟩else .bad x.at_
theorem scanF_yld (f a:Nat) (l:Bs):scanF f a l=toSR (yldF f a l):=by
 induction f generalizing a l with
 |zero=>rfl
 |succ f ih=>
  rw[scanF,yldF]
  generalize l.drop (blk false l)=r
  cases r with
  |nil=>rfl
  |cons c r=>
   simp only[yldS]
   cases hp:pieceL (c::r)with
   |ok k t n=>simp[toSR,ih]
   |bad n=>simp[toSR]
theorem scanL_yld (a:Nat) (l:Bs):scanL a l=toSR (yldL a l):=scanF_yld _ a l
def TR.pr:TR->PR
 | .ok t n=> .ok 3 t (n+1)
 | .bad n=> .bad (n+1)
 | .op=> .bad 0
theorem pieceL_str {c:UInt8} (r:Bs) (h:c.toNat=34):pieceL (c::r)=(strL r).pr:=by
 rw[pieceL,if_pos h];cases strL r<;>rfl
open Go.RowKit
theorem ret_bool {a b:Bool} (h:a=b):Ending.returned (.bool a)= .returned (.bool b):=by rw[h]
theorem ret_int {k:IntKind} {a b:Int} (h:a=b):Ending.returned (.int k a)= .returned (.int k b):=by rw[h]
def btwB (c l h:Int):Bool:=decide (l<=c)&&decide (c<=h)
theorem letter_bits (c:UInt8):btwB (bits .or .u8 c.toNat 32) 97 122=(upB c||lowB c):=by
 have h: ∀n:Fin 256,btwB (bits .or .u8 ((n.val:Nat):Int) 32) 97 122=(decide (65<=n.val/\n.val<=90)||decide (97<=n.val/\n.val<=122)):=by decide+kernel
 exact h ⟨c.toNat,c.toNat_lt⟩
set_option maxHeartbeats 400000 in
theorem between_any (c l h:Int) (w:World):Calls Tryz.prog 91 #[.int .u8 c,.int .u8 l,.int .u8 h] w fun e w'=>e= .returned (.bool (btwB c l h))/\w=w':=by
 go_enter Tryz.func91,Tryz.ntmps91
 go_wp2
 all_goals go_ret
 all_goals exact⟨ret_bool (by unfold btwB;simp<;>omega),rfl⟩
set_option maxHeartbeats 400000 in
theorem space_any (c:UInt8) (w:World):Calls Tryz.prog 33 #[.int .u8 c.toNat] w fun e w'=>e= .returned (.bool (spB c))/\w=w':=by
 go_enter Tryz.func33,Tryz.ntmps33
 go_wp2_with(go_at_call 91;refine(between_any _ _ _ _).mono ?_;rintro e w' ⟨rfl,rfl⟩)
 all_goals go_ret
 all_goals exact⟨ret_bool (by rw[Bool.eq_iff_iff];simp[spB,btwB]at*;try omega),rfl⟩
set_option maxHeartbeats 400000 in
theorem letter_any (c:UInt8) (w:World):Calls Tryz.prog 161 #[.int .u8 c.toNat] w fun e w'=>e= .returned (.bool (upB c||lowB c))/\w=w':=by
 go_enter Tryz.func161,Tryz.ntmps161
 go_wp2_with(go_at_call 91;refine(between_any _ _ _ _).mono ?_;rintro e w' ⟨rfl,rfl⟩)
 all_goals go_ret
 all_goals exact⟨ret_bool (letter_bits c),rfl⟩
set_option maxHeartbeats 400000 in
theorem digit_any (c:UInt8) (w:World):Calls Tryz.prog 108 #[.int .u8 c.toNat] w fun e w'=>e= .returned (.bool (digB c))/\w=w':=by
 go_enter Tryz.func108,Tryz.ntmps108
 go_wp2_with(go_at_call 91;refine(between_any _ _ _ _).mono ?_;rintro e w' ⟨rfl,rfl⟩)
 all_goals go_ret
 all_goals exact⟨ret_bool (by rw[Bool.eq_iff_iff];simp[digB,btwB]at*;try omega),rfl⟩
set_option maxHeartbeats 400000 in
theorem wodd_any (c:UInt8) (w:World):Calls Tryz.prog 205 #[.int .u8 c.toNat] w fun e w'=>e= .returned (.bool (!wchB c))/\w=w':=by
 go_enter Tryz.func205,Tryz.ntmps205
 go_wp2_with(first|(go_at_call 91;refine(between_any _ _ _ _).mono ?_;rintro e w' ⟨rfl,rfl⟩)|(go_at_call 108;refine(digit_any _ _).mono ?_;rintro e w' ⟨rfl,rfl⟩))
 all_goals go_ret
 all_goals exact⟨ret_bool (by rw[Bool.eq_iff_iff];simp[wchB,digB,lowB,btwB]at*;try omega),rfl⟩
set_option maxHeartbeats 400000 in
theorem small_any (c:UInt8) (w:World):Calls Tryz.prog 252 #[.int .u8 c.toNat] w fun e w'=>e= .returned (.bool (lowB c))/\w=w':=by
 go_enter Tryz.func252,Tryz.ntmps252
 go_wp2_with(go_at_call 161;refine(letter_any _ _).mono ?_;rintro e w' ⟨rfl,rfl⟩)
 all_goals go_ret
 all_goals exact⟨ret_bool (by rw[Bool.eq_iff_iff];simp[upB,lowB]at*;try omega),rfl⟩
set_option maxHeartbeats 400000 in
theorem odd_any (c:UInt8) (w:World):Calls Tryz.prog 208 #[.int .u8 c.toNat] w fun e w'=>e= .returned (.bool (oddB c))/\w=w':=by
 go_enter Tryz.func208,Tryz.ntmps208
 go_wp2
 all_goals go_ret
 all_goals exact⟨ret_bool (by rw[Bool.eq_iff_iff];simp[oddB]at*;try omega),rfl⟩
set_option maxHeartbeats 400000 in
theorem goes_any (c:UInt8) (w:World):Calls Tryz.prog 254 #[.int .u8 c.toNat] w fun e w'=>e= .returned (.bool (wchB c))/\w=w':=by
 go_enter Tryz.func254,Tryz.ntmps254
 go_wp2_with(first|(go_at_call 252;refine(small_any _ _).mono ?_;rintro e w' ⟨rfl,rfl⟩)|(go_at_call 108;refine(digit_any _ _).mono ?_;rintro e w' ⟨rfl,rfl⟩))
 all_goals go_ret
 all_goals exact⟨ret_bool (by rw[Bool.eq_iff_iff];simp[wchB,digB,lowB]at*;try omega),rfl⟩
def tw (p:UInt8->Bool) (l:Bs):Nat:=(l.takeWhile p).length
theorem tw_le (p:UInt8->Bool) (l:Bs):tw p l<=l.length:=takeWhile_le p l
theorem drop_at (s:ByteArray) (k:Nat) (h:k<s.size):s.data.toList.drop k=s[k]::s.data.toList.drop (k+1):=by
 rw[List.drop_eq_getElem_cons (by simpa using h)];rfl
theorem drop_end (s:ByteArray) (k:Nat) (h:s.size<=k):s.data.toList.drop k=[]:=by
 rw[List.drop_eq_nil_iff];simpa using h
theorem len_data (s:ByteArray):s.data.toList.length=s.size:=by rw[Array.length_toList];rfl
structure PredU (g:Nat) (p:UInt8->Bool):Prop where
 enters: ∀args w,(callFunc g args).run Tryz.prog w= .ok (.enter g args) w
 calls: ∀(c:UInt8) (w:World),Calls Tryz.prog g #[.int .u8 c.toNat] w fun e w'=>e= .returned (.bool (p c))/\w=w'
set_option maxHeartbeats 400000 in
theorem row_any (s:ByteArray) (g:Nat) (p:UInt8->Bool) (w:World) (hp:PredU g p) (hs:1<=s.size) (hm:s.size<=9223372036854775807):
  Calls Tryz.prog 253 #[.string s,.func (.func g) #[] #[]] w fun e w'=>e= .returned (.int .i64 (1+tw p (s.data.toList.drop 1):Nat))/\w=w':=by
 obtain⟨eg,hp⟩:=hp
 have hp:=Lib.hid hp
 go_enter Tryz.func253,Tryz.ntmps253
 go_wp2_with fail
 go_loop [5] (fun i=> ∃k:Nat,k<=s.size/\i= .int .i64 k/\Hid (k+tw p (s.data.toList.drop k)=1+tw p (s.data.toList.drop 1))) (fun i=>s.size-(intOf i).toNat)
 case atStart=>exact⟨1,hs,rfl,rfl⟩
 case round=>
  obtain⟨k,hk,rfl,HK⟩:=hrel
  by_cases hlt:k<s.size
  ·have HD:=Lib.hid (drop_at s k hlt)
   cases hpc:p s[k]
   ·go_wp2_with((with_reducible refine(hp.out s[k] _).mono ?_);rintro e w' ⟨rfl,rfl⟩)
    go_ret
    have:=HK.out
    rw[HD.out,tw,List.takeWhile_cons,hpc]at this
    exact⟨ret_int (by simp only[Bool.false_eq_true,if_false,List.length_nil,Nat.add_zero]at this;omega),rfl⟩
   ·go_wp2_with((with_reducible refine(hp.out s[k] _).mono ?_);rintro e w' ⟨rfl,rfl⟩)
    go_round
    case rel=>
     refine⟨k+1,by omega,by go_num, ?_⟩
     have:=HK.out
     rw[HD.out,tw,List.takeWhile_cons,hpc]at this
     show _=_
     rw[<-this];simp[tw];omega
    case measure=>simp[intOf];omega
  ·have HE:=Lib.hid (drop_end s k (by omega))
   go_wp2
   go_ret
   have:=HK.out
   rw[HE.out]at this
   exact⟨ret_int (by simp[tw]at*;omega),rfl⟩
open Go.RowKit Go.Shelf
def idxF (p:UInt8->Bool) (l:Bs):Int:=if tw (fun c=> !p c) l<l.length then(tw (fun c=> !p c) l:Nat)else-1
theorem tw_cons_t {p:UInt8->Bool} {c:UInt8} (r:Bs) (h:p c=true):tw p (c::r)=tw p r+1:=by simp[tw,h]
theorem tw_cons_f {p:UInt8->Bool} {c:UInt8} (r:Bs) (h:p c=false):tw p (c::r)=0:=by simp[tw,h]
theorem tw_any (p:UInt8->Bool) (l:Bs):l.any p=decide (tw (fun c=> !p c) l<l.length):=by
 induction l with
 |nil=>simp[tw]
 |cons c r ih=>
  cases h:p c
  ·rw[List.any_cons,h,ih,tw_cons_t r (by simp[h])];simp
  ·rw[tw_cons_f r (by simp[h])];simp[h]
theorem idxF_any (p:UInt8->Bool) (l:Bs):decide (0<=idxF p l)=l.any p:=by
 rw[tw_any];unfold idxF;split<;>rename_i h<;>simp[h]
theorem Rd.byte {w:World} {A:Option Addr} {n c:Nat} {l:Bs} (h:Rd w (.slice A n c) l.length 1 (l.map bv)) (k:Nat) (hk:k<l.length):n=l.length/\ ∃b off,A=some ⟨b,off,none⟩/\b<w.heap.size/\w.cell? ⟨b,off+k,none⟩=some (.int .u8 (l[k].toNat:Int)):=by
 obtain⟨_,_,A',c',e,h4⟩:=h
 cases e
 obtain⟨b,off,rfl,hb,hc⟩:=h4 (by omega)
 exact⟨rfl,b,off,rfl,hb,hc k (bv l[k]) (by simp[hk])⟩
set_option maxHeartbeats 800000 in
theorem indexFunc_any (v:Value) (l:Bs) (g:Nat) (p:UInt8->Bool) (w:World) (h:Rd w v l.length 1 (l.map bv)) (hp:PredU g p):
  Calls Tryz.prog 90 #[v,.func (.func g) #[] #[]] w fun e w'=>e= .returned (.int .i64 (idxF p l))/\w=w':=by
 obtain⟨eg,hp⟩:=hp
 have hp:=Lib.hid hp
 have HR:=Lib.hid h
 obtain⟨_,hm,A,c,rfl,_⟩:=h
 go_enter Tryz.func90,Tryz.ntmps90
 go_wp2_with fail
 go_loop [8] (fun i=> ∃k:Nat,k<=l.length/\i= .int .i64 k/\Hid (tw (fun c=> !p c) l=k+tw (fun c=> !p c) (l.drop k))) (fun i=>l.length-(intOf i).toNat)
 case atStart=>exact⟨0,by omega,rfl,by show _=_;simp⟩
 case round=>
  obtain⟨k,hk,rfl,HK⟩:=hrel
  by_cases hlt:k<l.length
  ·obtain⟨_,b,off,rfl,hb,hc⟩:=HR.out.byte k hlt
   have HD:Hid (l.drop k=l[k]::l.drop (k+1)):=List.drop_eq_getElem_cons hlt
   cases hpc:p l[k]
   ·have HT:Hid (tw (fun c=> !p c) l=k+1+tw (fun c=> !p c) (l.drop (k+1))):=by
     show _=_
     rw[HK.out,HD.out,tw_cons_t _ (by simp[hpc])];omega
    go_wp2_with((with_reducible refine(hp.out l[k] _).mono ?_);rintro e w' ⟨rfl,rfl⟩;rw[hpc])
    go_round
    case rel=>exact⟨k+1,by omega,by go_num,HT⟩
    case measure=>simp[intOf];omega
   ·have HT:Hid (idxF p l=k):=by
     show _=_
     have:=HK.out
     rw[HD.out,tw_cons_f _ (by simp[hpc])]at this
     unfold idxF;rw[if_pos (by omega),this];simp
    go_wp2_with((with_reducible refine(hp.out l[k] _).mono ?_);rintro e w' ⟨rfl,rfl⟩;rw[hpc])
    go_ret
    exact⟨ret_int HT.out.symm,rfl⟩
  ·have HT:Hid (idxF p l= -1):=by
    show _=_
    have:=HK.out
    rw[List.drop_eq_nil_of_le (by omega)]at this
    unfold idxF;rw[if_neg]
    rw[this];simp[tw];omega
   go_wp2
   go_ret
   exact⟨ret_int HT.out.symm,rfl⟩
set_option maxHeartbeats 800000 in
theorem containsFunc_any (v:Value) (l:Bs) (g:Nat) (p:UInt8->Bool) (w:World) (h:Rd w v l.length 1 (l.map bv)) (hp:PredU g p):
  Calls Tryz.prog 206 #[v,.func (.func g) #[] #[]] w fun e w'=>e= .returned (.bool (l.any p))/\w=w':=by
 have HI:=Lib.hid (indexFunc_any v l g p w h hp)
 clear h hp
 go_enter Tryz.func206,Tryz.ntmps206
 go_wp2_with(go_at_call 90;refine HI.out.mono ?_;rintro e w' ⟨rfl,rfl⟩)
 go_ret
 exact⟨ret_bool (idxF_any p l),rfl⟩
theorem wodd_pred:PredU 205 (fun c=> !wchB c):=⟨enters_of Tryz.func205 (by kernel_rfl) rfl,wodd_any⟩
theorem wordB_eq (l:Bs):wordB l=(decide (0<l.length)&&decide (l.length<=64)&&lowB (l.headD 0)&& !l.any (fun c=> !wchB c)):=by
 cases l with
 |nil=>rfl
 |cons c r=>
  have h:lowB c=true->wchB c=true:=by intro h;simp[wchB,h]
  simp only[wordB,List.headD_cons,List.any_cons,List.length_cons]
  cases hl:lowB c
  ·simp
  ·simp only[h hl]
   have e:r.all wchB= !r.any (fun c=> !wchB c):=by rw[List.any_eq_not_all_not];simp
   rw[e,show decide (r.length<64)=decide (r.length+1<=64) by rw[decide_eq_decide];omega];simp
theorem btw_low (c:UInt8):btwB c.toNat 97 122=lowB c:=by unfold btwB lowB;rw[Bool.eq_iff_iff];simp;omega
@[go_sem] theorem conv_bytes (s:ByteArray) (w:World):(convert 9 135 (.string s)).run Tryz.prog w= .ok (.slice (some ⟨w.heap.size,0,none⟩) s.size (grownCap w s.size 0 5)) (w.grow (bytesGr w 5 s)):=
 bytes_run w _ _ _ s Tryz.underlying9 Tryz.underlying135 Tryz.underlying5
theorem headD_at (s:ByteArray) (h:0<s.size):s.data.toList.headD 0=s[0]:=by
 have:=drop_at s 0 h
 rw[List.drop_zero]at this
 rw[this];rfl
theorem empty_no (s:ByteArray) (h:0<s.size):s.toList.isEmpty=false:=by
 have h2:=len_data s
 rw[_root_.Go.Lib.toList_data]
 cases h3:s.data.toList with
 |nil=>rw[h3]at h2;simp at h2;omega
 |cons a b=>rfl
theorem empty_yes (s:ByteArray) (h: ¬0<s.size):s.toList.isEmpty=true:=by
 have h2:=len_data s
 rw[_root_.Go.Lib.toList_data]
 cases h3:s.data.toList with
 |nil=>rfl
 |cons a b=>rw[h3]at h2;simp at h2;omega
set_option maxHeartbeats 800000 in
theorem word_any (s:ByteArray) (w:World) (hm:s.size<=9223372036854775807):Calls Tryz.prog 124 #[.string s] w (Ret (.bool (wordB s.data.toList)) w):=by
 have HW:=Lib.hid (wordB_eq s.data.toList)
 by_cases h0:0<s.size
 ·have hne:=empty_no s h0
  by_cases h64:s.size<=64
  ·have b64:decide ((64:Int)<s.size)=false:=by simp;omega
   have HL:Hid (wordB s.data.toList=(lowB s[0]&& !s.data.toList.any (fun c=> !wchB c))):=by
    show _=_
    rw[HW.out,headD_at s h0,len_data,decide_eq_true h0,decide_eq_true h64];simp
   cases hl:lowB s[0]
   ·have HF:Hid (wordB s.data.toList=false):=by show _=_;rw[HL.out,hl];rfl
    clear HW HL h64
    go_enter Tryz.func124,Tryz.ntmps124
    go_wp2_with(go_at_call 91;refine(between_any _ _ _ _).mono ?_;rintro e w' ⟨rfl,rfl⟩;rw[btw_low,hl])
    go_ret
    exact Ret.of (by rw[HF.out];rfl) bel
   ·cases ha:s.data.toList.any (fun c=> !wchB c)
    all_goals
     have HF:Hid (wordB s.data.toList= !s.data.toList.any (fun c=> !wchB c)):=by show _=_;rw[HL.out,hl];rfl
     rw[ha]at HF
     have HA:=Lib.hid ha
     clear HW HL h64 ha
     have HB:=Lib.hid (fun W=>len_data s ▸ bytes_rd W 5 s (grownCap W s.size 0 5) hm)
     go_enter Tryz.func124,Tryz.ntmps124
     go_wp2_with(first|(go_at_call 91;refine(between_any _ _ _ _).mono ?_;rintro e w' ⟨rfl,rfl⟩;rw[btw_low,hl])|(go_at_call 206;refine(containsFunc_any _ _ _ _ _ (HB.out _) wodd_pred).mono ?_;rintro e w' ⟨rfl,rfl⟩;rw[HA.out]))
     go_ret
     exact Ret.of (by rw[HF.out];rfl) bel
  ·have b64:decide ((64:Int)<s.size)=true:=by simp;omega
   have HF:Hid (wordB s.data.toList=false):=by show _=_;rw[HW.out,len_data,decide_eq_false h64];simp
   clear HW h64
   go_enter Tryz.func124,Tryz.ntmps124
   go_wp2
   go_ret
   exact Ret.of (by rw[HF.out];rfl) bel
 ·have hne:=empty_yes s h0
  have HF:Hid (wordB s.data.toList=false):=by show _=_;rw[HW.out,len_data,decide_eq_false h0];simp
  clear HW h0
  go_enter Tryz.func124,Tryz.ntmps124
  go_wp2
  go_ret
  exact Ret.of (by rw[HF.out];rfl) bel
end Go.Proofs.YtiikamobcmgekaaGreatDoor

