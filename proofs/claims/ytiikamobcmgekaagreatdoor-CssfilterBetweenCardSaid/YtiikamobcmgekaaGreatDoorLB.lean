/- The walks of the lexer: a piece. -/
import Derived.Test.YtiikamobcmgekaaGreatDoorShelf
import Derived.Test.YtiikamobcmgekaaGreatDoorKA
import Derived.Shelf.Abstract
import Derived.Lib.Strings
import Derived.Test.YtiikamobcmgekaaGreatDoorKB
import Derived.Test.YtiikamobcmgekaaGreatDoorProg
namespace Go.Proofs.YtiikamobcmgekaaGreatDoor
set_option maxRecDepth 100000
set_option maxHeartbeats 4000000
structure LE where
 kind:Nat
 at_:Nat
 text:Bs
 err:Nat
def yldS (k:Nat->Bs->List LE) (a:Nat):Bs->List LE
 |[]=>[]
 |c::r=>match pieceL (c::r)with
  | .ok kd t n=>⟨kd,a,t,0⟩::k (a+n) ((c::r).drop n)
  | .bad n=>[⟨0,a+n,[],2⟩]
def yldF:Nat->Nat->Bs->List LE
 |0,_,_=>[]
 |f+1,a,l=>yldS (yldF f) (a+blk false l) (l.drop (blk false l))
theorem yldS_congr {k k':Nat->Bs->List LE} (a:Nat) (r:Bs) (h: ∀b l,l.length<r.length->k b l=k' b l):yldS k a r=yldS k' a r:=by
 cases r with
 |nil=>rfl
 |cons c r=>
  simp only[yldS]
  cases hp:pieceL (c::r)with
  |bad n=>rfl
  |ok kd t n=>
   have:=(pieceL_le (c::r)).1 kd t n hp
   simp only
   rw[h _ _ (by rw[List.length_drop];omega)]
theorem yldF_more (f g:Nat) (a:Nat) (l:Bs) (hf:l.length<f) (hg:l.length<g):yldF f a l=yldF g a l:=by
 induction f generalizing g a l with
 |zero=>omega
 |succ f ih=>
  cases g with
  |zero=>omega
  |succ g=>
   unfold yldF
   refine yldS_congr _ _ fun b l' hl'=> ?_
   rw[List.length_drop]at hl'
   exact ih g _ _ (by omega) (by omega)
def yldL (a:Nat) (l:Bs):List LE:=yldF (l.length+1) a l
theorem yldF_len (f a:Nat) (l:Bs):(yldF f a l).length<=f:=by
 induction f generalizing a l with
 |zero=>simp[yldF]
 |succ f ih=>
  unfold yldF
  generalize l.drop (blk false l)=r
  cases r with
  |nil=>simp[yldS]
  |cons c r=>
   simp only[yldS]
   cases hp:pieceL (c::r)with
   |ok k t n=>simp;exact ih _ _
   |bad n=>simp
theorem yldL_len (a:Nat) (l:Bs):(yldL a l).length<=l.length+1:=yldF_len _ a l
def yldH (a:Nat) (r:Bs):List LE:=yldS yldL a r
theorem yldL_eq (a:Nat) (l:Bs):yldL a l=yldH (a+blk false l) (l.drop (blk false l)):=by
 show yldF (l.length+1) a l=_
 unfold yldF yldH
 refine yldS_congr _ _ fun b l' hl'=> ?_
 rw[List.length_drop]at hl'
 exact yldF_more _ _ _ _ (by omega) (by omega)
theorem yldH_ok {a:Nat} {r:Bs} {k:Nat} {t:Bs} {n:Nat} (hr:r≠[]) (h:pieceL r= .ok k t n):yldH a r=⟨k,a,t,0⟩::yldL (a+n) (r.drop n):=by
 cases r with
 |nil=>exact absurd rfl hr
 |cons c r=>simp only[yldH,yldS,h]
theorem yldH_bad {a:Nat} {r:Bs} {n:Nat} (hr:r≠[]) (h:pieceL r= .bad n):yldH a r=[⟨0,a+n,[],2⟩]:=by
 cases r with
 |nil=>exact absurd rfl hr
 |cons c r=>simp only[yldH,yldS,h]
def toSR:List LE->SR
 |[]=> .ok []
 |x::r=>if x.err=0 then(toSR r).cons ⟨x.kind,x.at_,x.text⟩else .bad x.at_
theorem scanF_yld (f a:Nat) (l:Bs):scanF f a l=toSR (yldF f a l):=by
 induction f generalizing a l with
 |zero=>rfl
 |succ f ih=>
  rw[scanF,yldF]
  generalize l.drop (blk false l)=r
  cases r with
  |nil=>rfl
  |cons c r=>
   simp only[yldS]
   cases hp:pieceL (c::r)with
   |ok k t n=>simp[toSR,ih]
   |bad n=>simp[toSR]
theorem scanL_yld (a:Nat) (l:Bs):scanL a l=toSR (yldL a l):=scanF_yld _ a l
def TR.pr:TR->PR
 | .ok t n=> .ok 3 t (n+1)
 | .bad n=> .bad (n+1)
 | .op=> .bad 0
theorem pieceL_str {c:UInt8} (r:Bs) (h:c.toNat=34):pieceL (c::r)=(strL r).pr:=by
 rw[pieceL,if_pos h];cases strL r<;>rfl
open Go.RowKit
theorem ret_bool {a b:Bool} (h:a=b):Ending.returned (.bool a)= .returned (.bool b):=by rw[h]
theorem ret_int {k:IntKind} {a b:Int} (h:a=b):Ending.returned (.int k a)= .returned (.int k b):=by rw[h]
def btwB (c l h:Int):Bool:=decide (l<=c)&&decide (c<=h)
theorem letter_bits (c:UInt8):btwB (bits .or .u8 c.toNat 32) 97 122=(upB c||lowB c):=by
 have h: ∀n:Fin 256,btwB (bits .or .u8 ((n.val:Nat):Int) 32) 97 122=(decide (65<=n.val/\n.val<=90)||decide (97<=n.val/\n.val<=122)):=by decide+kernel
 exact h ⟨c.toNat,c.toNat_lt⟩
theorem between_any (c l h:Int) (w:World):Calls Tryz.prog 91 #[.int .u8 c,.int .u8 l,.int .u8 h] w fun e w'=>e= .returned (.bool (btwB c l h))/\w=w':=by
 go_enter Tryz.func91,Tryz.ntmps91
 go_wp2
 all_goals go_ret
 all_goals exact⟨ret_bool (by unfold btwB;simp<;>omega),rfl⟩
theorem space_any (c:UInt8) (w:World):Calls Tryz.prog 33 #[.int .u8 c.toNat] w fun e w'=>e= .returned (.bool (spB c))/\w=w':=by
 go_enter Tryz.func33,Tryz.ntmps33
 go_wp2_with(go_at_call 91;refine(between_any _ _ _ _).mono ?_;rintro e w' ⟨rfl,rfl⟩)
 all_goals go_ret
 all_goals exact⟨ret_bool (by rw[Bool.eq_iff_iff];simp[spB,btwB]at*;try omega),rfl⟩
theorem letter_any (c:UInt8) (w:World):Calls Tryz.prog 161 #[.int .u8 c.toNat] w fun e w'=>e= .returned (.bool (upB c||lowB c))/\w=w':=by
 go_enter Tryz.func161,Tryz.ntmps161
 go_wp2_with(go_at_call 91;refine(between_any _ _ _ _).mono ?_;rintro e w' ⟨rfl,rfl⟩)
 all_goals go_ret
 all_goals exact⟨ret_bool (letter_bits c),rfl⟩
theorem digit_any (c:UInt8) (w:World):Calls Tryz.prog 108 #[.int .u8 c.toNat] w fun e w'=>e= .returned (.bool (digB c))/\w=w':=by
 go_enter Tryz.func108,Tryz.ntmps108
 go_wp2_with(go_at_call 91;refine(between_any _ _ _ _).mono ?_;rintro e w' ⟨rfl,rfl⟩)
 all_goals go_ret
 all_goals exact⟨ret_bool (by rw[Bool.eq_iff_iff];simp[digB,btwB]at*;try omega),rfl⟩
theorem wodd_any (c:UInt8) (w:World):Calls Tryz.prog 205 #[.int .u8 c.toNat] w fun e w'=>e= .returned (.bool (!wchB c))/\w=w':=by
 go_enter Tryz.func205,Tryz.ntmps205
 go_wp2_with(first|(go_at_call 91;refine(between_any _ _ _ _).mono ?_;rintro e w' ⟨rfl,rfl⟩)|(go_at_call 108;refine(digit_any _ _).mono ?_;rintro e w' ⟨rfl,rfl⟩))
 all_goals go_ret
 all_goals exact⟨ret_bool (by rw[Bool.eq_iff_iff];simp[wchB,digB,lowB,btwB]at*;try omega),rfl⟩
theorem small_any (c:UInt8) (w:World):Calls Tryz.prog 252 #[.int .u8 c.toNat] w fun e w'=>e= .returned (.bool (lowB c))/\w=w':=by
 go_enter Tryz.func252,Tryz.ntmps252
 go_wp2_with(go_at_call 161;refine(letter_any _ _).mono ?_;rintro e w' ⟨rfl,rfl⟩)
 all_goals go_ret
 all_goals exact⟨ret_bool (by rw[Bool.eq_iff_iff];simp[upB,lowB]at*;try omega),rfl⟩
theorem odd_any (c:UInt8) (w:World):Calls Tryz.prog 208 #[.int .u8 c.toNat] w fun e w'=>e= .returned (.bool (oddB c))/\w=w':=by
 go_enter Tryz.func208,Tryz.ntmps208
 go_wp2
 all_goals go_ret
 all_goals exact⟨ret_bool (by rw[Bool.eq_iff_iff];simp[oddB]at*;try omega),rfl⟩
theorem goes_any (c:UInt8) (w:World):Calls Tryz.prog 254 #[.int .u8 c.toNat] w fun e w'=>e= .returned (.bool (wchB c))/\w=w':=by
 go_enter Tryz.func254,Tryz.ntmps254
 go_wp2_with(first|(go_at_call 252;refine(small_any _ _).mono ?_;rintro e w' ⟨rfl,rfl⟩)|(go_at_call 108;refine(digit_any _ _).mono ?_;rintro e w' ⟨rfl,rfl⟩))
 all_goals go_ret
 all_goals exact⟨ret_bool (by rw[Bool.eq_iff_iff];simp[wchB,digB,lowB]at*;try omega),rfl⟩
def tw (p:UInt8->Bool) (l:Bs):Nat:=(l.takeWhile p).length
theorem tw_le (p:UInt8->Bool) (l:Bs):tw p l<=l.length:=takeWhile_le p l
theorem drop_at (s:ByteArray) (k:Nat) (h:k<s.size):s.data.toList.drop k=s[k]::s.data.toList.drop (k+1):=by
 rw[List.drop_eq_getElem_cons (by simpa using h)];rfl
theorem drop_end (s:ByteArray) (k:Nat) (h:s.size<=k):s.data.toList.drop k=[]:=by
 rw[List.drop_eq_nil_iff];simpa using h
theorem len_data (s:ByteArray):s.data.toList.length=s.size:=by rw[Array.length_toList];rfl
structure PredU (g:Nat) (p:UInt8->Bool):Prop where
 enters: ∀args w,(callFunc g args).run Tryz.prog w= .ok (.enter g args) w
 calls: ∀(c:UInt8) (w:World),Calls Tryz.prog g #[.int .u8 c.toNat] w fun e w'=>e= .returned (.bool (p c))/\w=w'
theorem row_any (s:ByteArray) (g:Nat) (p:UInt8->Bool) (w:World) (hp:PredU g p) (hs:1<=s.size) (hm:s.size<=9223372036854775807):
  Calls Tryz.prog 253 #[.string s,.func (.func g) #[] #[]] w fun e w'=>e= .returned (.int .i64 (1+tw p (s.data.toList.drop 1):Nat))/\w=w':=by
 obtain⟨eg,hp⟩:=hp
 have hp:=Lib.hid hp
 go_enter Tryz.func253,Tryz.ntmps253
 go_wp2_with fail
 go_loop [5] (fun i=> ∃k:Nat,k<=s.size/\i= .int .i64 k/\Hid (k+tw p (s.data.toList.drop k)=1+tw p (s.data.toList.drop 1))) (fun i=>s.size-(intOf i).toNat)
 case atStart=>exact⟨1,hs,rfl,rfl⟩
 case round=>
  obtain⟨k,hk,rfl,HK⟩:=hrel
  by_cases hlt:k<s.size
  ·have HD:=Lib.hid (drop_at s k hlt)
   cases hpc:p s[k]
   ·go_wp2_with((with_reducible refine(hp.out s[k] _).mono ?_);rintro e w' ⟨rfl,rfl⟩)
    go_ret
    have:=HK.out
    rw[HD.out,tw,List.takeWhile_cons,hpc]at this
    exact⟨ret_int (by simp only[Bool.false_eq_true,if_false,List.length_nil,Nat.add_zero]at this;omega),rfl⟩
   ·go_wp2_with((with_reducible refine(hp.out s[k] _).mono ?_);rintro e w' ⟨rfl,rfl⟩)
    go_round
    case rel=>
     refine⟨k+1,by omega,by go_num, ?_⟩
     have:=HK.out
     rw[HD.out,tw,List.takeWhile_cons,hpc]at this
     show _=_
     rw[<-this];simp[tw];omega
    case measure=>simp[intOf];omega
  ·have HE:=Lib.hid (drop_end s k (by omega))
   go_wp2
   go_ret
   have:=HK.out
   rw[HE.out]at this
   exact⟨ret_int (by simp[tw]at*;omega),rfl⟩
open Go.RowKit Go.Shelf
def idxF (p:UInt8->Bool) (l:Bs):Int:=if tw (fun c=> !p c) l<l.length then(tw (fun c=> !p c) l:Nat)else-1
theorem tw_cons_t {p:UInt8->Bool} {c:UInt8} (r:Bs) (h:p c=true):tw p (c::r)=tw p r+1:=by simp[tw,h]
theorem tw_cons_f {p:UInt8->Bool} {c:UInt8} (r:Bs) (h:p c=false):tw p (c::r)=0:=by simp[tw,h]
theorem tw_any (p:UInt8->Bool) (l:Bs):l.any p=decide (tw (fun c=> !p c) l<l.length):=by
 induction l with
 |nil=>simp[tw]
 |cons c r ih=>
  cases h:p c
  ·rw[List.any_cons,h,ih,tw_cons_t r (by simp[h])];simp
  ·rw[tw_cons_f r (by simp[h])];simp[h]
theorem idxF_any (p:UInt8->Bool) (l:Bs):decide (0<=idxF p l)=l.any p:=by
 rw[tw_any];unfold idxF;split<;>rename_i h<;>simp[h]
theorem Rd.byte {w:World} {A:Option Addr} {n c:Nat} {l:Bs} (h:Rd w (.slice A n c) l.length 1 (l.map bv)) (k:Nat) (hk:k<l.length):n=l.length/\ ∃b off,A=some ⟨b,off,none⟩/\b<w.heap.size/\w.cell? ⟨b,off+k,none⟩=some (.int .u8 (l[k].toNat:Int)):=by
 obtain⟨_,_,A',c',e,h4⟩:=h
 cases e
 obtain⟨b,off,rfl,hb,hc⟩:=h4 (by omega)
 exact⟨rfl,b,off,rfl,hb,hc k (bv l[k]) (by simp[hk])⟩
theorem indexFunc_any (v:Value) (l:Bs) (g:Nat) (p:UInt8->Bool) (w:World) (h:Rd w v l.length 1 (l.map bv)) (hp:PredU g p):
  Calls Tryz.prog 90 #[v,.func (.func g) #[] #[]] w fun e w'=>e= .returned (.int .i64 (idxF p l))/\w=w':=by
 obtain⟨eg,hp⟩:=hp
 have hp:=Lib.hid hp
 have HR:=Lib.hid h
 obtain⟨_,hm,A,c,rfl,_⟩:=h
 go_enter Tryz.func90,Tryz.ntmps90
 go_wp2_with fail
 go_loop [8] (fun i=> ∃k:Nat,k<=l.length/\i= .int .i64 k/\Hid (tw (fun c=> !p c) l=k+tw (fun c=> !p c) (l.drop k))) (fun i=>l.length-(intOf i).toNat)
 case atStart=>exact⟨0,by omega,rfl,by show _=_;simp⟩
 case round=>
  obtain⟨k,hk,rfl,HK⟩:=hrel
  by_cases hlt:k<l.length
  ·obtain⟨_,b,off,rfl,hb,hc⟩:=HR.out.byte k hlt
   have HD:Hid (l.drop k=l[k]::l.drop (k+1)):=List.drop_eq_getElem_cons hlt
   cases hpc:p l[k]
   ·have HT:Hid (tw (fun c=> !p c) l=k+1+tw (fun c=> !p c) (l.drop (k+1))):=by
     show _=_
     rw[HK.out,HD.out,tw_cons_t _ (by simp[hpc])];omega
    go_wp2_with((with_reducible refine(hp.out l[k] _).mono ?_);rintro e w' ⟨rfl,rfl⟩;rw[hpc])
    go_round
    case rel=>exact⟨k+1,by omega,by go_num,HT⟩
    case measure=>simp[intOf];omega
   ·have HT:Hid (idxF p l=k):=by
     show _=_
     have:=HK.out
     rw[HD.out,tw_cons_f _ (by simp[hpc])]at this
     unfold idxF;rw[if_pos (by omega),this];simp
    go_wp2_with((with_reducible refine(hp.out l[k] _).mono ?_);rintro e w' ⟨rfl,rfl⟩;rw[hpc])
    go_ret
    exact⟨ret_int HT.out.symm,rfl⟩
  ·have HT:Hid (idxF p l= -1):=by
    show _=_
    have:=HK.out
    rw[List.drop_eq_nil_of_le (by omega)]at this
    unfold idxF;rw[if_neg]
    rw[this];simp[tw];omega
   go_wp2
   go_ret
   exact⟨ret_int HT.out.symm,rfl⟩
theorem containsFunc_any (v:Value) (l:Bs) (g:Nat) (p:UInt8->Bool) (w:World) (h:Rd w v l.length 1 (l.map bv)) (hp:PredU g p):
  Calls Tryz.prog 206 #[v,.func (.func g) #[] #[]] w fun e w'=>e= .returned (.bool (l.any p))/\w=w':=by
 have HI:=Lib.hid (indexFunc_any v l g p w h hp)
 clear h hp
 go_enter Tryz.func206,Tryz.ntmps206
 go_wp2_with(go_at_call 90;refine HI.out.mono ?_;rintro e w' ⟨rfl,rfl⟩)
 go_ret
 exact⟨ret_bool (idxF_any p l),rfl⟩
theorem wodd_pred:PredU 205 (fun c=> !wchB c):=⟨enters_of Tryz.func205 (by kernel_rfl) rfl,wodd_any⟩
theorem wordB_eq (l:Bs):wordB l=(decide (0<l.length)&&decide (l.length<=64)&&lowB (l.headD 0)&& !l.any (fun c=> !wchB c)):=by
 cases l with
 |nil=>rfl
 |cons c r=>
  have h:lowB c=true->wchB c=true:=by intro h;simp[wchB,h]
  simp only[wordB,List.headD_cons,List.any_cons,List.length_cons]
  cases hl:lowB c
  ·simp
  ·simp only[h hl]
   have e:r.all wchB= !r.any (fun c=> !wchB c):=by rw[List.any_eq_not_all_not];simp
   rw[e,show decide (r.length<64)=decide (r.length+1<=64) by rw[decide_eq_decide];omega];simp
theorem btw_low (c:UInt8):btwB c.toNat 97 122=lowB c:=by unfold btwB lowB;rw[Bool.eq_iff_iff];simp;omega
@[go_sem] theorem conv_bytes (s:ByteArray) (w:World):(convert 9 135 (.string s)).run Tryz.prog w= .ok (.slice (some ⟨w.heap.size,0,none⟩) s.size (grownCap w s.size 0 5)) (w.grow (bytesGr w 5 s)):=
 bytes_run w _ _ _ s Tryz.underlying9 Tryz.underlying135 Tryz.underlying5
theorem headD_at (s:ByteArray) (h:0<s.size):s.data.toList.headD 0=s[0]:=by
 have:=drop_at s 0 h
 rw[List.drop_zero]at this
 rw[this];rfl
theorem empty_no (s:ByteArray) (h:0<s.size):s.toList.isEmpty=false:=by
 have h2:=len_data s
 rw[_root_.Go.Lib.toList_data]
 cases h3:s.data.toList with
 |nil=>rw[h3]at h2;simp at h2;omega
 |cons a b=>rfl
theorem empty_yes (s:ByteArray) (h: ¬0<s.size):s.toList.isEmpty=true:=by
 have h2:=len_data s
 rw[_root_.Go.Lib.toList_data]
 cases h3:s.data.toList with
 |nil=>rfl
 |cons a b=>rw[h3]at h2;simp at h2;omega
theorem word_any (s:ByteArray) (w:World) (hm:s.size<=9223372036854775807):Calls Tryz.prog 124 #[.string s] w (Ret (.bool (wordB s.data.toList)) w):=by
 have HW:=Lib.hid (wordB_eq s.data.toList)
 by_cases h0:0<s.size
 ·have hne:=empty_no s h0
  by_cases h64:s.size<=64
  ·have b64:decide ((64:Int)<s.size)=false:=by simp;omega
   have HL:Hid (wordB s.data.toList=(lowB s[0]&& !s.data.toList.any (fun c=> !wchB c))):=by
    show _=_
    rw[HW.out,headD_at s h0,len_data,decide_eq_true h0,decide_eq_true h64];simp
   cases hl:lowB s[0]
   ·have HF:Hid (wordB s.data.toList=false):=by show _=_;rw[HL.out,hl];rfl
    clear HW HL h64
    go_enter Tryz.func124,Tryz.ntmps124
    go_wp2_with(go_at_call 91;refine(between_any _ _ _ _).mono ?_;rintro e w' ⟨rfl,rfl⟩;rw[btw_low,hl])
    go_ret
    exact Ret.of (by rw[HF.out];rfl) bel
   ·cases ha:s.data.toList.any (fun c=> !wchB c)
    all_goals
     have HF:Hid (wordB s.data.toList= !s.data.toList.any (fun c=> !wchB c)):=by show _=_;rw[HL.out,hl];rfl
     rw[ha]at HF
     have HA:=Lib.hid ha
     clear HW HL h64 ha
     have HB:=Lib.hid (fun W=>len_data s ▸ bytes_rd W 5 s (grownCap W s.size 0 5) hm)
     go_enter Tryz.func124,Tryz.ntmps124
     go_wp2_with(first|(go_at_call 91;refine(between_any _ _ _ _).mono ?_;rintro e w' ⟨rfl,rfl⟩;rw[btw_low,hl])|(go_at_call 206;refine(containsFunc_any _ _ _ _ _ (HB.out _) wodd_pred).mono ?_;rintro e w' ⟨rfl,rfl⟩;rw[HA.out]))
     go_ret
     exact Ret.of (by rw[HF.out];rfl) bel
  ·have b64:decide ((64:Int)<s.size)=true:=by simp;omega
   have HF:Hid (wordB s.data.toList=false):=by show _=_;rw[HW.out,len_data,decide_eq_false h64];simp
   clear HW h64
   go_enter Tryz.func124,Tryz.ntmps124
   go_wp2
   go_ret
   exact Ret.of (by rw[HF.out];rfl) bel
 ·have hne:=empty_yes s h0
  have HF:Hid (wordB s.data.toList=false):=by show _=_;rw[HW.out,len_data,decide_eq_false h0];simp
  clear HW h0
  go_enter Tryz.func124,Tryz.ntmps124
  go_wp2
  go_ret
  exact Ret.of (by rw[HF.out];rfl) bel
theorem blk_idx (l:Bs):(Lib.indexByte l 10= -1->blk true l=l.length)/\(∀j:Nat,Lib.indexByte l 10=j->blk true l=j+blk false (l.drop j)/\j<l.length):=by
 induction l with
 |nil=>exact⟨fun _=>rfl,fun j h=>by simp[Lib.indexByte]at h⟩
 |cons c r ih=>
  by_cases hc:c=10
  ·subst hc
   refine⟨fun h=>by simp[Lib.indexByte]at h,fun j h=> ?_⟩
   obtain rfl:j=0:=by simp[Lib.indexByte]at h;omega
   exact⟨by simp[blk,spB],by simp⟩
  ·have hb:(c==10)=false:=by simpa using hc
   have hn: ¬c.toNat=10:=fun h=>hc (UInt8.toNat_inj.1 h)
   have hge:=Lib.indexByte_ge r 10
   by_cases hm:Lib.indexByte r 10= -1
   ·refine⟨fun _=>by simp[blk,hn,ih.1 hm],fun j h=> ?_⟩
    simp[Lib.indexByte,hb,hm]at h
   ·obtain⟨i,hi⟩: ∃i:Nat,Lib.indexByte r 10=i:=⟨(Lib.indexByte r 10).toNat,by omega⟩
    obtain⟨h1,h2⟩:=ih.2 i hi
    have e:Lib.indexByte (c::r) 10=((i+1:Nat):Int):=by
     simp only[Lib.indexByte,hb]
     rw[if_neg (by simp),if_neg (by simpa using hm),hi];rfl
    refine⟨fun h=>by rw[e]at h;omega,fun j h=> ?_⟩
    obtain rfl:j=i+1:=by rw[e]at h;omega
    refine⟨?_,by simp;omega⟩
    simp only[blk,if_neg hn,h1,List.drop_succ_cons];omega
theorem blk_sharp {l:Bs} {c:UInt8} {r:Bs} (h:l=c::r) (hs:c.toNat=35):blk false l=blk true l:=by
 subst h
 simp[blk,hs,spB]
theorem idx_pos {l:Bs} {c:UInt8} {r:Bs} (h:l=c::r) (hs:c.toNat=35):Lib.indexByte l 10≠0:=by
 subst h
 have hb:(c==10)=false:=by
  rw[beq_eq_false_iff_ne];intro h;subst h;simp at hs
 have:=Lib.indexByte_ge r 10
 simp only[Lib.indexByte,hb,Bool.false_eq_true,if_false]
 split
 ·decide
 ·rename_i h;have:Lib.indexByte r 10≠ -1:=by simpa using h
  omega
theorem extract_drop (s:ByteArray) (k:Nat):(s.extract k s.size).data.toList=s.data.toList.drop k:=by
 rw[ByteArray.data_extract,Array.toList_extract,List.extract_eq_take_drop,List.take_of_length_le]
 rw[List.length_drop,len_data];exact Nat.le_refl _
theorem idx_any (s:ByteArray) (k:Nat) (w:World):Calls Tryz.prog 246 #[.string (s.extract k s.size),.int .u8 10] w fun e w'=>e= .returned (.int .i64 (Lib.indexByte (s.data.toList.drop k) 10))/\w=w':=by
 refine(Tryz.strings_IndexByte (s.extract k s.size) 10 w).mono ?_
 rintro e w' ⟨rfl,rfl⟩
 rw[extract_drop]
 exact⟨rfl,rfl⟩
theorem blank_any (s:ByteArray) (w:World) (hm:s.size<=9223372036854775807):
  Calls Tryz.prog 186 #[.string s] w fun e w'=>e= .returned (.int .i64 (blk false s.data.toList:Nat))/\w=w':=by
 go_enter Tryz.func186,Tryz.ntmps186
 go_wp2_with fail
 go_loop [3] (fun i=> ∃k:Nat,k<=s.size/\i= .int .i64 k/\Hid (k+blk false (s.data.toList.drop k)=blk false s.data.toList)) (fun i=>s.size-(intOf i).toNat)
 case atStart=>exact⟨0,Nat.zero_le _,rfl,by show _=_;simp⟩
 case round=>
  obtain⟨k,hk,rfl,HK⟩:=hrel
  by_cases hlt:k<s.size
  ·have HD:=Lib.hid (drop_at s k hlt)
   cases hsp:spB s[k]
   ·by_cases h35:s[k].toNat=35
    ·have hq:((s[k].toNat:Int)==35)=true:=by simp;omega
     have HI:=Lib.hid (idx_any s k)
     have HB:=Lib.hid (blk_idx (s.data.toList.drop k))
     have HS:=Lib.hid (blk_sharp HD.out h35)
     have hge:=Lib.indexByte_ge (s.data.toList.drop k) 10
     have hne:=idx_pos HD.out h35
     generalize hj:Lib.indexByte (s.data.toList.drop k) 10=j at*
     clear hj h35
     by_cases hm1:j= -1
     ·have HB1:Hid (s.size=blk false s.data.toList):=by
       have h1:=HK.out
       rw[HS.out,HB.out.1 hm1,List.length_drop,len_data]at h1
       show _=_
       omega
      subst hm1
      clear hge HB hne
      go_wp2_with(first|(go_at_call 33;(with_reducible refine(space_any s[k] _).mono ?_);rintro e w' ⟨rfl,rfl⟩;rw[hsp])|(go_at_call 246;(with_reducible refine(HI.out _).mono ?_);rintro e w' ⟨rfl,rfl⟩))
      go_ret
      exact⟨ret_int (by rw[<-HB1.out]),rfl⟩
     ·obtain⟨i,rfl⟩: ∃i:Nat,j=i:=⟨j.toNat,by omega⟩
      have HB2:=Lib.hid (HB.out.2 i rfl)
      have hi:k+i<s.size:=by have:=HB2.out.2;rw[List.length_drop,len_data]at this;omega
      clear hge hm1 HB
      have hge: ¬((i:Int)<0):=by omega
      have hne:0<i:=by omega
      go_wp2_with(first|(go_at_call 33;(with_reducible refine(space_any s[k] _).mono ?_);rintro e w' ⟨rfl,rfl⟩;rw[hsp])|(go_at_call 246;(with_reducible refine(HI.out _).mono ?_);rintro e w' ⟨rfl,rfl⟩))
      go_round
      case rel=>
       refine⟨k+i,by omega,by go_num, ?_⟩
       have h1:=HK.out
       rw[HS.out,HB2.out.1,List.drop_drop]at h1
       show _=_
       omega
      case measure=>
       simp[intOf];omega
    ·have hq:((s[k].toNat:Int)==35)=false:=by simp;omega
     have HN:Hid (¬s[k].toNat=35):=h35
     clear h35
     go_wp2_with(first|(go_at_call 33;(with_reducible refine(space_any s[k] _).mono ?_);rintro e w' ⟨rfl,rfl⟩;rw[hsp]))
     go_ret
     have h1:=HK.out
     rw[HD.out,blk,if_neg (by rw[hsp];simp),if_neg HN.out]at h1
     exact⟨ret_int (by omega),rfl⟩
   ·go_wp2_with(first|(go_at_call 33;(with_reducible refine(space_any s[k] _).mono ?_);rintro e w' ⟨rfl,rfl⟩;rw[hsp]))
    go_round
    case rel=>
     refine⟨k+1,by omega,by go_num, ?_⟩
     have h1:=HK.out
     rw[HD.out,blk,if_pos hsp]at h1
     show _=_
     omega
    case measure=>simp[intOf];omega
  ·have HE:=Lib.hid (drop_end s k (by omega))
   go_wp2
   go_ret
   have h1:=HK.out
   rw[HE.out,blk]at h1
   exact⟨ret_int (by omega),rfl⟩
theorem bytes_row:SlT Tryz.prog 135 5 (.int .u8 0) 1 1:=⟨by kernel_rfl,by kernel_rfl,by kernel_rfl,by decide⟩
def txtV:TR->Value
 | .ok t n=> .tuple #[.string ⟨t.toArray⟩,.int .i64 n,.int .i64 0]
 | .bad n=> .tuple #[.string ⟨#[]⟩,.int .i64 n,.int .i64 2]
 | .op=> .tuple #[.string ⟨#[]⟩,.int .i64 0,.int .i64 2]
theorem own_nil_bytes (w:World):w.ownsRow w.heap.size 5 1 (.slice none 0 0) ([]:Bs).length (([]:Bs).map bv):=World.ownsRow_nil _ _ _ _
theorem text_any (s:ByteArray) (w:World) (h1:1<=s.size) (hm:s.size<=140737488355328):
  Calls Tryz.prog 251 #[.string s] w (Ret (txtV ((strL (s.data.toList.drop 1)).app [] 1)) w):=by
 obtain⟨R,hR⟩: ∃R,(strL (s.data.toList.drop 1)).app [] 1=R:=⟨_,rfl⟩
 rw[hR]
 have HR:=Lib.hid hR
 clear hR
 go_enter Tryz.func251,Tryz.ntmps251
 go_wp2_with fail
 go_loopw [5,6] (fun v i wr=> ∃(k:Nat) (out:Bs) (X:Gr),k<=s.size/\out.length<=k/\i= .int .i64 k/\wr=w.grow X/\(w.grow X).ownsRow w.heap.size 5 1 v out.length (out.map bv)/\Hid ((strL (s.data.toList.drop k)).app out k=R)) (fun _ i _=>s.size-(intOf i).toNat)
 case atStart=>exact⟨1,[],_,h1,by simp,rfl,(grow_refl w).symm,by rw[grow_refl];exact own_nil_bytes w,HR⟩
 case round=>
  obtain⟨k,out,X,hk,hout,rfl,rfl,hown,HK⟩:=hrel
  by_cases hlt:k<s.size
  ·have HD:=Lib.hid (drop_at s k hlt)
   by_cases c34:s[k].toNat=34
   ·have b34:((s[k].toNat:Int)==34)=true:=by simp;omega
    have HV:Hid (txtV R= .tuple #[.string ⟨out.toArray⟩,.int .i64 (k+1:Nat),.int .i64 0]):=by
     show _=_
     rw[<-HK.out,HD.out,strL_quote _ c34];simp[TR.app,txtV];omega
    clear c34
    have hcv:=(Rd.own hown).str 135 9 5 Tryz.underlying135 Tryz.underlying5 Tryz.underlying9
    go_wp2
    go_ret3
    exact Ret.of (by rw[HV.out];rfl) bel
   ·have b34:((s[k].toNat:Int)==34)=false:=by simp;omega
    by_cases c92:s[k].toNat=92
    ·have b92:((s[k].toNat:Int)==92)=true:=by simp;omega
     by_cases hk1:k+1<s.size
     ·have HD1:=Lib.hid (drop_at s (k+1) hk1)
      by_cases hd:s[k+1].toNat=92\/s[k+1].toNat=34
      ·have HV:Hid ((strL (s.data.toList.drop (k+2))).app (out++[s[k+1]]) (k+2)=R):=by
        have:=HK.out
        rw[HD.out,HD1.out,strL_esc _ c92 hd,TR.app_app]at this
        exact this
       have HL:Hid ((out++[s[k+1]]).map bv=out.map bv++[.int .u8 (s[k+1].toNat:Int)]):=by show _=_;simp[bv]
       have HL2:Hid ((out++[s[k+1]]).length=out.length+1):=by show _=_;simp
       have hd2:((s[k+1].toNat:Int)==92)=true\/((s[k+1].toNat:Int)==92)=false/\((s[k+1].toNat:Int)==34)=true:=by
        by_cases h:s[k+1].toNat=92
        ·exact Or.inl (by simp;omega)
        ·exact Or.inr ⟨by simp;omega,by simp;omega⟩
       have hi:(0:Int)<=(k:Int)+1:=by omega
       have hi2:((k:Int)+1).toNat=k+1:=by omega
       clear c34 c92 hd
       rcases hd2 with b1|⟨b1,b2⟩
       all_goals
        go_wp2_with(at_builtin;refine append_grow rfl _ _ 135 rfl bytes_row w rfl (hown.alloc _) bel ⟨_,0,none⟩ 1 1 [.int .u8 (s[k+1].toNat:Int)] rfl rfl (new_cells (c:= #[.int .u8 (s[k+1].toNat:Int)]) (by simp[go_sem])) (by simp[Value.oneCell']) (by unfold maxLen;omega) (by omega) ?_;intro v' Z' hown' _)
        go_roundw
        case rel=>exact⟨k+2,out++[s[k+1]],Z',by omega,by rw[HL2.out];omega,by go_num,rfl,by rw[HL.out,HL2.out];exact hown',HV⟩
        case measure=>simp[intOf];omega
      ·have HV:Hid (txtV R= .tuple #[.string ⟨#[]⟩,.int .i64 k,.int .i64 2]):=by
        show _=_
        rw[<-HK.out,HD.out,HD1.out,strL_esc_bad _ c92 hd];simp[TR.app,txtV]
       have b1:((s[k+1].toNat:Int)==92)=false:=by simp;omega
       have b2:((s[k+1].toNat:Int)==34)=false:=by simp;omega
       have hi:(0:Int)<=(k:Int)+1:=by omega
       have hi2:((k:Int)+1).toNat=k+1:=by omega
       clear c34 c92 hd
       go_wp2
       go_ret3
       exact Ret.of (by rw[HV.out];rfl) bel
     ·have HE:=Lib.hid (drop_end s (k+1) (by omega))
      have HV:Hid (txtV R= .tuple #[.string ⟨#[]⟩,.int .i64 k,.int .i64 2]):=by
       show _=_
       rw[<-HK.out,HD.out,HE.out,strL_esc_end c92];simp[TR.app,txtV]
      clear c34 c92
      go_wp2
      go_ret3
      exact Ret.of (by rw[HV.out];rfl) bel
    ·have b92:((s[k].toNat:Int)==92)=false:=by simp;omega
     cases ho:oddB s[k]
     ·have HV:Hid ((strL (s.data.toList.drop (k+1))).app (out++[s[k]]) (k+1)=R):=by
       have:=HK.out
       rw[HD.out,strL_plain _ c34 c92 (by rw[ho];simp),TR.app_app]at this
       exact this
      have HL:Hid ((out++[s[k]]).map bv=out.map bv++[.int .u8 (s[k].toNat:Int)]):=by show _=_;simp[bv]
      have HL2:Hid ((out++[s[k]]).length=out.length+1):=by show _=_;simp
      clear c34 c92
      go_wp2_with(first|(go_at_call 208;(with_reducible refine(odd_any s[k] _).mono ?_);rintro e w' ⟨rfl,rfl⟩;rw[ho])|(at_builtin;refine append_grow rfl _ _ 135 rfl bytes_row w rfl (hown.alloc _) bel ⟨_,0,none⟩ 1 1 [.int .u8 (s[k].toNat:Int)] rfl rfl (new_cells (c:= #[.int .u8 (s[k].toNat:Int)]) (by simp[go_sem])) (by simp[Value.oneCell']) (by unfold maxLen;omega) (by omega) ?_;intro v' Z' hown' _))
      go_roundw
      case rel=>exact⟨k+1,out++[s[k]],Z',by omega,by rw[HL2.out];omega,by go_num,rfl,by rw[HL.out,HL2.out];exact hown',HV⟩
      case measure=>simp[intOf];omega
     ·have HV:Hid (txtV R= .tuple #[.string ⟨#[]⟩,.int .i64 k,.int .i64 2]):=by
       show _=_
       rw[<-HK.out,HD.out,strL_odd _ c34 c92 ho];simp[TR.app,txtV]
      clear c34 c92
      go_wp2_with(go_at_call 208;(with_reducible refine(odd_any s[k] _).mono ?_);rintro e w' ⟨rfl,rfl⟩;rw[ho])
      go_ret3
      exact Ret.of (by rw[HV.out];rfl) bel
  ·have HE:=Lib.hid (drop_end s k (by omega))
   have HV:Hid (txtV R= .tuple #[.string ⟨#[]⟩,.int .i64 0,.int .i64 2]):=by
    show _=_
    rw[<-HK.out,HE.out,strL];simp[TR.app,txtV]
   go_wp2
   go_ret3
   exact Ret.of (by rw[HV.out];rfl) bel
theorem idx_marks (c:UInt8):decide (0<=Lib.indexByte [58,59,42] c)=mrkB c:=by
 have h: ∀n:Fin 256,decide (0<=Lib.indexByte [58,59,42] (UInt8.ofNat n.val))=decide (n.val=58\/n.val=59\/n.val=42):=by decide+kernel
 have:=h ⟨c.toNat,c.toNat_lt⟩
 simpa[mrkB]using this
theorem idxm_any (c:UInt8) (w:World):Calls Tryz.prog 246 #[.string ⟨#[58,59,42]⟩,.int .u8 c.toNat] w fun e w'=>e= .returned (.int .i64 (Lib.indexByte [58,59,42] c))/\w=w':=by
 refine(Tryz.strings_IndexByte _ _ w).mono ?_
 rintro e w' ⟨rfl,rfl⟩
 simp
theorem str_take (s:ByteArray) (n:Nat):s.extract 0 n=⟨(s.data.toList.take n).toArray⟩:=by
 apply ByteArray.ext
 rw[ByteArray.data_extract]
 apply Array.toList_inj.1
 rw[Array.toList_extract,List.extract_eq_take_drop];simp
theorem goes_pred:PredU 254 wchB:=⟨enters_of Tryz.func254 (by kernel_rfl) rfl,goes_any⟩
theorem digit_pred:PredU 108 digB:=⟨enters_of Tryz.func108 (by kernel_rfl) rfl,digit_any⟩
def pieceW (q:Bool):PR->Value
 | .ok k t n=> .tuple #[.agg #[.int .i64 k,.int .i64 0,.string ⟨t.toArray⟩],.int .i64 n,.int .i64 0]
 | .bad n=> .tuple #[.agg #[.int .i64 (if q then 3 else 0),.int .i64 0,.string ⟨#[]⟩],.int .i64 n,.int .i64 2]
def pieceV (l:Bs):Value:=pieceW (decide ((l.headD 0).toNat=34)) (pieceL l)
theorem pieceV_eq {l:Bs} {c:UInt8} {r:Bs} (h:l=c::r):pieceV l=pieceW (decide (c.toNat=34)) (pieceL (c::r)):=by subst h;rfl
theorem take_tw (p:UInt8->Bool) (r:Bs):r.take (tw p r)=r.takeWhile p:=by
 induction r with
 |nil=>rfl
 |cons c r ih=>
  cases h:p c
  ·rw[tw_cons_f r h];simp[h]
  ·rw[tw_cons_t r h];simp[h,ih]
theorem piece_any (s:ByteArray) (w:World) (h1:1<=s.size) (hm:s.size<=140737488355328):
  Calls Tryz.prog 187 #[.string s] w (Ret (pieceV s.data.toList) w):=by
 have HS:Hid (s.data.toList=s[0]::s.data.toList.drop 1):=by have:=drop_at s 0 h1;rw[List.drop_zero]at this;exact this
 have HT:=Lib.hid (fun W=>text_any s W h1 hm)
 have HI:=Lib.hid (idx_marks s[0])
 generalize hj:Lib.indexByte [58,59,42] s[0]=j at*
 have HJ:Hid (∀W,Calls Tryz.prog 246 #[.string ⟨#[58,59,42]⟩,.int .u8 s[0].toNat] W fun e w'=>e= .returned (.int .i64 j)/\W=w'):=fun W=>hj ▸ idxm_any s[0] W
 clear hj
 by_cases c34:s[0].toNat=34
 ·have b34:((s[0].toNat:Int)==34)=true:=by simp;omega
  have HV:Hid (pieceV s.data.toList=pieceW true (strL (s.data.toList.drop 1)).pr):=by
   show _=_
   rw[pieceV_eq HS.out,pieceL_str _ c34,decide_eq_true c34]
  generalize strL (s.data.toList.drop 1)=R at*
  cases R
  all_goals
   simp only[TR.app,TR.pr,txtV,List.nil_append,pieceW,if_true]at HT HV
   have HT:=Lib.hid HT
   have HV:=Lib.hid HV
   clear c34 HS
   go_enter Tryz.func187,Tryz.ntmps187
   go_wp2_with(first|(go_at_call 246;(with_reducible refine(HJ.out _).mono ?_);rintro e w' ⟨rfl,rfl⟩)|(go_at_call 251;(with_reducible refine(HT.out.out _).mono ?_);rintro e w' ⟨rfl,X,rfl⟩))
   rw[HV.out.out]
   refine bodyPost_ret ?_ rfl (Ret.of rfl bel)
   simp[results,Tryz.results187,go_sem]
 ·have b34:((s[0].toNat:Int)==34)=false:=by simp;omega
  cases hl:lowB s[0]
  ·cases hd:digB s[0]
   ·have HV:Hid (pieceV s.data.toList=pieceW false (if mrkB s[0]then .ok 4 [s[0]] 1 else .bad 0)):=by
     show _=_
     rw[pieceV_eq HS.out,pieceL,if_neg c34,decide_eq_false c34,if_neg (by rw[hl];simp),if_neg (by rw[hd];simp)]
    have HE:Hid (s.extract 0 1=⟨[s[0]].toArray⟩):=by
     show _=_
     rw[str_take,HS.out];rfl
    cases hm:mrkB s[0]
    ·have hj:decide (0<=j)=false:=by have:=HI.out;rw[hm]at this;exact this
     rw[hm]at HV
     simp only[pieceW,Bool.false_eq_true,if_false]at HV
     have HV:=Lib.hid HV
     clear HI hm HS c34
     go_enter Tryz.func187,Tryz.ntmps187
     go_wp2_with(first|(go_at_call 246;(with_reducible refine(HJ.out _).mono ?_);rintro e w' ⟨rfl,rfl⟩)|(go_at_call 252;(with_reducible refine(small_any s[0] _).mono ?_);rintro e w' ⟨rfl,rfl⟩;rw[hl])|(go_at_call 108;(with_reducible refine(digit_any s[0] _).mono ?_);rintro e w' ⟨rfl,rfl⟩;rw[hd]))
     rw[HV.out.out]
     refine bodyPost_ret ?_ rfl (Ret.of rfl bel)
     simp[results,Tryz.results187,go_sem]
    ·have hj:decide (0<=j)=true:=by have:=HI.out;rw[hm]at this;exact this
     rw[hm]at HV
     simp only[pieceW,if_true]at HV
     have HV:=Lib.hid HV
     clear HI hm HS c34
     go_enter Tryz.func187,Tryz.ntmps187
     go_wp2_with(first|(go_at_call 246;(with_reducible refine(HJ.out _).mono ?_);rintro e w' ⟨rfl,rfl⟩)|(go_at_call 252;(with_reducible refine(small_any s[0] _).mono ?_);rintro e w' ⟨rfl,rfl⟩;rw[hl])|(go_at_call 108;(with_reducible refine(digit_any s[0] _).mono ?_);rintro e w' ⟨rfl,rfl⟩;rw[hd]))
     rw[HV.out.out,<-HE.out]
     refine bodyPost_ret ?_ rfl (Ret.of rfl bel)
     simp[results,Tryz.results187,go_sem]
   ·obtain⟨n,hn⟩: ∃n,tw digB (s.data.toList.drop 1)=n:=⟨_,rfl⟩
    have hns:n<s.size:=by have:=tw_le digB (s.data.toList.drop 1);rw[hn,List.length_drop,len_data]at this;omega
    have HV:Hid (pieceV s.data.toList=pieceW false (if n<9 then .ok 2 (s.data.toList.take (1+n)) (1+n)else .bad 0)):=by
     show _=_
     rw[pieceV_eq HS.out,pieceL,if_neg c34,decide_eq_false c34,if_neg (by rw[hl];simp),if_pos hd]
     have e1:(List.takeWhile digB (s.data.toList.drop 1)).length=n:=hn
     have e2:s[0]::List.takeWhile digB (s.data.toList.drop 1)=s.data.toList.take (1+n):=by
      rw[<-take_tw,hn,Nat.add_comm 1 n]
      conv=>rhs;rw[HS.out]
      rw[List.take_succ_cons]
     rw[e1,e2]
    have HE:=Lib.hid (str_take s (1+n))
    have HR:Hid (∀W,Calls Tryz.prog 253 #[.string s,.func (.func 108) #[] #[]] W fun e w'=>e= .returned (.int .i64 (1+n:Nat))/\W=w'):=fun W=>hn ▸ row_any s _ digB W digit_pred h1 (by omega)
    clear hn
    by_cases h9:n<9
    ·have b9:decide ((1:Int)+n<=9)=true:=by simp;omega
     rw[if_pos h9]at HV
     simp only[pieceW]at HV
     have HV:=Lib.hid HV
     clear HI HS c34 h9
     go_enter Tryz.func187,Tryz.ntmps187
     go_wp2_with(first|(go_at_call 246;(with_reducible refine(HJ.out _).mono ?_);rintro e w' ⟨rfl,rfl⟩)|(go_at_call 252;(with_reducible refine(small_any s[0] _).mono ?_);rintro e w' ⟨rfl,rfl⟩;rw[hl])|(go_at_call 108;(with_reducible refine(digit_any s[0] _).mono ?_);rintro e w' ⟨rfl,rfl⟩;rw[hd])|(go_at_call 253;(with_reducible refine(HR.out _).mono ?_);rintro e w' ⟨rfl,rfl⟩))
     rw[HV.out.out,<-HE.out]
     refine bodyPost_ret ?_ rfl (Ret.of rfl bel)
     simp[results,Tryz.results187,go_sem]
    ·have b9:decide ((1:Int)+n<=9)=false:=by simp;omega
     rw[if_neg h9]at HV
     simp only[pieceW,Bool.false_eq_true,if_false]at HV
     have HV:=Lib.hid HV
     clear HI HS c34 h9
     go_enter Tryz.func187,Tryz.ntmps187
     go_wp2_with(first|(go_at_call 246;(with_reducible refine(HJ.out _).mono ?_);rintro e w' ⟨rfl,rfl⟩)|(go_at_call 252;(with_reducible refine(small_any s[0] _).mono ?_);rintro e w' ⟨rfl,rfl⟩;rw[hl])|(go_at_call 108;(with_reducible refine(digit_any s[0] _).mono ?_);rintro e w' ⟨rfl,rfl⟩;rw[hd])|(go_at_call 253;(with_reducible refine(HR.out _).mono ?_);rintro e w' ⟨rfl,rfl⟩))
     rw[HV.out.out]
     refine bodyPost_ret ?_ rfl (Ret.of rfl bel)
     simp[results,Tryz.results187,go_sem]
  ·obtain⟨n,hn⟩: ∃n,tw wchB (s.data.toList.drop 1)=n:=⟨_,rfl⟩
   have hns:n<s.size:=by have:=tw_le wchB (s.data.toList.drop 1);rw[hn,List.length_drop,len_data]at this;omega
   have HV:Hid (pieceV s.data.toList=pieceW false (if wordB (s.data.toList.take (1+n))then .ok 1 (s.data.toList.take (1+n)) (1+n)else .bad 0)):=by
    show _=_
    rw[pieceV_eq HS.out,pieceL,if_neg c34,decide_eq_false c34,if_pos hl]
    have e1:(List.takeWhile wchB (s.data.toList.drop 1)).length=n:=hn
    have e2:s[0]::List.takeWhile wchB (s.data.toList.drop 1)=s.data.toList.take (1+n):=by
     rw[<-take_tw,hn,Nat.add_comm 1 n]
     conv=>rhs;rw[HS.out]
     rw[List.take_succ_cons]
    rw[e1,e2]
   have HE:=Lib.hid (str_take s (1+n))
   have HR:Hid (∀W,Calls Tryz.prog 253 #[.string s,.func (.func 254) #[] #[]] W fun e w'=>e= .returned (.int .i64 (1+n:Nat))/\W=w'):=fun W=>hn ▸ row_any s _ wchB W goes_pred h1 (by omega)
   have HD:Hid ((s.extract 0 (1+n)).data.toList=s.data.toList.take (1+n)):=by show _=_;rw[HE.out]
   have HZ:Hid ((s.extract 0 (1+n)).size<=9223372036854775807):=by show _<=_;rw[ByteArray.size_extract];omega
   have HW:Hid (∀W,Calls Tryz.prog 124 #[.string (s.extract 0 (1+n))] W (Ret (.bool (wordB (s.data.toList.take (1+n)))) W)):=fun W=>HD.out ▸ word_any (s.extract 0 (1+n)) W HZ.out
   clear hn
   cases hw:wordB (s.data.toList.take (1+n))
   ·rw[hw]at HV HW
    simp only[pieceW,Bool.false_eq_true,if_false]at HV
    have HV:=Lib.hid HV
    clear HI HS c34 hw HD HZ
    go_enter Tryz.func187,Tryz.ntmps187
    go_wp2_with(first|(go_at_call 246;(with_reducible refine(HJ.out _).mono ?_);rintro e w' ⟨rfl,rfl⟩)|(go_at_call 252;(with_reducible refine(small_any s[0] _).mono ?_);rintro e w' ⟨rfl,rfl⟩;rw[hl])|(go_at_call 253;(with_reducible refine(HR.out _).mono ?_);rintro e w' ⟨rfl,rfl⟩)|(go_at_call 124;(with_reducible refine(HW.out _).mono ?_);rintro e w' ⟨rfl,X,rfl⟩))
    rw[HV.out.out]
    refine bodyPost_ret ?_ rfl (Ret.of rfl bel)
    simp[results,Tryz.results187,go_sem]
   ·rw[hw]at HV HW
    simp only[pieceW,if_true]at HV
    have HV:=Lib.hid HV
    clear HI HS c34 hw HD HZ
    go_enter Tryz.func187,Tryz.ntmps187
    go_wp2_with(first|(go_at_call 246;(with_reducible refine(HJ.out _).mono ?_);rintro e w' ⟨rfl,rfl⟩)|(go_at_call 252;(with_reducible refine(small_any s[0] _).mono ?_);rintro e w' ⟨rfl,rfl⟩;rw[hl])|(go_at_call 253;(with_reducible refine(HR.out _).mono ?_);rintro e w' ⟨rfl,rfl⟩)|(go_at_call 124;(with_reducible refine(HW.out _).mono ?_);rintro e w' ⟨rfl,X,rfl⟩))
    rw[HV.out.out,<-HE.out]
    refine bodyPost_ret ?_ rfl (Ret.of rfl bel)
    simp[results,Tryz.results187,go_sem]
end Go.Proofs.YtiikamobcmgekaaGreatDoor
