/- The walks of bytes and words. -/
import Derived.Shelf.Abstract
import Derived.Lib.Strings
import Derived.Test.YtbhhgbgfaemfdaaGreatDoorKB
import Derived.Test.YtbhhgbgfaemfdaaGreatDoorProg
import Derived.Test.YtbhhgbgfaemfdaaGreatDoorKA
namespace Go.Proofs.YtbhhgbgfaemfdaaGreatDoor
open Bool renaming eq_iff_iff→z2q
open Lib renaming hid→z2g
open List renaming any_cons→z3h
set_option maxHeartbeats 1600000
structure LE where
 kind:Nat
 at_:Nat
 text:Bs
 err:Nat
def yldS (k:Nat->Bs->List LE) (a:Nat):Bs->List LE
 |[]=>[]
 |c::r=>match zbk (c::r)with
  | .ok kd t n=>⟨kd,a,t,0⟩::k (a+n) ((c::r).drop n)
  | .bad n=>[⟨0,a+n,[],2⟩]
def yldF:Nat->Nat->Bs->List LE
 |0,_,_=>[]
 |f+1,a,l=>yldS (yldF f) (a+blk false l) (l.drop (blk false l))
theorem zkz {k k':Nat->Bs->List LE} (a:Nat) (r:Bs) (h: ∀b l,l.length<r.length->k b l=k' b l):yldS k a r=yldS k' a r:=by
 cases r with
 |nil=>rfl
 |cons c r=>
  simp only[yldS]
  cases hp:zbk (c::r)with
  |bad n=>rfl
  |ok kd t n=>
   have:=(zcv (c::r)).1 kd t n hp
   simp only
   rw[h _ _ (by rw[List.length_drop];omega)]
theorem zug (f g:Nat) (a:Nat) (l:Bs) (hf:l.length<f) (hg:l.length<g):yldF f a l=yldF g a l:=by
 induction f generalizing g a l with
 |zero=>omega
 |succ f ih=>
  cases g with
  |zero=>omega
  |succ g=>
   unfold yldF
   refine zkz _ _ fun b l' hl'=> ?_
   rw[List.length_drop]at hl'
   exact ih g _ _ (by omega) (by omega)
def yldL (a:Nat) (l:Bs):List LE:=yldF (l.length+1) a l
theorem zyt (f a:Nat) (l:Bs):(yldF f a l).length<=f:=by
 induction f generalizing a l with
 |zero=>simp[yldF]
 |succ f ih=>
  unfold yldF
  generalize l.drop (blk false l)=r
  cases r with
  |nil=>simp[yldS]
  |cons c r=>
   simp only[yldS]
   cases hp:zbk (c::r)with
   |ok k t n=>simp;exact ih _ _
   |bad n=>simp
theorem zyr (a:Nat) (l:Bs):(yldL a l).length<=l.length+1:=zyt _ a l
def yldH (a:Nat) (r:Bs):List LE:=yldS yldL a r
theorem zuf (a:Nat) (l:Bs):yldL a l=yldH (a+blk false l) (l.drop (blk false l)):=by
 show yldF (l.length+1) a l=_
 unfold yldF yldH
 refine zkz _ _ fun b l' hl'=> ?_
 rw[List.length_drop]at hl'
 exact zug _ _ _ _ (by omega) (by omega)
theorem z01 {a:Nat} {r:Bs} {k:Nat} {t:Bs} {n:Nat} (hr:r≠[]) (h:zbk r= .ok k t n):yldH a r=⟨k,a,t,0⟩::yldL (a+n) (r.drop n):=by
 cases r with
 |nil=>exact absurd rfl hr
 |cons c r=>simp only[yldH,yldS,h]
theorem zys {a:Nat} {r:Bs} {n:Nat} (hr:r≠[]) (h:zbk r= .bad n):yldH a r=[⟨0,a+n,[],2⟩]:=by
 cases r with
 |nil=>exact absurd rfl hr
 |cons c r=>simp only[yldH,yldS,h]
def toSR:List LE->SR
 |[]=> .ok []
 |x::r=>if x.err=0 then(toSR r).cons ⟨x.kind,x.at_,x.text⟩else .bad x.at_
theorem zvs (f a:Nat) (l:Bs):zfn f a l=toSR (yldF f a l):=by
 induction f generalizing a l with
 |zero=>rfl
 |succ f ih=>
  rw[zfn,yldF]
  generalize l.drop (blk false l)=r
  cases r with
  |nil=>rfl
  |cons c r=>
   simp only[yldS]
   cases hp:zbk (c::r)with
   |ok k t n=>simp[toSR,ih]
   |bad n=>simp[toSR]
theorem znn (a:Nat) (l:Bs):zdh a l=toSR (yldL a l):=zvs _ a l
theorem zla {a:Nat} {l:Bs} (j:Nat) (h:blk false l=j+blk false (l.drop j)):zdh a l=zdh (a+j) (l.drop j):=by
 rw[zgu a l,zgu (a+j),h,List.drop_drop,Nat.add_assoc]
theorem zy9 {a:Nat} {l:Bs} {k:Nat} {t:Bs} {n:Nat} (hl:l≠[]) (h0:blk false l=0) (h:zbk l= .ok k t n):zdh a l=(zdh (a+n) (l.drop n)).cons ⟨k,a,t⟩:=by
 rw[zgu,h0,List.drop_zero,Nat.add_zero]
 cases l with
 |nil=>exact absurd rfl hl
 |cons c r=>simp only[h]
theorem zvr {a:Nat} {l:Bs} {n:Nat} (hl:l≠[]) (h0:blk false l=0) (h:zbk l= .bad n):zdh a l= .bad (a+n):=by
 rw[zgu,h0,List.drop_zero,Nat.add_zero]
 cases l with
 |nil=>exact absurd rfl hl
 |cons c r=>simp only[h]
def TR.pr:TR->PR
 | .ok t n=> .ok 3 t (n+1)
 | .bad n=> .bad (n+1)
 | .op=> .bad 0
theorem zlm {c:UInt8} (r:Bs) (h:c.toNat=34):zbk (c::r)=(strL r).pr:=by
 rw[zbk,if_pos h];cases strL r<;>rfl
def Lx.kt (x:Lx):Nat × Bs:=(x.kind,x.text)
open Go.RowKit
theorem zb0 {a b:Bool} (h:a=b):Ending.returned (.bool a)= .returned (.bool b):=by rw[h]
theorem zgg {k:IntKind} {a b:Int} (h:a=b):Ending.returned (.int k a)= .returned (.int k b):=by rw[h]
def btwB (c l h:Int):Bool:=decide (l<=c)&&decide (c<=h)
theorem zql (c:UInt8):btwB (bits .or .u8 c.toNat 32) 97 122=(upB c||lowB c):=by
 have h: ∀n:Fin 256,btwB (bits .or .u8 ((n.val:Nat):Int) 32) 97 122=(decide (65<=n.val/\n.val<=90)||decide (97<=n.val/\n.val<=122)):=by decide+kernel
 exact h ⟨c.toNat,c.toNat_lt⟩
theorem zc2 (c l h:Int) (w:World):Calls Tryz.prog 86 #[.int .u8 c,.int .u8 l,.int .u8 h] w fun e w'=>e= .returned (.bool (btwB c l h))/\w=w':=by
 go_enter Tryz.func86,Tryz.ntmps86
 go_wp2
 all_goals go_ret
 all_goals exact⟨zb0 (by unfold btwB;simp<;>omega),rfl⟩
theorem zgt (c:UInt8) (w:World):Calls Tryz.prog 206 #[.int .u8 c.toNat] w fun e w'=>e= .returned (.bool (spB c))/\w=w':=by
 go_enter Tryz.func206,Tryz.ntmps206
 go_wp2_with(go_at_call 86;refine(zc2 _ _ _ _).mono ?_;rintro e w' ⟨rfl,rfl⟩)
 all_goals go_ret
 all_goals exact⟨zb0 (by rw[z2q];simp[spB,btwB]at*;try omega),rfl⟩
theorem zhx (c:UInt8) (w:World):Calls Tryz.prog 41 #[.int .u8 c.toNat] w fun e w'=>e= .returned (.bool (upB c||lowB c))/\w=w':=by
 go_enter Tryz.func41,Tryz.ntmps41
 go_wp2_with(go_at_call 86;refine(zc2 _ _ _ _).mono ?_;rintro e w' ⟨rfl,rfl⟩)
 all_goals go_ret
 all_goals exact⟨zb0 (zql c),rfl⟩
theorem zdf (c:UInt8) (w:World):Calls Tryz.prog 85 #[.int .u8 c.toNat] w fun e w'=>e= .returned (.bool (digB c))/\w=w':=by
 go_enter Tryz.func85,Tryz.ntmps85
 go_wp2_with(go_at_call 86;refine(zc2 _ _ _ _).mono ?_;rintro e w' ⟨rfl,rfl⟩)
 all_goals go_ret
 all_goals exact⟨zb0 (by rw[z2q];simp[digB,btwB]at*;try omega),rfl⟩
theorem zyx (c:UInt8) (w:World):Calls Tryz.prog 162 #[.int .u8 c.toNat] w fun e w'=>e= .returned (.bool (!wchB c))/\w=w':=by
 go_enter Tryz.func162,Tryz.ntmps162
 go_wp2_with(first|(go_at_call 86;refine(zc2 _ _ _ _).mono ?_;rintro e w' ⟨rfl,rfl⟩)|(go_at_call 85;refine(zdf _ _).mono ?_;rintro e w' ⟨rfl,rfl⟩))
 all_goals go_ret
 all_goals exact⟨zb0 (by rw[z2q];simp[wchB,digB,lowB,btwB]at*;try omega),rfl⟩
theorem zf1 (c:UInt8) (w:World):Calls Tryz.prog 155 #[.int .u8 c.toNat] w fun e w'=>e= .returned (.bool (spB c))/\w=w':=by
 go_enter Tryz.func155,Tryz.ntmps155
 go_wp2
 all_goals go_ret
 all_goals exact⟨zb0 (by rw[z2q];simp[spB]at*;try omega),rfl⟩
theorem zbx (c:UInt8) (w:World):Calls Tryz.prog 45 #[.int .u8 c.toNat] w fun e w'=>e= .returned (.bool (digB c))/\w=w':=by
 go_enter Tryz.func45,Tryz.ntmps45
 go_wp2
 all_goals go_ret
 all_goals exact⟨zb0 (by rw[z2q];simp[digB]at*;try omega),rfl⟩
theorem zeb (c:UInt8) (w:World):Calls Tryz.prog 209 #[.int .u8 c.toNat] w fun e w'=>e= .returned (.bool (lowB c))/\w=w':=by
 go_enter Tryz.func209,Tryz.ntmps209
 go_wp2_with(go_at_call 41;refine(zhx _ _).mono ?_;rintro e w' ⟨rfl,rfl⟩)
 all_goals go_ret
 all_goals exact⟨zb0 (by rw[z2q];simp[upB,lowB]at*;try omega),rfl⟩
theorem zjt (c:UInt8) (w:World):Calls Tryz.prog 107 #[.int .u8 c.toNat] w fun e w'=>e= .returned (.bool (oddB c))/\w=w':=by
 go_enter Tryz.func107,Tryz.ntmps107
 go_wp2
 all_goals go_ret
 all_goals exact⟨zb0 (by rw[z2q];simp[oddB]at*;try omega),rfl⟩
theorem zzz (c:UInt8) (w:World):Calls Tryz.prog 211 #[.int .u8 c.toNat] w fun e w'=>e= .returned (.bool (wchB c))/\w=w':=by
 go_enter Tryz.func211,Tryz.ntmps211
 go_wp2_with(first|(go_at_call 209;refine(zeb _ _).mono ?_;rintro e w' ⟨rfl,rfl⟩)|(go_at_call 85;refine(zdf _ _).mono ?_;rintro e w' ⟨rfl,rfl⟩))
 all_goals go_ret
 all_goals exact⟨zb0 (by rw[z2q];simp[wchB,digB,lowB]at*;try omega),rfl⟩
theorem zho (c:UInt8) (w:World):Calls Tryz.prog 194 #[.int .u8 c.toNat] w fun e w'=>e= .returned (.bool (wchB c))/\w=w':=by
 go_enter Tryz.func194,Tryz.ntmps194
 go_wp2
 all_goals go_ret
 all_goals exact⟨zb0 (by rw[z2q];simp[wchB,digB,lowB]at*;try omega),rfl⟩
def tw (p:UInt8->Bool) (l:Bs):Nat:=(l.takeWhile p).length
theorem zyy (p:UInt8->Bool) (l:Bs):tw p l<=l.length:=zfm p l
theorem zbq (s:ByteArray) (k:Nat) (h:k<s.size):s.data.toList.drop k=s[k]::s.data.toList.drop (k+1):=by
 rw[List.drop_eq_getElem_cons (by simpa using h)];rfl
theorem zb8 (s:ByteArray) (k:Nat) (h:s.size<=k):s.data.toList.drop k=[]:=by
 rw[List.drop_eq_nil_iff];simpa using h
theorem zap (s:ByteArray):s.data.toList.length=s.size:=by rw[Array.length_toList];rfl
structure zue (g:Nat) (p:UInt8->Bool):Prop where
 enters: ∀args w,(callFunc g args).run Tryz.prog w= .ok (.enter g args) w
 calls: ∀(c:UInt8) (w:World),Calls Tryz.prog g #[.int .u8 c.toNat] w fun e w'=>e= .returned (.bool (p c))/\w=w'
theorem zvz (s:ByteArray) (g:Nat) (p:UInt8->Bool) (w:World) (hp:zue g p) (hs:1<=s.size) (hm:s.size<=9223372036854775807):
  Calls Tryz.prog 210 #[.string s,.func (.func g) #[] #[]] w fun e w'=>e= .returned (.int .i64 (1+tw p (s.data.toList.drop 1):Nat))/\w=w':=by
 obtain⟨eg,hp⟩:=hp
 have hp:=z2g hp
 go_enter Tryz.func210,Tryz.ntmps210
 go_wp2_with fail
 go_loop [5] (fun i=> ∃k:Nat,k<=s.size/\i= .int .i64 k/\Hid (k+tw p (s.data.toList.drop k)=1+tw p (s.data.toList.drop 1))) (fun i=>s.size-(intOf i).toNat)
 case atStart=>exact⟨1,hs,rfl,rfl⟩
 case round=>
  obtain⟨k,hk,rfl,HK⟩:=hrel
  by_cases hlt:k<s.size
  ·have HD:=z2g (zbq s k hlt)
   cases hpc:p s[k]
   ·go_wp2_with((with_reducible refine(hp.out s[k] _).mono ?_);rintro e w' ⟨rfl,rfl⟩)
    go_ret
    have:=HK.out
    rw[HD.out,tw,List.takeWhile_cons,hpc]at this
    exact⟨zgg (by simp only[Bool.false_eq_true,if_false,List.length_nil,Nat.add_zero]at this;omega),rfl⟩
   ·go_wp2_with((with_reducible refine(hp.out s[k] _).mono ?_);rintro e w' ⟨rfl,rfl⟩)
    go_round
    case rel=>
     refine⟨k+1,by omega,by go_num, ?_⟩
     have:=HK.out
     rw[HD.out,tw,List.takeWhile_cons,hpc]at this
     show _=_
     rw[<-this];simp[tw];omega
    case measure=>simp[intOf];omega
  ·have HE:=z2g (zb8 s k (by omega))
   go_wp2
   go_ret
   have:=HK.out
   rw[HE.out]at this
   exact⟨zgg (by simp[tw]at*;omega),rfl⟩
open Go.RowKit Go.Shelf
def idxF (p:UInt8->Bool) (l:Bs):Int:=if tw (fun c=> !p c) l<l.length then(tw (fun c=> !p c) l:Nat)else-1
theorem zfk {p:UInt8->Bool} {c:UInt8} (r:Bs) (h:p c=true):tw p (c::r)=tw p r+1:=by simp[tw,h]
theorem zfl {p:UInt8->Bool} {c:UInt8} (r:Bs) (h:p c=false):tw p (c::r)=0:=by simp[tw,h]
theorem tw_any (p:UInt8->Bool) (l:Bs):l.any p=decide (tw (fun c=> !p c) l<l.length):=by
 induction l with
 |nil=>simp[tw]
 |cons c r ih=>
  cases h:p c
  ·rw[z3h,h,ih,zfk r (by simp[h])];simp
  ·rw[zfl r (by simp[h])];simp[h]
theorem zzv (p:UInt8->Bool) (l:Bs):decide (0<=idxF p l)=l.any p:=by
 rw[tw_any];unfold idxF;split<;>rename_i h<;>simp[h]
theorem Rd.byte {w:World} {A:Option Addr} {n c:Nat} {l:Bs} (h:Rd w (.slice A n c) l.length 1 (l.map bv)) (k:Nat) (hk:k<l.length):n=l.length/\ ∃b off,A=some ⟨b,off,none⟩/\b<w.heap.size/\w.cell? ⟨b,off+k,none⟩=some (.int .u8 (l[k].toNat:Int)):=by
 obtain⟨_,_,A',c',e,h4⟩:=h
 cases e
 obtain⟨b,off,rfl,hb,hc⟩:=h4 (by omega)
 exact⟨rfl,b,off,rfl,hb,hc k (bv l[k]) (by simp[hk])⟩
theorem zmn (v:Value) (l:Bs) (g:Nat) (p:UInt8->Bool) (w:World) (h:Rd w v l.length 1 (l.map bv)) (hp:zue g p):
  Calls Tryz.prog 198 #[v,.func (.func g) #[] #[]] w fun e w'=>e= .returned (.int .i64 (idxF p l))/\w=w':=by
 obtain⟨eg,hp⟩:=hp
 have hp:=z2g hp
 have HR:=z2g h
 obtain⟨_,hm,A,c,rfl,_⟩:=h
 go_enter Tryz.func198,Tryz.ntmps198
 go_wp2_with fail
 go_loop [8] (fun i=> ∃k:Nat,k<=l.length/\i= .int .i64 k/\Hid (tw (fun c=> !p c) l=k+tw (fun c=> !p c) (l.drop k))) (fun i=>l.length-(intOf i).toNat)
 case atStart=>exact⟨0,by omega,rfl,by show _=_;simp⟩
 case round=>
  obtain⟨k,hk,rfl,HK⟩:=hrel
  by_cases hlt:k<l.length
  ·obtain⟨_,b,off,rfl,hb,hc⟩:=HR.out.byte k hlt
   have HD:Hid (l.drop k=l[k]::l.drop (k+1)):=List.drop_eq_getElem_cons hlt
   cases hpc:p l[k]
   ·have HT:Hid (tw (fun c=> !p c) l=k+1+tw (fun c=> !p c) (l.drop (k+1))):=by
     show _=_
     rw[HK.out,HD.out,zfk _ (by simp[hpc])];omega
    go_wp2_with((with_reducible refine(hp.out l[k] _).mono ?_);rintro e w' ⟨rfl,rfl⟩;rw[hpc])
    go_round
    case rel=>exact⟨k+1,by omega,by go_num,HT⟩
    case measure=>simp[intOf];omega
   ·have HT:Hid (idxF p l=k):=by
     show _=_
     have:=HK.out
     rw[HD.out,zfl _ (by simp[hpc])]at this
     unfold idxF;rw[if_pos (by omega),this];simp
    go_wp2_with((with_reducible refine(hp.out l[k] _).mono ?_);rintro e w' ⟨rfl,rfl⟩;rw[hpc])
    go_ret
    exact⟨zgg HT.out.symm,rfl⟩
  ·have HT:Hid (idxF p l= -1):=by
    show _=_
    have:=HK.out
    rw[List.drop_eq_nil_of_le (by omega)]at this
    unfold idxF;rw[if_neg]
    rw[this];simp[tw];omega
   go_wp2
   go_ret
   exact⟨zgg HT.out.symm,rfl⟩
theorem zih (v:Value) (l:Bs) (g:Nat) (p:UInt8->Bool) (w:World) (h:Rd w v l.length 1 (l.map bv)) (hp:zue g p):
  Calls Tryz.prog 163 #[v,.func (.func g) #[] #[]] w fun e w'=>e= .returned (.bool (l.any p))/\w=w':=by
 have HI:=z2g (zmn v l g p w h hp)
 clear h hp
 go_enter Tryz.func163,Tryz.ntmps163
 go_wp2_with(go_at_call 198;refine HI.out.mono ?_;rintro e w' ⟨rfl,rfl⟩)
 go_ret
 exact⟨zb0 (zzv p l),rfl⟩
theorem zup:zue 162 (fun c=> !wchB c):=⟨enters_of Tryz.func162 (by kernel_rfl) rfl,zyx⟩
theorem zlw (l:Bs):zaz l=(decide (0<l.length)&&decide (l.length<=64)&&lowB (l.headD 0)&& !l.any (fun c=> !wchB c)):=by
 cases l with
 |nil=>rfl
 |cons c r=>
  have h:lowB c=true->wchB c=true:=by intro h;simp[wchB,h]
  simp only[zaz,List.headD_cons,z3h,List.length_cons]
  cases hl:lowB c
  ·simp
  ·simp only[h hl]
   have e:r.all wchB= !r.any (fun c=> !wchB c):=by rw[List.any_eq_not_all_not];simp
   rw[e,show decide (r.length<64)=decide (r.length+1<=64) by rw[decide_eq_decide];omega];simp
theorem zxy (c:UInt8):btwB c.toNat 97 122=lowB c:=by unfold btwB lowB;rw[z2q];simp;omega
@[go_sem] theorem conv_bytes (s:ByteArray) (w:World):(convert 9 56 (.string s)).run Tryz.prog w= .ok (.slice (some ⟨w.heap.size,0,none⟩) s.size (grownCap w s.size 0 5)) (w.grow (zcu w 5 s)):=
 zfx w _ _ _ s Tryz.underlying9 Tryz.underlying56 Tryz.underlying5
theorem zrz (s:ByteArray) (h:0<s.size):s.data.toList.headD 0=s[0]:=by
 have:=zbq s 0 h
 rw[List.drop_zero]at this
 rw[this];rfl
theorem zz2 (s:ByteArray) (h:0<s.size):s.toList.isEmpty=false:=by
 have h2:=zap s
 rw[_root_.Go.Lib.toList_data]
 cases h3:s.data.toList with
 |nil=>rw[h3]at h2;simp at h2;omega
 |cons a b=>rfl
theorem zxl (s:ByteArray) (h: ¬0<s.size):s.toList.isEmpty=true:=by
 have h2:=zap s
 rw[_root_.Go.Lib.toList_data]
 cases h3:s.data.toList with
 |nil=>rfl
 |cons a b=>rw[h3]at h2;simp at h2;omega
theorem zq5 (s:ByteArray) (w:World) (hm:s.size<=9223372036854775807):Calls Tryz.prog 100 #[.string s] w (Ret (.bool (zaz s.data.toList)) w):=by
 have HW:=z2g (zlw s.data.toList)
 by_cases h0:0<s.size
 ·have hne:=zz2 s h0
  by_cases h64:s.size<=64
  ·have b64:decide ((64:Int)<s.size)=false:=by simp;omega
   have HL:Hid (zaz s.data.toList=(lowB s[0]&& !s.data.toList.any (fun c=> !wchB c))):=by
    show _=_
    rw[HW.out,zrz s h0,zap,decide_eq_true h0,decide_eq_true h64];simp
   cases hl:lowB s[0]
   ·have HF:Hid (zaz s.data.toList=false):=by show _=_;rw[HL.out,hl];rfl
    clear HW HL h64
    go_enter Tryz.func100,Tryz.ntmps100
    go_wp2_with(go_at_call 86;refine(zc2 _ _ _ _).mono ?_;rintro e w' ⟨rfl,rfl⟩;rw[zxy,hl])
    go_ret
    exact Ret.of (by rw[HF.out];rfl) bel
   ·cases ha:s.data.toList.any (fun c=> !wchB c)
    all_goals
     have HF:Hid (zaz s.data.toList= !s.data.toList.any (fun c=> !wchB c)):=by show _=_;rw[HL.out,hl];rfl
     rw[ha]at HF
     have HA:=z2g ha
     clear HW HL h64 ha
     have HB:=z2g (fun W=>zap s ▸ zz8 W 5 s (grownCap W s.size 0 5) hm)
     go_enter Tryz.func100,Tryz.ntmps100
     go_wp2_with(first|(go_at_call 86;refine(zc2 _ _ _ _).mono ?_;rintro e w' ⟨rfl,rfl⟩;rw[zxy,hl])|(go_at_call 163;refine(zih _ _ _ _ _ (HB.out _) zup).mono ?_;rintro e w' ⟨rfl,rfl⟩;rw[HA.out]))
     go_ret
     exact Ret.of (by rw[HF.out];rfl) bel
  ·have b64:decide ((64:Int)<s.size)=true:=by simp;omega
   have HF:Hid (zaz s.data.toList=false):=by show _=_;rw[HW.out,zap,decide_eq_false h64];simp
   clear HW h64
   go_enter Tryz.func100,Tryz.ntmps100
   go_wp2
   go_ret
   exact Ret.of (by rw[HF.out];rfl) bel
 ·have hne:=zxl s h0
  have HF:Hid (zaz s.data.toList=false):=by show _=_;rw[HW.out,zap,decide_eq_false h0];simp
  clear HW h0
  go_enter Tryz.func100,Tryz.ntmps100
  go_wp2
  go_ret
  exact Ret.of (by rw[HF.out];rfl) bel
theorem zet (s:ByteArray) (w:World) (hm:s.size<=9223372036854775807):Calls Tryz.prog 111 #[.string s] w fun e w'=>e= .returned (.bool (zaz s.data.toList))/\w=w':=by
 have HW:=z2g (zlw s.data.toList)
 by_cases h0:0<s.size
 ·have b1:decide ((s.size:Int)<1)=false:=by simp;omega
  by_cases h64:s.size<=64
  ·have b64:decide ((64:Int)<s.size)=false:=by simp;omega
   have HL:Hid (zaz s.data.toList=(lowB s[0]&& !s.data.toList.any (fun c=> !wchB c))):=by
    show _=_
    rw[HW.out,zrz s h0,zap,decide_eq_true h0,decide_eq_true h64];simp
   have HD0:=z2g (zbq s 0 h0)
   clear HW
   go_enter Tryz.func111,Tryz.ntmps111
   go_wp2_with fail
   go_loop [3] (fun i=> ∃k:Nat,k<=s.size/\i= .int .i64 k/\Hid ((0<k->lowB s[0]=true)/\s.data.toList.any (fun c=> !wchB c)=(s.data.toList.drop k).any (fun c=> !wchB c))) (fun i=>s.size-(intOf i).toNat)
   case atStart=>exact⟨0,by omega,rfl,by refine⟨fun h=>by omega,by simp⟩⟩
   case round=>
    obtain⟨k,hk,rfl,HK⟩:=hrel
    by_cases hlt:k<s.size
    ·have HD:=z2g (zbq s k hlt)
     have HGo:Hid (wchB s[k]=true->(k=0->lowB s[0]=true)->((0<k+1->lowB s[0]=true)/\s.data.toList.any (fun c=> !wchB c)=(s.data.toList.drop (k+1)).any (fun c=> !wchB c))):=by
      intro h1 h2
      refine⟨fun _=> ?_,by rw[HK.out.2,HD.out,z3h,h1];rfl⟩
      by_cases hk0:k=0
      ·exact h2 hk0
      ·exact HK.out.1 (by omega)
     have HRet:Hid ((lowB s[k]=false/\k=0)\/wchB s[k]=false->zaz s.data.toList=false):=by
      rintro(⟨h1,rfl⟩|h1)
      ·rw[HL.out,h1];rfl
      ·rw[HL.out,HK.out.2,HD.out,z3h,h1];simp
     have HX:Hid (lowB s[k]=true/\decide ((97:Int)<=s[k].toNat)=true/\decide ((s[k].toNat:Int)<=122)=true\/lowB s[k]=false/\(decide ((97:Int)<=s[k].toNat)=true/\decide ((s[k].toNat:Int)<=122)=false\/decide ((97:Int)<=s[k].toNat)=false)):=by
      show _\/_
      unfold lowB;simp;omega
     by_cases hk0:k=0
     ·subst hk0
      rcases HX.out with⟨h1,b1,b2⟩|⟨h1,h2⟩
      ·have HG:=z2g (HGo.out (by simp[wchB,h1]) (fun _=>h1))
       clear h1 HX HRet HGo
       go_wp2
       go_round
       case rel=>exact⟨1,by omega,rfl,HG.out⟩
       case measure=>simp[intOf];omega
      ·have HG:=z2g (HRet.out (Or.inl ⟨h1,rfl⟩))
       clear h1 HX HRet HGo
       rcases h2 with⟨b1,b2⟩|b1
       all_goals
        go_wp2
        go_ret
        exact⟨zb0 HG.out.symm,rfl⟩
     ·have kz:((k:Int)==0)=false:=by simp;omega
      rcases HX.out with⟨h1,b1,b2⟩|⟨h1,h2⟩
      ·have HG:=z2g (HGo.out (by simp[wchB,h1]) (fun h=>absurd h hk0))
       clear h1 HX HRet HGo hk0
       go_wp2
       go_round
       case rel=>exact⟨k+1,by omega,by go_num,HG.out⟩
       case measure=>simp[intOf];omega
      ·cases hd:digB s[k]
       ·by_cases h45:s[k].toNat=45
        ·have b45:((s[k].toNat:Int) !=45)=false:=by simp;omega
         have HG:=z2g (HGo.out (by simp[wchB,h45]) (fun h=>absurd h hk0))
         clear h1 HX HRet HGo hk0 h45
         rcases h2 with⟨b1,b2⟩|b1
         all_goals
          go_wp2_with(go_at_call 45;(with_reducible refine(zbx s[k] _).mono ?_);rintro e w' ⟨rfl,rfl⟩;rw[hd])
          go_round
          case rel=>exact⟨k+1,by omega,by go_num,HG.out⟩
          case measure=>simp[intOf];omega
        ·have b45:((s[k].toNat:Int) !=45)=true:=by simp;omega
         have HG:=z2g (HRet.out (Or.inr (by simp[wchB,h1,hd,h45])))
         clear h1 HX HRet HGo hk0 h45
         rcases h2 with⟨b1,b2⟩|b1
         all_goals
          go_wp2_with(go_at_call 45;(with_reducible refine(zbx s[k] _).mono ?_);rintro e w' ⟨rfl,rfl⟩;rw[hd])
          go_ret
          exact⟨zb0 HG.out.symm,rfl⟩
       ·have HG:=z2g (HGo.out (by simp[wchB,hd]) (fun h=>absurd h hk0))
        clear h1 HX HRet HGo hk0
        rcases h2 with⟨b1,b2⟩|b1
        all_goals
         go_wp2_with(go_at_call 45;(with_reducible refine(zbx s[k] _).mono ?_);rintro e w' ⟨rfl,rfl⟩;rw[hd])
         go_round
         case rel=>exact⟨k+1,by omega,by go_num,HG.out⟩
         case measure=>simp[intOf];omega
    ·have HF:Hid (zaz s.data.toList=true):=by
      show _=_
      have:=HK.out
      rw[zb8 s k (by omega)]at this
      rw[HL.out,this.1 (by omega),this.2];rfl
     clear HK HL HD0
     go_wp2
     go_ret
     exact⟨zb0 HF.out.symm,rfl⟩
  ·have b64:decide ((64:Int)<s.size)=true:=by simp;omega
   have HF:Hid (zaz s.data.toList=false):=by show _=_;rw[HW.out,zap,decide_eq_false h64];simp
   clear HW h64
   go_enter Tryz.func111,Tryz.ntmps111
   go_wp2
   go_ret
   exact⟨zb0 HF.out.symm,rfl⟩
 ·have HF:Hid (zaz s.data.toList=false):=by show _=_;rw[HW.out,zap,decide_eq_false h0];simp
  have b1:decide ((s.size:Int)<1)=true:=by simp;omega
  clear HW h0
  go_enter Tryz.func111,Tryz.ntmps111
  go_wp2
  go_ret
  exact⟨zb0 HF.out.symm,rfl⟩
end Go.Proofs.YtbhhgbgfaemfdaaGreatDoor

