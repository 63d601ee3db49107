/- The walks of bytes and words. -/
import Derived.Shelf.Abstract
import Derived.Lib.Strings
import Derived.Test.YtiikamobcmgekaaGreatDoorKB
import Derived.Test.YtiikamobcmgekaaGreatDoorProg
import Derived.Test.YtiikamobcmgekaaGreatDoorKA
namespace Go.Proofs.YtiikamobcmgekaaGreatDoor
open Bool renaming eq_iff_iff→z2l
open Lib renaming hid→z2c
open List renaming any_cons→z3h
open Tryz renaming ntmps124→z6e,prog→z2f
set_option maxHeartbeats 1600000
structure LE where
 kind:Nat
 at_:Nat
 text:Bs
 err:Nat
def yldS (k:Nat->Bs->List LE) (a:Nat):Bs->List LE
 |[]=>[]
 |c::r=>match zbj (c::r)with
  | .ok kd t n=>⟨kd,a,t,0⟩::k (a+n) ((c::r).drop n)
  | .bad n=>[⟨0,a+n,[],2⟩]
def yldF:Nat->Nat->Bs->List LE
 |0,_,_=>[]
 |f+1,a,l=>yldS (yldF f) (a+blk false l) (l.drop (blk false l))
theorem zlc {k k':Nat->Bs->List LE} (a:Nat) (r:Bs) (h: ∀b l,l.length<r.length->k b l=k' b l):yldS k a r=yldS k' a r:=by
 cases r with
 |nil=>rfl
 |cons c r=>
  simp only[yldS];cases hp:zbj (c::r)with
  |bad n=>rfl
  |ok kd t n=>
   have:=(zc0 (c::r)).1 kd t n hp;simp only;rw[h _ _ (by rw[List.length_drop];omega)]
theorem zu9 (f g:Nat) (a:Nat) (l:Bs) (hf:l.length<f) (hg:l.length<g):yldF f a l=yldF g a l:=by
 induction f generalizing g a l with
 |zero=>omega
 |succ f ih=>
  cases g with
  |zero=>omega
  |succ g=>
   unfold yldF;refine zlc _ _ fun b l' hl'=> ?_;rw[List.length_drop]at hl';exact ih g _ _ (by omega) (by omega)
def yldL (a:Nat) (l:Bs):List LE:=yldF (l.length+1) a l
theorem zzc (f a:Nat) (l:Bs):(yldF f a l).length<=f:=by
 induction f generalizing a l with
 |zero=>simp[yldF]
 |succ f ih=>
  unfold yldF;generalize l.drop (blk false l)=r;cases r with
  |nil=>simp[yldS]
  |cons c r=>
   simp only[yldS];cases hp:zbj (c::r)with
   |ok k t n=>simp;exact ih _ _
   |bad n=>simp
theorem zza (a:Nat) (l:Bs):(yldL a l).length<=l.length+1:=zzc _ a l
def yldH (a:Nat) (r:Bs):List LE:=yldS yldL a r
theorem zu8 (a:Nat) (l:Bs):yldL a l=yldH (a+blk false l) (l.drop (blk false l)):=by
 show yldF (l.length+1) a l=_;unfold yldF yldH;refine zlc _ _ fun b l' hl'=> ?_;rw[List.length_drop]at hl';exact zu9 _ _ _ _ (by omega) (by omega)
theorem z09 {a:Nat} {r:Bs} {k:Nat} {t:Bs} {n:Nat} (hr:r≠[]) (h:zbj r= .ok k t n):yldH a r=⟨k,a,t,0⟩::yldL (a+n) (r.drop n):=by
 cases r with
 |nil=>exact absurd rfl hr
 |cons c r=>simp only[yldH,yldS,h]
theorem zzb {a:Nat} {r:Bs} {n:Nat} (hr:r≠[]) (h:zbj r= .bad n):yldH a r=[⟨0,a+n,[],2⟩]:=by
 cases r with
 |nil=>exact absurd rfl hr
 |cons c r=>simp only[yldH,yldS,h]
def toSR:List LE->SR
 |[]=> .ok []
 |x::r=>if x.err=0 then(toSR r).cons ⟨x.kind,x.at_,x.text⟩else .bad x.at_
theorem zwl (f a:Nat) (l:Bs):zfx f a l=toSR (yldF f a l):=by
 induction f generalizing a l with
 |zero=>rfl
 |succ f ih=>
  rw[zfx,yldF];generalize l.drop (blk false l)=r;cases r with
  |nil=>rfl
  |cons c r=>
   simp only[yldS];cases hp:zbj (c::r)with
   |ok k t n=>simp[toSR,ih]
   |bad n=>simp[toSR]
theorem zn5 (a:Nat) (l:Bs):zd2 a l=toSR (yldL a l):=zwl _ a l
theorem zlr {a:Nat} {l:Bs} (j:Nat) (h:blk false l=j+blk false (l.drop j)):zd2 a l=zd2 (a+j) (l.drop j):=by
 rw[zg8 a l,zg8 (a+j),h,List.drop_drop,Nat.add_assoc]
theorem zzr {a:Nat} {l:Bs} {k:Nat} {t:Bs} {n:Nat} (hl:l≠[]) (h0:blk false l=0) (h:zbj l= .ok k t n):zd2 a l=(zd2 (a+n) (l.drop n)).cons ⟨k,a,t⟩:=by
 rw[zg8,h0,List.drop_zero,Nat.add_zero];cases l with
 |nil=>exact absurd rfl hl
 |cons c r=>simp only[h]
theorem zwk {a:Nat} {l:Bs} {n:Nat} (hl:l≠[]) (h0:blk false l=0) (h:zbj l= .bad n):zd2 a l= .bad (a+n):=by
 rw[zg8,h0,List.drop_zero,Nat.add_zero];cases l with
 |nil=>exact absurd rfl hl
 |cons c r=>simp only[h]
def TR.pr:TR->PR
 | .ok t n=> .ok 3 t (n+1)
 | .bad n=> .bad (n+1)
 | .op=> .bad 0
theorem zl0 {c:UInt8} (r:Bs) (h:c.toNat=34):zbj (c::r)=(strL r).pr:=by
 rw[zbj,if_pos h];cases strL r<;>rfl
open Go.RowKit
theorem zbu {a b:Bool} (h:a=b):Ending.returned (.bool a)= .returned (.bool b):=by rw[h]
theorem zff {k:IntKind} {a b:Int} (h:a=b):Ending.returned (.int k a)= .returned (.int k b):=by rw[h]
def btwB (c l h:Int):Bool:=decide (l<=c)&&decide (c<=h)
theorem zra (c:UInt8):btwB (bits .or .u8 c.toNat 32) 97 122=(upB c||lowB c):=by
 have h: ∀n:Fin 256,btwB (bits .or .u8 ((n.val:Nat):Int) 32) 97 122=(decide (65<=n.val/\n.val<=90)||decide (97<=n.val/\n.val<=122)):=by decide+kernel
 exact h ⟨c.toNat,c.toNat_lt⟩
theorem zc6 (c l h:Int) (w:World):Calls z2f 91 #[.int .u8 c,.int .u8 l,.int .u8 h] w fun e w'=>e= .returned (.bool (btwB c l h))/\w=w':=by
 go_enter Tryz.func91,Tryz.ntmps91;go_wp2
 all_goals go_ret
 all_goals exact⟨zbu (by unfold btwB;simp<;>omega),rfl⟩
theorem zcb (c:UInt8) (w:World):Calls z2f 33 #[.int .u8 c.toNat] w fun e w'=>e= .returned (.bool (spB c))/\w=w':=by
 go_enter Tryz.func33,Tryz.ntmps33;go_wp2_with(go_at_call 91;refine(zc6 _ _ _ _).mono ?_;rintro e w' ⟨rfl,rfl⟩)
 all_goals go_ret
 all_goals exact⟨zbu (by rw[z2l];simp[spB,btwB]at*;try omega),rfl⟩
theorem zh7 (c:UInt8) (w:World):Calls z2f 161 #[.int .u8 c.toNat] w fun e w'=>e= .returned (.bool (upB c||lowB c))/\w=w':=by
 go_enter Tryz.func161,Tryz.ntmps161;go_wp2_with(go_at_call 91;refine(zc6 _ _ _ _).mono ?_;rintro e w' ⟨rfl,rfl⟩)
 all_goals go_ret
 all_goals exact⟨zbu (zra c),rfl⟩
theorem zc1 (c:UInt8) (w:World):Calls z2f 108 #[.int .u8 c.toNat] w fun e w'=>e= .returned (.bool (digB c))/\w=w':=by
 go_enter Tryz.func108,Tryz.ntmps108;go_wp2_with(go_at_call 91;refine(zc6 _ _ _ _).mono ?_;rintro e w' ⟨rfl,rfl⟩)
 all_goals go_ret
 all_goals exact⟨zbu (by rw[z2l];simp[digB,btwB]at*;try omega),rfl⟩
theorem zzf (c:UInt8) (w:World):Calls z2f 205 #[.int .u8 c.toNat] w fun e w'=>e= .returned (.bool (!wchB c))/\w=w':=by
 go_enter Tryz.func205,Tryz.ntmps205;go_wp2_with(first|(go_at_call 91;refine(zc6 _ _ _ _).mono ?_;rintro e w' ⟨rfl,rfl⟩)|(go_at_call 108;refine(zc1 _ _).mono ?_;rintro e w' ⟨rfl,rfl⟩))
 all_goals go_ret
 all_goals exact⟨zbu (by rw[z2l];simp[wchB,digB,lowB,btwB]at*;try omega),rfl⟩
theorem zbt (c:UInt8) (w:World):Calls z2f 74 #[.int .u8 c.toNat] w fun e w'=>e= .returned (.bool (spB c))/\w=w':=by
 go_enter Tryz.func74,Tryz.ntmps74;go_wp2
 all_goals go_ret
 all_goals exact⟨zbu (by rw[z2l];simp[spB]at*;try omega),rfl⟩
theorem zbl (c:UInt8) (w:World):Calls z2f 166 #[.int .u8 c.toNat] w fun e w'=>e= .returned (.bool (digB c))/\w=w':=by
 go_enter Tryz.func166,Tryz.ntmps166;go_wp2
 all_goals go_ret
 all_goals exact⟨zbu (by rw[z2l];simp[digB]at*;try omega),rfl⟩
theorem zel (c:UInt8) (w:World):Calls z2f 252 #[.int .u8 c.toNat] w fun e w'=>e= .returned (.bool (lowB c))/\w=w':=by
 go_enter Tryz.func252,Tryz.ntmps252;go_wp2_with(go_at_call 161;refine(zh7 _ _).mono ?_;rintro e w' ⟨rfl,rfl⟩)
 all_goals go_ret
 all_goals exact⟨zbu (by rw[z2l];simp[upB,lowB]at*;try omega),rfl⟩
theorem zj5 (c:UInt8) (w:World):Calls z2f 208 #[.int .u8 c.toNat] w fun e w'=>e= .returned (.bool (oddB c))/\w=w':=by
 go_enter Tryz.func208,Tryz.ntmps208;go_wp2
 all_goals go_ret
 all_goals exact⟨zbu (by rw[z2l];simp[oddB]at*;try omega),rfl⟩
theorem z0i (c:UInt8) (w:World):Calls z2f 254 #[.int .u8 c.toNat] w fun e w'=>e= .returned (.bool (wchB c))/\w=w':=by
 go_enter Tryz.func254,Tryz.ntmps254;go_wp2_with(first|(go_at_call 252;refine(zel _ _).mono ?_;rintro e w' ⟨rfl,rfl⟩)|(go_at_call 108;refine(zc1 _ _).mono ?_;rintro e w' ⟨rfl,rfl⟩))
 all_goals go_ret
 all_goals exact⟨zbu (by rw[z2l];simp[wchB,digB,lowB]at*;try omega),rfl⟩
theorem zh0 (c:UInt8) (w:World):Calls z2f 217 #[.int .u8 c.toNat] w fun e w'=>e= .returned (.bool (wchB c))/\w=w':=by
 go_enter Tryz.func217,Tryz.ntmps217;go_wp2
 all_goals go_ret
 all_goals exact⟨zbu (by rw[z2l];simp[wchB,digB,lowB]at*;try omega),rfl⟩
def tw (p:UInt8->Bool) (l:Bs):Nat:=(l.takeWhile p).length
theorem zhv (p:UInt8->Bool) (l:Bs):tw p l<=l.length:=zfv p l
theorem za9 (s:ByteArray) (k:Nat) (h:k<s.size):s.data.toList.drop k=s[k]::s.data.toList.drop (k+1):=by
 rw[List.drop_eq_getElem_cons (by simpa using h)];rfl
theorem zbv (s:ByteArray) (k:Nat) (h:s.size<=k):s.data.toList.drop k=[]:=by
 rw[List.drop_eq_nil_iff];simpa using h
theorem zag (s:ByteArray):s.data.toList.length=s.size:=by rw[Array.length_toList];rfl
structure zla (g:Nat) (p:UInt8->Bool):Prop where
 enters: ∀args w,(callFunc g args).run z2f w= .ok (.enter g args) w
 calls: ∀(c:UInt8) (w:World),Calls z2f g #[.int .u8 c.toNat] w fun e w'=>e= .returned (.bool (p c))/\w=w'
theorem zww (s:ByteArray) (g:Nat) (p:UInt8->Bool) (w:World) (hp:zla g p) (hs:1<=s.size) (hm:s.size<=9223372036854775807):
  Calls z2f 253 #[.string s,.func (.func g) #[] #[]] w fun e w'=>e= .returned (.int .i64 (1+tw p (s.data.toList.drop 1):Nat))/\w=w':=by
 obtain⟨eg,hp⟩:=hp;have hp:=z2c hp;go_enter Tryz.func253,Tryz.ntmps253;go_wp2_with fail
 go_loop [5] (fun i=> ∃k:Nat,k<=s.size/\i= .int .i64 k/\Hid (k+tw p (s.data.toList.drop k)=1+tw p (s.data.toList.drop 1))) (fun i=>s.size-(intOf i).toNat)
 case atStart=>exact⟨1,hs,rfl,rfl⟩
 case round=>
  obtain⟨k,hk,rfl,HK⟩:=hrel;by_cases hlt:k<s.size
  ·have HD:=z2c (za9 s k hlt);cases hpc:p s[k]
   ·go_wp2_with((with_reducible refine(hp.out s[k] _).mono ?_);rintro e w' ⟨rfl,rfl⟩)
    go_ret;have:=HK.out;rw[HD.out,tw,List.takeWhile_cons,hpc]at this;exact⟨zff (by simp only[Bool.false_eq_true,if_false,List.length_nil,Nat.add_zero]at this;omega),rfl⟩
   ·go_wp2_with((with_reducible refine(hp.out s[k] _).mono ?_);rintro e w' ⟨rfl,rfl⟩)
    go_round
    case rel=>
     refine⟨k+1,by omega,by go_num, ?_⟩;have:=HK.out;rw[HD.out,tw,List.takeWhile_cons,hpc]at this;show _=_;rw[<-this];simp[tw];omega
    case measure=>simp[intOf];omega
  ·have HE:=z2c (zbv s k (by omega));go_wp2
   go_ret;have:=HK.out;rw[HE.out]at this;exact⟨zff (by simp[tw]at*;omega),rfl⟩
open Go.RowKit Go.Shelf
def idxF (p:UInt8->Bool) (l:Bs):Int:=if tw (fun c=> !p c) l<l.length then(tw (fun c=> !p c) l:Nat)else-1
theorem zdr {p:UInt8->Bool} {c:UInt8} (r:Bs) (h:p c=true):tw p (c::r)=tw p r+1:=by simp[tw,h]
theorem zds {p:UInt8->Bool} {c:UInt8} (r:Bs) (h:p c=false):tw p (c::r)=0:=by simp[tw,h]
theorem tw_any (p:UInt8->Bool) (l:Bs):l.any p=decide (tw (fun c=> !p c) l<l.length):=by
 induction l with
 |nil=>simp[tw]
 |cons c r ih=>
  cases h:p c
  ·rw[z3h,h,ih,zdr r (by simp[h])];simp
  ·rw[zds r (by simp[h])];simp[h]
theorem z0h (p:UInt8->Bool) (l:Bs):decide (0<=idxF p l)=l.any p:=by
 rw[tw_any];unfold idxF;split<;>rename_i h<;>simp[h]
theorem Rd.byte {w:World} {A:Option Addr} {n c:Nat} {l:Bs} (h:Rd w (.slice A n c) l.length 1 (l.map bv)) (k:Nat) (hk:k<l.length):n=l.length/\ ∃b off,A=some ⟨b,off,none⟩/\b<w.heap.size/\w.cell? ⟨b,off+k,none⟩=some (.int .u8 (l[k].toNat:Int)):=by
 obtain⟨_,_,A',c',e,h4⟩:=h;cases e;obtain⟨b,off,rfl,hb,hc⟩:=h4 (by omega);exact⟨rfl,b,off,rfl,hb,hc k (bv l[k]) (by simp[hk])⟩
theorem zfk (v:Value) (l:Bs) (g:Nat) (p:UInt8->Bool) (w:World) (h:Rd w v l.length 1 (l.map bv)) (hp:zla g p):
  Calls z2f 90 #[v,.func (.func g) #[] #[]] w fun e w'=>e= .returned (.int .i64 (idxF p l))/\w=w':=by
 obtain⟨eg,hp⟩:=hp;have hp:=z2c hp;have HR:=z2c h;obtain⟨_,hm,A,c,rfl,_⟩:=h;go_enter Tryz.func90,Tryz.ntmps90;go_wp2_with fail
 go_loop [8] (fun i=> ∃k:Nat,k<=l.length/\i= .int .i64 k/\Hid (tw (fun c=> !p c) l=k+tw (fun c=> !p c) (l.drop k))) (fun i=>l.length-(intOf i).toNat)
 case atStart=>exact⟨0,by omega,rfl,by show _=_;simp⟩
 case round=>
  obtain⟨k,hk,rfl,HK⟩:=hrel;by_cases hlt:k<l.length
  ·obtain⟨_,b,off,rfl,hb,hc⟩:=HR.out.byte k hlt;have HD:Hid (l.drop k=l[k]::l.drop (k+1)):=List.drop_eq_getElem_cons hlt;cases hpc:p l[k]
   ·have HT:Hid (tw (fun c=> !p c) l=k+1+tw (fun c=> !p c) (l.drop (k+1))):=by
     show _=_;rw[HK.out,HD.out,zdr _ (by simp[hpc])];omega
    go_wp2_with((with_reducible refine(hp.out l[k] _).mono ?_);rintro e w' ⟨rfl,rfl⟩;rw[hpc])
    go_round
    case rel=>exact⟨k+1,by omega,by go_num,HT⟩
    case measure=>simp[intOf];omega
   ·have HT:Hid (idxF p l=k):=by
     show _=_;have:=HK.out;rw[HD.out,zds _ (by simp[hpc])]at this;unfold idxF;rw[if_pos (by omega),this];simp
    go_wp2_with((with_reducible refine(hp.out l[k] _).mono ?_);rintro e w' ⟨rfl,rfl⟩;rw[hpc])
    go_ret;exact⟨zff HT.out.symm,rfl⟩
  ·have HT:Hid (idxF p l= -1):=by
    show _=_;have:=HK.out;rw[List.drop_eq_nil_of_le (by omega)]at this;unfold idxF;rw[if_neg];rw[this];simp[tw];omega
   go_wp2
   go_ret;exact⟨zff HT.out.symm,rfl⟩
theorem zio (v:Value) (l:Bs) (g:Nat) (p:UInt8->Bool) (w:World) (h:Rd w v l.length 1 (l.map bv)) (hp:zla g p):
  Calls z2f 206 #[v,.func (.func g) #[] #[]] w fun e w'=>e= .returned (.bool (l.any p))/\w=w':=by
 have HI:=z2c (zfk v l g p w h hp);clear h hp;go_enter Tryz.func206,Tryz.ntmps206;go_wp2_with(go_at_call 90;refine HI.out.mono ?_;rintro e w' ⟨rfl,rfl⟩)
 go_ret;exact⟨zbu (z0h p l),rfl⟩
theorem zvh:zla 205 (fun c=> !wchB c):=⟨enters_of Tryz.func205 (by kernel_rfl) rfl,zzf⟩
theorem zmg (l:Bs):zau l=(decide (0<l.length)&&decide (l.length<=64)&&lowB (l.headD 0)&& !l.any (fun c=> !wchB c)):=by
 cases l with
 |nil=>rfl
 |cons c r=>
  have h:lowB c=true->wchB c=true:=by intro h;simp[wchB,h]
  simp only[zau,List.headD_cons,z3h,List.length_cons];cases hl:lowB c
  ·simp
  ·simp only[h hl];have e:r.all wchB= !r.any (fun c=> !wchB c):=by rw[List.any_eq_not_all_not];simp
   rw[e,show decide (r.length<64)=decide (r.length+1<=64) by rw[decide_eq_decide];omega];simp
theorem zyn (c:UInt8):btwB c.toNat 97 122=lowB c:=by unfold btwB lowB;rw[z2l];simp;omega
@[go_sem] theorem conv_bytes (s:ByteArray) (w:World):(convert 9 135 (.string s)).run z2f w= .ok (.slice (some ⟨w.heap.size,0,none⟩) s.size (grownCap w s.size 0 5)) (w.grow (zcm w 5 s)):=
 zf6 w _ _ _ s Tryz.underlying9 Tryz.underlying135 Tryz.underlying5
theorem zsn (s:ByteArray) (h:0<s.size):s.data.toList.headD 0=s[0]:=by
 have:=za9 s 0 h;rw[List.drop_zero]at this;rw[this];rfl
theorem z0k (s:ByteArray) (h:0<s.size):s.toList.isEmpty=false:=by
 have h2:=zag s;rw[_root_.Go.Lib.toList_data];cases h3:s.data.toList with
 |nil=>rw[h3]at h2;simp at h2;omega
 |cons a b=>rfl
theorem zyd (s:ByteArray) (h: ¬0<s.size):s.toList.isEmpty=true:=by
 have h2:=zag s;rw[_root_.Go.Lib.toList_data];cases h3:s.data.toList with
 |nil=>rfl
 |cons a b=>rw[h3]at h2;simp at h2;omega
theorem zru (s:ByteArray) (w:World) (hm:s.size<=9223372036854775807):Calls z2f 124 #[.string s] w (Ret (.bool (zau s.data.toList)) w):=by
 have HW:=z2c (zmg s.data.toList);by_cases h0:0<s.size
 ·have hne:=z0k s h0;by_cases h64:s.size<=64
  ·have b64:decide ((64:Int)<s.size)=false:=by simp;omega
   have HL:Hid (zau s.data.toList=(lowB s[0]&& !s.data.toList.any (fun c=> !wchB c))):=by
    show _=_;rw[HW.out,zsn s h0,zag,decide_eq_true h0,decide_eq_true h64];simp
   cases hl:lowB s[0]
   ·have HF:Hid (zau s.data.toList=false):=by show _=_;rw[HL.out,hl];rfl
    clear HW HL h64;go_enter Tryz.func124,z6e;go_wp2_with(go_at_call 91;refine(zc6 _ _ _ _).mono ?_;rintro e w' ⟨rfl,rfl⟩;rw[zyn,hl])
    go_ret;exact Ret.of (by rw[HF.out];rfl) bel
   ·cases ha:s.data.toList.any (fun c=> !wchB c);all_goals
     have HF:Hid (zau s.data.toList= !s.data.toList.any (fun c=> !wchB c)):=by show _=_;rw[HL.out,hl];rfl
     rw[ha]at HF;have HA:=z2c ha;clear HW HL h64 ha;have HB:=z2c (fun W=>zag s ▸ zsu W 5 s (grownCap W s.size 0 5) hm);go_enter Tryz.func124,z6e;go_wp2_with(first|(go_at_call 91;refine(zc6 _ _ _ _).mono ?_;rintro e w' ⟨rfl,rfl⟩;rw[zyn,hl])|(go_at_call 206;refine(zio _ _ _ _ _ (HB.out _) zvh).mono ?_;rintro e w' ⟨rfl,rfl⟩;rw[HA.out]))
     go_ret;exact Ret.of (by rw[HF.out];rfl) bel
  ·have b64:decide ((64:Int)<s.size)=true:=by simp;omega
   have HF:Hid (zau s.data.toList=false):=by show _=_;rw[HW.out,zag,decide_eq_false h64];simp
   clear HW h64;go_enter Tryz.func124,z6e;go_wp2
   go_ret;exact Ret.of (by rw[HF.out];rfl) bel
 ·have hne:=zyd s h0;have HF:Hid (zau s.data.toList=false):=by show _=_;rw[HW.out,zag,decide_eq_false h0];simp
  clear HW h0;go_enter Tryz.func124,z6e;go_wp2
  go_ret;exact Ret.of (by rw[HF.out];rfl) bel
theorem ze6 (s:ByteArray) (w:World) (hm:s.size<=9223372036854775807):Calls z2f 152 #[.string s] w fun e w'=>e= .returned (.bool (zau s.data.toList))/\w=w':=by
 have HW:=z2c (zmg s.data.toList);by_cases h0:0<s.size
 ·have b1:decide ((s.size:Int)<1)=false:=by simp;omega
  by_cases h64:s.size<=64
  ·have b64:decide ((64:Int)<s.size)=false:=by simp;omega
   have HL:Hid (zau s.data.toList=(lowB s[0]&& !s.data.toList.any (fun c=> !wchB c))):=by
    show _=_;rw[HW.out,zsn s h0,zag,decide_eq_true h0,decide_eq_true h64];simp
   have HD0:=z2c (za9 s 0 h0);clear HW;go_enter Tryz.func152,Tryz.ntmps152;go_wp2_with fail
   go_loop [3] (fun i=> ∃k:Nat,k<=s.size/\i= .int .i64 k/\Hid ((0<k->lowB s[0]=true)/\s.data.toList.any (fun c=> !wchB c)=(s.data.toList.drop k).any (fun c=> !wchB c))) (fun i=>s.size-(intOf i).toNat)
   case atStart=>exact⟨0,by omega,rfl,by refine⟨fun h=>by omega,by simp⟩⟩
   case round=>
    obtain⟨k,hk,rfl,HK⟩:=hrel;by_cases hlt:k<s.size
    ·have HD:=z2c (za9 s k hlt);have HGo:Hid (wchB s[k]=true->(k=0->lowB s[0]=true)->((0<k+1->lowB s[0]=true)/\s.data.toList.any (fun c=> !wchB c)=(s.data.toList.drop (k+1)).any (fun c=> !wchB c))):=by
      intro h1 h2;refine⟨fun _=> ?_,by rw[HK.out.2,HD.out,z3h,h1];rfl⟩;by_cases hk0:k=0
      ·exact h2 hk0
      ·exact HK.out.1 (by omega)
     have HRet:Hid ((lowB s[k]=false/\k=0)\/wchB s[k]=false->zau s.data.toList=false):=by
      rintro(⟨h1,rfl⟩|h1)
      ·rw[HL.out,h1];rfl
      ·rw[HL.out,HK.out.2,HD.out,z3h,h1];simp
     have HX:Hid (lowB s[k]=true/\decide ((97:Int)<=s[k].toNat)=true/\decide ((s[k].toNat:Int)<=122)=true\/lowB s[k]=false/\(decide ((97:Int)<=s[k].toNat)=true/\decide ((s[k].toNat:Int)<=122)=false\/decide ((97:Int)<=s[k].toNat)=false)):=by
      show _\/_;unfold lowB;simp;omega
     by_cases hk0:k=0
     ·subst hk0;rcases HX.out with⟨h1,b1,b2⟩|⟨h1,h2⟩
      ·have HG:=z2c (HGo.out (by simp[wchB,h1]) (fun _=>h1));clear h1 HX HRet HGo;go_wp2
       go_round
       case rel=>exact⟨1,by omega,rfl,HG.out⟩
       case measure=>simp[intOf];omega
      ·have HG:=z2c (HRet.out (Or.inl ⟨h1,rfl⟩));clear h1 HX HRet HGo;rcases h2 with⟨b1,b2⟩|b1
       all_goals
        go_wp2
        go_ret;exact⟨zbu HG.out.symm,rfl⟩
     ·have kz:((k:Int)==0)=false:=by simp;omega
      rcases HX.out with⟨h1,b1,b2⟩|⟨h1,h2⟩
      ·have HG:=z2c (HGo.out (by simp[wchB,h1]) (fun h=>absurd h hk0));clear h1 HX HRet HGo hk0;go_wp2
       go_round
       case rel=>exact⟨k+1,by omega,by go_num,HG.out⟩
       case measure=>simp[intOf];omega
      ·cases hd:digB s[k]
       ·by_cases h45:s[k].toNat=45
        ·have b45:((s[k].toNat:Int) !=45)=false:=by simp;omega
         have HG:=z2c (HGo.out (by simp[wchB,h45]) (fun h=>absurd h hk0));clear h1 HX HRet HGo hk0 h45;rcases h2 with⟨b1,b2⟩|b1
         all_goals
          go_wp2_with(go_at_call 166;(with_reducible refine(zbl s[k] _).mono ?_);rintro e w' ⟨rfl,rfl⟩;rw[hd])
          go_round
          case rel=>exact⟨k+1,by omega,by go_num,HG.out⟩
          case measure=>simp[intOf];omega
        ·have b45:((s[k].toNat:Int) !=45)=true:=by simp;omega
         have HG:=z2c (HRet.out (Or.inr (by simp[wchB,h1,hd,h45])));clear h1 HX HRet HGo hk0 h45;rcases h2 with⟨b1,b2⟩|b1
         all_goals
          go_wp2_with(go_at_call 166;(with_reducible refine(zbl s[k] _).mono ?_);rintro e w' ⟨rfl,rfl⟩;rw[hd])
          go_ret;exact⟨zbu HG.out.symm,rfl⟩
       ·have HG:=z2c (HGo.out (by simp[wchB,hd]) (fun h=>absurd h hk0));clear h1 HX HRet HGo hk0;rcases h2 with⟨b1,b2⟩|b1
        all_goals
         go_wp2_with(go_at_call 166;(with_reducible refine(zbl s[k] _).mono ?_);rintro e w' ⟨rfl,rfl⟩;rw[hd])
         go_round
         case rel=>exact⟨k+1,by omega,by go_num,HG.out⟩
         case measure=>simp[intOf];omega
    ·have HF:Hid (zau s.data.toList=true):=by
      show _=_;have:=HK.out;rw[zbv s k (by omega)]at this;rw[HL.out,this.1 (by omega),this.2];rfl
     clear HK HL HD0;go_wp2
     go_ret;exact⟨zbu HF.out.symm,rfl⟩
  ·have b64:decide ((64:Int)<s.size)=true:=by simp;omega
   have HF:Hid (zau s.data.toList=false):=by show _=_;rw[HW.out,zag,decide_eq_false h64];simp
   clear HW h64;go_enter Tryz.func152,Tryz.ntmps152;go_wp2
   go_ret;exact⟨zbu HF.out.symm,rfl⟩
 ·have HF:Hid (zau s.data.toList=false):=by show _=_;rw[HW.out,zag,decide_eq_false h0];simp
  have b1:decide ((s.size:Int)<1)=true:=by simp;omega
  clear HW h0;go_enter Tryz.func152,Tryz.ntmps152;go_wp2
  go_ret;exact⟨zbu HF.out.symm,rfl⟩
end Go.Proofs.YtiikamobcmgekaaGreatDoor

