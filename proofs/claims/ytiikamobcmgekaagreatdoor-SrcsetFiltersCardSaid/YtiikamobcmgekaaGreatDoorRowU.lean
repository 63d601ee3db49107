/- The wrap of a row that lists variables, whose walk asks for the world's shape too; the library's tables, read off what is laid. -/
import Derived.ProofKit
import Derived.ChangeSame
import Derived.ChangeAt
import Derived.SizedLaws
import Derived.JoinedCond
import Derived.Lib.LaidU8T
import Derived.MakeChecks
import Derived.Handed
import Derived.LaidSub
import Derived.Lib.TrimUEq
import Derived.Shelf.GgClosure.StringsTrimFunc
import Derived.Test.YtiikamobcmgekaaGreatDoorC3
import Derived.Test.YtiikamobcmgekaaGreatDoorLA
import Derived.Test.YtiikamobcmgekaaGreatDoorShelf
namespace Go.Proofs.YtiikamobcmgekaaGreatDoor
open Bool renaming eq_iff_iff→z2l
open Lib renaming bytesCells→z3k,extract_data→z4j,hid→z2c
open List renaming dropWhile_cons_of_neg→z2s,dropWhile_cons_of_pos→z22,dropWhile_suffix→z3s,drop_eq_getElem_cons→z2m,drop_zero→z2w,eq_nil_of_length_eq_zero→z2u,getElem?_eq_getElem→z2q,length_drop→z2n,length_filter_le→z5z,length_reverse→z3u,length_take→z2r,setIfInBounds_toArray→z2b,set_cons_succ→z2e,set_cons_zero→z2d,takeWhile_cons_of_pos→z3d,take_of_length_le→z2p,take_succ_eq_append_getElem→z29
open Nat renaming le_refl→z2k,le_trans→z2j
open Tryz renaming prog→z2f,underlying135→z3t,underlying5→z3q,underlying9→z3e
set_option maxRecDepth 100000
set_option maxHeartbeats 6400000
def zbc (c:UInt8):Bool:=decide (c.toNat<=32)
def zna (c:UInt8):Bool:=decide (c.toNat=9\/c.toNat=10\/c.toNat=13)
def zho (c:UInt8):Bool:= !zna c
def zs8 (l:Bs):Bs:=((l.dropWhile zbc).reverse.dropWhile zbc).reverse
def zcu (l:Bs):Bs:=(zs8 l).filter zho
def ltrB (c:UInt8):Bool:=lowB c||upB c
def lowC (c:UInt8):UInt8:=if upB c=true then c+32 else c
def zb1 (c:UInt8):Bool:=ltrB c||digB c||decide (c.toNat=43\/c.toNat=45\/c.toNat=46)
def zcg (l:Bs):Option (Bs × Bs):=match l with
 |[]=>none
 |c::r=>if ltrB c=true then match (c::r).dropWhile zb1 with
   |d::q=>if d.toNat=58 then some (((c::r).takeWhile zb1).map lowC,q)else none
   |[]=>none
  else none
def zd1 (c:UInt8):Bool:=decide (c.toNat=47\/c.toNat=92)
def zwh:Bs->Bool
 |a::b::_=>zd1 a&&zd1 b
 |_=>false
def zep (l:Bs):Bool:=(zcg l).isNone&& !zwh l
def zia (p:Pol) (s:Bs):Option Bs:=match zcg (zcu s)with
 |some (n,r)=>if schR p n=true then some (n++58::r)else none
 |none=>if(p.rel&&zep (zcu s))=true then some (zcu s)else none
theorem zuv: ∀c:UInt8,c.toNat=58->zb1 c=false:=by
 intro c h;unfold zb1 ltrB lowB upB digB;simp only[Bool.or_eq_false_iff,decide_eq_false_iff_not];omega
theorem z0n {c:UInt8} (h:c.toNat=58):c=58:=UInt8.toNat_inj.1 h
theorem zte {l n r:Bs} (h:zcg l=some (n,r)): ∃a m:Bs,l=m++58::r/\n=m.map lowC/\(∀c∈m,zb1 c=true)/\m.head? =some (a.headD 0)/\ltrB (a.headD 0)=true:=by
 unfold zcg at h;split at h
 ·cases h
 ·next c q=>
  split at h
  ·next hl=>
   split at h
   ·next d q2 hd=>
    split at h
    ·next h58=>
     cases h;have h1:(c::q).takeWhile zb1++(c::q).dropWhile zb1=c::q:=List.takeWhile_append_dropWhile;rw[hd,z0n h58]at h1;refine⟨[c],(c::q).takeWhile zb1,h1.symm,rfl,fun x hx=>List.all_eq_true.1 (List.all_takeWhile (p:=zb1) (l:=c::q)) x hx, ?_,hl⟩;rw[z3d (by unfold zb1;rw[hl];rfl)];rfl
    ·cases h
   ·cases h
  ·cases h
def refS (pre:Bs):Bs->Option (Bs × Bs)
 |[]=>none
 |c::r=>if c.toNat=58 then some (pre.map lowC,r)else if zb1 c=true then refS (pre++[c]) r else none
theorem zw3: ∀(l pre:Bs),refS pre l=match l.dropWhile zb1 with
  |d::q=>if d.toNat=58 then some ((pre++l.takeWhile zb1).map lowC,q)else none
  |[]=>none
 |[],_=>rfl
 |c::r,pre=>by
  by_cases h58:c.toNat=58
  ·have hg: ¬zb1 c=true:=by rw[zuv c h58];decide
   rw[z2s hg,List.takeWhile_cons_of_neg hg,List.append_nil];show(if c.toNat=58 then _ else _)=if c.toNat=58 then _ else _;rw[if_pos h58,if_pos h58]
  ·by_cases hg:zb1 c=true
   ·rw[z22 hg,z3d hg];show(if c.toNat=58 then _ else if zb1 c=true then refS (pre++[c]) r else none)=_;rw[if_neg h58,if_pos hg,zw3 r (pre++[c]),List.append_assoc];rfl
   ·rw[z2s hg];show(if c.toNat=58 then _ else if zb1 c=true then refS (pre++[c]) r else none)=if c.toNat=58 then _ else _;rw[if_neg h58,if_neg hg,if_neg h58]
theorem zwc (c:UInt8) (r:Bs):zcg (c::r)=if ltrB c=true then refS [] (c::r)else none:=by
 rw[zw3];rfl
open Go.RowKit Go.Shelf
attribute [local go_sem] Oper.semAt_some
def lwB (c:UInt8):UInt8:=if upB c then c+32 else c
def lowL (s:Bs):Bs:=s.map lwB
def letB (c:UInt8):Bool:=upB c||lowB c
theorem lw_low (c:UInt8):lwB c=lowC c:=by unfold lwB lowC;cases upB c<;>rfl
theorem zxt (l:Bs):lowL l=l.map lowC:=by unfold lowL;exact List.map_congr_left fun c _=>lw_low c
theorem zx0 (c:UInt8):letB c=ltrB c:=by unfold letB ltrB;exact Bool.or_comm _ _
theorem zjy (c:UInt8) (w:World):Calls z2f 164 #[.int .u8 c.toNat] w fun e w'=>e= .returned (.bool (letB c))/\w=w':=by
 go_enter Tryz.func164,Tryz.ntmps164;go_wp2
 all_goals go_ret
 all_goals exact⟨zbu (by rw[z2l];simp[letB,upB,lowB]at*;try omega),rfl⟩
def zb2 (W:World) (nb:Nat) (e:TypeId) (l:Bs):Prop:=
 ∃C m,W.heap[nb]? =some (.cells C e (m,m+1))/\l.length<=m/\l.length<=C.size/\ ∀k (h:k<l.length),C[k]? =some (bv l[k])
theorem zb2.cell {W:World} {nb:Nat} {e:TypeId} {l:Bs} (h:zb2 W nb e l) (k:Nat) (hk:k<l.length):W.cell? ⟨nb,k,none⟩=some (.int .u8 (l[k].toNat:Int)):=by
 obtain⟨C,m,h1,_,_,h2⟩:=h;simp[World.cell?,h1,h2 k hk,bv]
theorem zb2.free {W:World} {nb:Nat} {e:TypeId} {l:Bs} (h:zb2 W nb e l) (k:Nat) (hk:k<l.length):W.frozen? ⟨nb,k,none⟩=false:=by
 obtain⟨C,m,h1,h3,_,_⟩:=h;simp[World.frozen?,h1];omega
theorem zb2.lt {W:World} {nb:Nat} {e:TypeId} {l:Bs} (h:zb2 W nb e l):nb<W.heap.size:=by
 obtain⟨C,m,h1,_⟩:=h;exact(Array.getElem?_eq_some_iff.1 h1).1
theorem zb2.set {W:World} {nb:Nat} {e:TypeId} {l:Bs} (h:zb2 W nb e l) (k:Nat) (hk:k<l.length) (c:UInt8):zb2 (W.setCell ⟨nb,k,none⟩ (bv c)) nb e (l.set k c):=by
 have hl:=h.lt;obtain⟨C,m,h1,h2,h3,h4⟩:=h;refine⟨C.setIfInBounds k (bv c),m, ?_,by simpa using h2,by simpa using h3,fun j hj=> ?_⟩
 ·unfold World.setCell;simp only[Array.getElem?_modify,if_true,h1,Option.map_some];rfl
 ·rw[List.length_set]at hj;rw[Array.getElem?_setIfInBounds];by_cases hjk:k=j
  ·subst hjk;simp;omega
  ·rw[if_neg hjk,h4 j hj];simp[hjk]
theorem zb2.new (W:World) (e:TypeId) (s:ByteArray):zb2 (W.grow (zcm W e s)) W.heap.size e s.data.toList:=by
 have hb:(W.grow (zcm W e s)).heap[W.heap.size]? =some (.cells (z3k W e s) e ((z3k W e s).size,(z3k W e s).size+1)):=by
  simp only[World.grow];rw[Array.getElem?_append_right (z2k _),Nat.sub_self];rfl
 have hc: ∀k (h:k<s.data.toList.length),(z3k W e s)[k]? =some (bv s.data.toList[k]):=fun k hk=>by
  have h:=zfl W e s k (by rw[<-zag];exact hk);unfold World.cell? at h;have h3:(z3k W e s)[k]? =some (.int .u8 ((s[k]'(by rw[<-zag];exact hk)).toNat:Int)):=by simpa[hb]using h
  exact h3
 have hsz:s.data.toList.length<=(z3k W e s).size:=by
  rcases Nat.eq_zero_or_pos s.data.toList.length with h0|h0
  ·omega
  ·have:=hc (s.data.toList.length-1) (by omega);have:=(Array.getElem?_eq_some_iff.1 this).1;omega
 exact⟨_,_,hb,hsz,hsz,hc⟩
theorem zb2.rd {W:World} {nb:Nat} {e:TypeId} {l:Bs} (h:zb2 W nb e l) (c:Nat) (hm:l.length<=9223372036854775807):Rd W (.slice (some ⟨nb,0,none⟩) l.length c) l.length 1 (l.map bv):=
 ⟨by simp,hm,_,c,rfl,fun _=>⟨nb,0,rfl,h.lt,fun j u hu=>by
  rw[List.getElem?_map]at hu;obtain⟨hj,_⟩:=List.getElem?_eq_some_iff.1 (show l[j]? =some l[j]!from by
   cases hq:l[j]? with
   |none=>rw[hq]at hu;cases hu
   |some x=>simp[List.getElem!_eq_getElem?_getD,hq])
  rw[z2q hj]at hu;simp at hu;rw[Nat.zero_add,h.cell j hj,<-hu];rfl⟩⟩
theorem z1c (c:UInt8) (h:upB c=true):bits .or .u8 c.toNat 32=((lwB c).toNat:Int):=by
 have h0: ∀n:Fin 256,(65<=n.val/\n.val<=90)->bits .or .u8 ((n.val:Nat):Int) 32=((n.val+32:Nat):Int):=by decide+kernel
 have h1:=h;simp only[upB,decide_eq_true_eq]at h1;have h2:(lwB c).toNat=c.toNat+32:=by
  unfold lwB;rw[if_pos h,UInt8.toNat_add];simp;omega
 rw[h2];exact h0 ⟨c.toNat,c.toNat_lt⟩ h1
theorem btw_up (c:UInt8):btwB c.toNat 65 90=upB c:=by unfold btwB upB;rw[z2l];simp;omega
theorem zsi (S:Bs) (k:Nat) (h:k<S.length):(lowL (S.take k)++S.drop k).set k (lwB S[k])=lowL (S.take (k+1))++S.drop (k+1):=by
 have h1:(lowL (S.take k)).length=k:=by simp[lowL];omega
 rw[List.set_append_right _ _ (by omega),h1,Nat.sub_self,z2m h,z2d,z29 h,lowL,lowL,List.map_append,List.append_assoc];rfl
theorem zsj (S:Bs) (k:Nat) (h:k<S.length) (h2:k<(lowL (S.take k)++S.drop k).length):(lowL (S.take k)++S.drop k)[k]=S[k]:=by
 have h1:(lowL (S.take k)).length=k:=by simp[lowL];omega
 rw[List.getElem_append_right (by omega)];simp[h1]
theorem zxu (S:Bs) (k:Nat):(lowL (S.take k)++S.drop k).length=S.length:=by simp[lowL];omega
theorem zxs (s:ByteArray) (w:World) (hm:s.size<=140737488355328):Calls z2f 162 #[.string s] w (Ret (.string ⟨(lowL s.data.toList).toArray⟩) w):=by
 have hlen:=zag s;have HB:=z2c (fun W=>zb2.new W 5 s);have HL:=z2c hlen;have hcv: ∀W:World,(convert 9 135 (.string s)).run z2f W= .ok (.slice (some ⟨W.heap.size,0,none⟩) s.size (grownCap W s.size 0 5)) (W.grow (zcm W 5 s)):=fun W=>zf6 W _ _ _ s z3e z3t z3q;go_enter Tryz.func162,Tryz.ntmps162;go_wp2_with fail
 go_loopw [10] (fun i wr=> ∃k:Nat,k<=s.size/\i= .int .i64 k/\Hid (Below w.heap.size w wr)/\Hid (zb2 wr w.heap.size 5 (lowL (s.data.toList.take k)++s.data.toList.drop k))) (fun i _=>s.size-(intOf i).toNat)
 case atStart=>exact⟨0,by omega,rfl,zav _ _,by show zb2 _ _ _ _;have:=HB.out w;simpa[lowL]using this⟩
 case round=>
  obtain⟨k,hk,rfl,HW,HK⟩:=hrel;by_cases hlt:k<s.size
  ·have hk2:k<s.data.toList.length:=by rw[HL.out];exact hlt
   have hk3:k<(lowL (s.data.toList.take k)++s.data.toList.drop k).length:=by rw[zxu];exact hk2
   have c0:=HK.out.cell k hk3;rw[zsj _ _ hk2]at c0;have f0:=HK.out.free k hk3;have HS:=z2c (HK.out.set k hk3 (lwB s.data.toList[k]));have HS1:=z2c (zsi s.data.toList k hk2);have HU:=z2c (z1c s.data.toList[k]);have HU0:Hid (upB s.data.toList[k]=false->lwB s.data.toList[k]=s.data.toList[k]):=fun h=>by unfold lwB;rw[h];rfl
   have HX:Hid (lwB s.data.toList[k]=s.data.toList[k]->zb2 wr w.heap.size 5 (lowL (s.data.toList.take (k+1))++s.data.toList.drop (k+1))):=fun h=>by
    rw[<-HS1.out,h];have:=HK.out;rwa[<-zsj _ _ hk2 hk3,List.set_getElem_self]
   have HBt:Hid (∀W,Calls z2f 91 #[.int .u8 s.data.toList[k].toNat,.int .u8 65,.int .u8 90] W fun e w'=>e= .returned (.bool (upB s.data.toList[k]))/\W=w'):=fun W=>btw_up _ ▸ zc6 _ 65 90 W;have hlt1:w.heap.size<wr.heap.size:=HK.out.lt;clear hk3;generalize s.data.toList[k]=c at*;cases hu:upB c
   ·have HN:=z2c (HX.out (HU0.out hu));have HBt2:=z2c (show ∀W,Calls z2f 91 #[.int .u8 c.toNat,.int .u8 65,.int .u8 90] W fun e w'=>e= .returned (.bool false)/\W=w' from hu ▸ HBt.out);clear hu;go_wp2_with(go_at_call 91;(with_reducible refine(HBt2.out _).mono ?_);rintro e w' ⟨rfl,rfl⟩)
    go_roundw
    case rel=>exact⟨k+1,by omega,by go_num,HW,HN⟩
    case measure=>simp[intOf];omega
   ·have hbits:=HU.out hu;have HBt2:=z2c (show ∀W,Calls z2f 91 #[.int .u8 c.toNat,.int .u8 65,.int .u8 90] W fun e w'=>e= .returned (.bool true)/\W=w' from hu ▸ HBt.out);clear hu;go_wp2_with(go_at_call 91;(with_reducible refine(HBt2.out _).mono ?_);rintro e w' ⟨rfl,rfl⟩)
    go_roundw
    case rel=>exact⟨k+1,by omega,by go_num,z2c (HW.out.setCell (by simp) _),by have:=HS.out;rw[HS1.out]at this;exact this⟩
    case measure=>simp[intOf];omega
  ·have hk2:k=s.size:=by omega
   subst hk2;have hend:Rd wr (.slice (some ⟨w.heap.size,0,none⟩) s.size (grownCap w s.size 0 5)) (lowL s.data.toList).length 1 ((lowL s.data.toList).map bv):=by
    have:=HK.out;rw[<-HL.out,List.take_length,List.drop_length,List.append_nil]at this;have h2:=zb2.rd this (grownCap w s.size 0 5) (by simp[lowL];have:=HL.out;simp at this;omega);rw[show(lowL s.data.toList).length=s.size by rw[lowL,List.length_map,HL.out]]at h2 ⊢;exact h2
   have hcv2:=hend.str 135 9 5 z3t z3q z3e;clear hend;go_wp2_with fail
   go_ret;exact Ret.of rfl HW.out
theorem up_add (c:UInt8) (h:upB c=true):((lwB c).toNat:Int)=(c.toNat:Int)+32:=by
 have h1:=h;simp only[upB,decide_eq_true_eq]at h1;unfold lwB;rw[if_pos h,UInt8.toNat_add];simp;omega
theorem lw_id {c:UInt8} (h:upB c=false):lwB c=c:=by unfold lwB;rw[h];rfl
theorem ztp (s:ByteArray) (w:World) (hm:s.size<=140737488355328):Calls z2f 165 #[.string s] w (Ret (.string ⟨(lowL s.data.toList).toArray⟩) w):=by
 have hlen:=zag s;have HB:=z2c (fun W=>zb2.new W 5 s);have HL:=z2c hlen;have hcv: ∀W:World,(convert 9 135 (.string s)).run z2f W= .ok (.slice (some ⟨W.heap.size,0,none⟩) s.size (grownCap W s.size 0 5)) (W.grow (zcm W 5 s)):=fun W=>zf6 W _ _ _ s z3e z3t z3q;go_enter Tryz.func165,Tryz.ntmps165;go_wp2_with fail
 go_loopw [4] (fun i wr=> ∃k:Nat,k<=s.size/\i= .int .i64 k/\Hid (Below w.heap.size w wr)/\Hid (zb2 wr w.heap.size 5 (lowL (s.data.toList.take k)++s.data.toList.drop k))) (fun i _=>s.size-(intOf i).toNat)
 case atStart=>exact⟨0,by omega,rfl,zav _ _,by show zb2 _ _ _ _;have:=HB.out w;simpa[lowL]using this⟩
 case round=>
  obtain⟨k,hk,rfl,HW,HK⟩:=hrel;by_cases hlt:k<s.size
  ·have hk2:k<s.data.toList.length:=by rw[HL.out];exact hlt
   have hk3:k<(lowL (s.data.toList.take k)++s.data.toList.drop k).length:=by rw[zxu];exact hk2
   have c0:=HK.out.cell k hk3;rw[zsj _ _ hk2]at c0;have f0:=HK.out.free k hk3;have HS:=z2c (HK.out.set k hk3 (lwB s.data.toList[k]));have HS1:=z2c (zsi s.data.toList k hk2);have HU:=z2c (up_add s.data.toList[k]);have HX:Hid (lwB s.data.toList[k]=s.data.toList[k]->zb2 wr w.heap.size 5 (lowL (s.data.toList.take (k+1))++s.data.toList.drop (k+1))):=fun h=>by
    rw[<-HS1.out,h];have:=HK.out;rwa[<-zsj _ _ hk2 hk3,List.set_getElem_self]
   have hlt1:w.heap.size<wr.heap.size:=HK.out.lt;clear hk3;generalize s.data.toList[k]=c at*;have hc:=c.toNat_lt;cases hu:upB c
   ·have HN:=z2c (HX.out (lw_id hu));simp only[upB,decide_eq_false_iff_not]at hu;by_cases h65:65<=c.toNat
    ·have b1:decide ((65:Int)<=c.toNat)=true:=by simp;omega
     have b2:decide ((c.toNat:Int)<=90)=false:=by simp;omega
     clear hu h65;go_wp2_with fail
     go_roundw
     case rel=>exact⟨k+1,by omega,by go_num,HW,HN⟩
     case measure=>simp[intOf];omega
    ·have b1:decide ((65:Int)<=c.toNat)=false:=by simp;omega
     clear hu h65;go_wp2_with fail
     go_roundw
     case rel=>exact⟨k+1,by omega,by go_num,HW,HN⟩
     case measure=>simp[intOf];omega
   ·have hadd:=HU.out hu;simp only[upB,decide_eq_true_eq]at hu;have b1:decide ((65:Int)<=c.toNat)=true:=by simp;omega
    have b2:decide ((c.toNat:Int)<=90)=true:=by simp;omega
    have hw1:IntKind.u8.wrap ((c.toNat:Int)+32)=(c.toNat:Int)+32:=IntWalk.u8_in _ (by omega);unfold bv at HS;rw[hadd]at HS;go_wp2_with fail
    go_roundw
    case rel=>exact⟨k+1,by omega,by go_num,z2c (HW.out.setCell (by simp) _),by have:=HS.out;rw[HS1.out]at this;exact this⟩
    case measure=>simp[intOf];omega
  ·have hk2:k=s.size:=by omega
   subst hk2;have hend:Rd wr (.slice (some ⟨w.heap.size,0,none⟩) s.size (grownCap w s.size 0 5)) (lowL s.data.toList).length 1 ((lowL s.data.toList).map bv):=by
    have:=HK.out;rw[<-HL.out,List.take_length,List.drop_length,List.append_nil]at this;have h2:=zb2.rd this (grownCap w s.size 0 5) (by simp[lowL];have:=HL.out;simp at this;omega);rw[show(lowL s.data.toList).length=s.size by rw[lowL,List.length_map,HL.out]]at h2 ⊢;exact h2
   have hcv2:=hend.str 135 9 5 z3t z3q z3e;clear hend;go_wp2_with fail
   go_ret;exact Ret.of rfl HW.out
open Go.Lib
def zcj (r:Nat):Bool:=decide (r<=32)
theorem zr7 (n b0 b1 b2 b3:Nat) (h:128<=b0):33<=(decodeN n b0 b1 b2 b3).1:=by
 unfold decodeN;repeat' split
 all_goals(simp only;omega)
theorem znh {c:UInt8} (h: ¬c.toNat<128):zbc c=false:=by unfold zbc;rw[decide_eq_false_iff_not];omega
theorem zpn {r:Nat} (h:33<=r):zcj r=false:=by unfold zcj;rw[decide_eq_false_iff_not];omega
theorem zpl (s:ByteArray) (pos:Nat):zcj (Utf8.decode s pos).1=zbc (s.data.toList.getD pos 0)/\(zbc (s.data.toList.getD pos 0)=true->(Utf8.decode s pos).2=1):=by
 rw[decode_N];by_cases h:(s.data.toList.getD pos 0).toNat<128
 ·rw[decodeN_ascii _ _ _ _ _ h];exact⟨rfl,fun _=>rfl⟩
 ·rw[znh h,zpn (zr7 _ _ _ _ _ (by omega))];exact⟨rfl,fun h=>by cases h⟩
theorem zx8 {l:Bs} {i:Nat} (h:i<l.length):l.drop i=l.getD i 0::l.drop (i+1):=by
 rw[z2m h];congr 1;simp[List.getD,h]
theorem zl3 (s:ByteArray): ∀(f pos:Nat),s.size<=pos+f->
  (if idxFuncFrom zcj false s f pos= -1 then []else s.data.toList.drop (idxFuncFrom zcj false s f pos).toNat)=(s.data.toList.drop pos).dropWhile zbc
 |0,pos,h=>by
  have:s.data.toList.drop pos=[]:=List.drop_eq_nil_of_le (by rw[<-size_eq];omega);simp[idxFuncFrom,this]
 |f+1,pos,h=>by
  by_cases hp:pos<s.size
  ·obtain⟨h1,h2⟩:=zpl s pos;have hd:s.data.toList.drop pos=s.data.toList.getD pos 0::s.data.toList.drop (pos+1):=zx8 (by rw[<-size_eq];exact hp);cases hb:zbc (s.data.toList.getD pos 0)with
   |true=>
    simp only[idxFuncFrom,if_pos hp,h1,hb,Bool.true_eq_false,if_false,h2 hb];rw[hd,z22 (p:=zbc) (a:=s.data.toList.getD pos 0) hb];exact zl3 s f _ (by omega)
   |false=>
    simp only[idxFuncFrom,if_pos hp,h1,hb,if_true];rw[if_neg (by omega),Int.toNat_natCast,hd,z2s (p:=zbc) (a:=s.data.toList.getD pos 0) (by rw[hb];decide)]
  ·have:s.data.toList.drop pos=[]:=List.drop_eq_nil_of_le (by rw[<-size_eq];omega);rw[this,idxFuncFrom_end _ _ s _ _ hp,if_pos rfl];rfl
theorem zvz (s:ByteArray):(trimLeftF zcj s).data.toList=s.data.toList.dropWhile zbc:=by
 have h:=zl3 s s.size 0 (by omega);rw[z2w]at h;rw[<-h];unfold trimLeftF idxFunc;split
 ·rfl
 ·rw[extract_data,z2p (by rw[z2n,<-size_eq];exact z2k _)]
theorem zt7 (l:Bs) (i:Nat) (hi:0<i) (hil:i<=l.length):zcj (decodeLastL (l.take i)).1=zbc (l.getD (i-1) 0)/\(zbc (l.getD (i-1) 0)=true->(decodeLastL (l.take i)).2=1):=by
 rcases last_cases l i hi hil with⟨ha,hd⟩|⟨ha,hd⟩|⟨ha,st,hst,hd,hsum⟩
 ·rw[hd];exact⟨rfl,fun _=>rfl⟩
 ·rw[hd,znh (by omega)];exact⟨rfl,fun h=>by cases h⟩
 ·rw[hd,znh (by omega)];refine⟨?_,fun h=>by cases h⟩;rw[decodeL_N,getD_dropU,Nat.add_zero,getD_takeU l i st hst]at hsum ⊢;by_cases hb:(l.getD st 0).toNat<128
  ·rw[decodeN_ascii _ _ _ _ _ hb]at hsum;have:st=i-1:=by simp only at hsum;omega
   rw[this]at hb;omega
  ·exact zpn (zr7 _ _ _ _ _ (by omega))
theorem zv2 {l:Bs} {i:Nat} (hi:0<i) (hil:i<=l.length):l.take i=l.take (i-1)++[l.getD (i-1) 0]:=by
 obtain⟨j,rfl⟩: ∃j,i=j+1:=⟨i-1,by omega⟩;rw[Nat.add_sub_cancel,List.take_add_one];congr 1;simp[List.getD,show j<l.length by omega]
theorem zj0 (s:ByteArray): ∀(f i:Nat),i<=f->i<=s.data.toList.length->OpenAt s.data.toList i->
  ((s.data.toList.take i).reverse.dropWhile zbc).reverse=s.data.toList.take (if 0<=lastIdxFuncFrom zcj false s f i then(lastIdxFuncFrom zcj false s f i).toNat+(decodeL (s.data.toList.drop (lastIdxFuncFrom zcj false s f i).toNat)).2 else 0)
 |0,i,hf,_,_=>by
  obtain rfl:i=0:=by omega
  simp[lastIdxFuncFrom]
 |f+1,i,hf,hil,ho=>by
  by_cases hi:0<i
  ·have hlen:(s.data.toList.take i).length=i:=by rw[z2r];omega
   have hw:=decodeLastL_width (s.data.toList.take i) (by omega);rw[hlen]at hw;obtain⟨h1,h2⟩:=zt7 s.data.toList i hi hil;have hrev:(s.data.toList.take i).reverse=s.data.toList.getD (i-1) 0::(s.data.toList.take (i-1)).reverse:=by rw[zv2 hi hil,List.reverse_append];rfl
   cases hb:zbc (s.data.toList.getD (i-1) 0)with
   |true=>
    simp only[lastIdxFuncFrom,if_pos hi,h1,hb,Bool.true_eq_false,if_false,h2 hb];rw[hrev,z22 (p:=zbc) (a:=s.data.toList.getD (i-1) 0) hb];refine zj0 s f _ (by omega) (by omega) (.inr fun hc=> ?_);unfold zbc at hb;rw[decide_eq_true_eq]at hb;omega
   |false=>
    simp only[lastIdxFuncFrom,if_pos hi,h1,hb,if_true];rw[if_pos (by omega),Int.toNat_natCast,fw_width _ i hi hil ho,Nat.sub_add_cancel hw.2,hrev,z2s (p:=zbc) (a:=s.data.toList.getD (i-1) 0) (by rw[hb];decide),<-hrev,List.reverse_reverse]
  ·obtain rfl:i=0:=by omega
   rw[lastIdxFuncFrom_zero];simp
theorem zx1 (s:ByteArray): ∀(f i:Nat),i<=s.size->lastIdxFuncFrom zcj false s f i= -1\/(0<=lastIdxFuncFrom zcj false s f i/\lastIdxFuncFrom zcj false s f i<i)
 |0,_,_=> .inl rfl
 |f+1,i,hi=>by
  unfold lastIdxFuncFrom;split
  ·rename_i h0;have hw:=decodeLastL_width (s.data.toList.take i) (by rw[z2r,<-size_eq];omega);rw[z2r,<-size_eq,Nat.min_eq_left hi]at hw;split
   ·exact .inr ⟨by omega,by omega⟩
   ·rcases zx1 s f (i-(decodeLastL (s.data.toList.take i)).2) (by omega)with h|h
    ·exact .inl h
    ·exact .inr ⟨h.1,by omega⟩
  ·exact .inl rfl
theorem zs6 (s:ByteArray):(trimRightF zcj s).data.toList=(s.data.toList.reverse.dropWhile zbc).reverse:=by
 have h:=zj0 s s.size s.size (z2k _) (by rw[<-size_eq];exact z2k _) (.inl (size_eq s));rw[z2p (by rw[<-size_eq];exact z2k _)]at h;rw[h];unfold trimRightF rightEndF lastIdxFunc;rw[extract_data,z2w,Nat.sub_zero];congr 1;split
 ·rename_i h0;congr 2;rcases zx1 s s.size s.size (z2k _)with hm|hlt
  ·omega
  ·have hx:s.extract (lastIdxFuncFrom zcj false s s.size s.size).toNat s.size=⟨(s.data.toList.drop (lastIdxFuncFrom zcj false s s.size s.size).toNat).toArray⟩:=by
    rw[extract_eq,z2p (by rw[z2n,<-size_eq];exact z2k _)]
   have hxs:(⟨(s.data.toList.drop (lastIdxFuncFrom zcj false s s.size s.size).toNat).toArray⟩:ByteArray).size≠0:=by
    rw[size_eq];simp only[z2n];rw[<-size_eq];omega
   rw[hx];unfold decodeGoB decodeL;rw[if_neg hxs]
 ·rfl
theorem zs7 (s:ByteArray):(trimF zcj s).data.toList=zs8 s.data.toList:=by
 unfold trimF zs8;rw[zs6,zvz]
open Go.RowKit
attribute [local go_sem] Oper.semAt_some
theorem zl7 (c:UInt8) (w:World):Calls z2f 160 #[.int .u8 c.toNat] w fun e w'=>e= .returned (.bool (zb1 c))/\w=w':=by
 have e1:((c.toNat:Int)==43)=decide (c.toNat=43):=by rw[z2l];simp;omega
 have e2:((c.toNat:Int)==45)=decide (c.toNat=45):=by rw[z2l];simp;omega
 have e3:((c.toNat:Int)==46)=decide (c.toNat=46):=by rw[z2l];simp;omega
 have HE:Hid (zb1 c=((upB c||lowB c)||digB c||(decide (c.toNat=43)||(decide (c.toNat=45)||decide (c.toNat=46))))):=by
  show _=_;unfold zb1 ltrB;rw[Bool.or_comm (lowB c)];congr 1;rw[z2l];simp
 have HL:=z2c (fun W=>zh7 c W);have HD:=z2c (fun W=>zc1 c W);generalize zb1 c=G at*;generalize(upB c||lowB c)=L at*;generalize digB c=D at*;generalize decide (c.toNat=43)=b1 at*;generalize decide (c.toNat=45)=b2 at*;generalize decide (c.toNat=46)=b3 at*;cases L;rotate_left
 ·go_enter Tryz.func160,Tryz.ntmps160;go_wp2_with(first|(go_at_call 161;(with_reducible refine(HL.out _).mono ?_);rintro e w' ⟨rfl,rfl⟩)|(go_at_call 108;(with_reducible refine(HD.out _).mono ?_);rintro e w' ⟨rfl,rfl⟩))
  go_ret;exact⟨by rw[HE.out];rfl,rfl⟩
 cases D;rotate_left
 ·go_enter Tryz.func160,Tryz.ntmps160;go_wp2_with(first|(go_at_call 161;(with_reducible refine(HL.out _).mono ?_);rintro e w' ⟨rfl,rfl⟩)|(go_at_call 108;(with_reducible refine(HD.out _).mono ?_);rintro e w' ⟨rfl,rfl⟩))
  go_ret;exact⟨by rw[HE.out];rfl,rfl⟩
 cases b1<;>cases b2;all_goals
  go_enter Tryz.func160,Tryz.ntmps160;go_wp2_with(first|(go_at_call 161;(with_reducible refine(HL.out _).mono ?_);rintro e w' ⟨rfl,rfl⟩)|(go_at_call 108;(with_reducible refine(HD.out _).mono ?_);rintro e w' ⟨rfl,rfl⟩))
  go_ret;exact⟨by rw[HE.out];rfl,rfl⟩
theorem z0a {c:UInt8} (h:ltrB c=true):zb1 c=true:=by unfold zb1;rw[h];rfl
theorem zlj (p:UInt8->Bool) (l:Bs):l.dropWhile p=l.drop (l.takeWhile p).length/\l.takeWhile p=l.take (l.takeWhile p).length:=by
 have h:=List.takeWhile_append_dropWhile (p:=p) (l:=l);constructor
 ·conv=>rhs;arg 2;rw[<-h]
  rw[List.drop_left]
 ·conv=>rhs;arg 2;rw[<-h]
  rw[List.take_left]
theorem zny (l:Bs) (h:(l.takeWhile zb1).length=0\/(l.takeWhile zb1).length=l.length):zcg l=none:=by
 unfold zcg;cases l with
 |nil=>rfl
 |cons c r=>
  by_cases hl:ltrB c=true
  ·simp only[hl,if_true];have hd:=(zlj zb1 (c::r)).1;rcases h with h|h
   ·rw[z3d (z0a hl)]at h;simp at h
   ·rw[h,List.drop_length]at hd;rw[hd]
  ·simp only[hl];rfl
theorem znx (l:Bs) (K:Nat) (hK:(l.takeWhile zb1).length=K) (h:K<l.length) (h0:0<K):zcg l=if(l[K].toNat=58/\ltrB (l[0]'(by omega))=true)then some ((l.take K).map lowC,l.drop (K+1))else none:=by
 unfold zcg;cases l with
 |nil=>simp at h
 |cons c r=>
  obtain⟨hd,ht⟩:=zlj zb1 (c::r);rw[hK]at hd ht;rw[z2m h]at hd;by_cases hl:ltrB c=true
  ·simp only[hl,if_true,hd];by_cases h58:(c::r)[K].toNat=58
   ·rw[if_pos h58,if_pos ⟨h58,by simpa using hl⟩,ht]
   ·rw[if_neg h58,if_neg (fun h=>h58 h.1)]
  ·dsimp only;rw[if_neg hl,if_neg (fun h=>hl h.2)]
def zlo (s:ByteArray):Option (Bs × Bs)->Value
 |none=> .tuple #[.string ⟨#[]⟩,.string s,.bool false]
 |some x=> .tuple #[.string ⟨x.1.toArray⟩,.string ⟨x.2.toArray⟩,.bool true]
theorem zvx {p:UInt8->Bool} {c:UInt8} {r:Bs} (h:p c=false):((c::r).takeWhile p).length=0:=by rw[List.takeWhile_cons_of_neg (by simp[h])];rfl
theorem zvy {p:UInt8->Bool} {c:UInt8} {r:Bs} (h:p c=true):((c::r).takeWhile p).length=(r.takeWhile p).length+1:=by rw[z3d h];rfl
theorem zjo (s:ByteArray) (w:World) (hm:s.size<=140737488355328):Calls z2f 70 #[.string s] w (Ret (zlo s (zcg s.data.toList)) w):=by
 have hmx:=mxd;obtain⟨K,hK⟩: ∃K,(s.data.toList.takeWhile zb1).length=K:=⟨_,rfl⟩;have HK0:Hid (K=0+((s.data.toList.drop 0).takeWhile zb1).length):=by show _=_;rw[z2w,hK];omega
 have hlen:s.data.toList.length=s.size:=zag s;have hKs:K<=s.size:=by rw[<-hK,<-hlen];exact(List.takeWhile_prefix _).length_le
 have HN:=z2c (zny s.data.toList);have HS:=z2c (znx s.data.toList K hK);obtain⟨R,hR⟩: ∃R,zcg s.data.toList=R:=⟨_,rfl⟩;rw[hR]at HN HS ⊢;rw[hK]at HN;have HLn:=z2c hlen;clear hK hR hlen;go_enter Tryz.func70,Tryz.ntmps70;go_wp2_with fail
 go_loopw [5] (fun i wr=> ∃k:Nat,k<=s.size/\i= .int .i64 (k:Nat)/\Hid (K=k+((s.data.toList.drop k).takeWhile zb1).length)/\wr=w) (fun i _=>s.size-(intOf i).toNat)
 case atStart=>exact⟨0,by omega,rfl,HK0.out,rfl⟩
 case round=>
  clear HK0;obtain⟨k,hk,rfl,HK,rfl⟩:=hrel;by_cases hgo: ∃h:k<s.size,zb1 s[k]=true
  ·obtain⟨hlt,hg⟩:=hgo;have HT:Hid (K=k+1+((s.data.toList.drop (k+1)).takeWhile zb1).length):=by
    show _=_;rw[HK.out,za9 s k hlt,zvy hg];omega
   have HG:=z2c (fun W=>hg ▸ zl7 s[k] W);clear HK hg HN HS;go_wp2_with(go_at_call 160;(with_reducible refine(HG.out _).mono ?_);rintro e w' ⟨rfl,rfl⟩)
   go_roundw
   case rel=>exact⟨k+1,by omega,by go_num,HT.out,by first|rfl|trivial⟩
   case measure=>simp[intOf];omega
  ·have hkK:k=K:=by
    have h1:=HK.out;by_cases hlt:k<s.size
    ·have hg:zb1 s[k]=false:=by
      cases hq:zb1 s[k]
      ·rfl
      ·exact absurd ⟨hlt,hq⟩ hgo
     rw[za9 s k hlt,zvx hg]at h1;omega
    ·rw[zbv s k (by omega)]at h1;simp at h1;omega
   subst hkK;clear HK;by_cases hlt:k<s.size
   ·have hg:zb1 s[k]=false:=by
     cases hq:zb1 s[k]
     ·rfl
     ·exact absurd ⟨hlt,hq⟩ hgo
    have HG:=z2c (fun W=>hg ▸ zl7 s[k] W);clear hgo hg;have hkl:k<s.data.toList.length:=by rw[HLn.out];exact hlt
    by_cases h0:k=0
    ·have HR:Hid (R=none):=HN.out (.inl h0);have b0:((k:Int)==0)=true:=by rw[h0];rfl
     clear HN HS h0;go_wp2_with(go_at_call 160;(with_reducible refine(HG.out _).mono ?_);rintro e w' ⟨rfl,rfl⟩)
     go_ret3
     exact Ret.of (by rw[HR.out];rfl) bel
    ·have HSx:=z2c (HS.out hkl (by omega));have b0:((k:Int)==0)=false:=by simp;omega
     have b1:((k:Int)==(s.size:Int))=false:=by simp;omega
     have hz:0<s.size:=by omega
     have e58:((s[k].toNat:Int) !=58)= !decide (s[k].toNat=58):=by rw[z2l];simp;omega
     have HLt:=z2c (fun W=>zh7 (s[0]'hz) W);have hsk:s.data.toList[k]=s[k]:=rfl;have hs0:s.data.toList[0]'(by omega)=s[0]'hz:=rfl;have HSy:Hid (R=if(s[k].toNat=58/\(upB (s[0]'hz)||lowB (s[0]'hz))=true)then some ((s.data.toList.take k).map lowC,s.data.toList.drop (k+1))else none):=by
      show _=_;rw[HSx.out,hsk,hs0];unfold ltrB;rw[Bool.or_comm]
     clear HN HS HSx hsk hs0;by_cases h58:s[k].toNat=58;rotate_left
     ·have HR:Hid (R=none):=by show _=_;rw[HSy.out,if_neg (fun h=>h58 h.1)]
      rw[decide_eq_false h58]at e58;clear HSy h58 h0;go_wp2_with(go_at_call 160;(with_reducible refine(HG.out _).mono ?_);rintro e w' ⟨rfl,rfl⟩)
      go_ret3
      exact Ret.of (by rw[HR.out];rfl) bel
     rw[decide_eq_true h58]at e58;cases hl:(upB (s[0]'hz)||lowB (s[0]'hz))with
     |false=>
      have HR:Hid (R=none):=by show _=_;rw[HSy.out,hl,if_neg (fun h=>by cases h.2)]
      rw[hl]at HLt;clear HSy h58 h0 hl;go_wp2_with(first|(go_at_call 160;(with_reducible refine(HG.out _).mono ?_);rintro e w' ⟨rfl,rfl⟩)|(go_at_call 161;(with_reducible refine(HLt.out _).mono ?_);rintro e w' ⟨rfl,rfl⟩))
      go_ret3
      exact Ret.of (by rw[HR.out];rfl) bel
     |true=>
      have HR:Hid (R=some ((s.data.toList.take k).map lowC,s.data.toList.drop (k+1))):=by show _=_;rw[HSy.out,hl,if_pos ⟨h58,rfl⟩]
      rw[hl]at HLt;have HLo:=z2c (fun W=>zxs (s.extract 0 k) W (by rw[ByteArray.size_extract];omega));have HV:Hid (Value.tuple #[.string ⟨(lowL (s.extract 0 k).data.toList).toArray⟩,.string (s.extract (k+1) s.size),.bool true]=zlo s (some ((s.data.toList.take k).map lowC,s.data.toList.drop (k+1)))):=by
       show _=_;have h1:(s.extract 0 k).data.toList=s.data.toList.take k:=by rw[z4j];simp
       have h2:s.extract (k+1) s.size=⟨(s.data.toList.drop (k+1)).toArray⟩:=zgq (by rw[z4j,z2p (by rw[z2n,HLn.out];omega)]);rw[h1,h2,zxt];rfl
      have hw1:IntKind.i64.wrap ((k:Int)+1)=((k+1:Nat):Int):=by rw[IntKind.wrap_i64];omega
      clear HSy h58 h0 hl;go_upto_region 6 with(first|(go_at_call 160;(with_reducible refine(HG.out _).mono ?_);rintro e w' ⟨rfl,rfl⟩)|(go_at_call 161;(with_reducible refine(HLt.out _).mono ?_);rintro e w' ⟨rfl,rfl⟩))
      refine zak 9 [(0,true),(1,true),(2,true),(4,true),(5,true),(6,true),(7,true),(3,false),(8,true)] (fun _=>True) hmx (by kernel_rfl) (by kernel_rfl) (by kernel_rfl) (by decide) rfl (fun c a d v w h=>by first|exact h|(obtain⟨x,y⟩:=(h:_/\_);cases d<;>exact⟨x,y⟩)) (by kernel_rfl) trivial ?_;refine zal (v:= .string s) 39 rfl rfl rfl (fun W hW=>by simp[execOp,go_sem]) ?_;simp only[Act.put,z2b,z2e,z2d];refine zal (v:= .int .i64 (k:Nat)) 40 rfl rfl rfl (fun W hW=>by simp[execOp,go_sem]) ?_;simp only[Act.put,z2b,z2e,z2d];refine zal (v:= .string (s.extract 0 k)) 41 rfl rfl rfl (fun W hW=>by simp[execOp,go_sem];omega) ?_;simp only[Act.put,z2b,z2e,z2d];refine zal (v:= .string s) 43 rfl rfl rfl (fun W hW=>by simp[execOp,go_sem]) ?_;simp only[Act.put,z2b,z2e,z2d];refine zal (v:= .int .i64 (k:Nat)) 44 rfl rfl rfl (fun W hW=>by simp[execOp,go_sem]) ?_;simp only[Act.put,z2b,z2e,z2d];refine zal (v:= .int .i64 ((k+1:Nat):Int)) 45 rfl rfl rfl (fun W hW=>by simp[execOp,go_sem,hw1]) ?_;simp only[Act.put,z2b,z2e,z2d];refine zal (v:= .string (s.extract (k+1) s.size)) 46 rfl rfl rfl (fun W hW=>by simp[execOp,go_sem];omega) ?_;simp only[Act.put,z2b,z2e,z2d];refine zai rfl rfl fun Kc hKc=> ?_;unfold Oper.wp;simp[execOp,go_sem];refine(HLo.out _).mono ?_;rintro e W1 ⟨rfl,X1,rfl⟩;show Kc _ _;apply hKc;refine⟨trivial, ?_⟩;refine zal (v:= .string ⟨(lowL (s.extract 0 k).data.toList).toArray⟩) 2 rfl rfl rfl (fun W hW=>by simp[execOp,go_sem]) ?_;simp only[Act.put,z2b,z2e,z2d];simp only[zbq,List.drop];go_wp2_with fail
      go_ret3
      exact Ret.of (by rw[HR.out];exact HV.out) bel
   ·have hkn:k=s.size:=by omega
    have HR:Hid (R=none):=HN.out (.inr (by rw[HLn.out];exact hkn));have b1:((k:Int)==(s.size:Int))=true:=by rw[hkn];simp
    have b2:decide ((k:Int)<s.size)=false:=by simp;omega
    clear HN HS hgo hkn;by_cases h0:k=0
    ·have b0:((k:Int)==0)=true:=by rw[h0];rfl
     clear h0;go_wp2_with fail
     go_ret3
     exact Ret.of (by rw[HR.out];rfl) bel
    ·have b0:((k:Int)==0)=false:=by simp;omega
     clear h0;go_wp2_with fail
     go_ret3
     exact Ret.of (by rw[HR.out];rfl) bel
open Go.RowKit
attribute [local go_sem] Oper.semAt_some
def zb4 (s:ByteArray) (k:Nat):Bool:=match s.data.toList[k]? with
 |some c=>zd1 c
 |none=>false
theorem znw (s:ByteArray) (B k:Nat) (w:World) (hc:w.cell? ⟨B,0,none⟩=some (.string s)) (_hB:B<w.heap.size) (_hk:k<=1) (_hm:s.size<=140737488355328):Calls z2f 163 #[.int .i64 (k:Nat),.pointer (some ⟨B,0,none⟩)] w (Ret (.bool (zb4 s k)) w):=by
 have hmx:=mxd;unfold zb4;by_cases hlt:k<s.size
 ·have hg:s.data.toList[k]? =some (s[k]'hlt):=z2q (by rw[zag];exact hlt);rw[hg];have e1:((s[k].toNat:Int)==47)=decide (s[k].toNat=47):=by rw[z2l];simp;omega
  have e2:((s[k].toNat:Int)==92)=decide (s[k].toNat=92):=by rw[z2l];simp;omega
  have HE:Hid (zd1 s[k]=(decide (s[k].toNat=47)||decide (s[k].toNat=92))):=by show _=_;unfold zd1;rw[z2l];simp
  dsimp only;rw[HE.out];clear HE hg;generalize decide (s[k].toNat=47)=b1 at*;generalize decide (s[k].toNat=92)=b2 at*;have hb1:decide ((k:Int)<s.size)=true:=by simp;omega
  cases b1;all_goals
   go_enter Tryz.func163,Tryz.ntmps163;go_wp2_with fail
   go_ret;exact Ret.of rfl bel
 ·have hg:s.data.toList[k]? =none:=List.getElem?_eq_none (by rw[zag];omega);rw[hg];have hb1:decide ((k:Int)<s.size)=false:=by simp;omega
  go_enter Tryz.func163,Tryz.ntmps163;go_wp2_with fail
  go_ret;exact Ret.of rfl bel
theorem zr6 (s:ByteArray):zwh s.data.toList=(zb4 s 0&&zb4 s 1):=by
 unfold zwh zb4;match s.data.toList with
 |[]=>rfl
 |[a]=>simp
 |a::b::r=>rfl
theorem zq6 (s:ByteArray) (w:World) (hm:s.size<=140737488355328):Calls z2f 73 #[.string s] w (Ret (.bool (zep s.data.toList)) w):=by
 have hmx:=mxd;have HSp:=z2c (fun W=>zjo s W hm);have HSt:=z2c (fun B W k hc hB hk=>znw s B k W hc hB hk hm);have HE:Hid (zep s.data.toList=((zcg s.data.toList).isNone&& !(zb4 s 0&&zb4 s 1))):=by show _=_;unfold zep;rw[zr6]
 rw[HE.out];clear HE hm;obtain⟨R,hR⟩: ∃R,zcg s.data.toList=R:=⟨_,rfl⟩;rw[hR]at HSp ⊢;clear hR;cases R with
 |some x=>
  have HSq:=z2c (fun W=>show Calls z2f 70 #[.string s] W (Ret (.tuple #[.string ⟨x.1.toArray⟩,.string ⟨x.2.toArray⟩,.bool true]) W)from HSp.out W);clear HSp;go_enter Tryz.func73,Tryz.ntmps73;go_wp2_with(go_at_call 70;(with_reducible refine(HSq.out _).mono ?_);rintro e W1 ⟨rfl,X1,rfl⟩)
  go_ret;exact Ret.of rfl bel
 |none=>
  have HSq:=z2c (fun W=>show Calls z2f 70 #[.string s] W (Ret (.tuple #[.string ⟨#[]⟩,.string s,.bool false]) W)from HSp.out W);clear HSp;go_enter Tryz.func73,Tryz.ntmps73;go_upto_region 3 with(go_at_call 70;(with_reducible refine(HSq.out _).mono ?_);rintro e W1 ⟨rfl,X1,rfl⟩)
  refine zae fun W0 hW0=> ?_;obtain⟨B,hB⟩: ∃B,w.heap.size=B:=⟨_,rfl⟩;have hb0:Below w.heap.size w W0:=by rw[hW0];exact bel
  have c0:W0.cell? ⟨B,0,none⟩=some (.string s):=by rw[hW0,<-hB];simp[go_sem]
  have hBl:=World.block_lt_of_cell? W0 _ c0;have H0:=z2c (fun W (hb:Below W0.heap.size W0 W)=>show Calls z2f 163 #[.int .i64 0,.pointer (some ⟨B,0,none⟩)] W _ from HSt.out B W 0 ((hb.cell (p:=⟨B,0,none⟩) hBl).trans c0) (Nat.lt_of_lt_of_le hBl hb.size) (by omega));have H1:=z2c (fun W (hb:Below W0.heap.size W0 W)=>show Calls z2f 163 #[.int .i64 1,.pointer (some ⟨B,0,none⟩)] W _ from HSt.out B W 1 ((hb.cell (p:=⟨B,0,none⟩) hBl).trans c0) (Nat.lt_of_lt_of_le hBl hb.size) (by omega));have HB0:=z2c (fun W (hb:Below W0.heap.size W0 W)=>show Below w.heap.size w W from hb0.trans (hb.mono hb0.size));rw[hB];generalize zb4 s 0=b0 at*;generalize zb4 s 1=b1 at*;clear hW0 hb0 HSt;cases b0;all_goals
   go_wp2_with(first
    |(go_at_call 163;(with_reducible refine(H0.out _ bel).mono ?_);rintro e V1 ⟨rfl,Y1,rfl⟩)
    |(go_at_call 163;(with_reducible refine(Ret.flat (H1.out _ bel)).mono ?_);rintro e V2 ⟨rfl,Y2,rfl⟩))
   go_ret;exact Ret.of rfl (HB0.out _ bel)
open Go.RowKit
attribute [local go_sem] Oper.semAt_some
def U8 (w:World):Prop:=Lib.Utf8Tabs 0 1 w
theorem U8.below {w w':World} (h:U8 w) (hb:Below w.heap.size w w'):U8 w':=Utf8Tabs_below h hb
theorem zmc:SlT z2f 135 5 (.int .u8 0) 1 1:=⟨by kernel_rfl,by kernel_rfl,by kernel_rfl,by decide⟩
theorem zpi {W:World} {B:Nat} {v:Value} {l:Bs} (h:W.ownsRow B 5 1 v l.length (l.map bv)):(convert 135 9 v).run z2f W= .ok (.string ⟨l.toArray⟩) W:=
 (Rd.own h).str 135 9 5 z3t z3q z3e
theorem zrm (x:Nat) (w:World):Calls z2f 157 #[.int .i32 (x:Nat)] w fun e w'=>e= .returned (.bool (zcj x))/\w=w':=by
 have h0:decide ((0:Int)<=(x:Nat))=true:=by simp
 have h1:decide (((x:Nat):Int)<=32)=zcj x:=by unfold zcj;rw[z2l];simp;omega
 generalize zcj x=D at*;go_enter Tryz.func157,Tryz.ntmps157;go_wp2_with fail
 go_ret;exact⟨rfl,rfl⟩
theorem zup (c:UInt8) (w:World):Calls z2f 158 #[.int .u8 c.toNat] w fun e w'=>e= .returned (.bool (zna c))/\w=w':=by
 have e1:((c.toNat:Int)==9)=decide (c.toNat=9):=by rw[z2l];simp;omega
 have e2:((c.toNat:Int)==10)=decide (c.toNat=10):=by rw[z2l];simp;omega
 have e3:((c.toNat:Int)==13)=decide (c.toNat=13):=by rw[z2l];simp;omega
 have HE:Hid (zna c=(decide (c.toNat=9)||(decide (c.toNat=10)||decide (c.toNat=13)))):=by
  show _=_;unfold zna;rw[z2l];simp
 rw[HE.out];clear HE;generalize decide (c.toNat=9)=b1 at*;generalize decide (c.toNat=10)=b2 at*;generalize decide (c.toNat=13)=b3 at*;cases b1<;>cases b2;all_goals
  go_enter Tryz.func158,Tryz.ntmps158;go_wp2_with fail
  go_ret;exact⟨rfl,rfl⟩
theorem zkb (t:Bs) (k:Nat) (h:k<t.length):(t.take (k+1)).filter zho=if zna t[k]=true then(t.take k).filter zho else(t.take k).filter zho++[t[k]]:=by
 rw[z29 h,List.filter_append];unfold zho;cases hd:zna t[k]<;>simp[hd]
theorem zrl (s:ByteArray) (w:World) (hT:U8 w) (hm:s.size<=35184372088832):Calls z2f 69 #[.string s] w (Ret (.string ⟨(zcu s.data.toList).toArray⟩) w):=by
 have htr:=zs7 s;have hpa:PredAt z2f 157 #[] encR zcj w:=fun W x _=>by
  refine(zrm x W).mono fun e w' h=> ?_;obtain⟨h1,rfl⟩:=h;exact⟨h1,0,rfl⟩
 have HTr:=z2c (show Calls z2f 159 #[.string s,.func (.func 157) #[] #[]] w _ from Tryz.strings_TrimFunc 157 #[] (enters_of Tryz.func157 (by kernel_rfl) rfl) zcj s w (by omega) hT hpa);obtain⟨T,hTt⟩: ∃T,Lib.trimF zcj s=T:=⟨_,rfl⟩;rw[hTt]at HTr htr;have hTs:T.size<=35184372088832:=by
  rw[<-zag,htr];refine z2j ?_ hm;rw[<-zag];unfold zs8;rw[z3u];refine z2j (z3s _).length_le ?_;rw[z3u];exact(z3s _).length_le
 have HC:Hid (zcu s.data.toList=(T.data.toList.take T.size).filter zho):=by
  show _=_;unfold zcu;rw[<-htr,z2p (by rw[zag];exact z2k _)]
 obtain⟨R,hR⟩: ∃R,zcu s.data.toList=R:=⟨_,rfl⟩;rw[hR]at HC ⊢;clear hR htr hTt hpa hT hm;have hcv: ∀W:World,(convert 9 135 (.string T)).run z2f W= .ok (.slice (some ⟨W.heap.size,0,none⟩) T.size (grownCap W T.size 0 5)) (W.grow (zcm W 5 T)):=fun W=>zf6 W _ _ _ T z3e z3t z3q;go_enter Tryz.func69,Tryz.ntmps69;go_wp2_with(go_at_call 159;(with_reducible refine HTr.out.mono ?_);rintro e W1 ⟨rfl,hb1⟩;have HB1:=z2c hb1;clear hb1)
 refine zae fun W2 hW2=> ?_;obtain⟨nb,hnb⟩: ∃B,W1.heap.size=B:=⟨_,rfl⟩;have hb2:Below W1.heap.size W1 W2:=by rw[hW2];exact bel
 have hby2:zby W2 nb 5 T:=by rw[hW2,<-hnb];exact zby.new W1 5 T
 have HB2:=z2c (HB1.out.trans (hb2.mono HB1.out.size));have HY2:=z2c hby2;rw[hnb];clear hW2 hb2 hby2 HB1 HTr;go_loopw [5,13] (fun v i wr=> ∃(k:Nat) (out:Bs),k<=T.size/\out=(T.data.toList.take k).filter zho/\i= .int .i64 (k:Nat)/\Below w.heap.size w wr/\wr.ownsRow w.heap.size 5 1 v out.length (out.map bv)/\zby wr nb 5 T) (fun _ i _=>T.size-(intOf i).toNat)
 case atStart=>exact⟨0,[],by omega,by simp,rfl,HB2.out,World.ownsRow_nil _ _ _ _,HY2.out⟩
 case round=>
  clear HB2 HY2;obtain⟨k,out,hk,hout,rfl,hB,hown,hby⟩:=hrel;have hsz:=hB.size;have hol:out.length<=35184372088832:=by
   rw[hout];refine z2j (z5z _ _) ?_;rw[z2r];omega
  have HOut:=z2c hout;clear hout;by_cases hlt:k<T.size
  ·have hc:=hby.cell k hlt;have hkl:k<T.data.toList.length:=by rw[zag];exact hlt
   have HS:=z2c (zkb T.data.toList k hkl);have hsk:T.data.toList[k]=T[k]:=rfl;have HBY:=z2c hby;have HB:=z2c hB;have HO:=z2c hown;have HDr:=z2c (fun W=>zup T[k] W);rw[hsk]at HS;clear hB hby hsk;cases hd:zna T[k]
   ·rw[hd]at HDr HS;have HL:Hid ((out++[T[k]]).map bv=out.map bv++[.int .u8 (T[k].toNat:Int)]):=by show _=_;simp[bv]
    have HL2:Hid ((out++[T[k]]).length=out.length+1):=by show _=_;simp
    have HN:Hid (out++[T[k]]=(T.data.toList.take (k+1)).filter zho):=by show _=_;rw[HS.out,if_neg (by decide),HOut.out]
    clear HS hd;go_wp2_with(first
     |(go_at_call 158;(with_reducible refine(HDr.out _).mono ?_);rintro e w' ⟨rfl,rfl⟩)
     |(at_builtin;refine zar rfl _ _ 135 rfl zmc w.heap.size rfl (hown.alloc _) (by simp;omega) ⟨_,0,none⟩ 1 1 [.int .u8 (T[k].toNat:Int)] rfl rfl (zaf (c:= #[.int .u8 (T[k].toNat:Int)]) (by simp[go_sem])) (by simp[Value.oneCell']) (by unfold maxLen;omega) (by omega) ?_;intro v1 W1 hown1 hg1;have hB1:=z2c (HB.out.trans (((Below.refl _ _).alloc hsz _).trans (zcv (hown.alloc _) hg1 (z2k _) (by simp;omega))));have hBy1:=z2c ((HBY.out.alloc _).kept (hown.alloc _) hg1);clear hg1))
    go_roundw
    case rel=>exact⟨k+1,out++[T[k]],by omega,HN.out,by go_num,hB1.out,by rw[HL.out,HL2.out];exact hown1,hBy1.out⟩
    case measure=>simp[intOf];omega
   ·rw[hd]at HDr HS;have HN:Hid (out=(T.data.toList.take (k+1)).filter zho):=by show _=_;rw[HS.out,if_pos rfl,HOut.out]
    clear HS hd;go_wp2_with(go_at_call 158;(with_reducible refine(HDr.out _).mono ?_);rintro e w' ⟨rfl,rfl⟩)
    go_roundw
    case rel=>exact⟨k+1,out,by omega,HN.out,by go_num,HB.out,HO.out,HBY.out⟩
    case measure=>simp[intOf];omega
  ·have hkn:k=T.size:=by omega
   have HR:Hid (R=out):=by show _=_;rw[HC.out,HOut.out,hkn]
   have HB:=z2c hB;have hcs:=zpi hown;clear hB hby hkn;go_wp2_with fail
   go_ret;exact Ret.of (by rw[HR.out];rfl) HB.out
open Go.RowKit
attribute [local go_sem] Oper.semAt_some
def zo8:Option Bs->Value
 |some x=> .tuple #[.string ⟨x.toArray⟩,.bool true]
 |none=> .tuple #[.string ⟨#[]⟩,.bool false]
theorem zek {l:Bs} {x:Bs × Bs} (h:zcg l=some x):x.1.length<=l.length/\x.2.length<=l.length:=by
 unfold zcg at h;cases l with
 |nil=>cases h
 |cons c r=>
  by_cases hl:ltrB c=true
  ·simp only[hl,if_true]at h;split at h
   ·next d q hq=>
    split at h
    ·cases h;simp only[List.length_map];have h9:=(z3s zb1 (l:=c::r)).length_le;rw[hq,List.length_cons]at h9;exact⟨(List.takeWhile_prefix _).length_le,by omega⟩
    ·cases h
   ·cases h
  ·dsimp only at h;rw[if_neg hl]at h;cases h
theorem zpg (l:Bs):(zcu l).length<=l.length:=by
 unfold zcu;refine z2j (z5z _ _) ?_;unfold zs8;rw[z3u];refine z2j (z3s _).length_le ?_;rw[z3u];exact(z3s _).length_le
theorem zph (a b:Bs):(⟨a.toArray⟩:ByteArray)++⟨#[58]⟩++⟨b.toArray⟩=⟨(a++58::b).toArray⟩:=by
 refine zgq ?_;simp
theorem zo7 (g:Nat) (P:Pol) (s:ByteArray) (w:World) (hr:zdh w g P) (hT:U8 w) (hm:s.size<=1000000):Calls z2f 25 #[.pointer (some ⟨g,0,none⟩),.string s] w (Ret (zo8 (zia P s.data.toList)) w):=by
 have hmx:=mxd;have HCl:=z2c (fun W (hb:Below w.heap.size w W)=>zrl s W (hT.below hb) (by omega));have HF:Hid (zia P s.data.toList=match zcg (zcu s.data.toList)with
  |some (n,r)=>if schR P n=true then some (n++58::r)else none
  |none=>if(P.rel&&zep (zcu s.data.toList))=true then some (zcu s.data.toList)else none):=rfl
 have hcl:(zcu s.data.toList).length<=1000000:=z2j (zpg _) (by rw[zag];exact hm);obtain⟨F,hF⟩: ∃F,zia P s.data.toList=F:=⟨_,rfl⟩;obtain⟨C,hC⟩: ∃C,zcu s.data.toList=C:=⟨_,rfl⟩;rw[hF,hC]at HF;rw[hC]at HCl hcl;rw[hF];have hxs:(⟨C.toArray⟩:ByteArray).size<=1000000:=by show C.toArray.size<=_;simpa using hcl
 have HSp:=z2c (fun W=>show Calls z2f 70 #[.string ⟨C.toArray⟩] W (Ret (zlo ⟨C.toArray⟩ (zcg C)) W)from zjo ⟨C.toArray⟩ W (by omega));have HLo:=z2c (fun W=>show Calls z2f 73 #[.string ⟨C.toArray⟩] W (Ret (.bool (zep C)) W)from zq6 ⟨C.toArray⟩ W (by omega));have HRl:=z2c hr;have hgl:=hr.lt;clear hF hC hT hr hm;cases hs:zcg C with
 |some x=>
  obtain⟨n,r⟩:=x;have hn:n.length<=maxLen:=z2j (zek hs).1 (z2j hcl (by simp[maxLen]));have hnb1:(⟨n.toArray⟩:ByteArray).size<=1000000:=by show n.toArray.size<=_;have:=(zek hs).1;simp at this ⊢;omega
  have hrb1:(⟨r.toArray⟩:ByteArray).size<=1000000:=by show r.toArray.size<=_;have:=(zek hs).2;simp at this ⊢;omega
  have HSq:=z2c (fun W=>show Calls z2f 70 #[.string ⟨C.toArray⟩] W (Ret (.tuple #[.string ⟨n.toArray⟩,.string ⟨r.toArray⟩,.bool true]) W)from(by have h9:=HSp.out W;rw[hs]at h9;exact h9));have HSc:=z2c (fun W (hb:Below w.heap.size w W)=>show Calls z2f 71 #[.pointer (some ⟨g,0,none⟩),.string ⟨n.toArray⟩] W _ from ztj g P n W (HRl.out.below hb) hn);rw[hs]at HF;have HF2:Hid (F=if schR P n=true then some (n++58::r)else none):=HF.out;have HV:=z2c (zph n r);clear HF hs hn HSp hcl hxs;obtain⟨D,hD⟩: ∃D,schR P n=D:=⟨_,rfl⟩;rw[hD]at HF2 HSc;clear hD;generalize hx:(⟨C.toArray⟩:ByteArray)=x at*;generalize hnb:(⟨n.toArray⟩:ByteArray)=nb at*;generalize hrb:(⟨r.toArray⟩:ByteArray)=rb at*;clear hx hnb hrb;cases D with
  |true=>
   have HR:Hid (F=some (n++58::r)):=HF2.out;go_enter Tryz.func25,Tryz.ntmps25;go_wp2_with(first
    |(go_at_call 69;(with_reducible refine(HCl.out _ bel).mono ?_);rintro e V1 ⟨rfl,Y1,rfl⟩)
    |(go_at_call 70;(with_reducible refine(Ret.flat (HSq.out _)).mono ?_);rintro e V2 ⟨rfl,Y2,rfl⟩)
    |(go_at_call 71;(with_reducible refine(Ret.flat (HSc.out _ bel)).mono ?_);rintro e V3 ⟨rfl,Y3,rfl⟩))
   go_ret2;exact Ret.of (by rw[HR.out];show _=Value.tuple #[.string ⟨(n++58::r).toArray⟩,.bool true];rw[<-HV.out];rfl) bel
  |false=>
   have HR:Hid (F=none):=HF2.out;go_enter Tryz.func25,Tryz.ntmps25;go_wp2_with(first
    |(go_at_call 69;(with_reducible refine(HCl.out _ bel).mono ?_);rintro e V1 ⟨rfl,Y1,rfl⟩)
    |(go_at_call 70;(with_reducible refine(Ret.flat (HSq.out _)).mono ?_);rintro e V2 ⟨rfl,Y2,rfl⟩)
    |(go_at_call 71;(with_reducible refine(Ret.flat (HSc.out _ bel)).mono ?_);rintro e V3 ⟨rfl,Y3,rfl⟩))
   go_ret2;exact Ret.of (by rw[HR.out];rfl) bel
 |none=>
  have HSq:=z2c (fun W=>show Calls z2f 70 #[.string ⟨C.toArray⟩] W (Ret (.tuple #[.string ⟨#[]⟩,.string ⟨C.toArray⟩,.bool false]) W)from(by have h9:=HSp.out W;rw[hs]at h9;exact h9));have HRe:=z2c (fun W (hb:Below w.heap.size w W)=>zol g P W (HRl.out.below hb));rw[hs]at HF;have HF2:Hid (F=if(P.rel&&zep C)=true then some C else none):=HF.out;have HFV:Hid (zo8 (some C)= .tuple #[.string ⟨C.toArray⟩,.bool true]):=rfl;clear HF hs HSp hcl hxs;generalize P.rel=D at*;generalize zep C=E at*;generalize(⟨C.toArray⟩:ByteArray)=x at*;cases D<;>cases E;all_goals
   have HR:=z2c HF2.out;clear HF2;go_enter Tryz.func25,Tryz.ntmps25;go_wp2_with(first
    |(go_at_call 69;(with_reducible refine(HCl.out _ bel).mono ?_);rintro e V1 ⟨rfl,Y1,rfl⟩)
    |(go_at_call 70;(with_reducible refine(Ret.flat (HSq.out _)).mono ?_);rintro e V2 ⟨rfl,Y2,rfl⟩)
    |(go_at_call 72;(with_reducible refine(Ret.flat (HRe.out _ bel)).mono ?_);rintro e V3 ⟨rfl,Y3,rfl⟩)
    |(go_at_call 73;(with_reducible refine(Ret.flat (HLo.out _)).mono ?_);rintro e V4 ⟨rfl,Y4,rfl⟩))
   go_ret2;exact Ret.of (by rw[HR.out];first|rfl|(simp only[Bool.and_self,if_true];rw[HFV.out];rfl)) bel
open Go.RowKit
attribute [local go_sem] Oper.semAt_some
theorem zw1 {pre r:Bs} {c:UInt8} (h:c.toNat≠58) (hg:zb1 c=false):refS pre (c::r)=none:=by
 show(if c.toNat=58 then _ else if zb1 c=true then _ else none)=_;rw[if_neg h,hg];rfl
theorem zw2 {pre r:Bs} {c:UInt8} (h:c.toNat≠58) (hg:zb1 c=true):refS pre (c::r)=refS (pre++[c]) r:=by
 show(if c.toNat=58 then _ else if zb1 c=true then _ else none)=_;rw[if_neg h,if_pos hg]
theorem ztr {pre r:Bs} {c:UInt8} (h:c.toNat=58):refS pre (c::r)=some (pre.map lowC,r):=by
 show(if c.toNat=58 then _ else _)=_;rw[if_pos h]
theorem zig (s:ByteArray) (w:World) (hm:s.size<=140737488355328):Calls z2f 78 #[.string s] w (Ret (zlo s (zcg s.data.toList)) w):=by
 have hmx:=mxd;obtain⟨R,hR⟩: ∃R,zcg s.data.toList=R:=⟨_,rfl⟩;rw[hR];by_cases hz:0<s.size;rotate_left
 ·have hs:s=⟨#[]⟩:=zgq (by
   have:s.data.toList.length=0:=by rw[zag];omega
   rw[z2u this])
  have HR:Hid (R=none):=by show _=_;rw[<-hR,hs];rfl
  clear hR hm hz;subst hs;go_enter Tryz.func78,Tryz.ntmps78;go_wp2_with fail
  go_ret3
  exact Ret.of (by rw[HR.out];rfl) bel
 have m0:(s.toList==[])=false:=by
  rw[ByteArray.toList_eq];cases h:s.data.toList with
  |nil=>rw[<-zag,h]at hz;simp at hz
  |cons c r=>rfl
 have hd0:=za9 s 0 hz;rw[z2w]at hd0;have HL0:=z2c (fun W=>zjy (s[0]'hz) W);have HRf:Hid (R=if letB (s[0]'hz)=true then refS [] (s.data.toList.drop 0)else none):=by
  show _=_;rw[<-hR,hd0,zwc,<-zx0,z2w,hd0]
 clear hR hd0;cases hl:letB (s[0]'hz)with
 |false=>
  rw[hl]at HL0 HRf;have HR:Hid (R=none):=HRf.out;clear hl HRf;go_enter Tryz.func78,Tryz.ntmps78;go_wp2_with(go_at_call 164;(with_reducible refine(HL0.out _).mono ?_);rintro e w' ⟨rfl,rfl⟩)
  go_ret3
  exact Ret.of (by rw[HR.out];rfl) bel
 |true=>
  rw[hl]at HL0 HRf;have HR0:Hid (R=refS (s.data.toList.take 0) (s.data.toList.drop 0)):=HRf.out;clear hl HRf;go_enter Tryz.func78,Tryz.ntmps78;go_wp2_with(go_at_call 164;(with_reducible refine(HL0.out _).mono ?_);rintro e w' ⟨rfl,rfl⟩)
  go_loopw [5] (fun i wr=> ∃k:Nat,k<=s.size/\i= .int .i64 (k:Nat)/\Hid (R=refS (s.data.toList.take k) (s.data.toList.drop k))/\wr=w) (fun i _=>s.size-(intOf i).toNat)
  case atStart=>exact⟨0,by omega,rfl,HR0.out,rfl⟩
  case round=>
   clear HR0 HL0;obtain⟨k,hk,rfl,HK,rfl⟩:=hrel;by_cases hlt:k<s.size
   ·have HD:=z2c (za9 s k hlt);have hkl:k<s.data.toList.length:=by rw[zag];exact hlt
    have HTk:Hid (s.data.toList.take (k+1)=s.data.toList.take k++[s[k]'hlt]):=z29 hkl;have e0:(((s[k]'hlt).toNat:Int)==58)=decide ((s[k]'hlt).toNat=58):=by rw[z2l];simp;omega
    by_cases h58:(s[k]'hlt).toNat=58
    ·have HR:Hid (R=some ((s.data.toList.take k).map lowC,s.data.toList.drop (k+1))):=by show _=_;rw[HK.out,HD.out,ztr h58]
     rw[decide_eq_true h58]at e0;have HLo:=z2c (fun W=>ztp (s.extract 0 k) W (by rw[ByteArray.size_extract];omega));have HV:Hid (Value.tuple #[.string ⟨(lowL (s.extract 0 k).data.toList).toArray⟩,.string (s.extract (k+1) s.size),.bool true]=zlo s (some ((s.data.toList.take k).map lowC,s.data.toList.drop (k+1)))):=by
      show _=_;have h1:(s.extract 0 k).data.toList=s.data.toList.take k:=by rw[z4j];simp
      have h2:s.extract (k+1) s.size=⟨(s.data.toList.drop (k+1)).toArray⟩:=zgq (by rw[z4j,z2p (by rw[z2n,zag];omega)]);rw[h1,h2,zxt];rfl
     have hw1:IntKind.i64.wrap ((k:Int)+1)=((k+1:Nat):Int):=by rw[IntKind.wrap_i64];omega
     clear HK HD HTk h58;go_upto_region 7 with fail
     refine zak 9 [(0,true),(1,true),(2,true),(4,true),(5,true),(6,true),(7,true),(3,false),(8,true)] (fun _=>True) hmx (by kernel_rfl) (by kernel_rfl) (by kernel_rfl) (by decide) rfl (fun c a d v w h=>by first|exact h|(obtain⟨x,y⟩:=(h:_/\_);cases d<;>exact⟨x,y⟩)) (by kernel_rfl) trivial ?_;refine zal (v:= .string s) 26 rfl rfl rfl (fun W hW=>by simp[execOp,go_sem]) ?_;simp only[Act.put,z2b,z2e,z2d];refine zal (v:= .int .i64 (k:Nat)) 27 rfl rfl rfl (fun W hW=>by simp[execOp,go_sem]) ?_;simp only[Act.put,z2b,z2e,z2d];refine zal (v:= .string (s.extract 0 k)) 28 rfl rfl rfl (fun W hW=>by simp[execOp,go_sem];omega) ?_;simp only[Act.put,z2b,z2e,z2d];refine zal (v:= .string s) 30 rfl rfl rfl (fun W hW=>by simp[execOp,go_sem]) ?_;simp only[Act.put,z2b,z2e,z2d];refine zal (v:= .int .i64 (k:Nat)) 31 rfl rfl rfl (fun W hW=>by simp[execOp,go_sem]) ?_;simp only[Act.put,z2b,z2e,z2d];refine zal (v:= .int .i64 ((k+1:Nat):Int)) 32 rfl rfl rfl (fun W hW=>by simp[execOp,go_sem,hw1]) ?_;simp only[Act.put,z2b,z2e,z2d];refine zal (v:= .string (s.extract (k+1) s.size)) 33 rfl rfl rfl (fun W hW=>by simp[execOp,go_sem];omega) ?_;simp only[Act.put,z2b,z2e,z2d];refine zai rfl rfl fun Kc hKc=> ?_;unfold Oper.wp;simp[execOp,go_sem];refine(HLo.out _).mono ?_;rintro e W1 ⟨rfl,X1,rfl⟩;show Kc _ _;apply hKc;refine⟨trivial, ?_⟩;refine zal (v:= .string ⟨(lowL (s.extract 0 k).data.toList).toArray⟩) 2 rfl rfl rfl (fun W hW=>by simp[execOp,go_sem]) ?_;simp only[Act.put,z2b,z2e,z2d];simp only[zbq,List.drop];go_wp2_with fail
     go_ret3
     exact Ret.of (by rw[HR.out];exact HV.out) bel
    ·rw[decide_eq_false h58]at e0;have HT:Hid (zb1 (s[k]'hlt)=true->R=refS (s.data.toList.take (k+1)) (s.data.toList.drop (k+1))):=fun hg=>by rw[HK.out,HD.out,zw2 h58 hg,HTk.out]
     have HF:Hid (zb1 (s[k]'hlt)=false->R=none):=fun hg=>by rw[HK.out,HD.out,zw1 h58 hg]
     have HLt:=z2c (fun W=>zjy (s[k]'hlt) W);have HDg:=z2c (fun W=>zbl (s[k]'hlt) W);have e1:(((s[k]'hlt).toNat:Int)==43)=decide ((s[k]'hlt).toNat=43):=by rw[z2l];simp;omega
     have e2:(((s[k]'hlt).toNat:Int)==45)=decide ((s[k]'hlt).toNat=45):=by rw[z2l];simp;omega
     have e3:(((s[k]'hlt).toNat:Int)==46)=decide ((s[k]'hlt).toNat=46):=by rw[z2l];simp;omega
     have HE:Hid (zb1 (s[k]'hlt)=(letB (s[k]'hlt)||digB (s[k]'hlt)||(decide ((s[k]'hlt).toNat=43)||(decide ((s[k]'hlt).toNat=45)||decide ((s[k]'hlt).toNat=46))))):=by
      show _=_;unfold zb1;rw[zx0];congr 1;rw[z2l];simp
     generalize zb1 (s[k]'hlt)=G at*;generalize letB (s[k]'hlt)=L at*;generalize digB (s[k]'hlt)=D at*;generalize decide ((s[k]'hlt).toNat=43)=b1 at*;generalize decide ((s[k]'hlt).toNat=45)=b2 at*;generalize decide ((s[k]'hlt).toNat=46)=b3 at*;clear HK HD HTk h58;have hcs:(L=true)\/(L=false/\D=true)\/(L=false/\D=false/\b1=true)\/(L=false/\D=false/\b1=false/\b2=true)\/(L=false/\D=false/\b1=false/\b2=false/\b3=true)\/(L=false/\D=false/\b1=false/\b2=false/\b3=false):=by
      cases L<;>cases D<;>cases b1<;>cases b2<;>cases b3<;>simp
     rcases hcs with rfl|⟨rfl,rfl⟩|⟨rfl,rfl,rfl⟩|⟨rfl,rfl,rfl,rfl⟩|⟨rfl,rfl,rfl,rfl,rfl⟩|⟨rfl,rfl,rfl,rfl,rfl⟩
     rotate_right
     ·have HR:=z2c (HF.out HE.out);clear HT HF HE;go_wp2_with(first|(go_at_call 164;(with_reducible refine(HLt.out _).mono ?_);rintro e w' ⟨rfl,rfl⟩)|(go_at_call 166;(with_reducible refine(HDg.out _).mono ?_);rintro e w' ⟨rfl,rfl⟩))
      go_ret3
      exact Ret.of (by rw[HR.out];rfl) bel
     all_goals
      have HR:=z2c (HT.out HE.out);clear HT HF HE;go_wp2_with(first|(go_at_call 164;(with_reducible refine(HLt.out _).mono ?_);rintro e w' ⟨rfl,rfl⟩)|(go_at_call 166;(with_reducible refine(HDg.out _).mono ?_);rintro e w' ⟨rfl,rfl⟩))
      go_roundw
      case rel=>exact⟨k+1,by omega,by go_num,HR.out,by first|rfl|trivial⟩
      case measure=>simp[intOf];omega
   ·have HR:Hid (R=none):=by show _=_;rw[HK.out,zbv s k (by omega)];rfl
    clear HK;go_wp2_with fail
    go_ret3
    exact Ret.of (by rw[HR.out];rfl) bel
open Go.RowKit
attribute [local go_sem] Oper.semAt_some
theorem zha (c:UInt8) (w:World):Calls z2f 167 #[.int .u8 c.toNat] w fun e w'=>e= .returned (.bool (zd1 c))/\w=w':=by
 have e1:((c.toNat:Int)==47)=decide (c.toNat=47):=by rw[z2l];simp;omega
 have e2:((c.toNat:Int)==92)=decide (c.toNat=92):=by rw[z2l];simp;omega
 have HE:Hid (zd1 c=(decide (c.toNat=47)||decide (c.toNat=92))):=by show _=_;unfold zd1;rw[z2l];simp
 rw[HE.out];clear HE;generalize decide (c.toNat=47)=b1 at*;generalize decide (c.toNat=92)=b2 at*;cases b1;all_goals
  go_enter Tryz.func167,Tryz.ntmps167;go_wp2_with fail
  go_ret;exact⟨rfl,rfl⟩
theorem zoi (s:ByteArray) (w:World) (hm:s.size<=140737488355328):Calls z2f 80 #[.string s] w (Ret (.bool (zep s.data.toList)) w):=by
 have hmx:=mxd;have HSp:=z2c (fun W=>zig s W hm);have HE:Hid (zep s.data.toList=((zcg s.data.toList).isNone&& !(zb4 s 0&&zb4 s 1))):=by show _=_;unfold zep;rw[zr6]
 rw[HE.out];clear HE;obtain⟨R,hR⟩: ∃R,zcg s.data.toList=R:=⟨_,rfl⟩;rw[hR]at HSp ⊢;clear hR;cases R with
 |some x=>
  have HSq:=z2c (fun W=>show Calls z2f 78 #[.string s] W (Ret (.tuple #[.string ⟨x.1.toArray⟩,.string ⟨x.2.toArray⟩,.bool true]) W)from HSp.out W);clear HSp hm;go_enter Tryz.func80,Tryz.ntmps80;go_wp2_with(go_at_call 78;(with_reducible refine(HSq.out _).mono ?_);rintro e W1 ⟨rfl,X1,rfl⟩)
  go_ret;exact Ret.of rfl bel
 |none=>
  have HSq:=z2c (fun W=>show Calls z2f 78 #[.string s] W (Ret (.tuple #[.string ⟨#[]⟩,.string s,.bool false]) W)from HSp.out W);clear HSp;by_cases h2:2<=s.size
  ·have hz0:0<s.size:=by omega
   have hz1:1<s.size:=by omega
   have g0:zb4 s 0=zd1 (s[0]'hz0):=by unfold zb4;rw[z2q (by rw[zag];omega)];rfl
   have g1:zb4 s 1=zd1 (s[1]'hz1):=by unfold zb4;rw[z2q (by rw[zag];omega)];rfl
   have H0:=z2c (fun W=>zha (s[0]'hz0) W);have H1:=z2c (fun W=>zha (s[1]'hz1) W);have b2:decide ((2:Int)<=s.size)=true:=by simp;omega
   rw[g0,g1];clear g0 g1 h2;generalize zd1 (s[0]'hz0)=b0 at*;generalize zd1 (s[1]'hz1)=b1 at*;cases b0;all_goals
    go_enter Tryz.func80,Tryz.ntmps80;go_wp2_with(first
     |(go_at_call 78;(with_reducible refine(HSq.out _).mono ?_);rintro e W1 ⟨rfl,X1,rfl⟩)
     |(go_at_call 167;(with_reducible refine(H0.out _).mono ?_);rintro e V1 ⟨rfl,rfl⟩)
     |(go_at_call 167;(with_reducible refine(H1.out _).mono ?_);rintro e V2 ⟨rfl,rfl⟩))
    go_ret;exact Ret.of rfl bel
  ·have g1:zb4 s 1=false:=by unfold zb4;rw[List.getElem?_eq_none (by rw[zag];omega)]
   have b2:decide ((2:Int)<=s.size)=false:=by simp;omega
   rw[g1,Bool.and_false];clear g1 h2;go_enter Tryz.func80,Tryz.ntmps80;go_wp2_with(go_at_call 78;(with_reducible refine(HSq.out _).mono ?_);rintro e W1 ⟨rfl,X1,rfl⟩)
   go_ret;exact Ret.of rfl bel
def zzm:Value->Nat
 | .string b=>b.size
 |_=>0
theorem zpk (c:UInt8):decide ((c.toNat:Int)<=32)=zbc c:=by unfold zbc;rw[z2l];simp;omega
theorem z1h (x:ByteArray) (h:0<x.size):(x.extract 1 x.size).data.toList=x.data.toList.drop 1/\(x.extract 1 x.size).size=x.size-1:=by
 refine⟨?_,by rw[ByteArray.size_extract];omega⟩;rw[z4j,z2p (by rw[z2n,zag];omega)]
theorem z1z (x:ByteArray) (h:0<x.size):(x.extract 0 (x.size-1)).data.toList=x.data.toList.take (x.size-1)/\(x.extract 0 (x.size-1)).size=x.size-1:=by
 refine⟨?_,by rw[ByteArray.size_extract];omega⟩;rw[z4j];simp
theorem zzv (x:ByteArray) (h:0<x.size):x.data.toList.reverse=x[x.size-1]'(by omega)::(x.data.toList.take (x.size-1)).reverse:=by
 have hl:x.size-1<x.data.toList.length:=by rw[zag];omega
 have:x.data.toList=x.data.toList.take (x.size-1)++[x.data.toList[x.size-1]]:=by
  conv=>lhs;rw[<-z2p (l:=x.data.toList) (i:=x.size-1+1) (by rw[zag];omega)]
  rw[z29 hl]
 conv=>lhs;rw[this]
 rw[List.reverse_append];rfl
theorem zon (s:ByteArray) (w:World) (hm:s.size<=35184372088832):Calls z2f 77 #[.string s] w (Ret (.string ⟨(zcu s.data.toList).toArray⟩) w):=by
 have hmx:=mxd;obtain⟨R,hR⟩: ∃R,zcu s.data.toList=R:=⟨_,rfl⟩;have HR:Hid (R=(((s.data.toList.dropWhile zbc).reverse.dropWhile zbc).reverse).filter zho):=hR.symm;rw[hR];clear hR;go_enter Tryz.func77,Tryz.ntmps77;go_upto_block 0 with fail
 go_cut [0] (fun v wx=> ∃x:ByteArray,v= .string x/\x.size<=35184372088832/\Hid (x.data.toList=s.data.toList.dropWhile zbc)/\w=wx)
 case first=>
  go_wp2_with fail
  go_loopw [0] (fun v wr=> ∃x:ByteArray,v= .string x/\x.size<=35184372088832/\Hid (x.data.toList.dropWhile zbc=s.data.toList.dropWhile zbc)/\wr=w) (fun v _=>zzm v)
  case atStart=>exact⟨s,rfl,hm,rfl,rfl⟩
  case round=>
   obtain⟨x,rfl,hx,HX,rfl⟩:=hrel;by_cases hz:0<x.size
   ·have hd:=za9 x 0 hz;rw[z2w]at hd;have HD:=z2c hd;have hbi:=zpk (x[0]'hz);clear hd;cases hb:zbc (x[0]'hz)with
    |true=>
     rw[hb]at hbi;obtain⟨t1,t2⟩:=z1h x hz;have HT:Hid ((x.extract 1 x.size).data.toList.dropWhile zbc=s.data.toList.dropWhile zbc):=by
      show _=_;rw[t1,<-HX.out,HD.out,z22 hb];rfl
     have h1:(1:Int)<=x.size:=by omega
     clear HX HD hb t1;go_wp2_with fail
     go_roundw
     case rel=>exact⟨x.extract 1 x.size,rfl,by omega,HT.out,by first|rfl|trivial⟩
     case measure=>simp[zzm,t2];omega
    |false=>
     rw[hb]at hbi;have HY:Hid (x.data.toList=s.data.toList.dropWhile zbc):=by
      show _=_;rw[<-HX.out,HD.out,z2s (by rw[hb];decide)]
     clear HX HD hb;go_wp2_with fail
     go_meet
     case rel=>exact⟨x,rfl,hx,HY.out,by first|rfl|trivial⟩
   ·have HY:Hid (x.data.toList=s.data.toList.dropWhile zbc):=by
     show _=_;have h0:x.data.toList=[]:=z2u (by rw[zag];omega);rw[<-HX.out,h0];rfl
    clear HX;go_wp2_with fail
    go_meet
    case rel=>exact⟨x,rfl,hx,HY.out,by first|rfl|trivial⟩
 case rest=>
 obtain⟨x1,rfl,hx1,HX1,rfl⟩:=hcut;go_upto_block 2 with fail
 go_cut [0] (fun v wx=> ∃x:ByteArray,v= .string x/\x.size<=35184372088832/\Hid (x.data.toList=((s.data.toList.dropWhile zbc).reverse.dropWhile zbc).reverse)/\w=wx)
 case first=>
  go_wp2_with fail
  go_loopw [0] (fun v wr=> ∃x:ByteArray,v= .string x/\x.size<=35184372088832/\Hid (x.data.toList.reverse.dropWhile zbc=(s.data.toList.dropWhile zbc).reverse.dropWhile zbc)/\wr=w) (fun v _=>zzm v)
  case atStart=>exact⟨x1,rfl,hx1,by show _=_;rw[HX1.out],by first|rfl|trivial⟩
  case round=>
   clear hx1 HX1;obtain⟨x,rfl,hx,HX,rfl⟩:=hrel;by_cases hz:0<x.size
   ·have HD:=z2c (zzv x hz);have hl1:x.size-1<x.size:=by omega
    have hbi:=zpk (x[x.size-1]'hl1);have hw1:IntKind.i64.wrap ((x.size:Int)-1)=((x.size-1:Nat):Int):=by rw[IntKind.wrap_i64];omega
    cases hb:zbc (x[x.size-1]'hl1)with
    |true=>
     rw[hb]at hbi;obtain⟨t1,t2⟩:=z1z x hz;have HT:Hid ((x.extract 0 (x.size-1)).data.toList.reverse.dropWhile zbc=(s.data.toList.dropWhile zbc).reverse.dropWhile zbc):=by
      show _=_;rw[t1,<-HX.out,HD.out,z22 hb]
     clear HX HD hb t1;go_wp2_with fail
     go_roundw
     case rel=>exact⟨x.extract 0 (x.size-1),rfl,by omega,HT.out,by first|rfl|trivial⟩
     case measure=>simp[zzm,t2];omega
    |false=>
     rw[hb]at hbi;have HY:Hid (x.data.toList=((s.data.toList.dropWhile zbc).reverse.dropWhile zbc).reverse):=by
      show _=_;rw[<-HX.out,HD.out,z2s (by rw[hb];decide),<-HD.out,List.reverse_reverse]
     clear HX HD hb;go_wp2_with fail
     go_meet
     case rel=>exact⟨x,rfl,hx,HY.out,by first|rfl|trivial⟩
   ·have HY:Hid (x.data.toList=((s.data.toList.dropWhile zbc).reverse.dropWhile zbc).reverse):=by
     show _=_;have h0:x.data.toList=[]:=z2u (by rw[zag];omega);rw[<-HX.out,h0];rfl
    clear HX;go_wp2_with fail
    go_meet
    case rel=>exact⟨x,rfl,hx,HY.out,by first|rfl|trivial⟩
 case rest=>
 obtain⟨T,rfl,hTs,HT2,rfl⟩:=hcut;have HC:Hid (R=(T.data.toList.take T.size).filter zho):=by
  show _=_;rw[HR.out,<-HT2.out,z2p (by rw[zag];exact z2k _)]
 clear HR HT2 HX1 hx1;go_wp2_with fail
 go_loopw [3,4] (fun v i wr=> ∃(k:Nat) (out:Bs),k<=T.size/\out=(T.data.toList.take k).filter zho/\i= .int .i64 (k:Nat)/\Below w.heap.size w wr/\wr.ownsRow w.heap.size 5 1 v out.length (out.map bv)) (fun _ i _=>T.size-(intOf i).toNat)
 case atStart=>exact⟨0,[],by omega,by simp,rfl,by show Below _ _ _;exact bel,World.ownsRow_nil _ _ _ _⟩
 case round=>
  obtain⟨k,out,hk,hout,rfl,hB,hown⟩:=hrel;have hsz:=hB.size;have hol:out.length<=35184372088832:=by
   rw[hout];refine z2j (z5z _ _) ?_;rw[z2r];omega
  have HOut:=z2c hout;clear hout;by_cases hlt:k<T.size
  ·have hkl:k<T.data.toList.length:=by rw[zag];exact hlt
   have HS:=z2c (zkb T.data.toList k hkl);have hsk:T.data.toList[k]=T[k]'hlt:=rfl;have HB:=z2c hB;have HO:=z2c hown;rw[hsk]at HS;have HE:Hid (zna (T[k]'hlt)=(decide ((T[k]'hlt).toNat=9)||(decide ((T[k]'hlt).toNat=10)||decide ((T[k]'hlt).toNat=13)))):=by
    show _=_;unfold zna;rw[z2l];simp
   have e1:(((T[k]'hlt).toNat:Int) !=9)= !decide ((T[k]'hlt).toNat=9):=by rw[z2l];simp;omega
   have e2:(((T[k]'hlt).toNat:Int) !=10)= !decide ((T[k]'hlt).toNat=10):=by rw[z2l];simp;omega
   have e3:(((T[k]'hlt).toNat:Int) !=13)= !decide ((T[k]'hlt).toNat=13):=by rw[z2l];simp;omega
   clear hB hsk;rw[HE.out]at HS;clear HE;have HL:Hid ((out++[T[k]'hlt]).map bv=out.map bv++[.int .u8 ((T[k]'hlt).toNat:Int)]):=by show _=_;simp[bv]
   have HL2:Hid ((out++[T[k]'hlt]).length=out.length+1):=by show _=_;simp
   generalize decide ((T[k]'hlt).toNat=9)=b1 at*;generalize decide ((T[k]'hlt).toNat=10)=b2 at*;generalize decide ((T[k]'hlt).toNat=13)=b3 at*;by_cases hd:b1=false/\b2=false/\b3=false
   ·obtain⟨rfl,rfl,rfl⟩:=hd;have HN:Hid (out++[T[k]'hlt]=(T.data.toList.take (k+1)).filter zho):=by show _=_;rw[HS.out,if_neg (by decide),HOut.out]
    clear HS;go_wp2_with(at_builtin;refine zar rfl _ _ 135 rfl zmc w.heap.size rfl (hown.alloc _) (by simp;omega) ⟨_,0,none⟩ 1 1 [.int .u8 ((T[k]'hlt).toNat:Int)] rfl rfl (zaf (c:= #[.int .u8 ((T[k]'hlt).toNat:Int)]) (by simp[go_sem])) (by simp[Value.oneCell']) (by unfold maxLen;omega) (by omega) ?_;intro v1 W1 hown1 hg1;have hB1:=z2c (HB.out.trans (((Below.refl _ _).alloc hsz _).trans (zcv (hown.alloc _) hg1 (z2k _) (by simp;omega))));clear hg1)
    go_roundw
    case rel=>exact⟨k+1,out++[T[k]'hlt],by omega,HN.out,by go_num,hB1.out,by rw[HL.out,HL2.out];exact hown1⟩
    case measure=>simp[intOf];omega
   ·have HN:Hid (out=(T.data.toList.take (k+1)).filter zho):=by
     show _=_;rw[HS.out,if_pos (by cases b1<;>cases b2<;>cases b3<;>simp_all),HOut.out]
    clear HS HL HL2;have hcs:(b1=true)\/(b1=false/\b2=true)\/(b1=false/\b2=false/\b3=true):=by cases b1<;>cases b2<;>cases b3<;>simp_all
    clear hd;rcases hcs with rfl|⟨rfl,rfl⟩|⟨rfl,rfl,rfl⟩
    all_goals
     go_wp2_with fail
     go_roundw
     case rel=>exact⟨k+1,out,by omega,HN.out,by go_num,HB.out,HO.out⟩
     case measure=>simp[intOf];omega
  ·have hkn:k=T.size:=by omega
   have HRo:Hid (R=out):=by show _=_;rw[HC.out,HOut.out,hkn]
   have HB:=z2c hB;have hcs:=zpi hown;clear hB hkn;go_wp2_with fail
   go_ret;exact Ret.of (by rw[HRo.out];rfl) HB.out
open Go.RowKit
theorem u8_row {l:List (String × DataW Unit)} {W:World} (h:laidMetH z2f l W) (hf:(l.filter fun x=>x.1== "unicode/utf8.acceptRanges" ||x.1== "unicode/utf8.first")=[("unicode/utf8.acceptRanges",Lib.acceptData),("unicode/utf8.first",Lib.firstData)]):U8 W:=by
 have h1:=h.filter (fun x=>x.1== "unicode/utf8.acceptRanges" ||x.1== "unicode/utf8.first");rw[hf,MakeChecks.laidMetH_plain _ _ _ (by kernel_rfl)]at h1;exact utf8Tabs_of_readsT (ρ:=Tryz.lays237_ren) {Tryz.lays237 with} ⟨by kernel_rfl,by kernel_rfl,by kernel_rfl,by kernel_rfl,by kernel_rfl,by kernel_rfl,by kernel_rfl⟩ (Lib.laidMet.reads h1 (.tail _ (.head _))) (Lib.laidMet.reads h1 (.head _))
section
variable {H:Type} {enc:TypeId × Value->H}
theorem zud {a:Assume} {C:Checked} {os:Os} {f:FuncId} {fn:Func} {s:ChangeSpec} {conds:List PathCond} {apart fresh handsOn again:Bool} {X:World->Array Value->Prop}
  (hX: ∀(w w':World) (args:Array Value),w.heap=w'.heap->X w args->X w' args)
  (own:ownKnob C.prog.godebug=none) (started:os.Started) (noInit:C.prog.inits.idxOf? f=none) (hfn:C.prog.funcs[f]? =some fn)
  (witness: ∃(w:World) (tape:Tape) (i:Input),w.os=os/\(w.forCall tape i).Shaped C.prog/\i.vars=[]/\Input.okWide C.prog (w.forCall tape i) .any w.heap.size f i/\
   ((s.pre enc C.prog fn conds apart (w.forCall tape i).memory i.args/\X (w.forCall tape i).memory i.args)/\sizedMet enc C.prog fn (OpenSpec.ofChange s) apart (w.forCall tape i).memory i.args)/\a.holds C.prog (lone (Frame.enter C.prog f i.args .normal) [] (w.forCall tape i)))
  (contract: ∀(W:World) (base:Nat) (args:Array Value) (ds gs:List (DataW H)) (before:List MemPlace),
   (∀(j:Nat) t v,fn.params[j]? =some t->args[j]? =some v->Value.okWide C.prog W .any base t v)->
   DataW.Whole enc C.prog fn.params.toList s.vars apart W args.toList ds gs before->
   X W args->W.ShapedOpen C.prog->
   Calls C.prog f args W fun e W'=> ∃v,e= .returned v/\s.post enc C.prog fn apart fresh handsOn again W args v W'):
  ReturnsInHanded a C os f .any (fun w args=>(s.pre enc C.prog fn conds apart w args/\X w args)/\sizedMet enc C.prog fn (OpenSpec.ofChange s) apart w args) (s.post enc C.prog fn apart fresh handsOn again):=by
 refine returnsInHanded_of_calls own started noInit witness fun w tape i _ hsh _ hok hpre _=> ?_;obtain⟨_,_,_,g,hg,_,_,_,_,hval⟩:=hok;obtain rfl:g=fn:=Option.some.inj (hg.symm.trans hfn);obtain⟨⟨⟨ds,gs,before,hw,_⟩,hx⟩,_⟩:=hpre;exact(contract _ w.heap.size i.args ds gs before hval (DataW.Whole.of_heap (w':=w.forCall tape i) (by rfl) hw) (hX _ _ _ (by rfl) hx) hsh).mono fun e W' ⟨v,he,hp⟩=>by
  subst he;exact ChangeSpec.post_blind hp
end
end Go.Proofs.YtiikamobcmgekaaGreatDoor
