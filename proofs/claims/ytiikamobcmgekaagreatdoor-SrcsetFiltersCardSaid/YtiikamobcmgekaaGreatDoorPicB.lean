/- The walks of pictures: digits of a size. -/
import Derived.Test.YtiikamobcmgekaaGreatDoorKB
import Derived.Shelf.Abstract
import Derived.Lib.Strings
import Derived.Test.YtiikamobcmgekaaGreatDoorLA
namespace Go.Proofs.YtiikamobcmgekaaGreatDoor
open Lib renaming hid→z2c
open List renaming extract_eq_take_drop→z5i
set_option maxHeartbeats 800000
open Go.RowKit Go.Shelf
theorem zm9 (s:ByteArray) (k:Nat):(s.extract k s.size).data.toList=s.data.toList.drop k:=by
 rw[ByteArray.data_extract,Array.toList_extract,z5i,List.take_of_length_le];rw[List.length_drop,zag];omega
theorem zdn (s:ByteArray) (k:Nat):s.extract k s.size=⟨(s.data.toList.drop k).toArray⟩:=by
 rw[<-zm9]
theorem zfw (s:ByteArray) (n:Nat):s.extract 0 n=⟨(s.data.toList.take n).toArray⟩:=by
 have:(s.extract 0 n).data.toList=s.data.toList.take n:=by
  rw[ByteArray.data_extract,Array.toList_extract,z5i];simp
 rw[<-this]
theorem zv7 (s:ByteArray) (f m:Nat):s.extract f m=⟨((s.data.toList.take m).drop f).toArray⟩:=by
 have:(s.extract f m).data.toList=(s.data.toList.take m).drop f:=by
  rw[ByteArray.data_extract,Array.toList_extract,z5i,List.drop_take]
 rw[<-this]
theorem zdm (p:UInt8->Bool) (l:Bs):l.drop (tw p l)=l.dropWhile p:=by
 have h:=List.drop_left (l₁:=l.takeWhile p) (l₂:=l.dropWhile p);rwa[List.takeWhile_append_dropWhile]at h
theorem zmi (p:UInt8->Bool) (l:Bs):l.take (tw p l)=l.takeWhile p:=by
 have h:=List.take_left (l₁:=l.takeWhile p) (l₂:=l.dropWhile p);rwa[List.takeWhile_append_dropWhile]at h
structure Pic where
 url:Bs
 size:Bs
 deriving DecidableEq
def sepB (c:UInt8):Bool:=spB c||decide (c.toNat=44)
def szL:Nat->Bs->Nat
 |_,[]=>0
 |d,c::r=>if c.toNat=44/\d=0 then 0 else 1+szL (if c.toNat=40 then d+1 else if c.toNat=41 then d-1 else d) r
def zbi:Bs->Bs->List Bs
 |w,[]=>if w=[]then []else [w]
 |w,c::r=>if spB c then(if w=[]then zbi [] r else w::zbi [] r)else zbi (w++[c]) r
def zbe (l:Bs):List Bs:=zbi [] l
def zba (sep:Bs):List Bs->Bs
 |[]=>[]
 |[x]=>x
 |x::y::r=>x++sep++zba sep (y::r)
def zce (l:Bs):Bs:=(l.reverse.dropWhile (fun c=>decide (c.toNat=44))).reverse
def zgl (l:Bs):Bool:=match l.getLast? with
 |some c=>decide (c.toNat=44)
 |none=>false
def picF:Nat->Bs->List Pic
 |0,_=>[]
 |n+1,l=>match l.dropWhile sepB with
  |[]=>[]
  |c::r=>
   if zgl ((c::r).takeWhile (fun c=> !spB c))then⟨zce ((c::r).takeWhile (fun c=> !spB c)),[]⟩::picF n ((c::r).dropWhile (fun c=> !spB c))
   else⟨(c::r).takeWhile (fun c=> !spB c),zba [32] (zbe (((c::r).dropWhile (fun c=> !spB c)).take (szL 0 ((c::r).dropWhile (fun c=> !spB c)))))⟩::picF n (((c::r).dropWhile (fun c=> !spB c)).drop (szL 0 ((c::r).dropWhile (fun c=> !spB c))))
def picL (l:Bs):List Pic:=picF (l.length+1) l
def zeg (p:Pic):Bs:=if p.size=[]then p.url else p.url++32::p.size
def zd0 (l:List Pic):Bs:=zba [44,32] (l.map zeg)
def zgc:Bs->Bool
 |[120]=>true
 |_=>false
def zdw (s:Bs):Bool:=
 if s=[]then true
 else
  let n:=(s.takeWhile digB).length
  if n<1\/9<n then false
  else match s.dropWhile digB with
   |[119]=>(s.takeWhile digB).any (fun c=>decide (c.toNat≠48))
   |46::r=>decide (1<=(r.takeWhile digB).length)&&decide ((r.takeWhile digB).length<=9)&&zgc (r.dropWhile digB)
   |t=>zgc t
def okP (p:Pic):Bool:=match p.url with
 |[]=>false
 |c::r=>decide (c.toNat≠44)&& !zgl (c::r)&&(c::r).all (fun c=> !spB c)&&zdw p.size
theorem zat (p:UInt8->Bool) (l:Bs):(l.dropWhile p).length<=l.length:=(List.dropWhile_sublist p).length_le
theorem zgb {c:UInt8} {r:Bs} (h:spB c=false):((c::r).dropWhile (fun c=> !spB c)).length<=r.length:=by
 rw[List.dropWhile_cons_of_pos (by simp[h])];exact zat _ r
theorem zg7 {l:Bs} {c:UInt8} {r:Bs} (h:l.dropWhile sepB=c::r):sepB c=false:=by
 have:=List.head?_dropWhile_not sepB l;rw[h]at this;simpa using this
theorem zjt {c:UInt8} (h:sepB c=false):spB c=false:=by
 unfold sepB at h;simp at h;exact h.1
theorem ziy: ∀(n m:Nat) (l:Bs),l.length<n->l.length<m->picF n l=picF m l:=by
 intro n;induction n with
 |zero=>intro m l h;omega
 |succ n ih=>
  intro m l h1 h2;cases m with
  |zero=>omega
  |succ m=>
   rw[picF,picF];split
   ·rfl
   ·rename_i c r hd;have hs:=zjt (zg7 hd);have h3:=zgb (r:=r) hs;have h4:=zat sepB l;rw[hd]at h4;simp at h4;have h5:(((c::r).dropWhile (fun c=> !spB c)).drop (szL 0 ((c::r).dropWhile (fun c=> !spB c)))).length<=r.length:=by
     rw[List.length_drop];omega
    rw[ih m _ (by omega) (by omega),ih m _ (by omega) (by omega)]
theorem zmw {c:UInt8} {r:Bs} (h:sepB c=true):picL (c::r)=picL r:=by
 unfold picL;rw[ziy ((c::r).length+1) (r.length+2) _ (by simp) (by simp)];rw[ziy (r.length+1) (r.length+2) r (by omega) (by omega)];rw[picF,picF,List.dropWhile_cons_of_pos h]
theorem zh2:picL []=[]:=rfl
theorem zhf {c:UInt8} {r:Bs} (h:sepB c=false):picL (c::r)=
  if zgl ((c::r).takeWhile (fun c=> !spB c))then⟨zce ((c::r).takeWhile (fun c=> !spB c)),[]⟩::picL ((c::r).dropWhile (fun c=> !spB c))
  else⟨(c::r).takeWhile (fun c=> !spB c),zba [32] (zbe (((c::r).dropWhile (fun c=> !spB c)).take (szL 0 ((c::r).dropWhile (fun c=> !spB c)))))⟩::picL (((c::r).dropWhile (fun c=> !spB c)).drop (szL 0 ((c::r).dropWhile (fun c=> !spB c)))):=by
 unfold picL;rw[picF,List.dropWhile_cons_of_neg (by simp[h])];have h3:=zgb (r:=r) (zjt h);have h5:(((c::r).dropWhile (fun c=> !spB c)).drop (szL 0 ((c::r).dropWhile (fun c=> !spB c)))).length<=r.length:=by
  rw[List.length_drop];omega
 dsimp only;rw[ziy (c::r).length _ _ (by simp;omega) (Nat.lt_succ_self _)];rw[ziy (c::r).length _ _ (by simp;simp at h5;omega) (Nat.lt_succ_self _)]
theorem zvf (w:Bs): ∀(acc r:Bs),w.all (fun c=> !spB c)=true->zbi acc (w++r)=zbi (acc++w) r:=by
 induction w with
 |nil=>intro acc r _;simp
 |cons c w ih=>
  intro acc r h;simp at h;rw[List.cons_append,zbi,if_neg (by simp[h.1]),ih _ _ (by simpa using h.2)];simp
theorem zrt (c:UInt8) (r:Bs) (h:spB c=true):zbe (c::r)=zbe r:=by
 unfold zbe;rw[zbi,if_pos h,if_pos rfl]
theorem zub (p:UInt8->Bool) (l:Bs):(0<=idxF p l/\idxF p l=tw (fun c=> !p c) l)\/(idxF p l<0/\tw (fun c=> !p c) l=l.length):=by
 unfold idxF;have:=zhv (fun c=> !p c) l;split
 ·left;omega
 ·right;omega
theorem zjc (s:ByteArray) (g:Nat) (p:UInt8->Bool) (w:World) (hp:zla g p) (hm:s.size<=9223372036854775807):
  Calls Tryz.prog 32 #[.string s,.func (.func g) #[] #[]] w (Ret (.int .i64 (tw (fun c=> !p c) s.data.toList)) w):=by
 have HB:=z2c (fun W=>zag s ▸ zsu W 5 s (grownCap W s.size 0 5) hm);have HP:=z2c hp;have HU:=z2c (zub p s.data.toList);rw[zag]at HU;have HL:=z2c (zag s);clear hp;rcases HU.out with⟨h1,h2⟩|⟨h1,h2⟩
 ·have H2:=z2c h2;clear HU h2;go_enter Tryz.func32,Tryz.ntmps32;go_wp2_with(go_at_call 90;refine(zfk _ _ _ _ _ (HB.out _) HP.out).mono ?_;rintro e w' ⟨rfl,rfl⟩)
  go_ret;exact Ret.of (by rw[<-H2.out];rfl) bel
 ·have H2:=z2c h2;clear HU h2;go_enter Tryz.func32,Tryz.ntmps32;go_wp2_with(go_at_call 90;refine(zfk _ _ _ _ _ (HB.out _) HP.out).mono ?_;rintro e w' ⟨rfl,rfl⟩)
  go_ret;exact Ret.of (by rw[H2.out];rfl) bel
theorem ztf:zla 33 spB:=⟨enters_of Tryz.func33 (by kernel_rfl) rfl,zcb⟩
theorem zxp (c:UInt8) (w:World):Calls Tryz.prog 107 #[.int .u8 c.toNat] w fun e w'=>e= .returned (.bool (!digB c))/\w=w':=by
 go_enter Tryz.func107,Tryz.ntmps107;go_wp2_with(go_at_call 108;refine(zc1 _ _).mono ?_;rintro e w' ⟨rfl,rfl⟩)
 all_goals go_ret
 all_goals exact⟨rfl,rfl⟩
theorem ztu:zla 107 (fun c=> !digB c):=⟨enters_of Tryz.func107 (by kernel_rfl) rfl,zxp⟩
theorem zrn (c:UInt8) (w:World):Calls Tryz.prog 64 #[.int .u8 c.toNat] w fun e w'=>e= .returned (.bool (!sepB c))/\w=w':=by
 cases hs:spB c
 ·have HX:Hid ((!sepB c)=((c.toNat:Int) !=44)):=by
   show _=_;unfold sepB;rw[hs,Bool.eq_iff_iff];simp;omega
  go_enter Tryz.func64,Tryz.ntmps64;go_wp2_with(go_at_call 33;refine(zcb _ _).mono ?_;rintro e w' ⟨rfl,rfl⟩;rw[hs])
  all_goals go_ret
  all_goals exact⟨zbu HX.out.symm,rfl⟩
 ·have HX:Hid ((!sepB c)=false):=by
   show _=_;unfold sepB;rw[hs];rfl
  go_enter Tryz.func64,Tryz.ntmps64;go_wp2_with(go_at_call 33;refine(zcb _ _).mono ?_;rintro e w' ⟨rfl,rfl⟩;rw[hs])
  all_goals go_ret
  all_goals exact⟨zbu HX.out.symm,rfl⟩
theorem zpo:zla 64 (fun c=> !sepB c):=⟨enters_of Tryz.func64 (by kernel_rfl) rfl,zrn⟩
theorem zxo (p:UInt8->Bool):(fun c=> !(fun c=> !p c) c)=p:=by funext c;simp
theorem zur (s:ByteArray) (w:World) (hm:s.size<=9223372036854775807):
  Calls Tryz.prog 44 #[.string s] w (Ret (.tuple #[.string ⟨(s.data.toList.dropWhile digB).toArray⟩,.bool (decide (1<=tw digB s.data.toList)&&decide (tw digB s.data.toList<=9))]) w):=by
 have HU:=z2c (fun W=>zxo digB ▸ zjc s _ _ W ztu hm);have hle:=zhv digB s.data.toList;rw[zag]at hle;have HS:=z2c (zdn s (tw digB s.data.toList));have HD:=z2c (zdm digB s.data.toList);generalize tw digB s.data.toList=n at*;by_cases h1:1<=n
 ·by_cases h2:n<=9;all_goals
   go_enter Tryz.func44,Tryz.ntmps44;go_wp2_with(go_at_call 32;(with_reducible refine(HU.out _).mono ?_);rintro e w' ⟨rfl,X,rfl⟩)
   go_ret2;exact Ret.of (by rw[<-HD.out,<-HS.out];simp[h1,h2];try omega) bel
 ·go_enter Tryz.func44,Tryz.ntmps44;go_wp2_with(go_at_call 32;(with_reducible refine(HU.out _).mono ?_);rintro e w' ⟨rfl,X,rfl⟩)
  go_ret2;exact Ret.of (by rw[<-HD.out,<-HS.out];simp;try omega) bel
end Go.Proofs.YtiikamobcmgekaaGreatDoor
