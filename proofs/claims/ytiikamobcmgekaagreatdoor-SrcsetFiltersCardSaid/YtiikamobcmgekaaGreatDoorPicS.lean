/- The walks of the reference: whether a picture may be told, whether two lists are the same; the small thing that is tried first. -/
import Derived.Test.YtiikamobcmgekaaGreatDoorPicW
import Derived.Test.YtiikamobcmgekaaGreatDoorPicB
namespace Go.Proofs.YtiikamobcmgekaaGreatDoor
open Bool renaming eq_iff_iff→z2l
open Lib renaming hid→z2c
open List renaming all_cons→z4s,drop_eq_nil_of_le→z2o,drop_zero→z2w,getElem?_append_right→z2y,takeWhile_cons_of_pos→z3d
open Nat renaming le_refl→z2k
open Tryz renaming func81→z4t,ntmps81→z4k,prog→z2f
set_option maxRecDepth 100000
set_option maxHeartbeats 8000000
open Go.RowKit Go.Shelf
def nulB (c:UInt8):Bool:=decide (c.toNat=48)
def zgk (l:Bs):Bool:=(l.takeWhile digB).all nulB
theorem zxm {c:UInt8} {r:Bs} (h:digB c=true):zgk (c::r)=(nulB c&&zgk r):=by
 unfold zgk;rw[z3d h,z4s]
theorem z1f {c:UInt8} {r:Bs} (h:digB c=true):tw digB (c::r)=tw digB r+1:=by
 unfold tw;rw[z3d h];rfl
theorem zrw {c:UInt8} {r:Bs} (h:digB c=false):tw digB (c::r)=0/\zgk (c::r)=true:=by
 unfold tw zgk;rw[List.takeWhile_cons_of_neg (by simp[h])];exact⟨rfl,rfl⟩
theorem zoj (s:ByteArray) (w:World) (hm:s.size<=9223372036854775807):
  Calls z2f 168 #[.string s] w fun e w'=>e= .returned (.tuple #[.int .i64 (tw digB s.data.toList),.bool (zgk s.data.toList)])/\w=w':=by
 obtain⟨N,hN⟩: ∃N,tw digB s.data.toList=N:=⟨_,rfl⟩;obtain⟨Z,hZ⟩: ∃Z,zgk s.data.toList=Z:=⟨_,rfl⟩;have HN:=z2c hN;have HZ:=z2c hZ;rw[hN,hZ];clear hN hZ;go_enter Tryz.func168,Tryz.ntmps168;go_wp2_with fail
 go_loop [4,5] (fun i z=> ∃(k:Nat) (b:Bool),k<=s.size/\i= .int .i64 k/\z= .bool b/\Hid (k+tw digB (s.data.toList.drop k)=N)/\Hid ((b&&zgk (s.data.toList.drop k))=Z)) (fun i _=>s.size-(intOf i).toNat)
 case atStart=>exact⟨0,true,by omega,rfl,rfl,by show _=_;rw[z2w,HN.out];omega,by show _=_;rw[z2w,HZ.out];rfl⟩
 case round=>
  obtain⟨k,b,hk,rfl,rfl,HK,HJ⟩:=hrel;by_cases hlt:k<s.size
  ·have HD:=z2c (za9 s k hlt);cases hs:digB s[k]
   ·have H1:Hid ((k:Int)=N):=by
     show _=_;have:=HK.out;rw[HD.out,(zrw hs).1]at this;omega
    have H2:Hid (b=Z):=by
     show _=_;have:=HJ.out;rw[HD.out,(zrw hs).2,Bool.and_true]at this;exact this
    go_wp2_with(go_at_call 166;(with_reducible refine(zbl _ _).mono ?_);rintro e w' ⟨rfl,rfl⟩;rw[hs])
    go_ret2;exact⟨by rw[<-H1.out,<-H2.out];rfl,rfl⟩
   ·have H1:Hid (k+1+tw digB (s.data.toList.drop (k+1))=N):=by
     show _=_;rw[<-HK.out,HD.out,z1f hs];omega
    have H2:Hid (((b&&nulB s[k])&&zgk (s.data.toList.drop (k+1)))=Z):=by
     show _=_;rw[<-HJ.out,HD.out,zxm hs,Bool.and_assoc]
    have e48:((s[k].toNat:Int)==48)=nulB s[k]:=by unfold nulB;rw[z2l];simp;omega
    cases b;all_goals
     go_wp2_with(go_at_call 166;(with_reducible refine(zbl _ _).mono ?_);rintro e w' ⟨rfl,rfl⟩;rw[hs])
     go_round
     case rel=>exact⟨k+1,_,by omega,by go_num,rfl,H1,H2⟩
     case measure=>simp[intOf];omega
  ·have H1:Hid ((k:Int)=N):=by
    show _=_;have:=HK.out;rw[z2o (by rw[zag];omega)]at this;simp[tw]at this;omega
   have H2:Hid (b=Z):=by
    show _=_;have:=HJ.out;rw[z2o (by rw[zag];omega)]at this;simpa[zgk]using this
   go_wp2
   go_ret2;exact⟨by rw[<-H1.out,<-H2.out];rfl,rfl⟩
theorem zwp (s:ByteArray) (w:World) (hm:s.size<=140737488355328):
  Calls z2f 75 #[.string s] w fun e w'=>e= .returned (.string ⟨(s.data.toList.take (szL 0 s.data.toList)).toArray⟩)/\w=w':=by
 obtain⟨N,hN⟩: ∃N,szL 0 s.data.toList=N:=⟨_,rfl⟩;have HN:=z2c hN;rw[hN];clear hN;go_enter Tryz.func75,Tryz.ntmps75;go_wp2_with fail
 go_loop [3,4] (fun d i=> ∃(k n:Nat),k<=s.size/\n<=k/\i= .int .i64 k/\d= .int .i64 n/\Hid (k+szL n (s.data.toList.drop k)=N)) (fun _ i=>s.size-(intOf i).toNat)
 case atStart=>exact⟨0,0,by omega,by omega,rfl,rfl,by show _=_;rw[z2w,HN.out];omega⟩
 case round=>
  obtain⟨k,n,hk,hn,rfl,rfl,HK⟩:=hrel;by_cases hlt:k<s.size
  ·have HD:=z2c (za9 s k hlt);by_cases h40:s[k].toNat=40
   ·have b40:((s[k].toNat:Int)==40)=true:=by simp;omega
    have b41:((s[k].toNat:Int)==41)=false:=by simp;omega
    have b44:((s[k].toNat:Int)==44)=false:=by simp;omega
    have H1:Hid (k+1+szL (n+1) (s.data.toList.drop (k+1))=N):=by
     show _=_;rw[<-HK.out,HD.out,szL,if_neg (by omega),if_pos h40];omega
    clear h40;go_wp2
    go_round
    case rel=>exact⟨k+1,n+1,by omega,by omega,by go_num,by go_num,H1⟩
    case measure=>simp[intOf];omega
   ·have b40:((s[k].toNat:Int)==40)=false:=by simp;omega
    by_cases h41:s[k].toNat=41
    ·have b41:((s[k].toNat:Int)==41)=true:=by simp;omega
     have b44:((s[k].toNat:Int)==44)=false:=by simp;omega
     have H1:Hid (k+1+szL (n-1) (s.data.toList.drop (k+1))=N):=by
      show _=_;rw[<-HK.out,HD.out,szL,if_neg (by omega),if_neg h40,if_pos h41];omega
     clear h40 h41;by_cases h0:0<n
     ·have hz:(0:Int)<n:=by omega
      go_wp2
      go_round
      case rel=>exact⟨k+1,n-1,by omega,by omega,by go_num,by first|go_num|(congr 1;omega),H1⟩
      case measure=>simp[intOf];omega
     ·have hz: ¬(0:Int)<n:=by omega
      go_wp2
      go_round
      case rel=>exact⟨k+1,n,by omega,by omega,by go_num,rfl,by rw[show n-1=n by omega]at H1;exact H1⟩
      case measure=>simp[intOf];omega
    ·have b41:((s[k].toNat:Int)==41)=false:=by simp;omega
     by_cases h44:s[k].toNat=44/\n=0
     ·obtain⟨h1,rfl⟩:=h44;have b44:((s[k].toNat:Int)==44)=true:=by simp;omega
      have H1:Hid (s.extract 0 k=⟨(s.data.toList.take N).toArray⟩):=by
       show _=_;rw[zfw,<-HK.out,HD.out,szL,if_pos ⟨h1,rfl⟩];rfl
      clear h40 h41 h1;go_wp2
      go_ret;exact⟨by rw[<-H1.out];rfl,rfl⟩
     ·have H1:Hid (k+1+szL n (s.data.toList.drop (k+1))=N):=by
       show _=_;rw[<-HK.out,HD.out,szL,if_neg h44,if_neg h40,if_neg h41];omega
      have hc:((s[k].toNat:Int)==44)=false\/(((s[k].toNat:Int)==44)=true/\((n:Int)==0)=false):=by
       by_cases h1:s[k].toNat=44
       ·right;exact⟨by simp;omega,by simp;omega⟩
       ·left;simp;omega
      clear h40 h41 h44;rcases hc with b44|⟨b44,b0⟩
      all_goals
       go_wp2
       go_round
       case rel=>exact⟨k+1,n,by omega,by omega,by go_num,rfl,H1⟩
       case measure=>simp[intOf];omega
  ·have H1:Hid (s=⟨(s.data.toList.take N).toArray⟩):=by
    show _=_;have h2:s.size<=N:=by have:=HK.out;omega
    rw[List.take_of_length_le (by rw[zag];exact h2)]
   go_wp2
   go_ret;exact⟨by rw[<-H1.out];rfl,rfl⟩
theorem z12 (s:ByteArray) (k:Nat) (h:k<s.size):s.extract k (k+1)=⟨([s[k]]:Bs).toArray⟩:=by
 rw[zv7,zst _ _ _ (z2k _) (by rw[zag];exact h),z2o (by simp;omega)];rfl
theorem zqn (s:ByteArray) (w:World) (hm:s.size<=140737488355):Calls z2f 76 #[.string s] w (RetS w (zbe s.data.toList).length 1 ((zbe s.data.toList).map sv)):=by
 obtain⟨L,hL⟩: ∃L,zbe s.data.toList=L:=⟨_,rfl⟩;have HL:=z2c hL;have hfew:=zg1 s.data.toList;rw[zag]at hfew;rw[hL]at hfew ⊢;clear hL;go_enter Tryz.func76,Tryz.ntmps76;go_wp2_with fail
 go_loopw [3,4,5] (fun v x i wr=> ∃(k:Nat) (us:List Bs) (acc:Bs) (X:Gr),k<=s.size/\acc.length+us.length<=k/\i= .int .i64 k/\x= .string ⟨acc.toArray⟩/\wr=w.grow X/\(w.grow X).ownsRow w.heap.size 9 1 v us.length (us.map sv)/\Hid (us++zbi acc (s.data.toList.drop k)=L)) (fun _ _ i _=>s.size-(intOf i).toNat)
 case atStart=>exact⟨0,[],[],_,by omega,by simp,rfl,rfl,(zb6 w).symm,by rw[zb6];exact World.ownsRow_nil _ _ _ _,by show _=_;rw[List.nil_append,z2w];exact HL.out⟩
 case round=>
  obtain⟨k,us,acc,X,hk,hle,rfl,rfl,rfl,hown,HK⟩:=hrel;obtain⟨C,hC⟩: ∃S:ByteArray,⟨acc.toArray⟩=S:=⟨_,rfl⟩;have hCe:C.toList.isEmpty=decide (acc=[]):=by rw[zf7,<-hC]
  have hCs:C.size<=140737488355:=by rw[<-hC];show acc.length<=_;omega
  have HC:=z2c hC;rw[hC];clear hC;by_cases hlt:k<s.size
  ·have HD:=z2c (za9 s k hlt);cases hs:spB s[k]
   ·have HN:=z2c (show us++zbi (acc++[s[k]]) (s.data.toList.drop (k+1))=L by rw[<-HK.out,HD.out,zbi,if_neg (by simp[hs])]);have hcu:s.extract k (k+1)=⟨([s[k]]:Bs).toArray⟩:=z12 s k hlt;have HA:Hid (C++⟨([s[k]]:Bs).toArray⟩=⟨(acc++[s[k]]).toArray⟩):=by show _=_;rw[<-HC.out,zmb]
    go_wp2_with(go_at_call 74;(with_reducible refine(zbt _ _).mono ?_);rintro e w' ⟨rfl,rfl⟩;rw[hs])
    go_roundw
    case rel=>exact⟨k+1,us,acc++[s[k]],X,by omega,by simp;omega,by go_num,by rw[<-HA.out];try rfl,rfl,hown,HN⟩
    case measure=>simp[intOf];omega
   ·by_cases ha:acc=[]
    ·have HN:=z2c (show us++zbi [] (s.data.toList.drop (k+1))=L by rw[<-HK.out,HD.out,zbi,if_pos hs,if_pos ha]);rw[show decide (acc=[])=true by simp[ha]]at hCe;go_wp2_with(go_at_call 74;(with_reducible refine(zbt _ _).mono ?_);rintro e w' ⟨rfl,rfl⟩;rw[hs])
     go_roundw
     case rel=>exact⟨k+1,us,[],X,by omega,by simp;omega,by go_num,rfl,rfl,hown,HN⟩
     case measure=>simp[intOf];omega
    ·have HN:=z2c (show us++[acc]++zbi [] (s.data.toList.drop (k+1))=L by rw[<-HK.out,HD.out,zbi,if_pos hs,if_neg ha];simp);rw[show decide (acc=[])=false by simp[ha]]at hCe;have HM:=z2c (show(us++[acc]).map sv=us.map sv++[.string C] by rw[List.map_append,<-HC.out];rfl);have HM2:=z2c (show(us++[acc]).length=us.length+1 by simp);have hal:1<=acc.length:=by cases acc with|nil=>exact absurd rfl ha|cons=>simp
     go_wp2_with(first|(go_at_call 74;(with_reducible refine(zbt _ _).mono ?_);rintro e w' ⟨rfl,rfl⟩;rw[hs])|(at_builtin;go_loud(refine zbx rfl _ _ 47 rfl zg3 w rfl (hown.alloc _) bel ⟨_,0,none⟩ 1 1 [.string C] rfl rfl (zaf (c:= #[.string C]) (by simp[go_sem])) (by simp[Value.oneCell']) (by unfold maxLen;omega) (by omega) ?_);intro v' Y hown' _))
     go_roundw
     case rel=>exact⟨k+1,us++[acc],[],Y,by omega,by rw[HM2.out];simp;omega,by go_num,rfl,rfl,by rw[HM.out,HM2.out];exact hown',HN⟩
     case measure=>simp[intOf];omega
  ·have HE:=z2c (zbv s k (by omega));by_cases ha:acc=[]
   ·have HN:Hid (us=L):=by show _=_;rw[<-HK.out,HE.out,zbi,if_pos ha];simp
    rw[show decide (acc=[])=true by simp[ha]]at hCe;go_wp2
    go_ret;rw[<-HN.out];exact RetS.own bel hown
   ·have HN:Hid (us++[acc]=L):=by show _=_;rw[<-HK.out,HE.out,zbi,if_neg ha]
    rw[show decide (acc=[])=false by simp[ha]]at hCe;have HM:=z2c (show(us++[acc]).map sv=us.map sv++[.string C] by rw[List.map_append,<-HC.out];rfl);have HM2:=z2c (show(us++[acc]).length=us.length+1 by simp);go_wp2_with(at_builtin;go_loud(refine zbx rfl _ _ 47 rfl zg3 w rfl (hown.alloc _) bel ⟨_,0,none⟩ 1 1 [.string C] rfl rfl (zaf (c:= #[.string C]) (by simp[go_sem])) (by simp[Value.oneCell']) (by unfold maxLen;omega) (by omega) ?_);intro v' Y hown' _)
    go_ret;rw[<-HN.out];exact RetS.own bel (by rw[HM.out,HM2.out];exact hown')
def zv8:Value->Nat
 | .string t=>t.size
 |_=>0
theorem zs9 (l:Bs):zce (l++[44])=zce l:=by
 unfold zce;rw[List.reverse_append,List.reverse_singleton,List.singleton_append,List.dropWhile_cons_of_pos (by decide)]
theorem zzg {l:Bs} {c:UInt8} (h:c.toNat≠44):zce (l++[c])=l++[c]:=by
 unfold zce;rw[List.reverse_append,List.reverse_singleton,List.singleton_append,List.dropWhile_cons_of_neg (by simp[h])];simp
theorem zl8 (l:Bs) (c:UInt8):zgl (l++[c])=decide (c.toNat=44):=by
 unfold zgl;rw[List.getLast?_append];simp
theorem zrb {q:Bs} (h:q≠[]): ∃l c,q=l++[c]:=by
 rcases List.eq_nil_or_concat q with h1|h1
 ·exact absurd h1 h
 ·obtain⟨l,c,h1⟩:=h1;exact⟨l,c,by rw[h1,List.concat_eq_append]⟩
theorem Rd.str1 {w:World} {A:Option Addr} {m c:Nat} {l:List Bs} (h:Rd w (.slice A m c) l.length 1 (l.map sv)) (k:Nat) (hk:k<l.length):
  ∃b off,A=some ⟨b,off,none⟩/\b<w.heap.size/\w.cell? ⟨b,off+k,none⟩=some (sv l[k]):=by
 rw[<-zv6]at h;obtain⟨b,off,rfl,hb,hc⟩:=Rd.flat (n:=1) (cells:=svL) (fun _=>rfl) h k hk;refine⟨b,off,rfl,hb, ?_⟩;have:=hc 0 _ (by omega) rfl;rwa[Nat.mul_one,Nat.add_zero]at this
theorem zl4 (sep:Bs) (us:List Bs): ∀k,k<=us.length->(zba sep (us.take k)).length<=(zba sep us).length:=by
 intro k hk;induction us generalizing k with
 |nil=>simp
 |cons u us ih=>
  cases k with
  |zero=>simp[zba]
  |succ k=>
   rw[List.take_succ_cons];cases us with
   |nil=>simp
   |cons v us=>
    cases k with
    |zero=>simp[zba]
    |succ k=>
     have:=ih (k+1) (by simpa using hk);rw[List.take_succ_cons]at this ⊢;rw[zba,zba];simp;omega
theorem z1u (V:ByteArray):(⟨#[]⟩:ByteArray)++V=V:=by
 apply zgq;rw[ByteArray.data_append];simp
theorem zf4 (U:ByteArray) (u:Bs) (h:U.data.toList=u) (k:Nat) (hk:k<U.size):some U[k]=u[k]? :=by
 rw[<-h,List.getElem?_eq_getElem (by rw[zag];exact hk)];rfl
theorem zwr (s:Bs) (w:World) (hm:s.length<=140737488355):Calls z2f 26 #[.string ⟨s.toArray⟩] w (RetS w (picL s).length 2 (zca (picL s))):=by
 obtain⟨L,hL⟩: ∃L,picL s=L:=⟨_,rfl⟩;have HL:=z2c hL;have hfew:=zqr _ s (z2k _);rw[hL]at hfew ⊢;clear hL;go_enter Tryz.func26,Tryz.ntmps26;go_wp2_with fail
 go_loopw [0,3] (fun x v wr=> ∃(u:Bs) (us:List Pic) (X:Gr),u.length+us.length<=s.length/\x= .string ⟨u.toArray⟩/\wr=w.grow X/\(w.grow X).ownsRow w.heap.size 38 2 v us.length (zca us)/\Hid (us++picL u=L)) (fun x _ _=>zv8 x)
 case atStart=>exact⟨s,[],_,by simp,rfl,(zb6 w).symm,by rw[zb6];exact World.ownsRow_nil _ _ _ _,HL⟩
 case round=>
  obtain⟨u,us,X,hle,rfl,rfl,hown,HK⟩:=hrel;go_wp2_with fail
  go_loop [0] (fun x=> ∃(u':Bs),u'.length<=u.length/\x= .string ⟨u'.toArray⟩/\Hid (picL u'=picL u)) (fun x=>zv8 x)
  case atStart=>exact⟨u,z2k _,rfl,rfl⟩
  case round=>
   obtain⟨u',hu,rfl,HU⟩:=hrel;cases u' with
   |nil=>
    have HN:Hid (us=L):=by show _=_;rw[<-HK.out,<-HU.out,zh2,List.append_nil]
    go_wp2
    go_ret;rw[<-HN.out];exact RetS.own bel hown
   |cons c r=>
    obtain⟨U,hU⟩: ∃U:ByteArray,⟨(c::r).toArray⟩=U:=⟨_,rfl⟩;have hUs:U.size=r.length+1:=by rw[<-hU];rfl
    have hUe:=zro (a:=U) (by omega);have hU1:0<U.size:=by omega
    have hUd:U.data.toList=c::r:=by rw[<-hU]
    have hU0:U[0]'hU1=c:=by have:=zf4 U _ hUd 0 hU1;simpa using this
    have hUm:U.size<=140737488355:=by simp at hu;omega
    have HUU:=z2c hU;have HUd:=z2c hUd;have HUs:=z2c hUs;have hrl:r.length<=140737488355:=by omega
    rw[hU];cases hs:sepB c
    ·have hsp:=zjt hs;have h44:((c.toNat:Int)==44)=false:=by
      unfold sepB at hs;simp at hs;simp;omega
     obtain⟨q,hq⟩: ∃q,(c::r).takeWhile nspB=q:=⟨_,rfl⟩;obtain⟨t,ht⟩: ∃t,(c::r).dropWhile nspB=t:=⟨_,rfl⟩;have HR:=z2c (zhf (r:=r) hs);change Hid (picL (c::r)=if zgl ((c::r).takeWhile nspB)then⟨zce ((c::r).takeWhile nspB),[]⟩::picL ((c::r).dropWhile nspB)else⟨(c::r).takeWhile nspB,zba [32] (zbe (((c::r).dropWhile nspB).take (szL 0 ((c::r).dropWhile nspB))))⟩::picL (((c::r).dropWhile nspB).drop (szL 0 ((c::r).dropWhile nspB))))at HR;rw[hq,ht]at HR;have htl:t.length<=r.length:=by rw[<-ht];exact zgb hsp
     have e1:U.extract 0 (tw nspB (c::r))=⟨q.toArray⟩:=by rw[zfw,hUd,zmi,hq]
     have e2:U.extract (tw nspB (c::r)) U.size=⟨t.toArray⟩:=by rw[zdn,hUd,zdm,ht]
     have hqn:q≠[]:=by rw[<-hq,z3d (by simp[nspB,hsp])];simp
     have hql:q.length<=r.length+1:=by rw[<-hq];exact(List.takeWhile_sublist nspB).length_le
     have hN:=zhv nspB (c::r);obtain⟨q0,d,hqd⟩:=zrb hqn;have HEd:=z2c (show zgl q=decide (d.toNat=44) by rw[hqd,zl8]);have HI0:=z2c (show tw nspB (c::r)=tw nspB U.data.toList by rw[hUd]);obtain⟨Q,hQ⟩: ∃Q:ByteArray,⟨q.toArray⟩=Q:=⟨_,rfl⟩;obtain⟨T,hT⟩: ∃T:ByteArray,⟨t.toArray⟩=T:=⟨_,rfl⟩;have hQs:Q.size=q0.length+1:=by rw[<-hQ,hqd];show(q0++[d]).length=_;simp
     have hQ1:q0.length<Q.size:=by omega
     have hQm:Q.size<=140737488356:=by rw[hQs];rw[hqd]at hql;simp at hql;omega
     have hQd:Q[q0.length]'hQ1=d:=by
      have:=zf4 Q q (by rw[<-hQ]) q0.length hQ1;rw[hqd,z2y (z2k _)]at this;simpa using this
     rw[hQ]at e1;rw[hT]at e2;have HQ:=z2c hQ;have HTT:=z2c hT;have HQs:=z2c hQs;have hQi:(Q.size:Int)-1=q0.length:=by omega
     clear hQ hT hQs hUd hU hUs;generalize tw nspB (c::r)=N at*;go_wp2_with(go_at_call 74;(with_reducible refine(zbt _ _).mono ?_);rintro e w' ⟨rfl,rfl⟩;rw[hsp])
     go_loop [4] (fun i=> ∃k:Nat,k<=U.size/\i= .int .i64 k/\Hid (N=k+tw nspB (U.data.toList.drop k))) (fun i=>U.size-(intOf i).toNat)
     case atStart=>exact⟨0,by omega,rfl,by show _=_;rw[HI0.out];simp⟩
     case round=>
      obtain⟨k,hk,rfl,HI⟩:=hrel;by_cases hgo: ∃h:k<U.size,spB U[k]=false
      ·obtain⟨hlt,hsk⟩:=hgo;have HDk:=z2c (za9 U k hlt);have HN:Hid (N=k+1+tw nspB (U.data.toList.drop (k+1))):=by
        show _=_;rw[HI.out,HDk.out,zdr _ (by simp[nspB,hsk])];omega
       go_wp2_with(go_at_call 74;(with_reducible refine(zbt _ _).mono ?_);rintro e w' ⟨rfl,rfl⟩;rw[hsk])
       go_round
       case rel=>exact⟨k+1,by omega,by go_num,HN⟩
       case measure=>simp[intOf];omega
      ·have hend:(∃h:k<U.size,spB U[k]=true)\/ ¬(k<U.size):=by
        by_cases hlt:k<U.size
        ·left;refine⟨hlt, ?_⟩;cases hq:spB U[k]
         ·exact absurd ⟨hlt,hq⟩ hgo
         ·rfl
        ·right;exact hlt
       have hkt:N=k:=by
        have:=HI.out;rcases hend with⟨hlt,hq⟩|hlt
        ·rw[za9 U k hlt,zds _ (by simp[nspB,hq])]at this;omega
        ·rw[zbv U _ (by omega)]at this;simp[tw]at this;omega
       subst hkt;clear hgo;by_cases hd:d.toNat=44
       ·have bd:((d.toNat:Int)==44)=true:=by simp;omega
        have HX:=z2c (show us++[(⟨zce q,[]⟩:Pic)]++picL t=L by
         rw[<-HK.out,<-HU.out,HR.out,if_pos (by rw[HEd.out];simp[hd]),List.append_assoc];rfl)
        clear hd;rcases hend with⟨hlt,hsk⟩|hlt
        all_goals
         go_wp2_with(go_at_call 74;(with_reducible refine(zbt _ _).mono ?_);rintro e w' ⟨rfl,rfl⟩;rw[hsk])
         go_loop [5] (fun x=> ∃q':Bs,q'.length<=r.length+1/\x= .string ⟨q'.toArray⟩/\Hid (zce q'=zce q)) (fun x=>zv8 x)
         case atStart=>exact⟨q,hql,by rw[HQ.out],rfl⟩
         case round=>
          obtain⟨q',hq'l,rfl,HQ'⟩:=hrel;obtain⟨Y,hY⟩: ∃Y:ByteArray,⟨q'.toArray⟩=Y:=⟨_,rfl⟩;have hYe:Y.toList.isEmpty=decide (q'=[]):=by rw[zf7,<-hY]
          have hYs:Y.size=q'.length:=by rw[<-hY];rfl
          have HY:=z2c hY;have HYd:=z2c (show Y.data.toList=q' by rw[<-hY]);rw[hY];clear hY;have hcase:(∃q1,q'=q1++[44])\/(q'=zce q/\(q'=[]\/ ∃q1 e,q'=q1++[e]/\e.toNat≠44)):=by
           by_cases h0:q'=[]
           ·right;exact⟨by rw[<-HQ'.out,h0];rfl,Or.inl h0⟩
           ·obtain⟨q1,e,he⟩:=zrb h0;by_cases h1:e.toNat=44
            ·left;exact⟨q1,by rw[he,UInt8.toNat_inj.1 (show e.toNat=(44:UInt8).toNat from h1)]⟩
            ·right;exact⟨by rw[<-HQ'.out,he,zzg h1],Or.inr ⟨q1,e,he,h1⟩⟩
          rcases hcase with⟨q1,hq1⟩|⟨htq,hcase⟩
          ·have hYl:Y.size=q1.length+1:=by rw[hYs,hq1];simp
           have hY1:q1.length<Y.size:=by omega
           have hYd:Y[q1.length]'hY1=44:=by
            have:=zf4 Y q' HYd.out q1.length hY1;rw[hq1,z2y (z2k _)]at this;simpa using this
           have hYi:(Y.size:Int)-1=q1.length:=by omega
           have hYx:Y.extract 0 q1.length=⟨q1.toArray⟩:=by rw[zfw,HYd.out,hq1,List.take_left]
           have hYm:Y.size<=140737488356:=by omega
           have HQ1:=z2c (show zce q1=zce q by rw[<-HQ'.out,hq1,zs9]);rw[show decide (q'=[])=false by rw[hq1];simp]at hYe;have HYl:=z2c hYl;have hq1l:q1.length<=r.length+1:=by omega
           clear hYl hYs hq1;go_wp2
           go_round
           case rel=>exact⟨q1,hq1l,by rw[<-hYx],HQ1⟩
           case measure=>show q1.length<Y.size;exact hY1
          ·have HM:=z2c (show zca (us++[(⟨zce q,[]⟩:Pic)])=zca us++[.string Y,.string ⟨#[]⟩] by
            rw[zca,List.flatMap_append,<-HY.out,htq];rfl)
           have HM2:=z2c (show(us++[(⟨zce q,[]⟩:Pic)]).length=us.length+1 by simp);rcases hcase with h0|⟨q1,e,he,h1⟩
           ·rw[show decide (q'=[])=true by simp[h0]]at hYe;clear hYs h0;go_wp2_with(at_builtin;go_loud(refine zbx rfl _ _ 34 rfl zhx w rfl (hown.alloc _) bel ⟨_,0,none⟩ 1 1 [.string Y,.string ⟨#[]⟩] rfl rfl (zaf (c:= #[.string Y,.string ⟨#[]⟩]) (by simp[go_sem])) (by simp[Value.oneCell']) (by unfold maxLen;omega) (by omega) ?_);intro v' X2 hown' _)
            go_roundw
            case rel=>exact⟨t,us++[⟨zce q,[]⟩],X2,by rw[HM2.out];simp at hu;omega,by rw[HTT.out],rfl,by rw[HM.out,HM2.out];exact hown',HX⟩
            case measure=>have h1:T.size=t.length:=(by rw[<-HTT.out];rfl);show T.size<u.length;simp at hu;omega
           ·rw[show decide (q'=[])=false by rw[he];simp]at hYe;have hYl:Y.size=q1.length+1:=by rw[hYs,he];simp
            have hY1:q1.length<Y.size:=by omega
            have hYd:Y[q1.length]'hY1=e:=by
             have:=zf4 Y q' HYd.out q1.length hY1;rw[he,z2y (z2k _)]at this;simpa using this
            have hYi:(Y.size:Int)-1=q1.length:=by omega
            have hYm:Y.size<=140737488356:=by omega
            have be:((e.toNat:Int)==44)=false:=by simp;omega
            clear hYl hYs he h1;go_wp2_with(at_builtin;go_loud(refine zbx rfl _ _ 34 rfl zhx w rfl (hown.alloc _) bel ⟨_,0,none⟩ 1 1 [.string Y,.string ⟨#[]⟩] rfl rfl (zaf (c:= #[.string Y,.string ⟨#[]⟩]) (by simp[go_sem])) (by simp[Value.oneCell']) (by unfold maxLen;omega) (by omega) ?_);intro v' X2 hown' _)
            go_roundw
            case rel=>exact⟨t,us++[⟨zce q,[]⟩],X2,by rw[HM2.out];simp at hu;omega,by rw[HTT.out],rfl,by rw[HM.out,HM2.out];exact hown',HX⟩
            case measure=>have h1:T.size=t.length:=(by rw[<-HTT.out];rfl);show T.size<u.length;simp at hu;omega
       ·have bd:((d.toNat:Int)==44)=false:=by simp;omega
        obtain⟨m,hmm⟩: ∃m,szL 0 t=m:=⟨_,rfl⟩;have hmt:=zzl t 0;rw[hmm]at hmt;obtain⟨S,hS⟩: ∃S:ByteArray,⟨(t.take m).toArray⟩=S:=⟨_,rfl⟩;obtain⟨T2,hT2⟩: ∃S:ByteArray,⟨(t.drop m).toArray⟩=S:=⟨_,rfl⟩;have hTd:T.data.toList=t:=by rw[<-HTT.out]
        have hTs:T.size=t.length:=by rw[<-HTT.out];rfl
        have HSz:=z2c (fun W=>show Calls z2f 75 #[.string T] W fun e w'=>e= .returned (.string S)/\W=w' from by
         have:=zwp T W (by omega);rw[hTd,hmm,hS]at this;exact this)
        have hSs:S.size=m:=by rw[<-hS];show(t.take m).length=m;simp;omega
        have e4:T.extract S.size T.size=T2:=by rw[hSs,zdn,hTd,hT2]
        have hm1:S.size<=T.size:=by omega
        have hm3:T.size<=140737488355:=by omega
        obtain⟨ws,hws⟩: ∃ws,zbe (t.take m)=ws:=⟨_,rfl⟩;have hwf:=zg1 (t.take m);have hjl:=zli (t.take m);have htk:(t.take m).length<=t.length:=by simp;omega
        rw[hws]at hwf hjl;have HF:=z2c (fun W=>show Calls z2f 76 #[.string S] W (RetS W ws.length 1 (ws.map sv))from by
         have:=zqn S W (by omega);rw[show S.data.toList=t.take m by rw[<-hS],hws]at this;exact this)
        obtain⟨x,hx⟩: ∃x:Pic,x=⟨q,zba [32] ws⟩:=⟨_,rfl⟩;obtain⟨l2,hl2⟩: ∃l2,l2=t.drop m:=⟨_,rfl⟩;have HX:=z2c (show us++[x]++picL l2=L by
         rw[hx,hl2,<-HK.out,<-HU.out,HR.out,if_neg (by rw[HEd.out];simp[hd]),hmm,hws,List.append_assoc];rfl)
        have HL2:=z2c (show T2=⟨l2.toArray⟩ by rw[hl2,hT2]);have hll:l2.length<=r.length:=by rw[hl2,List.length_drop];omega
        have HXu:=z2c (show sv x.url= .string Q by rw[hx,sv,HQ.out]);have HXs:=z2c (show x.size=zba [32] ws by rw[hx]);have hwl:ws.length<=140737488355:=by omega
        have hpre: ∀k,k<=ws.length->(zba [32] (ws.take k)).length<=(zba [32] ws).length:=zl4 [32] ws;have HP:=z2c hpre;have hjl2:(zba [32] ws).length<=140737488355:=by omega
        clear hd hmm hmt hS hT2 hTd hTs hSs hws htk hx hl2 hpre;rcases hend with⟨hlt,hsk⟩|hlt
        all_goals
         go_wp2_with(first|(go_at_call 74;(with_reducible refine(zbt _ _).mono ?_);rintro e w' ⟨rfl,rfl⟩;rw[hsk])|(go_at_call 75;(with_reducible refine(HSz.out _).mono ?_);rintro e w' ⟨rfl,rfl⟩)|(go_at_call 76;(with_reducible refine(HF.out _).mono ?_);rintro e w' ⟨A3,c3,X3,rfl,rfl,hc3,hr3⟩))
         have HR3:=z2c hr3;clear hr3;go_loop [8,9] (fun x i=> ∃k:Nat,k<=ws.length/\i= .int .i64 k/\x= .string ⟨(zba [32] (ws.take k)).toArray⟩) (fun _ i=>ws.length-(intOf i).toNat)
         case atStart=>exact⟨0,by omega,rfl,rfl⟩
         case round=>
          obtain⟨k,hk,rfl,rfl⟩:=hrel;by_cases hlt2:k<ws.length
          ·obtain⟨b,off,rfl,hb,c0⟩:=HR3.out.str1 k hlt2;have hnx:zba [32] (ws.take (k+1))=if k=0 then ws[k]else zba [32] (ws.take k)++[32]++ws[k]:=by
            rw[List.take_succ_eq_append_getElem hlt2,zkc];by_cases h0:k=0
            ·subst h0;simp
            ·rw[if_neg h0,if_neg (by intro h;have:=congrArg List.length h;rw[List.length_take,List.length_nil]at this;omega)]
           have HNX:=z2c hnx;have hpl:=HP.out (k+1) (by omega);have hpl0:=HP.out k (by omega);obtain⟨Z,hZ⟩: ∃Z:ByteArray,⟨(zba [32] (ws.take k)).toArray⟩=Z:=⟨_,rfl⟩;obtain⟨V,hV⟩: ∃Z:ByteArray,⟨(ws[k]).toArray⟩=Z:=⟨_,rfl⟩;rw[sv,hV]at c0;have hzl:Z.size<=140737488355:=by rw[<-hZ];exact Nat.le_trans hpl0 hjl2
           have hvl:V.size<=140737488355:=by
            rw[<-hV];show(ws[k]).length<=_;rw[hnx]at hpl;split at hpl
            ·omega
            ·simp at hpl;omega
           have HZV:=z2c (show(⟨(zba [32] (ws.take (k+1))).toArray⟩:ByteArray)=if k=0 then V else Z++⟨#[32]⟩++V by
            rw[hnx,<-hZ,<-hV];split
            ·rfl
            ·rw[show(⟨#[32]⟩:ByteArray)=⟨([32]:Bs).toArray⟩from rfl,zmb,zmb])
           have HZ0:=z2c (fun(h:k=0)=>show Z=⟨#[]⟩ by subst h;rw[<-hZ];rfl);rw[hZ];clear hnx hpl hpl0 hZ hV;by_cases h0:k=0
           ·have hZ0:=HZ0.out h0;subst hZ0;have HZV2:=z2c (show(⟨(zba [32] (ws.take (k+1))).toArray⟩:ByteArray)=⟨#[]⟩++V by rw[HZV.out,if_pos h0,z1u]);subst h0;simp only[Nat.add_zero]at c0;go_wp2
            go_round
            case rel=>exact⟨0+1,by omega,by go_num,by rw[HZV2.out]⟩
            case measure=>simp[intOf];omega
           ·have HZV2:=z2c (show(⟨(zba [32] (ws.take (k+1))).toArray⟩:ByteArray)=Z++⟨#[32]⟩++V by rw[HZV.out,if_neg h0]);have h1:(0:Int)<k:=by omega
            go_wp2
            go_round
            case rel=>exact⟨k+1,by omega,by go_num,by rw[HZV2.out]⟩
            case measure=>simp[intOf];omega
          ·obtain rfl:k=ws.length:=by omega
           have HM:=z2c (show zca (us++[x])=zca us++[.string Q,.string ⟨(zba [32] (ws.take ws.length)).toArray⟩] by
            rw[zca,List.flatMap_append,List.take_length];show _++([sv x.url,sv x.size]++[])=_;rw[HXu.out,HXs.out];rfl)
           have HM2:=z2c (show(us++[x]).length=us.length+1 by simp);obtain⟨Z,hZ⟩: ∃Z:ByteArray,⟨(zba [32] (ws.take ws.length)).toArray⟩=Z:=⟨_,rfl⟩;rw[hZ]at HM ⊢;clear hZ;go_wp2_with(at_builtin;go_loud(refine zbx rfl _ _ 34 rfl zhx w rfl ((zdf hown X3).alloc _) bel ⟨_,0,none⟩ 1 1 [.string Q,.string Z] rfl rfl (zaf (c:= #[.string Q,.string Z]) (by simp[go_sem])) (by simp[Value.oneCell']) (by unfold maxLen;omega) (by omega) ?_);intro v' X2 hown' _)
           go_roundw
           case rel=>exact⟨l2,us++[x],X2,by rw[HM2.out];simp at hu;omega,by rw[HL2.out],rfl,by rw[HM.out,HM2.out];exact hown',HX⟩
           case measure=>have h1:T2.size=l2.length:=(by rw[HL2.out];rfl);show T2.size<u.length;simp at hu;omega
    ·have HN:=z2c (show picL r=picL u by rw[<-HU.out,zmw hs]);have hx:U.extract 1 U.size=⟨r.toArray⟩:=by rw[zdn,<-hU];rfl
     have h2:spB c=true\/(spB c=false/\((c.toNat:Int)==44)=true):=by
      unfold sepB at hs;cases h:spB c
      ·right;rw[h]at hs;simp at hs;exact⟨rfl,by simp;omega⟩
      ·left;rfl
     clear hU hUs hUd;rcases h2 with h|⟨h,h44⟩
     all_goals
      go_wp2_with(go_at_call 74;(with_reducible refine(zbt _ _).mono ?_);rintro e w' ⟨rfl,rfl⟩;rw[h])
      go_round
      case rel=>exact⟨r,by simp at hu;omega,by rw[<-hx],HN⟩
      case measure=>show r.length<U.size;rw[HUs.out];omega
theorem ztb (l:List Pic) (k:Nat) (h:k<l.length):zd0 (l.take (k+1))=if k=0 then zeg l[k]else zd0 (l.take k)++[44,32]++zeg l[k]:=by
 unfold zd0;rw[List.take_succ_eq_append_getElem h,List.map_append,List.map_singleton,zkc];by_cases h0:k=0
 ·subst h0;simp
 ·rw[if_neg h0,if_neg (by intro h;have:=congrArg List.length h;rw[List.length_map,List.length_take,List.length_nil]at this;omega)]
theorem znt (l:List Pic) (k:Nat) (h:k<=l.length):(zd0 (l.take k)).length<=(zd0 l).length:=by
 unfold zd0;rw[List.map_take];exact zl4 _ _ _ (by rw[List.length_map];exact h)
theorem zog (A:Option Addr) (n c:Nat) (l:List Pic) (w:World) (h:Rd w (.slice A n c) l.length 2 (zca l)) (hl:l.length<=1000000) (ht:(zd0 l).length<=140737488355) (he: ∀p∈l,p.url.length<=140737488355/\p.size.length<=140737488355):
  Calls z2f 29 #[.slice A n c] w fun e w'=>e= .returned (.string ⟨(zd0 l).toArray⟩)/\w=w':=by
 have HR:=z2c h;obtain⟨_,hm,A',c',heq,_⟩:=h;cases heq;have HE:=z2c he;have HT:=z2c ht;clear he ht;go_enter Tryz.func29,Tryz.ntmps29;go_wp2_with fail
 go_loop [3,4] (fun v i=> ∃k:Nat,k<=l.length/\i= .int .i64 k/\v= .string ⟨(zd0 (l.take k)).toArray⟩) (fun _ i=>l.length-(intOf i).toNat)
 case atStart=>exact⟨0,by omega,rfl,rfl⟩
 case round=>
  obtain⟨k,hk,rfl,rfl⟩:=hrel;have hp0:=Nat.le_trans (znt l k hk) HT.out;by_cases hlt:k<l.length
  ·obtain⟨b,off,rfl,hb,c0,c1⟩:=HR.out.pic k hlt;have hp1:=Nat.le_trans (znt l (k+1) hlt) HT.out;obtain⟨h1,h2⟩:=HE.out _ (List.getElem_mem hlt);have HS:=z2c (ztb l k hlt);have HPe:Hid (zeg l[k]=if l[k].size=[]then l[k].url else l[k].url++32::l[k].size):=rfl;generalize l[k]=p at*;obtain⟨O,hO⟩: ∃U:ByteArray,⟨(zd0 (l.take k)).toArray⟩=U:=⟨_,rfl⟩;obtain⟨U,hU⟩: ∃U:ByteArray,⟨p.url.toArray⟩=U:=⟨_,rfl⟩;obtain⟨Z,hZ⟩: ∃U:ByteArray,⟨p.size.toArray⟩=U:=⟨_,rfl⟩;simp only[sv,hU,hZ]at c0 c1;have hZe:Z.toList.isEmpty=decide (p.size=[]):=by rw[zf7,<-hZ]
   have hus:U.size<=140737488355:=by rw[<-hU];exact h1
   have hzs:Z.size<=140737488355:=by rw[<-hZ];exact h2
   have hos:O.size<=140737488355:=by rw[<-hO];exact hp0
   have HO0:=z2c (fun(h:k=0)=>show O=⟨#[]⟩ by subst h;rw[<-hO];rfl);have HN:=z2c (show(⟨(zd0 (l.take (k+1))).toArray⟩:ByteArray)=(if k=0 then⟨#[]⟩else O++⟨#[44,32]⟩)++(if p.size=[]then U else U++⟨#[32]⟩++Z) by
    rw[HS.out,HPe.out,<-hU,<-hZ,<-hO,show(⟨#[44,32]⟩:ByteArray)=⟨([44,32]:Bs).toArray⟩from rfl,show(⟨#[32]⟩:ByteArray)=⟨([32]:Bs).toArray⟩from rfl,show(⟨#[]⟩:ByteArray)=⟨([]:Bs).toArray⟩from rfl];by_cases h0:k=0<;>by_cases hz:p.size=[]<;>simp[h0,hz,zmb])
   rw[hO];clear hU hZ hO hp0 hp1 h1 h2;have hb0:decide (0<(k:Int))= !decide (k=0):=by rw[z2l];simp;omega
   have HC:=z2c (fun A B C D:ByteArray=>show A++B++C++D=A++(B++C++D) by simp only[ByteArray.append_assoc]);have HC2:=z2c (fun A B C:ByteArray=>show A++B++C=A++(B++C) by simp only[ByteArray.append_assoc]);by_cases h0:k=0
   ·have hO0:=HO0.out h0;subst hO0 h0;simp only[Nat.zero_mul,Nat.add_zero]at c0 c1;by_cases hz:p.size=[]
    ·rw[show decide (p.size=[])=true by simp[hz]]at hZe;have HV:=z2c (HN.out.trans (by rw[if_pos rfl,if_pos hz]));go_wp2
     go_round
     case rel=>exact⟨0+1,by omega,by go_num,by rw[HV.out]⟩
     case measure=>simp[intOf];omega
    ·rw[show decide (p.size=[])=false by simp[hz]]at hZe;have HV:=z2c (HN.out.trans (by rw[if_pos rfl,if_neg hz]));go_wp2
     go_round
     case rel=>exact⟨0+1,by omega,by go_num,by rw[HV.out];simp only[ByteArray.append_assoc]⟩
     case measure=>simp[intOf];omega
   ·have h1:(0:Int)<k:=by omega
    by_cases hz:p.size=[]
    ·rw[show decide (p.size=[])=true by simp[hz]]at hZe;have HV:=z2c (HN.out.trans (by rw[if_neg h0,if_pos hz]));go_wp2
     go_round
     case rel=>exact⟨k+1,by omega,by go_num,by rw[HV.out]⟩
     case measure=>simp[intOf];omega
    ·rw[show decide (p.size=[])=false by simp[hz]]at hZe;have HV:=z2c (HN.out.trans (by rw[if_neg h0,if_neg hz]));go_wp2
     go_round
     case rel=>exact⟨k+1,by omega,by go_num,by rw[HV.out];simp only[ByteArray.append_assoc]⟩
     case measure=>simp[intOf];omega
  ·obtain rfl:k=l.length:=by omega
   have HX:=z2c (show zd0 (l.take l.length)=zd0 l by rw[List.take_length]);go_wp2
   go_ret;exact⟨by rw[<-HX.out];rfl,rfl⟩
theorem zyc (s:Bs) (w:World) (hm:s.length<=140737488355):Calls z2f 168 #[.string ⟨s.toArray⟩] w fun e w'=>e= .returned (.tuple #[.int .i64 (tw digB s),.bool (zgk s)])/\w=w':=
 zoj ⟨s.toArray⟩ w (by show s.length<=_;omega)
theorem zz3 (s:Bs):(s.takeWhile digB).any (fun c=>decide (c.toNat≠48))= !zgk s:=by
 unfold zgk nulB;generalize s.takeWhile digB=l;induction l with
 |nil=>rfl
 |cons c l ih=>simp only[List.any_cons,z4s,ih,Bool.not_and];simp
theorem zp8 (s:Bs) (w:World) (hm:s.length<=140737488355):Calls z2f 81 #[.string ⟨s.toArray⟩] w fun e w'=>e= .returned (.bool (zdw s))/\w=w':=by
 obtain⟨S,hS⟩: ∃S:ByteArray,⟨s.toArray⟩=S:=⟨_,rfl⟩;obtain⟨R,hR⟩: ∃S:ByteArray,⟨(s.dropWhile digB).toArray⟩=S:=⟨_,rfl⟩;have HF:=z2c (fun W=>zyc s W hm);have hSe:S.toList.isEmpty=decide (s=[]):=by rw[zf7,<-hS]
 have hSs:S.size=s.length:=by rw[<-hS];rfl
 have hRw:(R.toList==[119])=decide (s.dropWhile digB=[119]):=by rw[<-hR,ByteArray.toList_eq,z2l];simp
 have hRx:(R.toList==[120])=decide (s.dropWhile digB=[120]):=by rw[<-hR,ByteArray.toList_eq,z2l];simp
 have hcut:S.extract (tw digB s) S.size=R:=by rw[zdn,<-hS];show(⟨(s.drop (tw digB s)).toArray⟩:ByteArray)=R;rw[zdm,hR]
 have hn:=zhv digB s;have hn2:tw digB s<=S.size:=by omega
 have hm2:S.size<=140737488355:=by omega
 rw[hS]at HF ⊢;by_cases hs:s=[]
 ·have HX:=z2c (show zdw s=true by rw[zdw,if_pos hs]);rw[show decide (s=[])=true by simp[hs]]at hSe;go_enter z4t,z4k;go_wp2
  go_ret;exact⟨by rw[HX.out];rfl,rfl⟩
 ·have HC:=z2c (zlq s hs);rw[show decide (s=[])=false by simp[hs]]at hSe;have hf:tw digB s<1\/(1<=tw digB s/\9<tw digB s)\/(1<=tw digB s/\tw digB s<=9):=by omega
  have HN0:=z2c (zz3 s);rcases hf with h|⟨h1,h2⟩|⟨h1,h2⟩
  ·have HX:=z2c (show zdw s=false by rw[HC.out];simp;omega);generalize tw digB s=n at*;have b1:decide ((n:Int)<1)=true:=by simp;omega
   clear hSs;go_enter z4t,z4k;go_wp2_with(go_at_call 168;(with_reducible refine(HF.out _).mono ?_);rintro e w' ⟨rfl,rfl⟩)
   go_ret;exact⟨by rw[HX.out];rfl,rfl⟩
  ·have HX:=z2c (show zdw s=false by rw[HC.out];simp;omega);generalize tw digB s=n at*;have b1:decide ((n:Int)<1)=false:=by simp;omega
   have b2:decide ((9:Int)<n)=true:=by simp;omega
   clear hSs;go_enter z4t,z4k;go_wp2_with(go_at_call 168;(with_reducible refine(HF.out _).mono ?_);rintro e w' ⟨rfl,rfl⟩)
   go_ret;exact⟨by rw[HX.out];rfl,rfl⟩
  ·have HC:=z2c (HC.out.trans (by rw[show(decide (1<=tw digB s)&&decide (tw digB s<=9))=true by simp;omega,Bool.true_and]));have b1:decide ((tw digB s:Int)<1)=false:=by simp;omega
   have b2:decide ((9:Int)<tw digB s)=false:=by simp;omega
   by_cases hw:s.dropWhile digB=[119]
   ·rw[show decide (s.dropWhile digB=[119])=true by simp[hw]]at hRw;have HX:=z2c (show zdw s= !zgk s by rw[HC.out,hw,<-HN0.out];rfl);generalize tw digB s=n at*;generalize zgk s=z at*;clear hSs h1 h2 hw;go_enter z4t,z4k;go_wp2_with(go_at_call 168;(with_reducible refine(HF.out _).mono ?_);rintro e w' ⟨rfl,rfl⟩)
    go_ret;exact⟨by rw[HX.out];rfl,rfl⟩
   ·rw[show decide (s.dropWhile digB=[119])=false by simp[hw]]at hRw;have hRs:R.size=(s.dropWhile digB).length:=by rw[<-hR];rfl
    have hRd:R.data.toList=s.dropWhile digB:=by rw[<-hR]
    have hdl:=zat digB s;cases hd:zin (s.dropWhile digB)
    ·have HX:=z2c (show zdw s=decide (s.dropWhile digB=[120]) by
      rw[HC.out];split
      ·contradiction
      ·rename_i he;rw[he]at hd;simp[zin]at hd
      ·rw[zr2])
     have hcase:R.size=0\/ ∃h:0<R.size,((R[0].toNat:Int)==46)=false:=by
      by_cases h0:R.size=0
      ·exact Or.inl h0
      ·right;refine⟨by omega, ?_⟩;have:=zf4 R _ hRd 0 (by omega);cases hq:s.dropWhile digB with
       |nil=>rw[hq,List.length_nil]at hRs;omega
       |cons c r=>
        rw[hq]at this hd;simp[zin]at hd;simp at this;rw[this];simp;omega
     generalize tw digB s=n at*;generalize decide (s.dropWhile digB=[120])=q at*;clear hSs hRs hd hw hdl hRd h1 h2;rcases hcase with h|⟨h,hb⟩
     all_goals
      go_enter z4t,z4k;go_wp2_with(go_at_call 168;(with_reducible refine(HF.out _).mono ?_);rintro e w' ⟨rfl,rfl⟩)
      go_ret;exact⟨by rw[HX.out];rfl,rfl⟩
    ·cases hq:s.dropWhile digB with
     |nil=>rw[hq]at hd;simp[zin]at hd
     |cons c r=>
      rw[hq]at hd;have hc:c.toNat=46:=by simpa[zin]using hd
      have hc2:c=46:=UInt8.toNat_inj.1 hc;subst hc2;have HX:=z2c (show zdw s=((decide (1<=tw digB r)&&decide (tw digB r<=9))&&decide (r.dropWhile digB=[120])) by
       rw[HC.out,hq,<-zr2];cases r<;>rfl)
      rw[hq]at hRs hdl hRd;have hr1:1<=R.size:=by rw[hRs];simp
      have hrs:R.size=r.length+1:=by rw[hRs];simp
      have hr0:0<R.size:=by omega
      have hR0:R[0]'hr0=46:=by have:=zf4 R _ hRd 0 hr0;simpa using this
      have hR1:R.extract 1 R.size=⟨r.toArray⟩:=by rw[zdn,hRd];rfl
      have htr:=zhv digB r;have hR3:R.extract (1+tw digB r) R.size=⟨(r.dropWhile digB).toArray⟩:=by
       rw[zdn,hRd,Nat.add_comm,List.drop_succ_cons,zdm]
      obtain⟨R2,hR2⟩: ∃S:ByteArray,⟨r.toArray⟩=S:=⟨_,rfl⟩;obtain⟨R3,hR3'⟩: ∃S:ByteArray,⟨(r.dropWhile digB).toArray⟩=S:=⟨_,rfl⟩;have hmr:R.size<=140737488355:=by omega
      have hk1:1+tw digB r<=R.size:=by omega
      have HF2:=z2c (fun W=>zyc r W (by omega));have hR3x:(R3.toList==[120])=decide (r.dropWhile digB=[120]):=by rw[<-hR3',ByteArray.toList_eq,z2l];simp
      rw[hR2]at HF2 hR1;rw[hR3']at hR3;have hm1:((1:Int)+(tw digB r:Int)).toNat=1+tw digB r:=by omega
      have hm0:(0:Int)<=1+(tw digB r:Int):=by omega
      have hm3:(1:Int)+(tw digB r:Int)<=(R.size:Int):=by omega
      have hk2:tw digB r<1\/(1<=tw digB r/\9<tw digB r)\/(1<=tw digB r/\tw digB r<=9):=by omega
      clear hR2 hR3' hRs hR hq hd hw hdl hSs hrs hRd h1 h2;generalize decide (r.dropWhile digB=[120])=q at*;generalize tw digB s=n at*;generalize tw digB r=m at*;generalize zgk r=z2 at*;rcases hk2 with h|⟨h1,h2⟩|⟨h1,h2⟩
      ·have HX2:=z2c (show zdw s=false by rw[HX.out];simp;omega);have c1:decide ((1:Int)<=m)=false:=by simp;omega
       go_enter z4t,z4k;go_wp2_with(first|(go_at_call 168;(with_reducible refine(HF.out _).mono ?_);rintro e w' ⟨rfl,rfl⟩)|(go_at_call 168;(with_reducible refine(HF2.out _).mono ?_);rintro e w' ⟨rfl,rfl⟩))
       go_ret;exact⟨by rw[HX2.out];rfl,rfl⟩
      ·have HX2:=z2c (show zdw s=false by rw[HX.out];simp;omega);have c1:decide ((1:Int)<=m)=true:=by simp;omega
       have c2:decide ((m:Int)<=9)=false:=by simp;omega
       go_enter z4t,z4k;go_wp2_with(first|(go_at_call 168;(with_reducible refine(HF.out _).mono ?_);rintro e w' ⟨rfl,rfl⟩)|(go_at_call 168;(with_reducible refine(HF2.out _).mono ?_);rintro e w' ⟨rfl,rfl⟩))
       go_ret;exact⟨by rw[HX2.out];rfl,rfl⟩
      ·have HX2:=z2c (show zdw s=q by rw[HX.out,show(decide (1<=m)&&decide (m<=9))=true by simp;omega,Bool.true_and]);have c1:decide ((1:Int)<=m)=true:=by simp;omega
       have c2:decide ((m:Int)<=9)=true:=by simp;omega
       go_enter z4t,z4k;go_wp2_with(first|(go_at_call 168;(with_reducible refine(HF.out _).mono ?_);rintro e w' ⟨rfl,rfl⟩)|(go_at_call 168;(with_reducible refine(HF2.out _).mono ?_);rintro e w' ⟨rfl,rfl⟩))
       go_ret;exact⟨by rw[HX2.out];rfl,rfl⟩
theorem zmq (p:Pic) (w:World) (h1:p.url.length<=140737488355) (h2:p.size.length<=140737488355):Calls z2f 28 #[Pic.agg p] w (Ret (.bool (okP p)) w):=by
 have HZ:=z2c (fun W=>zp8 p.size W h2);obtain⟨U,hU⟩: ∃V:ByteArray,⟨p.url.toArray⟩=V:=⟨_,rfl⟩;obtain⟨S,hS⟩: ∃V:ByteArray,⟨p.size.toArray⟩=V:=⟨_,rfl⟩;have hUe:U.toList.isEmpty=decide (p.url=[]):=by rw[zf7,<-hU]
 have hUs:U.size=p.url.length:=by rw[<-hU];rfl
 have hUd:U.data.toList=p.url:=by rw[<-hU]
 have HUd:=z2c hUd;have hUm:U.size<=140737488355:=by omega
 rw[hS]at HZ;rw[Pic.agg,sv,sv,hU,hS];have HX:=z2c (show okP p=match p.url with
  |[]=>false
  |c::r=>decide (c.toNat≠44)&& !zgl (c::r)&&(c::r).all (fun c=> !spB c)&&zdw p.size from rfl)
 generalize okP p=R at*;generalize zdw p.size=z at*;clear hU hS h1 h2;cases hq:p.url with
 |nil=>
  have HX2:=z2c (show R=false by rw[HX.out,hq]);rw[show decide (p.url=[])=true by simp[hq]]at hUe;clear hUs hUd hq;go_enter Tryz.func28,Tryz.ntmps28;go_wp2
  go_ret;exact Ret.of (by rw[HX2.out];rfl) bel
 |cons c r=>
  rw[show decide (p.url=[])=false by simp[hq]]at hUe;rw[hq]at hUs hUd;have HX2:=z2c (show R=(decide (c.toNat≠44)&& !zgl (c::r)&&(c::r).all (fun c=> !spB c)&&z) by rw[HX.out,hq]);obtain⟨q0,d,hqd⟩:=zrb (show c::r≠[] by simp);have hl:q0.length+1=U.size:=by rw[hUs,hqd];simp
  have hU0l:0<U.size:=by omega
  have hU0:U[0]'hU0l=c:=by have:=zf4 U _ hUd 0 hU0l;simpa using this
  have hU1l:q0.length<U.size:=by omega
  have hU1:U[q0.length]'hU1l=d:=by
   have:=zf4 U _ hUd q0.length hU1l;rw[hqd,z2y (z2k _)]at this;simpa using this
  have hUi:(U.size:Int)-1=q0.length:=by omega
  have HE:=z2c (show zgl (c::r)=decide (d.toNat=44) by rw[hqd,zl8]);have HA:=z2c (show((c::r).all (fun c=> !spB c))=U.data.toList.all (fun c=> !spB c) by rw[hUd]);clear hUs hUd hq hqd hl;by_cases hc:c.toNat=44
  ·have b1:((c.toNat:Int)==44)=true:=by simp;omega
   have HX3:=z2c (show R=false by rw[HX2.out];simp[hc]);clear hc;go_enter Tryz.func28,Tryz.ntmps28;go_wp2
   go_ret;exact Ret.of (by rw[HX3.out];rfl) bel
  ·have b1:((c.toNat:Int)==44)=false:=by simp;omega
   by_cases hd:d.toNat=44
   ·have b2:((d.toNat:Int)==44)=true:=by simp;omega
    have HX3:=z2c (show R=false by rw[HX2.out,HE.out];simp[hd]);clear hc hd;go_enter Tryz.func28,Tryz.ntmps28;go_wp2
    go_ret;exact Ret.of (by rw[HX3.out];rfl) bel
   ·have b2:((d.toNat:Int)==44)=false:=by simp;omega
    have HX3:=z2c (show R=(U.data.toList.all (fun c=> !spB c)&&z) by rw[HX2.out,HE.out,HA.out];simp[hc,hd]);clear hc hd;go_enter Tryz.func28,Tryz.ntmps28;go_wp2_with fail
    go_loop [3] (fun i=> ∃k:Nat,k<=U.size/\i= .int .i64 k/\Hid (R=((U.data.toList.drop k).all (fun c=> !spB c)&&z))) (fun i=>U.size-(intOf i).toNat)
    case atStart=>exact⟨0,by omega,rfl,HX3⟩
    case round=>
     obtain⟨k,hk,rfl,HK⟩:=hrel;by_cases hlt:k<U.size
     ·have HD:=z2c (za9 U k hlt);cases hs:spB U[k]
      ·have HN:=z2c (show R=((U.data.toList.drop (k+1)).all (fun c=> !spB c)&&z) by rw[HK.out,HD.out,z4s,hs];rfl);go_wp2_with(go_at_call 74;(with_reducible refine(zbt _ _).mono ?_);rintro e w' ⟨rfl,rfl⟩;rw[hs])
       go_round
       case rel=>exact⟨k+1,by omega,by go_num,HN⟩
       case measure=>simp[intOf];omega
      ·have HN:=z2c (show R=false by rw[HK.out,HD.out,z4s,hs];rfl);go_wp2_with(go_at_call 74;(with_reducible refine(zbt _ _).mono ?_);rintro e w' ⟨rfl,rfl⟩;rw[hs])
       go_ret;exact Ret.of (by rw[HN.out];rfl) bel
     ·have HN:=z2c (show R=z by rw[HK.out,zbv U k (by omega)];rfl);go_wp2_with(go_at_call 81;(with_reducible refine(HZ.out _).mono ?_);rintro e w' ⟨rfl,rfl⟩)
      go_ret;exact Ret.of (by rw[HN.out];rfl) bel
theorem z03 (a b c d:ByteArray) (w:World):(Op.equalIn 10000 38 (.agg #[.string a,.string b]) (.agg #[.string c,.string d])).run z2f w= .ok ((a.toList==c.toList)&&(b.toList==d.toList)) w:=by
 have h2:z2f.underlying 38=some (.struct (z2f.fieldsOf 38)):=by kernel_rfl
 have h3:z2f.stoodInHeld 38=false:=by kernel_rfl
 rw[run_equalIn_agg _ _ _ _ _ h2 h3];simp only[Program.fieldsOf,Tryz.underlying38];cases h1:(a.toList==c.toList)<;>cases h4:(b.toList==d.toList)<;>simp[go_sem,Tryz.underlying9,h1,h4]<;>simp_all
@[go_sem high] theorem eql_src (a b c d:ByteArray) (w:World):(binOp .eql 38 (.agg #[.string a,.string b]) (.agg #[.string c,.string d])).run z2f w= .ok (.bool ((a.toList==c.toList)&&(b.toList==d.toList))) w:=by
 rw[run_eql_struct,z03];rfl
@[go_sem high] theorem neq_src (a b c d:ByteArray) (w:World):(binOp .neq 38 (.agg #[.string a,.string b]) (.agg #[.string c,.string d])).run z2f w= .ok (.bool (!((a.toList==c.toList)&&(b.toList==d.toList)))) w:=by
 rw[run_neq_struct,z03];rfl
@[go_sem] theorem guard_src:z2f.eqGuardType z2f.depth 38=false:=by kernel_rfl
end Go.Proofs.YtiikamobcmgekaaGreatDoor
