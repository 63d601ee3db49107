/- The small thing that is tried first. -/
import Derived.Test.YtiikamobcmgekaaGreatDoorKB
import Derived.Lib.Join
import Derived.Test.YtiikamobcmgekaaGreatDoorShelf
import Derived.Test.YtiikamobcmgekaaGreatDoorPicB
import Derived.Test.YtiikamobcmgekaaGreatDoorKA
namespace Go.Proofs.YtiikamobcmgekaaGreatDoor
open Bool renaming eq_iff_iff→z2l
open Lib renaming hid→z2c,trimB→z4q,trimRightB→z58
open List renaming append_toArray→z47,cons_append→z3m,dropWhile_cons_of_neg→z2s,dropWhile_cons_of_pos→z22,dropWhile_suffix→z3s,length_cons→z2i,length_nil→z28,nil_append→z3l,push_toArray→z5l,reverse_append→z57,reverse_singleton→z5s,singleton_append→z5w,size_toArray→z5k
open Nat renaming le_refl→z2k
open Tryz renaming func155→z5x,func19→z59,ntmps155→z6h,ntmps19→z5y,prog→z2f
set_option maxRecDepth 100000
set_option maxHeartbeats 8000000
open Go.RowKit Go.Shelf
def zgt (l:Bs):Bs:=(l.reverse.dropWhile spB).reverse
theorem zsb (l:Bs) (c:UInt8) (h:spB c=true):zgt (l++[c])=zgt l:=by
 unfold zgt;rw[z57,z5s,z5w,z22 h]
theorem zsc (l:Bs) (c:UInt8) (h:spB c=false):zgt (l++[c])=l++[c]:=by
 unfold zgt;rw[z57,z5s,z5w,z2s (by simp[h])];simp
def zc7 (l:Bs):Bs:=zgt (l.dropWhile spB)
theorem zst (l:Bs) (k h:Nat) (hk:k<=h) (hh:h<l.length):(l.take (h+1)).drop k=(l.take h).drop k++[l[h]]:=by
 rw[List.take_succ_eq_append_getElem hh,List.drop_append_of_le_length (by simp;omega)]
theorem zrz (s:ByteArray) (w:World) (hm:s.size<=9223372036854775807):
  Calls z2f 225 #[.string s] w fun e w'=>e= .returned (.string ⟨(zc7 s.data.toList).toArray⟩)/\w=w':=by
 obtain⟨T,hT⟩: ∃T,zc7 s.data.toList=T:=⟨_,rfl⟩;have HT:=z2c hT;rw[hT];clear hT;have HL:=z2c (zag s);go_enter Tryz.func225,Tryz.ntmps225;go_wp2_with fail
 go_loop [3] (fun i=> ∃k:Nat,k<=s.size/\i= .int .i64 k/\Hid ((s.data.toList.drop k).dropWhile spB=s.data.toList.dropWhile spB)) (fun i=>s.size-(intOf i).toNat)
 case atStart=>exact⟨0,by omega,rfl,rfl⟩
 case round=>
  obtain⟨k,hk,rfl,HK⟩:=hrel;by_cases hlt:k<s.size
  ·have HD:=z2c (za9 s k hlt);cases hs:spB s[k]
   ·have HR:Hid (zgt (s.data.toList.drop k)=T):=by
     show _=_;rw[<-HT.out,zc7,<-HK.out,HD.out,z2s (by simp[hs])]
    go_wp2_with(go_at_call 33;(with_reducible refine(zcb _ _).mono ?_);rintro e w' ⟨rfl,rfl⟩;rw[hs])
    go_loop [4] (fun i=> ∃h:Nat,k<=h/\h<=s.size/\i= .int .i64 h/\Hid (zgt ((s.data.toList.take h).drop k)=T)) (fun i=>(intOf i).toNat)
    case atStart=>exact⟨s.size,hk,z2k _,rfl,by show _=_;rw[<-HL.out,List.take_length];exact HR.out⟩
    case round=>
     obtain⟨h,hkh,hh,rfl,HJ⟩:=hrel;by_cases hlt2:k<h
     ·obtain⟨j,rfl⟩: ∃j,h=j+1:=⟨h-1,by omega⟩;have HC:Hid ((s.data.toList.take (j+1)).drop k=(s.data.toList.take j).drop k++[s[j]]):=by
       show _=_;exact zst s.data.toList k j (by omega) (by rw[zag];omega)
      have ej:((j+1:Nat):Int)-1=j:=by omega
      cases hs2:spB s[j]
      ·have HX:Hid (s.extract k (j+1)=⟨T.toArray⟩):=by
        show _=_;rw[zv7,<-HJ.out,HC.out,zsc _ _ hs2]
       go_wp2_with(go_at_call 33;(with_reducible refine(zcb _ _).mono ?_);rintro e w' ⟨rfl,rfl⟩)
       go_ret;exact⟨by rw[<-HX.out];rfl,rfl⟩
      ·have HX:Hid (zgt ((s.data.toList.take j).drop k)=T):=by
        show _=_;rw[<-HJ.out,HC.out,zsb _ _ hs2]
       go_wp2_with(go_at_call 33;(with_reducible refine(zcb _ _).mono ?_);rintro e w' ⟨rfl,rfl⟩)
       go_round
       case rel=>exact⟨j,by omega,by omega,by go_num,HX⟩
       case measure=>simp[intOf]
     ·obtain rfl:h=k:=by omega
      have HX:Hid (T=[]):=by
       show _=_;rw[<-HJ.out,List.drop_eq_nil_of_le (by simp;omega)];rfl
      go_wp2
      go_ret;exact⟨by rw[HX.out];rfl,rfl⟩
   ·have HN:Hid ((s.data.toList.drop (k+1)).dropWhile spB=s.data.toList.dropWhile spB):=by
     show _=_;rw[<-HK.out,HD.out,z22 hs]
    go_wp2_with(go_at_call 33;(with_reducible refine(zcb _ _).mono ?_);rintro e w' ⟨rfl,rfl⟩;rw[hs])
    go_round
    case rel=>exact⟨k+1,by omega,by go_num,HN⟩
    case measure=>simp[intOf];omega
  ·obtain rfl:k=s.size:=by omega
   have HX:Hid (T=[]):=by
    show _=_;rw[<-HT.out,zc7,<-HK.out,List.drop_eq_nil_of_le (Nat.le_of_eq (zag s))];rfl
   go_wp2_with fail
   go_loop [4] (fun i=>i= .int .i64 s.size) (fun _=>0)
   case atStart=>rfl
   case round=>
    obtain rfl:=hrel;go_wp2
    go_ret;exact⟨by rw[HX.out];rfl,rfl⟩
theorem zsz (l:Bs): ∀(acc:Bs) (c:UInt8),spB c=true->zbi acc (l++[c])=zbi acc l:=by
 induction l with
 |nil=>
  intro acc c h;show(if spB c=true then(if acc=[]then zbi [] []else acc::zbi [] [])else zbi (acc++[c]) [])=(if acc=[]then []else [acc]);rw[if_pos h];split<;>rfl
 |cons d l ih=>
  intro acc c h;rw[z3m,zbi,zbi,ih _ c h,ih _ c h]
theorem zpt (l:Bs):zbe (zgt l)=zbe l:=by
 suffices H: ∀m:Bs,zbe (zgt m.reverse)=zbe m.reverse by simpa using H l.reverse
 intro m;induction m with
 |nil=>rfl
 |cons c m ih=>
  rw[List.reverse_cons];cases h:spB c
  ·rw[zsc _ _ h]
  ·rw[zsb _ _ h,ih];unfold zbe;rw[zsz _ _ _ h]
theorem zs0 (l:Bs):zbe (l.dropWhile spB)=zbe l:=by
 induction l with
 |nil=>rfl
 |cons c l ih=>
  cases h:spB c
  ·rw[z2s (by simp[h])]
  ·rw[z22 h,ih,zrt _ _ h]
theorem zlf (l:Bs):zbe (zc7 l)=zbe l:=by
 unfold zc7;rw[zpt,zs0]
theorem zpu {c:UInt8} {r:Bs} (h:spB c=false):zbe (c::r)=(c::r).takeWhile (fun c=> !spB c)::zbe ((c::r).dropWhile (fun c=> !spB c)):=by
 have hu:((c::r).takeWhile (fun c=> !spB c)).all (fun c=> !spB c)=true:=List.all_takeWhile;have hn:(c::r).takeWhile (fun c=> !spB c)≠[]:=by rw[List.takeWhile_cons_of_pos (by simp[h])];simp
 conv=>lhs;rw[<-List.takeWhile_append_dropWhile (p:=fun c=> !spB c) (l:=c::r)]
 have e:zbe ((c::r).takeWhile (fun c=> !spB c)++(c::r).dropWhile (fun c=> !spB c))=zbi ((c::r).takeWhile (fun c=> !spB c)) ((c::r).dropWhile (fun c=> !spB c)):=by
  unfold zbe;rw[zvf _ [] _ hu,z3l]
 rw[e];have hd:=List.head?_dropWhile_not (fun c=> !spB c) (c::r);generalize(c::r).takeWhile (fun c=> !spB c)=u at*;generalize(c::r).dropWhile (fun c=> !spB c)=t at*;cases t with
 |nil=>rw[zbi,if_neg hn];rfl
 |cons d t=>
  have hs:spB d=true:=by simpa using hd
  rw[zbi,if_pos hs,if_neg hn,zrt _ _ hs];rfl
attribute [local go_sem] Oper.semAt_some
def z0d (w:World) (b:Nat):Nat:=match w.cell? ⟨b,0,none⟩with
 |some (.string t)=>t.size
 |_=>0
theorem zdk {w:World} {b:Nat} {t:TypeId} {s:ByteArray} (h:Boxed w b t (.string s)):z0d w b=s.size:=by
 unfold z0d;rw[h.cell]
def nspB (c:UInt8):Bool:= !spB c
theorem zv0 {l:Bs} {c:UInt8} {r:Bs} (h:zc7 l=c::r):spB c=false:=by
 have h1:=List.head?_dropWhile_not spB l;unfold zc7 at h;cases hd:l.dropWhile spB with
 |nil=>rw[hd]at h;simp[zgt]at h
 |cons d t=>
  rw[hd]at h h1;have h2:spB d=false:=by simpa using h1
  have h3:zgt (d::t)<+:d::t:=by
   unfold zgt;have:=z3s spB (l:=(d::t).reverse);rw[<-List.reverse_prefix]at this;simpa using this
  rw[h]at h3;obtain⟨u,hu⟩:=h3;simp at hu;rw[hu.1];exact h2
theorem zry (l:Bs):(zc7 l).length<=l.length:=by
 unfold zc7 zgt;have h1:=zat spB l;have h2:=zat spB (l.dropWhile spB).reverse;simp at*;omega
theorem zvg:zbe []=[]:=rfl
theorem zs1 {c:UInt8} {r:Bs} (h:spB c=false):zbe (c::r)=(c::r).takeWhile nspB::zbe (zc7 ((c::r).dropWhile nspB)):=by
 rw[zlf];exact zpu h
theorem zpa (s:ByteArray) (bs:Nat) (bw:Nat->Prop) (W:World) (hb:Boxed W bs 9 (.string s)) (hbw: ¬bw bs) (hm:s.size<=140737488355328):
  zmd z2f 224 #[.pointer (some ⟨bs,0,none⟩)] (fun u=> #[sv u]) (fun k=>k=bs) bw (zbe s.data.toList) W:=by
 intro l J Jx hJ hY h0;refine callsIn_of_wp Tryz.func224 rfl trivial ?_ rfl;have hc:=hb.cell;have hf:=hb.frozen;have HT:=z2c (fun W=>zrz s W (by omega));simp only[Tryz.ntmps224,z5k,z2i,z28,Nat.reduceAdd,Nat.reduceSub,Array.replicate_succ,Array.replicate_zero,z5l,z47,z3l,z3m];gi_wp2_with (gi_at_call 225;refine(callsIn_wide.2 (HT.out _)).mono ?_;rintro e w' ⟨rfl,rfl⟩)
 clear hc hf;gi_loopw [3] (fun _ wr=> ∃(t:Bs) (pre:List Bs),t.length<=s.size/\Boxed wr bs 9 (.string ⟨(zc7 t).toArray⟩)/\J pre wr/\Hid (pre++zbe (zc7 t)=zbe s.data.toList)) (fun _ wr=>z0d wr bs)
 case atStart=>
  exact⟨s.data.toList,[],Nat.le_of_eq (zag s),hb.set _,hJ _ _ _ h0 (zab.setCell (pv:=fun k=>k=bs) (zab.refl _ _) (Or.inr rfl) _),by show _=_;rw[zlf];rfl⟩
 case round=>
  obtain⟨t,pre,ht,hbx,hJs,HK⟩:=hrel;have hh:=fun c r=> @zv0 t c r;have hl:=zry t;generalize zc7 t=u at*;have hc:=hbx.cell;have hf:=hbx.frozen;cases u with
  |nil=>
   have HE:Hid (pre=zbe s.data.toList):=by
    show _=_;rw[<-HK.out,zvg,List.append_nil]
   clear HK hh;gi_wp2;go_end0;exact⟨⟨_,rfl⟩,.inl (HE.out ▸ hJs)⟩
  |cons c r=>
   have hs:=hh c r rfl;obtain⟨S,hS⟩: ∃S:ByteArray,⟨(c::r).toArray⟩=S:=⟨_,rfl⟩;have HS:=z2c hS;have hz:S.size=r.length+1:=by rw[<-hS];rfl
   have hne:=zro (a:=S) (by omega);have hm2:S.size<=140737488355328:=by simp at hl;omega
   rw[hS]at hbx hc;have HD:Hid (S.data.toList=c::r):=by show _=_;rw[<-hS]
   have hpos:0<S.size:=by omega
   have HZ:=z2c hz;clear hS hh hz;gi_wp2;gi_loop [3] (fun i=> ∃k:Nat,k<=S.size/\i= .int .i64 k/\Hid (tw nspB S.data.toList=k+tw nspB (S.data.toList.drop k))) (fun i=>S.size-(intOf i).toNat)
   case atStart=>exact⟨0,by omega,rfl,by show _=_;simp⟩
   case round=>
    obtain⟨k,hk,rfl,HI⟩:=hrel;by_cases hgo: ∃h:k<S.size,spB S[k]=false
    ·obtain⟨hlt,hsp⟩:=hgo;have HDk:=z2c (za9 S k hlt);have HN:Hid (tw nspB S.data.toList=k+1+tw nspB (S.data.toList.drop (k+1))):=by
      show _=_;rw[HI.out,HDk.out,zdr _ (by simp[nspB,hsp])];omega
     gi_wp2_with (gi_at_call 33;(with_reducible refine(callsIn_wide.2 (zcb _ _)).mono ?_);rintro e w' ⟨rfl,rfl⟩;rw[hsp])
     go_round
     case rel=>exact⟨k+1,by omega,by go_num,HN⟩
     case measure=>simp[intOf];omega
    ·have hend:(∃h:k<S.size,spB S[k]=true)\/k=S.size:=by
      by_cases hlt:k<S.size
      ·left;refine⟨hlt, ?_⟩;cases hq:spB S[k]
       ·exact absurd ⟨hlt,hq⟩ hgo
       ·rfl
      ·right;omega
     have hkt:k=tw nspB S.data.toList:=by
      have:=HI.out;rcases hend with⟨hlt,hq⟩|rfl
      ·rw[za9 S k hlt,zds _ (by simp[nspB,hq])]at this;omega
      ·rw[zbv S _ (z2k _)]at this;simp[tw]at this;simpa[tw]using this.symm
     have HK2:Hid (S.extract 0 k=⟨((c::r).takeWhile nspB).toArray⟩):=by
      show _=_;rw[zfw,hkt,zmi,HD.out]
     have HK3:Hid (S.extract k S.size=⟨((c::r).dropWhile nspB).toArray⟩):=by
      show _=_;rw[zdn,hkt,zdm,HD.out]
     have HX:Hid (pre++[(c::r).takeWhile nspB]++zbe (zc7 ((c::r).dropWhile nspB))=zbe s.data.toList):=by
      show _=_;rw[<-HK.out,zs1 hs,List.append_assoc];rfl
     have HL:Hid (((c::r).dropWhile nspB).length<=r.length):=by
      show _<=_;rw[z22 (by simp[nspB,hs])];exact zat _ _
     obtain⟨fn,tmps,assign,body,hy,hR⟩:=hY pre ((c::r).takeWhile nspB) _ ⟨zbe (zc7 ((c::r).dropWhile nspB)),HX.out⟩ hJs;rw[sv,<-HK2.out]at hy;clear hgo hkt;have hend2:(∃h:k<S.size,spB S[k]=true)\/ ¬(k<S.size):=by
      rcases hend with h|h
      ·exact .inl h
      ·right;omega
     clear hend;rcases hend2 with⟨hlt,hsp⟩|hlt
     all_goals
      gi_wp2_with (gi_at_call 33;(with_reducible refine(callsIn_wide.2 (zcb _ _)).mono ?_);rintro e w' ⟨rfl,rfl⟩;rw[hsp])
      try rw[hy]
      try go_simp
      refine hR.mono ?_;rintro e W3 (⟨rfl,hJ3,ht3⟩|⟨rfl,hJx⟩)
      ·have hb3:=ht3.boxed hbx hbw;have hc3:=hb3.cell;have hf3:=hb3.frozen;have HT3:=z2c (fun W=>(by
        have h1:=zrz (S.extract k S.size) W (by rw[ByteArray.size_extract];omega);have h2:(S.extract k S.size).data.toList=(c::r).dropWhile nspB:=by rw[HK3.out]
        rw[h2]at h1;exact h1:Calls z2f 225 #[.string (S.extract k S.size)] W fun e w'=>e= .returned (.string ⟨(zc7 ((c::r).dropWhile nspB)).toArray⟩)/\W=w'))
       have hLT:=z2c (zry ((c::r).dropWhile nspB));gi_wp2_with (gi_at_call 225;(with_reducible refine(callsIn_wide.2 (HT3.out _)).mono ?_);rintro e w' ⟨rfl,rfl⟩)
       go_roundw
       case rel=>
        refine⟨(c::r).dropWhile nspB,pre++[(c::r).takeWhile nspB], ?_,(hb3.set _).set _,hJ _ _ _ (hJ _ _ _ hJ3 (zab.setCell (pv:=fun k=>k=bs) (zab.refl _ _) (Or.inr rfl) _)) (zab.setCell (pv:=fun k=>k=bs) (zab.refl _ _) (Or.inr rfl) _),HX.out⟩;have:=HL.out;simp at hl;omega
       case measure=>
        have h1:=zdk ((hb3.set (.string (S.extract k S.size))).set (.string ⟨(zc7 ((c::r).dropWhile nspB)).toArray⟩));have h2:=zdk hbx;rw[h1,h2,HZ.out];have h3:(⟨(zc7 ((c::r).dropWhile nspB)).toArray⟩:ByteArray).size=(zc7 ((c::r).dropWhile nspB)).length:=rfl;have:=HL.out;have:=hLT.out;omega
      ·gi_wp2;refine bodyPost_ret (results_none rfl _ _ _) rfl ?_;exact⟨⟨_,rfl⟩,.inr ⟨pre,_,⟨_,HX.out⟩,hJx⟩⟩
theorem zg3:SlT z2f 47 9 (.string ⟨#[]⟩) 1 16:=⟨by kernel_rfl,by kernel_rfl,by kernel_rfl,by decide⟩
theorem zri (s:ByteArray) (w:World):Calls z2f 156 #[.string s] w fun e w'=>e= .returned (.func (.func 224) #[] #[.pointer (some ⟨w.heap.size,0,none⟩)])/\w.alloc (.cells #[.string s] 9)=w':=by
 go_enter Tryz.func156,Tryz.ntmps156;go_wp2
 go_ret;exact⟨rfl,rfl⟩
theorem zg1 (l:Bs):(zbe l).length<=l.length:=by
 suffices H: ∀l acc,(zbi acc l).length<=l.length+(if acc=[]then 0 else 1) by simpa[zbe]using H l []
 intro l;induction l with
 |nil=>intro acc;rw[zbi];split<;>simp
 |cons c l ih=>
  intro acc;rw[zbi];have h1:=ih [];have h2:=ih (acc++[c]);rw[if_pos rfl]at h1;rw[if_neg (by simp)]at h2;split
  ·split<;>simp<;>omega
  ·simp only[z2i];split<;>omega
def svL (u:Bs):List Value:=[sv u]
theorem zv6 (us:List Bs):us.flatMap svL=us.map sv:=by
 induction us with
 |nil=>rfl
 |cons u us ih=>rw[List.flatMap_cons,ih];rfl
abbrev z2a (w:World):=zrr w w.heap.size (w.heap.size+4) 47 9 1 svL
theorem zuh (s:ByteArray) (w:World) (hm:s.size<=140737488355):Calls z2f 68 #[.string s] w (RetS w (zbe s.data.toList).length 1 ((zbe s.data.toList).map sv)):=by
 refine(callsIn_wide (n:=0)).1 ?_;refine callsIn_of_wp_marks (n:=0) Tryz.func68 rfl trivial ?_ rfl;simp only[Tryz.ntmps68,z5k,z2i,z28,Nat.reduceAdd,Nat.reduceSub,Array.replicate_succ,Array.replicate_zero,z5l,z47,z3l,z3m];have hfew:=zg1 s.data.toList;rw[zag]at hfew;gi_wp2_with (gi_at_call 156;refine(callsIn_wide.2 (zri s _)).mono ?_;rintro e w' ⟨rfl,rfl⟩)
 refine ziu (B:=w.heap.size+2) (by simp) rfl (enters_of Tryz.func224 (by kernel_rfl) rfl) (encs:=fun u=> #[sv u]) (fun _=>rfl) (xs:=zbe s.data.toList) (fun k=>k=w.heap.size+1)
  (fun k=>k=w.heap.size\/w.heap.size+4<=k) (by intro k hk;omega) (by intro k hk;omega) (z2a w) (fun _ _ _=>False) ?hI ?hIx ?h0 ?hiter ?hround ?hdone ?hstop
 case hI=>
  intro pre A C h ht;exact h.turned ht (by omega) (by intro k hk;omega) (by intro k hk;omega)
 case hIx=>intro c pre A C h _;exact h.elim
 case h0=>exact⟨⟨_,(Boxed.new w 47 (.slice none 0 0)).alloc (.cells #[.string s] 9),World.ownsRow_nil _ _ _ _⟩,bel⟩
 case hiter=>
  intro o1 o2;have b5:=(Boxed.new (w.alloc (.cells #[.slice none 0 0] 47)) 9 (.string s)).alloc o1 |>.alloc o2
  simp only[World.size_alloc]at b5;exact zpa s _ _ _ b5 (by omega) (by omega)
 case hround=>
  rintro l pre x A hx ⟨_,hBA⟩ hsz;simp only[sv];gi_wp2;refine⟨zab.refl _ _,fun A2 ht hI2 hs2=> ?_⟩;obtain⟨⟨v,bv,ho⟩,hB⟩:=hI2;have d4:=bv.cell;have e4:=bv.frozen;have HX:=z2c hx;have HB:=z2c hB;have hlen:pre.length<=140737488355:=by
   have h1:=hx.length_le;simp at h1;omega
  have hs3:w.heap.size+4<=A2.heap.size:=by omega
  clear hx hB hs2 ht;gi_wp2_with (gi_at_builtin;go_loud(refine zd9 rfl _ _ 47 rfl zg3 (w.heap.size+4) rfl (ho.alloc _) (by simp;omega) ⟨_,0,none⟩ 0 1 (svL x) rfl rfl (zaf (c:= #[sv x]) (by simp[go_sem])) (by simp[svL,sv,Value.oneCell']) (by unfold maxLen;omega) (by omega) ?_);intro g cap W' ho' ht';have bv':=ht'.boxed (bv.alloc _) (by omega);have d5:=bv'.cell;have e5:=bv'.frozen)
  have h3:=zrr.put (x:=x) (HB.out.trans ((Below.refl _ _).alloc HB.out.size _)) (bv.alloc _) ho' rfl ht' (by omega) (z2k _);exact⟨(((zab.refl _ _).alloc _).trans h3.1),h3.2⟩
 case hdone=>
  rintro W ⟨⟨v,bv,ho⟩,hB⟩ hK;have d1:=bv.cell;gi_wp2;have hT:zab (fun k=>k=w.heap.size+2) W (W.putObj (w.heap.size+2) (.deferred none)):=zab.putObj (pv:=fun k=>k=w.heap.size+2) (zab.refl _ _) (Or.inr rfl) _;refine⟨by simp,.inl ⟨_,_,rfl,run_takeDeferred hK, ?_⟩⟩;refine⟨v,by simp[results,Tryz.results68,go_sem], ?_⟩;rw[<-zv6];exact RetS.own (hB.trans (hT.below hB.size (fun k hk=>by omega))) (hT.own ho (fun k hk=>by omega))
 case hstop=>intro c pre x W _ h;exact h.elim
def dpN (d:Nat) (c:UInt8):Nat:=if c.toNat=40 then d+1 else if c.toNat=41 then d-1 else d
def szE (d:Nat) (c:UInt8):Bool:=decide (c.toNat=44)&&decide (d=0)
theorem zv3 {d:Nat} {c:UInt8} {r:Bs} (h:szE (dpN d c) c=true):szL d (c::r)=0:=by
 unfold szE dpN at h;simp at h;rw[if_neg (by omega),if_neg (by omega)]at h;rw[szL,if_pos h]
theorem sz_go {d:Nat} {c:UInt8} {r:Bs} (h:szE (dpN d c) c=false):szL d (c::r)=1+szL (dpN d c) r:=by
 unfold szE at h;rw[szL,if_neg]
 ·rfl
 ·rintro⟨h1,h2⟩;unfold dpN at h;rw[if_neg (by omega),if_neg (by omega)]at h;simp[h1,h2]at h
def idxV (N n:Nat):Int:=if N<n then(N:Nat)else-1
theorem zzl (l:Bs): ∀d,szL d l<=l.length:=by
 induction l with
 |nil=>intro d;simp[szL]
 |cons c r ih=>
  intro d;cases h:szE (dpN d c) c
  ·rw[sz_go h];have:=ih (dpN d c);simp;omega
  ·rw[zv3 h];omega
theorem zn2 (c:UInt8) (b d:Nat) (w:World) (hb:Boxed w b 3 (.int .i64 d)) (hd:d<=140737488355328):
  Calls z2f 155 #[.int .u8 c.toNat,.pointer (some ⟨b,0,none⟩)] w fun e w'=>e= .returned (.bool (szE (dpN d c) c))/\zab (fun k=>k=b) w w'/\Boxed w' b 3 (.int .i64 (dpN d c:Nat)):=by
 have hc:=hb.cell;have hf:=hb.frozen;by_cases h40:c.toNat=40
 ·have b40:((c.toNat:Int)==40)=true:=by simp;omega
  have b44:((c.toNat:Int)==44)=false:=by simp;omega
  have HX:Hid (szE (dpN d c) c=false):=by show _=_;unfold szE;simp;omega
  have HN:Hid ((dpN d c:Int)=d+1):=by show _=_;unfold dpN;rw[if_pos h40];omega
  have hb2:=hb.set (.int .i64 ((d:Int)+1));have hc2:=hb2.cell;have hf2:=hb2.frozen;clear h40;go_enter z5x,z6h;go_wp2
  go_ret;refine⟨by rw[HX.out];rfl,zab.setCell (pv:=fun k=>k=b) (zab.refl _ _) (p:=⟨b,0,none⟩) (Or.inr rfl) _,by rw[HN.out];exact hb2⟩
 ·have b40:((c.toNat:Int)==40)=false:=by simp;omega
  by_cases h41:c.toNat=41
  ·have b41:((c.toNat:Int)==41)=true:=by simp;omega
   have b44:((c.toNat:Int)==44)=false:=by simp;omega
   have HX:Hid (szE (dpN d c) c=false):=by show _=_;unfold szE;simp;omega
   rcases Nat.eq_zero_or_pos d with rfl|hd0
   ·have HN:Hid (((dpN 0 c:Nat):Int)=0):=by show _=_;unfold dpN;rw[if_neg h40,if_pos h41];rfl
    have hb2:=hb.set (.int .i64 0);have hc2:=hb2.cell;have hf2:=hb2.frozen;clear h40 h41;go_enter z5x,z6h;go_wp2
    go_ret;refine⟨by rw[HX.out];rfl,zab.setCell (pv:=fun k=>k=b) (zab.refl _ _) (p:=⟨b,0,none⟩) (Or.inr rfl) _,by rw[HN.out];exact hb2⟩
   ·have HN:Hid (((dpN d c:Nat):Int)=(d:Int)-1):=by show _=_;unfold dpN;rw[if_neg h40,if_pos h41];omega
    have hmx:max ((d:Int)-1) 0=(d:Int)-1:=by omega
    have hb2:=hb.set (.int .i64 ((d:Int)-1));have hc2:=hb2.cell;have hf2:=hb2.frozen;have hlt0: ¬((d:Int)-1<0):=by omega
    clear h40 h41;go_enter z5x,z6h;go_wp2
    all_goals go_ret
    all_goals refine⟨by rw[HX.out];rfl,zab.setCell (pv:=fun k=>k=b) (zab.refl _ _) (p:=⟨b,0,none⟩) (Or.inr rfl) _,by rw[HN.out];exact hb2⟩
  ·have b41:((c.toNat:Int)==41)=false:=by simp;omega
   have HN:Hid (dpN d c=d):=by show _=_;unfold dpN;rw[if_neg h40,if_neg h41]
   have e44:((c.toNat:Int)==44)=decide (c.toNat=44):=by rw[z2l];simp;omega
   have e0:((d:Int)==0)=decide (d=0):=by rw[z2l];simp
   have HX:Hid (szE (dpN d c) c=(decide (c.toNat=44)&&decide (d=0))):=by show _=_;rw[HN.out];rfl
   clear h40 h41;generalize decide (c.toNat=44)=q at*;generalize decide (d=0)=z at*;cases q;all_goals
    go_enter z5x,z6h;go_wp2
    go_ret;exact⟨by rw[HX.out];simp,zab.refl _ _,by rw[HN.out];exact hb⟩
theorem zby.turned {W W':World} {nb:Nat} {e:TypeId} {s:ByteArray} {pv:Nat->Prop} (h:zby W nb e s) (ht:zab pv W W') (hn: ¬pv nb):zby W' nb e s:=by
 have hl:=h.lt;obtain⟨C,m,h1,h2⟩:=h;exact⟨C,m,(ht.block nb hl hn).trans h1,h2⟩
theorem zv4 (s:ByteArray) (nb b:Nat) (cp:Nat) (w:World) (hy:zby w nb 5 s) (hne:nb≠b) (hb:Boxed w b 3 (.int .i64 0)) (hm:s.size<=140737488355327):
  Calls z2f 90 #[.slice (some ⟨nb,0,none⟩) s.size cp,.func (.func 155) #[] #[.pointer (some ⟨b,0,none⟩)]] w fun e w'=>e= .returned (.int .i64 (idxV (szL 0 s.data.toList) s.size))/\zab (fun k=>k=b) w w':=by
 obtain⟨N,hN⟩: ∃N,szL 0 s.data.toList=N:=⟨_,rfl⟩;have HN:=z2c hN;have hle:=zzl s.data.toList 0;rw[zag]at hle;rw[hN]at hle ⊢;clear hN;have eg:=enters_of z5x (P:=z2f) (by kernel_rfl) rfl;go_enter Tryz.func90,Tryz.ntmps90;go_wp2_with fail
 go_loopw [8] (fun i wr=> ∃k d:Nat,k<=s.size/\d<=k/\i= .int .i64 k/\Boxed wr b 3 (.int .i64 d)/\zab (fun k=>k=b) w wr/\Hid (k+szL d (s.data.toList.drop k)=N)) (fun i _=>s.size-(intOf i).toNat)
 case atStart=>exact⟨0,0,by omega,by omega,rfl,hb,zab.refl _ _,by show _=_;rw[List.drop_zero,HN.out];omega⟩
 case round=>
  obtain⟨k,d,hk,hd,rfl,hbx,ht,HK⟩:=hrel;by_cases hlt:k<s.size
  ·have hcc:=(hy.turned ht hne).cell k hlt;have HD:=z2c (za9 s k hlt);have HT:=z2c ht;clear ht;have hdn:dpN d s[k]<=k+1:=by unfold dpN;split;omega;split<;>omega
   cases hz:szE (dpN d s[k]) s[k]
   ·have HS:Hid (k+1+szL (dpN d s[k]) (s.data.toList.drop (k+1))=N):=by
     show _=_;rw[<-HK.out,HD.out,sz_go hz];omega
    go_wp2_with((with_reducible refine(zn2 s[k] b d _ hbx (by omega)).mono ?_);rintro e w' ⟨rfl,ht2,hb2⟩;rw[hz])
    go_roundw
    case rel=>exact⟨k+1,_,by omega,hdn,by go_num,hb2,HT.out.trans ht2,HS⟩
    case measure=>simp[intOf];omega
   ·have HS:Hid (idxV N s.size=k):=by
     show _=_;have:=HK.out;rw[HD.out,zv3 hz]at this;unfold idxV;rw[if_pos (by omega)];omega
    go_wp2_with((with_reducible refine(zn2 s[k] b d _ hbx (by omega)).mono ?_);rintro e w' ⟨rfl,ht2,hb2⟩;rw[hz])
    go_ret;exact⟨zff HS.out.symm,HT.out.trans ht2⟩
  ·have HS:Hid (idxV N s.size= -1):=by
    show _=_;have:=HK.out;unfold idxV;rw[if_neg (by omega)]
   go_wp2
   go_ret;exact⟨zff HS.out.symm,ht⟩
theorem zpx (s:ByteArray) (b:Nat) (w:World) (hb:Boxed w b 3 (.int .i64 0)) (hm:s.size<=140737488355327):
  Calls z2f 32 #[.string s,.func (.func 155) #[] #[.pointer (some ⟨b,0,none⟩)]] w fun e w'=>e= .returned (.int .i64 (szL 0 s.data.toList:Nat))/\zab (fun k=>k=b) w w':=by
 have hlt:=hb.lt;have hI:=z2c (zv4 s w.heap.size b (grownCap w s.size 0 5) (w.grow (zcm w 5 s)) (zby.new w _ s) (by omega) (((zab.refl (fun _=>False) w).grow _).boxed hb (fun h=>h)) hm);have hle:=zzl s.data.toList 0;rw[zag]at hle;have HT:Hid (zab (fun k=>k=b) w (w.grow (zcm w 5 s))):=(zab.refl _ w).grow _;by_cases hs:szL 0 s.data.toList<s.size
 ·simp only[idxV,if_pos hs]at hI;generalize szL 0 s.data.toList=N at*;go_enter Tryz.func32,Tryz.ntmps32;go_wp2_with(go_at_call 90;(with_reducible refine hI.out.mono ?_);rintro e w' ⟨rfl,ht⟩)
  go_ret;exact⟨rfl,HT.out.trans ht⟩
 ·simp only[idxV,if_neg hs]at hI;have HE:Hid (szL 0 s.data.toList=s.size):=by show _=_;omega
  rw[HE.out]at hs hle ⊢;go_enter Tryz.func32,Tryz.ntmps32;go_wp2_with(go_at_call 90;(with_reducible refine hI.out.mono ?_);rintro e w' ⟨rfl,ht⟩)
  go_ret;exact⟨rfl,HT.out.trans ht⟩
theorem zzo (s:ByteArray) (w:World) (hm:s.size<=140737488355327):
  Calls z2f 67 #[.string s] w (Ret (.int .i64 (szL 0 s.data.toList:Nat)) w):=by
 have hb:=Boxed.new w 3 (.int .i64 0);have hU:=z2c (zpx s _ _ hb hm);have hB:Hid (Below w.heap.size w (w.alloc (.cells #[.int .i64 0] 3))):=(Below.refl _ _).alloc (z2k _) _;go_enter Tryz.func67,Tryz.ntmps67;go_wp2_with(go_at_call 32;(with_reducible refine hU.out.mono ?_);rintro e w' ⟨rfl,ht⟩)
 go_ret;exact Ret.of rfl (hB.out.trans (ht.below (by simp) (by intro k hk;omega)))
theorem zx3 (us:List Bs) (sep:Bs):Lib.join us sep=zba sep us:=by
 induction us with
 |nil=>rfl
 |cons u us ih=>
  cases us with
  |nil=>simp[Lib.join,List.intercalate,zba]
  |cons v vs=>
   rw[zba,<-ih];simp[Lib.join,List.intercalate]
theorem zjl {W:World} {A:Option Addr} {n c:Nat} (us:List Bs) (sep:Bs) (h:Rd W (.slice A n c) us.length 1 (us.map sv)) (hc:us.length<=c) (hl:(zba sep us).length<=140737488355328) (hn:us.length<=140737488355328):
  Calls z2f 43 #[.slice A n c,.string ⟨sep.toArray⟩] W (Ret (.string ⟨(zba sep us).toArray⟩) W):=by
 obtain⟨h1,h2,A',c',he,h4⟩:=h;cases he;by_cases h0:us.length=0
 ·obtain rfl:us=[]:=List.eq_nil_of_length_eq_zero h0;refine(Tryz.strings_Join_none A c _ W).mono ?_;rintro e w' ⟨rfl,rfl⟩;exact Ret.same rfl
 ·obtain⟨b,off,rfl,hb,hcell⟩:=h4 (by omega);have e1:(us.map fun u=>(⟨u.toArray⟩:ByteArray)).length=us.length:=by simp
  have e2:(us.map fun u=>(⟨u.toArray⟩:ByteArray)).map (·.data.toList)=us:=by
   rw[List.map_map];conv=>rhs;rw[<-List.map_id us]
   apply List.map_congr_left;intro u _;rfl
  have key:=Tryz.strings_Join b off c (us.map fun u=>(⟨u.toArray⟩:ByteArray)) ⟨sep.toArray⟩ W (fun j x hx=>by
   have hx2:(us.map sv)[j]? =some (.string x):=by
    rw[List.getElem?_map]at hx ⊢;cases hj:us[j]? with
    |none=>rw[hj]at hx;cases hx
    |some u=>rw[hj]at hx;cases hx;rfl
   exact hcell j _ hx2) hb (by rw[e1];exact hn) (by rw[e1];exact hc) (by rw[e2,zx3];exact hl)
  rw[e1,e2]at key;refine key.mono ?_;rintro e w' ⟨rfl,hB⟩;refine⟨?_,zao hB⟩;show Ending.returned (.string ⟨(Lib.join us sep).toArray⟩)=_;rw[zx3]
theorem znq (l:Bs):z58 l 44=zce l:=by
 unfold z58 zce;congr 2;funext c;rw[z2l];simp[<-UInt8.toNat_inj]
theorem znr (l:Bs):(zce l).length<=l.length:=by
 unfold zce;have:=zat (fun c=>decide (c.toNat=44)) l.reverse;simp at*;omega
theorem zln (l:Bs):zgl l=decide (zce l≠l):=by
 rw[z2l,decide_eq_true_iff];unfold zgl zce;rw[<-List.head?_reverse];have e: ∀m:Bs,(match m.head? with|some c=>decide (c.toNat=44)|none=>false)=true↔(m.dropWhile (fun c=>decide (c.toNat=44))).length≠m.length:=by
  intro m;cases m with
  |nil=>simp
  |cons c m=>
   have:=zat (fun c=>decide (c.toNat=44)) m;by_cases h:c.toNat=44
   ·rw[z22 (by simp[h])];simp[h];omega
   ·rw[z2s (by simp[h])];simp[h]
 refine(e _).trans ?_;constructor
 ·intro h h2;apply h;have:=congrArg List.length h2;simpa using this
 ·intro h h2;apply h;have h3:l.reverse.dropWhile (fun c=>decide (c.toNat=44))=l.reverse:=(z3s _).eq_of_length h2;rw[h3,List.reverse_reverse]
theorem zmx (l:Bs):picL (l.dropWhile sepB)=picL l:=by
 induction l with
 |nil=>rfl
 |cons c l ih=>
  cases h:sepB c
  ·rw[z2s (by simp[h])]
  ·rw[z22 h,ih,zmw h]
theorem zli (l:Bs):(zba [32] (zbe l)).length<=l.length:=by
 suffices H: ∀l acc,(zba [32] (zbi acc l)).length<=l.length+acc.length by
  have:=H l [];simpa[zbe]using this
 intro l;induction l with
 |nil=>intro acc;rw[zbi];split<;>simp_all [zba]
 |cons c l ih=>
  intro acc;rw[zbi];have h1:=ih [];have h2:=ih (acc++[c]);split
  ·split
   ·simp at h1 ⊢;omega
   ·cases hw:zbi [] l with
    |nil=>simp[zba]
    |cons y r=>rw[hw]at h1;simp[zba]at h1 ⊢;omega
  ·simp at h2 ⊢;omega
def Pic.agg (p:Pic):Value:= .agg #[sv p.url,sv p.size]
theorem zjb (u:Bs) (W:World) (hm:u.length<=9223372036854775807):Calls z2f 32 #[.string ⟨u.toArray⟩,.func (.func 64) #[] #[]] W (Ret (.int .i64 (tw sepB u)) W):=by
 have:=zjc ⟨u.toArray⟩ _ _ W zpo (by show u.length<=_;omega);rwa[zxo]at this
theorem znp (u:Bs) (W:World) (hm:u.length<=9223372036854775807):Calls z2f 32 #[.string ⟨u.toArray⟩,.func (.func 33) #[] #[]] W (Ret (.int .i64 (tw nspB u)) W):=
 zjc ⟨u.toArray⟩ _ _ W ztf (by show u.length<=_;omega)
theorem zd7 (u:Bs) (k:Nat):(⟨u.toArray⟩:ByteArray).extract k u.length=⟨(u.drop k).toArray⟩:=by
 have:=zdn ⟨u.toArray⟩ k;exact this
theorem z06 (u:Bs) (k:Nat):(⟨u.toArray⟩:ByteArray).extract 0 k=⟨(u.take k).toArray⟩:=zfw ⟨u.toArray⟩ k
theorem zg6 (s:Bs) (bs:Nat) (bw:Nat->Prop) (W:World) (hb:Boxed W bs 9 (.string ⟨s.toArray⟩)) (hg:Boxed W (bs+1) 64 (.func (.func 64) #[] #[]))
  (hbw: ¬bw bs) (hbw2: ¬bw (bs+1)) (hm:s.length<=140737488355):
  zmd z2f 65 #[.pointer (some ⟨bs,0,none⟩),.pointer (some ⟨bs+1,0,none⟩)] (fun p=> #[Pic.agg p]) (fun k=>k=bs) bw (picL s) W:=by
 intro l J Jx hJ hY h0;refine callsIn_of_wp Tryz.func65 rfl trivial ?_ rfl;have hc:=hb.cell;have hf:=hb.frozen;have hgc:=hg.cell;have hlt1:=hb.lt;have hlt2:=hg.lt;have HU:=z2c (fun W=>zjb s W (by omega));have hmx:=mxd;have htw:=zhv sepB s;simp only[Tryz.ntmps65,z5k,z2i,z28,Nat.reduceAdd,Nat.reduceSub,Array.replicate_succ,Array.replicate_zero,z5l,z47,z3l,z3m];gi_wp2;refine zcr 5 rfl (by kernel_rfl) (by kernel_rfl) ?_;dsimp only[List.take,List.drop];repeat(gi_big_quiet_step (first|(gi_at_call 32;with_reducible exact CallsIn.grow_of (HU.out _))))
 refine wpQuietIn_nil ?_;intro _ hw';obtain⟨nq,hw''⟩:=hw';subst hw'';gi_wp2;clear hc hf hgc;gi_loopw [4] (fun _ wr=> ∃(u:Bs) (pre:List Pic),u.length<=s.length/\Boxed wr bs 9 (.string ⟨u.toArray⟩)/\Boxed wr (bs+1) 64 (.func (.func 64) #[] #[])/\J pre wr/\Hid (pre++picL u=picL s)/\Hid (u.dropWhile sepB=u)) (fun _ wr=>z0d wr bs)
 case atStart=>
  refine⟨s.dropWhile sepB,[],zat _ _, ?_, ?_,hJ _ _ _ h0 tur,by show _=_;rw[zmx];rfl, ?_⟩
  ·rw[<-zdm,<-zd7];exact((zab.refl (fun _=>False) _).grow _).boxed (hb.set _) (fun h=>h)
  ·exact((zab.refl (fun _=>False) _).grow _).boxed (hg.other (B':=bs) (by omega) _) (fun h=>h)
  ·show _=_;cases h:s.dropWhile sepB with
   |nil=>rfl
   |cons c r=>rw[z2s (by simp[zg7 h])]
 case round=>
  obtain⟨u,pre,hu,hbx,hgx,hJs,HK,HD⟩:=hrel;have hc:=hbx.cell;have hf:=hbx.frozen;have hgc:=hgx.cell;have hl1:=hbx.lt;have hl2:=hgx.lt;cases u with
  |nil=>
   have HE:Hid (pre=picL s):=by
    show _=_;rw[<-HK.out,zh2,List.append_nil]
   clear HK;gi_wp2;go_end0;exact⟨⟨_,rfl⟩,.inl (HE.out ▸ hJs)⟩
  |cons c r=>
   have hs:=zg7 HD.out;obtain⟨q,hq⟩: ∃q,(c::r).takeWhile nspB=q:=⟨_,rfl⟩;obtain⟨t,ht⟩: ∃t,(c::r).dropWhile nspB=t:=⟨_,rfl⟩;have HR:=z2c (zhf (r:=r) hs);change Hid (picL (c::r)=if zgl ((c::r).takeWhile nspB)then⟨zce ((c::r).takeWhile nspB),[]⟩::picL ((c::r).dropWhile nspB)else⟨(c::r).takeWhile nspB,zba [32] (zbe (((c::r).dropWhile nspB).take (szL 0 ((c::r).dropWhile nspB))))⟩::picL (((c::r).dropWhile nspB).drop (szL 0 ((c::r).dropWhile nspB))))at HR;rw[hq,ht]at HR;have htl:t.length<=r.length:=by rw[<-ht];exact zgb (zjt hs)
   have hrl:r.length<=140737488355:=by simp at hu;omega
   have hul:(c::r).length<=140737488355:=by omega
   have HU1:=z2c (fun W=>znp (c::r) W (by omega));have e1:(⟨(c::r).toArray⟩:ByteArray).extract 0 (tw nspB (c::r))=⟨q.toArray⟩:=by rw[z06,zmi,hq]
   have e2:(⟨(c::r).toArray⟩:ByteArray).extract (tw nspB (c::r)) (⟨(c::r).toArray⟩:ByteArray).size=⟨t.toArray⟩:=by
    have:=zd7 (c::r) (tw nspB (c::r));rw[zdm,ht]at this;exact this
   have hqn:q≠[]:=by rw[<-hq,List.takeWhile_cons_of_pos (by simp[nspB,zjt hs])];simp
   have hql:q.length<=(c::r).length:=by rw[<-hq];exact(List.takeWhile_sublist nspB).length_le
   have hN:=zhv nspB (c::r);have HT1:=z2c (fun W=>show Calls z2f 66 #[.string ⟨q.toArray⟩,.string ⟨#[44]⟩] W fun e w'=>e= .returned (.string ⟨(zce q).toArray⟩)/\w'=W from by
    have:=Tryz.strings_TrimRight_one ⟨q.toArray⟩ 44 (by decide) W (by show q.length<=_;omega);rw[show(⟨q.toArray⟩:ByteArray).data.toList=q from rfl,znq]at this;exact this)
   have htc:=znr q;have HEN:=z2c (zln q);obtain⟨U,hU⟩: ∃U:ByteArray,⟨(c::r).toArray⟩=U:=⟨_,rfl⟩;obtain⟨Q,hQ⟩: ∃Q:ByteArray,⟨q.toArray⟩=Q:=⟨_,rfl⟩;obtain⟨V,hV⟩: ∃V:ByteArray,⟨(zce q).toArray⟩=V:=⟨_,rfl⟩;obtain⟨T,hT⟩: ∃T:ByteArray,⟨t.toArray⟩=T:=⟨_,rfl⟩;have hUs:U.size=(c::r).length:=by rw[<-hU];rfl
   have hne:=zro (a:=U) (by rw[hUs];simp);have hN2:tw nspB (c::r)<=U.size:=by omega
   have hVQ:(V.toList==Q.toList)=decide (zce q=q):=by rw[zhs,<-hV,<-hQ]
   have hVQ2:(V.toList !=Q.toList)= !decide (zce q=q):=by rw[ba_bnq,<-hV,<-hQ]
   have hm2:U.size<=140737488355:=by omega
   have HUS:=z2c hUs;rw[hU]at hbx hc e1 e2 HU1;rw[hQ]at e1 HT1;rw[hV]at HT1;rw[hT]at e2;have HV:=z2c hV;have HQ:=z2c hQ;have HTT:=z2c hT;generalize tw nspB (c::r)=N at*;clear hU hQ hV hUs hT hN hul;cases he:zgl q
   ·have hd1:zce q=q:=by
     have:=HEN.out;rw[he]at this;simpa using this
    have hVe:V=Q:=by
     have h1:=HV.out;rw[hd1]at h1;rw[<-h1,HQ.out]
    subst hVe;have hdt:decide (zce q=q)=true:=by simp[hd1]
    rw[hdt]at hVQ hVQ2;obtain⟨m,hmm⟩: ∃m,szL 0 t=m:=⟨_,rfl⟩;have hmt:=zzl t 0;rw[hmm]at hmt;have HSz:=z2c (fun W=>show Calls z2f 67 #[.string T] W (Ret (.int .i64 (m:Nat)) W)from by
     have:=zzo ⟨t.toArray⟩ W (by show t.length<=_;omega);rw[show(⟨t.toArray⟩:ByteArray).data.toList=t from rfl,hmm,HTT.out]at this;exact this)
    have hTs:T.size=t.length:=by rw[<-HTT.out];rfl
    obtain⟨S,hS⟩: ∃S:ByteArray,⟨(t.take m).toArray⟩=S:=⟨_,rfl⟩;obtain⟨T2,hT2⟩: ∃S:ByteArray,⟨(t.drop m).toArray⟩=S:=⟨_,rfl⟩;have e3:T.extract 0 m=S:=by rw[<-HTT.out,z06,hS]
    have e4:T.extract m T.size=T2:=by rw[hTs,<-HTT.out,zd7,hT2]
    have hm1:m<=T.size:=by omega
    have hm3:T.size<=140737488355:=by omega
    obtain⟨us,hus⟩: ∃us,zbe (t.take m)=us:=⟨_,rfl⟩;have hfew:=zg1 (t.take m);have hjl:=zli (t.take m);have htk:(t.take m).length<=t.length:=by simp;omega
    rw[hus]at hfew hjl;obtain⟨Jn,hJn⟩: ∃S:ByteArray,⟨(zba [32] us).toArray⟩=S:=⟨_,rfl⟩;have HF:=z2c (fun W=>show Calls z2f 68 #[.string S] W (RetS W us.length 1 (us.map sv))from by
     have:=zuh ⟨(t.take m).toArray⟩ W (by show(t.take m).length<=_;omega);rw[show(⟨(t.take m).toArray⟩:ByteArray).data.toList=t.take m from rfl,hus,hS]at this;exact this)
    have HJ:=z2c (fun(W:World) (A:Option Addr) (c:Nat) (hr:Rd W (.slice A us.length c) us.length 1 (us.map sv)) (hc:us.length<=c)=>show Calls z2f 43 #[.slice A us.length c,.string ⟨#[32]⟩] W (Ret (.string Jn) W)from by
     have:=zjl us [32] hr hc (by omega) (by omega);rw[hJn]at this;exact this)
    have HS2:=z2c hT2;have HJN:=z2c hJn;have HTs:=z2c hTs;clear hS hT2 hJn hdt hTs;gi_wp2_with (first|(gi_at_call 32;(with_reducible refine(callsIn_wide.2 (HU1.out _)).mono ?_);rintro e w' ⟨rfl,X,rfl⟩)|(gi_at_call 66;(with_reducible refine(callsIn_wide.2 (HT1.out _)).mono ?_);rintro e w' ⟨rfl,rfl⟩))
    refine zfm rfl (by kernel_rfl) (by kernel_rfl) ?_;repeat(gi_big_quiet_step (fail))
    refine wpQuietIn_nil ?_;intro _ hw';obtain⟨nq,hw''⟩:=hw';subst hw'';obtain⟨V5,hV5⟩: ∃V5,(((wr.grow X).alloc (Obj.cells #[.string V,.string ⟨#[]⟩] 38)).grow nq)=V5:=⟨_,rfl⟩;obtain⟨xb,hxb⟩: ∃xb,wr.heap.size+X.blocks.size=xb:=⟨_,rfl⟩;have hT5:zab (fun _=>False) wr V5:=by rw[<-hV5];exact tur
    have hxh:V5.heap[xb]? =some (.cells #[.string V,.string ⟨#[]⟩] 38):=by
     rw[<-hV5];exact zm5 _ _ (zm6 (by simp[World.grow,<-hxb]))
    have hx0:V5.cell? ⟨xb,0,none⟩=some (.string V):=by simp[World.cell?,hxh]
    have hx1:V5.cell? ⟨xb,1,none⟩=some (.string ⟨#[]⟩):=by simp[World.cell?,hxh]
    have hxf0:V5.frozen? ⟨xb,0,none⟩=false:=by simp[World.frozen?,hxh]
    have hxf1:V5.frozen? ⟨xb,1,none⟩=false:=by simp[World.frozen?,hxh]
    have hxl:xb<V5.heap.size:=(Array.getElem?_eq_some_iff.1 hxh).1;have hxw:wr.heap.size<=xb:=by omega
    rw[hV5,hxb];have hbx5:=hT5.boxed hbx (fun h=>h);have hgx5:=hT5.boxed hgx (fun h=>h);have hc5:=hbx5.cell;have hf5:=hbx5.frozen;have hgc5:=hgx5.cell;have hl5:=hbx5.lt;have hl6:=hgx5.lt;have hnb1: ¬(xb=bs):=by omega
    have hnb2: ¬(bs=xb):=by omega
    have hT5b:=hT5.mono (pw:=fun k=>k=bs) (fun k h=>h.elim);have hbx0:=hbx;clear hV5 hxb hc hf hgc hxh;gi_wp2_with (first|(gi_at_call 67;(with_reducible refine(callsIn_wide.2 (HSz.out _)).mono ?_);rintro e w' ⟨rfl,X2,rfl⟩)|(gi_at_call 68;(with_reducible refine(callsIn_wide.2 (HF.out _)).mono ?_);rintro e w' ⟨A3,c3,X3,rfl,rfl,hc3,hr3⟩)|(gi_at_call 43;(with_reducible refine(callsIn_wide.2 (HJ.out _ _ _ hr3 hc3)).mono ?_);clear hr3 hc3;rintro e w' ⟨rfl,X4,rfl⟩))
    obtain⟨x,hx⟩: ∃x:Pic,x=⟨q,zba [32] us⟩:=⟨_,rfl⟩;obtain⟨l2,hl2⟩: ∃l2,l2=t.drop m:=⟨_,rfl⟩;have HX:Hid (pre++[x]++picL l2=picL s):=by
     show _=_;rw[hx,hl2,<-HK.out,HR.out,if_neg (by simp[he]),hmm,hus,List.append_assoc];rfl
    have HA:Hid (#[Pic.agg x]= #[.agg #[.string V,.string Jn]]):=by
     show _=_;rw[hx,Pic.agg,sv,sv,HQ.out,HJN.out]
    have HL2:Hid (⟨l2.toArray⟩=T2):=by show _=_;rw[hl2];exact HS2.out
    have hll:l2.length<=r.length:=by rw[hl2,List.length_drop];omega
    clear hx hl2;refine zll (hY pre x _ ⟨_,HX.out⟩ (hJ _ _ _ hJs tur)) (by rw[HA.out]) ?_;rintro e W3 (⟨rfl,hJ3,ht3⟩|⟨rfl,hJx⟩)
    ·refine⟨_,rfl, ?_⟩;have hb3:=ht3.boxed (t:=9) (v:= .string T2) (by repeat(first|with_reducible assumption|(with_reducible refine @Boxed.set _ _ _ ?_ _ ?_;rotate_left)|(with_reducible refine Boxed.oth ?_ (by first|omega|(simp[go_sem]<;>omega)) _)|with_reducible refine Boxed.grow' ?_ _|with_reducible refine Boxed.alloc ?_ _|with_reducible refine Boxed.drew' ?_)) hbw;have hg3:=ht3.boxed (t:=64) (v:= .func (.func 64) #[] #[]) (by repeat(first|with_reducible assumption|(with_reducible refine @Boxed.set _ _ _ ?_ _ ?_;rotate_left)|(with_reducible refine Boxed.oth ?_ (by first|omega|(simp[go_sem]<;>omega)) _)|with_reducible refine Boxed.grow' ?_ _|with_reducible refine Boxed.alloc ?_ _|with_reducible refine Boxed.drew' ?_)) hbw2;have hc3:=hb3.cell;have hf3:=hb3.frozen;have hgc3:=hg3.cell;have hl3:=hb3.lt;have hl4:=hg3.lt;rw[<-HL2.out]at hb3 hc3;have HU2:=z2c (fun W=>zjb l2 W (by omega));have htw2:=zhv sepB l2;clear hbx hgx;go_simp
     gi_wp2;refine zcr 5 rfl (by kernel_rfl) (by kernel_rfl) ?_;dsimp only[List.take,List.drop];repeat(gi_big_quiet_step (first|(gi_at_call 32;with_reducible exact CallsIn.grow_of (HU2.out _))))
     refine wpQuietIn_nil ?_;intro _ hw';obtain⟨nq,hw''⟩:=hw';subst hw'';gi_wp2;go_roundw
     case rel=>
      refine⟨l2.dropWhile sepB,pre++[x], ?_, ?_, ?_,hJ _ _ _ hJ3 tur, ?_, ?_⟩
      ·have:=zat sepB l2;simp at hu;omega
      ·rw[<-zdm,<-zd7];exact((zab.refl (fun _=>False) _).grow _).boxed (hb3.set _) (fun h=>h)
      ·exact((zab.refl (fun _=>False) _).grow _).boxed (hg3.other (B':=bs) (by omega) _) (fun h=>h)
      ·show _=_;rw[zmx];exact HX.out
      ·show _=_;cases h:l2.dropWhile sepB with
       |nil=>rfl
       |cons c r=>rw[z2s (by simp[zg7 h])]
     case measure=>
      have h1:=zdk (((zab.refl (fun _=>False) _).grow nq).boxed (hb3.set (.string ((⟨l2.toArray⟩:ByteArray).extract (tw sepB l2) l2.length))) (fun h=>h));have h2:=zdk hbx0;rw[zd7,zdm]at h1;rw[h2,HUS.out];have h3:=zat sepB l2;first
      |(rw[zd7,zdm,h1];show(l2.dropWhile sepB).length<_;simp;omega)
      |(rw[h1];show(l2.dropWhile sepB).length<_;simp;omega)
    ·refine⟨_,rfl, ?_⟩;go_simp
     gi_wp2;refine bodyPost_ret (results_none rfl _ _ _) rfl ?_;exact⟨⟨_,rfl⟩,.inr ⟨pre,_,⟨_,HX.out⟩,hJx⟩⟩
   ·have hd1:decide (zce q=q)=false:=by
     have:=HEN.out;rw[he]at this;simpa using this.symm
    rw[hd1]at hVQ hVQ2;gi_wp2_with (first|(gi_at_call 32;(with_reducible refine(callsIn_wide.2 (HU1.out _)).mono ?_);rintro e w' ⟨rfl,X,rfl⟩)|(gi_at_call 66;(with_reducible refine(callsIn_wide.2 (HT1.out _)).mono ?_);rintro e w' ⟨rfl,rfl⟩))
    refine zfm rfl (by kernel_rfl) (by kernel_rfl) ?_;repeat(gi_big_quiet_step (fail))
    refine wpQuietIn_nil ?_;intro _ hw';obtain⟨nq,hw''⟩:=hw';subst hw'';gi_wp2;have hbx0:=hbx;clear hc hf hgc;obtain⟨x,hx⟩: ∃x:Pic,x=⟨zce q,[]⟩:=⟨_,rfl⟩;obtain⟨l2,hl2⟩: ∃l2,l2=t:=⟨_,rfl⟩;have HX:Hid (pre++[x]++picL l2=picL s):=by
     show _=_;rw[hx,hl2,<-HK.out,HR.out,if_pos he,List.append_assoc];rfl
    have HA:Hid (#[Pic.agg x]= #[.agg #[.string V,.string ⟨#[]⟩]]):=by
     show _=_;rw[hx,Pic.agg,sv,sv,<-HV.out]
    have HL2:Hid (⟨l2.toArray⟩=T):=by show _=_;rw[hl2];exact HTT.out
    have hll:l2.length<=r.length:=by rw[hl2];exact htl
    clear hx hl2;refine zll (hY pre x _ ⟨_,HX.out⟩ (hJ _ _ _ hJs tur)) (by rw[HA.out]) ?_;rintro e W3 (⟨rfl,hJ3,ht3⟩|⟨rfl,hJx⟩)
    ·refine⟨_,rfl, ?_⟩;have hb3:=ht3.boxed (t:=9) (v:= .string T) (by repeat(first|with_reducible assumption|(with_reducible refine @Boxed.set _ _ _ ?_ _ ?_;rotate_left)|(with_reducible refine Boxed.oth ?_ (by first|omega|(simp[go_sem]<;>omega)) _)|with_reducible refine Boxed.grow' ?_ _|with_reducible refine Boxed.alloc ?_ _|with_reducible refine Boxed.drew' ?_)) hbw;have hg3:=ht3.boxed (t:=64) (v:= .func (.func 64) #[] #[]) (by repeat(first|with_reducible assumption|(with_reducible refine @Boxed.set _ _ _ ?_ _ ?_;rotate_left)|(with_reducible refine Boxed.oth ?_ (by first|omega|(simp[go_sem]<;>omega)) _)|with_reducible refine Boxed.grow' ?_ _|with_reducible refine Boxed.alloc ?_ _|with_reducible refine Boxed.drew' ?_)) hbw2;have hc3:=hb3.cell;have hf3:=hb3.frozen;have hgc3:=hg3.cell;have hl3:=hb3.lt;have hl4:=hg3.lt;rw[<-HL2.out]at hb3 hc3;have HU2:=z2c (fun W=>zjb l2 W (by omega));have htw2:=zhv sepB l2;clear hbx hgx;go_simp
     gi_wp2;refine zcr 5 rfl (by kernel_rfl) (by kernel_rfl) ?_;dsimp only[List.take,List.drop];repeat(gi_big_quiet_step (first|(gi_at_call 32;with_reducible exact CallsIn.grow_of (HU2.out _))))
     refine wpQuietIn_nil ?_;intro _ hw';obtain⟨nq,hw''⟩:=hw';subst hw'';gi_wp2;go_roundw
     case rel=>
      refine⟨l2.dropWhile sepB,pre++[x], ?_, ?_, ?_,hJ _ _ _ hJ3 tur, ?_, ?_⟩
      ·have:=zat sepB l2;simp at hu;omega
      ·rw[<-zdm,<-zd7];exact((zab.refl (fun _=>False) _).grow _).boxed (hb3.set _) (fun h=>h)
      ·exact((zab.refl (fun _=>False) _).grow _).boxed (hg3.other (B':=bs) (by omega) _) (fun h=>h)
      ·show _=_;rw[zmx];exact HX.out
      ·show _=_;cases h:l2.dropWhile sepB with
       |nil=>rfl
       |cons c r=>rw[z2s (by simp[zg7 h])]
     case measure=>
      have h1:=zdk (((zab.refl (fun _=>False) _).grow nq).boxed (hb3.set (.string ((⟨l2.toArray⟩:ByteArray).extract (tw sepB l2) l2.length))) (fun h=>h));have h2:=zdk hbx0;rw[zd7,zdm]at h1;rw[h2,HUS.out];have h3:=zat sepB l2;first
      |(rw[zd7,zdm,h1];show(l2.dropWhile sepB).length<_;simp;omega)
      |(rw[h1];show(l2.dropWhile sepB).length<_;simp;omega)
    ·refine⟨_,rfl, ?_⟩;go_simp
     gi_wp2;refine bodyPost_ret (results_none rfl _ _ _) rfl ?_;exact⟨⟨_,rfl⟩,.inr ⟨pre,_,⟨_,HX.out⟩,hJx⟩⟩
theorem zhx:SlT z2f 34 38 (.agg #[.string ⟨#[]⟩,.string ⟨#[]⟩]) 2 32:=⟨by kernel_rfl,by kernel_rfl,by kernel_rfl,by decide⟩
def Pic.cells (p:Pic):List Value:=[sv p.url,sv p.size]
def zca (l:List Pic):List Value:=l.flatMap Pic.cells
abbrev ColI (pv:Nat->Prop) (w:World):=zit pv w w.heap.size (w.heap.size+3) 34 38 2 Pic.cells
theorem zni (gf:Nat) (lb:Array Value) (xs:List Pic) (pv:Nat->Prop) (w:World) (hpv: ∀k,pv k->k<w.heap.size) (eg:Enters z2f gf) (hlen:xs.length<=140737488355)
  (hiter: ∀W bw,zab (fun _=>False) w W->(∀k,bw k->w.heap.size<=k)->zmd z2f gf lb (fun p=> #[Pic.agg p]) pv bw xs W):
  Calls z2f 82 #[.slice none 0 0,.func (.func gf) #[] lb] w fun e w'=> ∃v,e= .returned v/\zab pv w w'/\w'.ownsRow (w.heap.size+3) 38 2 v xs.length (zca xs):=by
 refine(callsIn_wide (n:=0)).1 ?_;refine callsIn_of_wp_marks (n:=0) Tryz.func82 rfl trivial ?_ rfl;simp only[Tryz.ntmps82,z5k,z2i,z28,Nat.reduceAdd,Nat.reduceSub,Array.replicate_succ,Array.replicate_zero,z5l,z47,z3l,z3m];have HI:=z2c hiter;clear hiter;gi_wp2;refine ziu (B:=w.heap.size+1) (by simp) rfl eg (encs:=fun p=> #[Pic.agg p]) (fun _=>rfl) (xs:=xs) pv
  (fun k=>k=w.heap.size\/w.heap.size+3<=k) (by intro k hk;have:=hpv k hk;omega) (by intro k hk;omega) (ColI pv w) (fun _ _ _=>False) ?hI ?hIx ?h0 ?hiter ?hround ?hdone ?hstop
 case hI=>
  intro pre A C h ht;exact h.turn ht (by intro hk;rcases hk with hk|hk;have:=hpv _ hk;omega;omega) (by intro k hk;rcases hk with hk|hk;have:=hpv _ hk;omega;omega) (by intro k hk hl;rcases hk with hk|hk;exact hk;omega)
 case hIx=>intro c pre A C h _;exact h.elim
 case h0=>exact⟨⟨_,Boxed.new w 34 (.slice none 0 0),World.ownsRow_nil _ _ _ _⟩,(zab.refl _ _).alloc _⟩
 case hiter=>
  intro o1 o2;exact HI.out _ _ (((zab.refl _ _).alloc _).alloc _ |>.alloc _) (by intro k hk;omega)
 case hround=>
  rintro l pre ⟨xu,xz⟩ A hx ⟨_,hBA⟩ hsz;simp only[Pic.agg,sv];gi_wp2;refine⟨(zab.refl _ _).alloc _,fun A2 ht hI2 hs2=> ?_⟩;have hx2:A2.heap[A.heap.size]? =some (.cells #[.string ⟨xu.toArray⟩,.string ⟨xz.toArray⟩] 38):=(ht.block _ (by simp) (by omega)).trans (World.alloc_heap_new A _);have c0:A2.cell? ⟨A.heap.size,0,none⟩=some (.string ⟨xu.toArray⟩):=by simp[World.cell?,hx2]
  have c1:A2.cell? ⟨A.heap.size,1,none⟩=some (.string ⟨xz.toArray⟩):=by simp[World.cell?,hx2]
  obtain⟨⟨v,bv,ho⟩,hB⟩:=hI2;have d4:=bv.cell;have e4:=bv.frozen;have HX:=z2c hx;have HB:=z2c hB;have hlen2:pre.length+1<=140737488355:=by
   have h1:=hx.length_le;simp at h1;omega
  have hs3:w.heap.size+3<=A2.heap.size:=by rw[hs2];simp;omega
  clear hx hB hs2 ht hx2;gi_wp2_with (gi_at_builtin;go_loud(refine zd9 rfl _ _ 34 rfl zhx (w.heap.size+3) rfl (ho.alloc _) (by simp;omega) ⟨_,0,none⟩ 0 1 (Pic.cells ⟨xu,xz⟩) rfl rfl (zaf (c:= #[sv xu,sv xz]) (by simp[go_sem])) (by simp[Pic.cells,sv,Value.oneCell']) (by unfold maxLen;omega) (by omega) ?_);intro g cap W' ho' ht';have bv':=ht'.boxed (bv.alloc _) (by omega);have d5:=bv'.cell;have e5:=bv'.frozen)
  have h3:=zit.put (x:=(⟨xu,xz⟩:Pic)) (HB.out.alloc _) (bv.alloc _) ho' rfl ht' (by omega) (z2k _);exact⟨(((zab.refl _ _).alloc _).trans h3.1),h3.2⟩
 case hdone=>
  rintro W ⟨⟨v,bv,ho⟩,hB⟩ hK;have d1:=bv.cell;gi_wp2;have hT:zab (fun k=>k=w.heap.size+1) W (W.putObj (w.heap.size+1) (.deferred none)):=zab.putObj (pv:=fun k=>k=w.heap.size+1) (zab.refl _ _) (Or.inr rfl) _;refine⟨by simp,.inl ⟨_,_,rfl,run_takeDeferred hK, ?_⟩⟩;exact⟨v,by simp[results,Tryz.results82,go_sem],v,rfl,hB.next hT (fun k hk=>by omega),hT.own ho (fun k hk=>by omega)⟩
 case hstop=>intro c pre x W _ h;exact h.elim
theorem zrk (gf:Nat) (lb:Array Value) (xs:List Pic) (pv:Nat->Prop) (w:World) (hpv: ∀k,pv k->k<w.heap.size) (eg:Enters z2f gf) (hlen:xs.length<=140737488355)
  (hiter: ∀W bw,zab (fun _=>False) w W->(∀k,bw k->w.heap.size<=k)->zmd z2f gf lb (fun p=> #[Pic.agg p]) pv bw xs W):
  Calls z2f 30 #[.func (.func gf) #[] lb] w fun e w'=> ∃v,e= .returned v/\zab pv w w'/\w'.ownsRow (w.heap.size+3) 38 2 v xs.length (zca xs):=by
 have HA:=z2c (zni gf lb xs pv w hpv eg hlen hiter);clear hiter;go_enter Tryz.func30,Tryz.ntmps30;go_wp2_with(go_at_call 82;(with_reducible refine HA.out.mono ?_);rintro e w' ⟨v,rfl,ht,ho⟩;have HT:=z2c ht;have HO:=z2c ho;clear ht ho)
 go_ret;exact⟨_,rfl,HT.out,HO.out⟩
theorem zqr: ∀(n:Nat) (l:Bs),l.length<=n->(picL l).length<=l.length:=by
 intro n;induction n with
 |zero=>intro l h;obtain rfl:l=[]:=List.eq_nil_of_length_eq_zero (by omega);simp[zh2]
 |succ n ih=>
  intro l h;cases l with
  |nil=>simp[zh2]
  |cons c r=>
   cases hs:sepB c
   ·have h1:=zgb (r:=r) (zjt hs);have hr:r.length<=n:=by simpa using h
    rw[zhf hs];split
    ·have:=ih _ (Nat.le_trans h1 hr);simp at*;omega
    ·have h2:(((c::r).dropWhile (fun c=> !spB c)).drop (szL 0 ((c::r).dropWhile (fun c=> !spB c)))).length<=r.length:=by rw[List.length_drop];omega
     have:=ih _ (Nat.le_trans h2 hr);simp at*;omega
   ·rw[zmw hs];have:=ih r (by simpa using h);simp;omega
theorem zjp (s:Bs) (W:World):Calls z2f 24 #[.string ⟨s.toArray⟩] W fun e w'=>e= .returned (.func (.func 65) #[] #[.pointer (some ⟨W.heap.size,0,none⟩),.pointer (some ⟨W.heap.size+1,0,none⟩)])/\(W.alloc (.cells #[.string ⟨s.toArray⟩] 9)).alloc (.cells #[.func (.func 64) #[] #[]] 64)=w':=by
 go_enter Tryz.func24,Tryz.ntmps24;go_wp2
 go_ret;exact⟨rfl,rfl⟩
theorem zzy (s:Bs) (w:World) (hm:s.length<=140737488355):Calls z2f 12 #[.string ⟨s.toArray⟩] w (RetS w (picL s).length 2 (zca (picL s))):=by
 have HS:=z2c (zjp s);have hfew:=zqr _ s (z2k _);have b1:=(Boxed.new w 9 (.string ⟨s.toArray⟩)).alloc (.cells #[.func (.func 64) #[] #[]] 64);have b2:=Boxed.new (w.alloc (.cells #[.string ⟨s.toArray⟩] 9)) 64 (.func (.func 64) #[] #[]);rw[World.size_alloc]at b2;have HC:=z2c (zrk 65 #[.pointer (some ⟨w.heap.size,0,none⟩),.pointer (some ⟨w.heap.size+1,0,none⟩)] (picL s) (fun k=>k=w.heap.size)
  ((w.alloc (.cells #[.string ⟨s.toArray⟩] 9)).alloc (.cells #[.func (.func 64) #[] #[]] 64)) (by intro k hk;simp;omega) (enters_of Tryz.func65 (by kernel_rfl) rfl) (by omega)
  (fun W bw ht hb=>zg6 s w.heap.size bw W (ht.boxed b1 (fun h=>h)) (ht.boxed b2 (fun h=>h)) (by intro h;have:=hb _ h;simp at this;omega) (by intro h;have:=hb _ h;simp at this;omega) hm))
 go_enter Tryz.func12,Tryz.ntmps12;go_wp2_with(first|(go_at_call 24;(with_reducible refine(HS.out _).mono ?_);rintro e w' ⟨rfl,rfl⟩)|(go_at_call 30;(with_reducible refine HC.out.mono ?_);rintro e w' ⟨v,rfl,ht,ho⟩;have HT:=z2c ht;have HO:=z2c ho;clear ht ho))
 go_ret;exact RetS.own ((Below.refl _ _).alloc (z2k _) _ |>.alloc (by simp) _ |>.trans (HT.out.below (by simp;omega) (by intro k hk;omega))) HO.out
theorem Rd.pic {w:World} {A:Option Addr} {m c:Nat} {l:List Pic} (h:Rd w (.slice A m c) l.length 2 (zca l)) (k:Nat) (hk:k<l.length):
  ∃b off,A=some ⟨b,off,none⟩/\b<w.heap.size/\w.cell? ⟨b,off+k*2,none⟩=some (sv l[k].url)/\w.cell? ⟨b,off+k*2+1,none⟩=some (sv l[k].size):=by
 obtain⟨b,off,rfl,hb,hc⟩:=Rd.flat (n:=2) (cells:=Pic.cells) (fun _=>rfl) h k hk;exact⟨b,off,rfl,hb,hc 0 _ (by omega) rfl,hc 1 _ (by omega) rfl⟩
theorem zkc (sep:Bs) (l:List Bs) (x:Bs):zba sep (l++[x])=if l=[]then x else zba sep l++sep++x:=by
 induction l with
 |nil=>rfl
 |cons y l ih=>
  cases l with
  |nil=>simp[zba]
  |cons z l=>rw[z3m,z3m,zba,<-z3m,ih,zba];simp
theorem zj2 (A:Option Addr) (n c:Nat) (l:List Pic) (w:World) (h:Rd w (.slice A n c) l.length 2 (zca l)) (hl:l.length<=1000000) (ht:(zd0 l).length<=140737488355) (he: ∀p∈l,p.url.length<=140737488355/\p.size.length<=140737488355):
  Calls z2f 18 #[.slice A n c] w (Ret (.string ⟨(zd0 l).toArray⟩) w):=by
 have HR:=z2c h;obtain⟨_,hm,A',c',heq,_⟩:=h;cases heq;have HE:=z2c he;have HT:=z2c ht;clear he ht;go_enter Tryz.func18,Tryz.ntmps18;go_wp2_with fail
 go_loopw [3,8] (fun v i wr=> ∃(k:Nat) (X:Gr),k<=l.length/\i= .int .i64 k/\wr=w.grow X/\(w.grow X).ownsRow w.heap.size 9 1 v k (((l.take k).map zeg).map sv)) (fun _ i _=>l.length-(intOf i).toNat)
 case atStart=>exact⟨0,_,by omega,rfl,(zb6 w).symm,by rw[zb6];exact World.ownsRow_nil _ _ _ _⟩
 case round=>
  obtain⟨k,X,hk,rfl,rfl,hown⟩:=hrel;by_cases hlt:k<l.length
  ·obtain⟨b,off,rfl,hb,c0,c1⟩:=(HR.out.grow X).pic k hlt;have HL:=z2c (show((l.take (k+1)).map zeg).map sv=((l.take k).map zeg).map sv++[sv (zeg l[k])] by rw[List.take_succ_eq_append_getElem hlt,List.map_append,List.map_append];rfl);obtain⟨h1,h2⟩:=HE.out _ (List.getElem_mem hlt);have HPe:Hid (zeg l[k]=if l[k].size=[]then l[k].url else l[k].url++32::l[k].size):=rfl;generalize l[k]=p at*;have hb2:b<(w.grow X).heap.size+1:=by omega
   obtain⟨U,hU⟩: ∃U:ByteArray,⟨p.url.toArray⟩=U:=⟨_,rfl⟩;obtain⟨Z,hZ⟩: ∃U:ByteArray,⟨p.size.toArray⟩=U:=⟨_,rfl⟩;simp only[sv,hU,hZ]at c0 c1;have hZe:Z.toList.isEmpty=decide (p.size=[]):=by rw[zf7,<-hZ]
   have HU:=z2c hU;have HZ:=z2c hZ;have hus:U.size<=140737488355:=by rw[<-hU];exact h1
   have hzs:Z.size<=140737488355:=by rw[<-hZ];exact h2
   clear hU hZ h1 h2;by_cases hz:p.size=[]
   ·have HV:=z2c (show sv (zeg p)= .string U by rw[HPe.out,if_pos hz,sv,HU.out]);rw[show decide (p.size=[])=true by simp[hz]]at hZe;go_wp2_with(at_builtin;go_loud(refine zbx rfl _ _ 47 rfl zg3 w rfl ((hown.alloc _).alloc _) bel ⟨_,0,none⟩ 1 1 [.string U] rfl rfl (zaf (c:= #[.string U]) (by simp[go_sem])) (by simp[Value.oneCell']) (by unfold maxLen;omega) (by omega) ?_);intro v' Y hown' _)
    go_roundw
    case rel=>exact⟨k+1,Y,by omega,by go_num,rfl,by rw[HL.out,HV.out];exact hown'⟩
    case measure=>simp[intOf];omega
   ·have HV:=z2c (show sv (zeg p)= .string (U++(⟨#[32]⟩++Z)) by
     rw[HPe.out,if_neg hz,sv,<-HU.out,<-HZ.out,show(⟨#[32]⟩:ByteArray)=⟨([32]:Bs).toArray⟩from rfl,zmb,zmb];rfl)
    rw[show decide (p.size=[])=false by simp[hz]]at hZe;go_wp2_with(at_builtin;go_loud(refine zbx rfl _ _ 47 rfl zg3 w rfl ((hown.alloc _).alloc _) bel ⟨_,0,none⟩ 1 1 [.string (U++(⟨#[32]⟩++Z))] rfl rfl (zaf (c:= #[.string (U++(⟨#[32]⟩++Z))]) (by simp[go_sem])) (by simp[Value.oneCell']) (by unfold maxLen;omega) (by omega) ?_);intro v' Y hown' _)
    go_roundw
    case rel=>exact⟨k+1,Y,by omega,by go_num,rfl,by rw[HL.out,HV.out];exact hown'⟩
    case measure=>simp[intOf];omega
  ·obtain rfl:k=l.length:=by omega
   rw[List.take_length]at hown;have hrd:=Rd.own hown;obtain⟨A1,c1,rfl,hc1⟩:=zah hown;have HJ:=z2c (zjl (l.map zeg) [44,32] (A:=A1) (n:=l.length) (c:=c1) (by rw[List.length_map];exact hrd) (by rw[List.length_map];exact hc1) (by show(zd0 l).length<=_;have:=HT.out;omega) (by rw[List.length_map];omega));go_wp2_with(go_at_call 43;(with_reducible refine HJ.out.mono ?_);rintro e w' ⟨rfl,Y,rfl⟩)
   go_ret;exact Ret.of rfl bel
theorem zpb (s:Bs) (w:World) (hm:s.length<=9223372036854775807):
  Calls z2f 44 #[.string ⟨s.toArray⟩] w (Ret (.tuple #[.string ⟨(s.dropWhile digB).toArray⟩,.bool (decide (1<=tw digB s)&&decide (tw digB s<=9))]) w):=
 zur ⟨s.toArray⟩ w (by show s.length<=_;omega)
theorem zlq (s:Bs) (h:s≠[]):zdw s=((decide (1<=tw digB s)&&decide (tw digB s<=9))&&match s.dropWhile digB with
   |[119]=>(s.takeWhile digB).any (fun c=>decide (c.toNat≠48))
   |46::r=>decide (1<=tw digB r)&&decide (tw digB r<=9)&&zgc (r.dropWhile digB)
   |t=>zgc t):=by
 rw[zdw,if_neg h];show(if tw digB s<1\/9<tw digB s then false else _)=_;split
 ·rename_i h1;symm;rw[Bool.and_eq_false_iff];left;simp;omega
 ·rename_i h1;rw[show(decide (1<=tw digB s)&&decide (tw digB s<=9))=true by simp;omega,Bool.true_and];rfl
theorem zz4 (d:Bs) (hd:d.all digB=true):(decide (z4q (d++[119]) 48=[119]))= !d.any (fun c=>decide (c.toNat≠48)):=by
 have h1:z58 (d++[119]) 48=d++[119]:=by
  unfold z58;rw[z57,z5s,z5w,z2s (by decide)];simp
 unfold z4q;rw[h1];unfold Lib.trimLeftB;clear h1;induction d with
 |nil=>rfl
 |cons c d ih=>
  simp only[List.all_cons,Bool.and_eq_true]at hd;rw[z3m,List.any_cons];by_cases h:c=48
  ·rw[z22 (by simp[h]),ih hd.2,h];rfl
  ·have h2:c.toNat≠48:=fun e=>h (UInt8.toNat_inj.1 e);rw[z2s (by simp[h])];simp[h2]
theorem zr2 (t:Bs):zgc t=decide (t=[120]):=by
 unfold zgc;split<;>simp_all
def zin:Bs->Bool
 |c::_=>decide (c.toNat=46)
 |[]=>false
theorem zuq (t:Bs):Lib.hasPrefix t [46]=zin t:=by
 unfold Lib.hasPrefix;cases t with
 |nil=>rfl
 |cons c r=>rw[z2l];simp[List.isPrefixOf,zin,<-UInt8.toNat_inj];exact eq_comm
theorem zlp (s:Bs) (w:World) (hm:s.length<=9223372036854775807):Calls z2f 19 #[.string ⟨s.toArray⟩] w (Ret (.bool (zdw s)) w):=by
 obtain⟨S,hS⟩: ∃S:ByteArray,⟨s.toArray⟩=S:=⟨_,rfl⟩;obtain⟨R,hR⟩: ∃S:ByteArray,⟨(s.dropWhile digB).toArray⟩=S:=⟨_,rfl⟩;have HD:=z2c (fun W=>zpb s W hm);have hSe:S.toList.isEmpty=decide (s=[]):=by rw[zf7,<-hS]
 have hRw:(R.toList==[119])=decide (s.dropWhile digB=[119]):=by rw[<-hR,ByteArray.toList_eq,z2l];simp
 have hRx:(R.toList==[120])=decide (s.dropWhile digB=[120]):=by rw[<-hR,ByteArray.toList_eq,z2l];simp
 rw[hS,hR]at HD;rw[hS];by_cases hs:s=[]
 ·have HX:=z2c (show zdw s=true by rw[zdw,if_pos hs]);rw[show decide (s=[])=true by simp[hs]]at hSe;go_enter z59,z5y;go_wp2_with(go_at_call 44;(with_reducible refine(HD.out _).mono ?_);rintro e w' ⟨rfl,X,rfl⟩)
  go_ret;exact Ret.of (by rw[HX.out];rfl) bel
 ·have HC:=z2c (zlq s hs);rw[show decide (s=[])=false by simp[hs]]at hSe;cases hf:(decide (1<=tw digB s)&&decide (tw digB s<=9))
  ·have HX:=z2c (show zdw s=false by rw[HC.out,hf];rfl);rw[hf]at HD;clear hf;go_enter z59,z5y;go_wp2_with(go_at_call 44;(with_reducible refine(HD.out _).mono ?_);rintro e w' ⟨rfl,X,rfl⟩)
   go_ret;exact Ret.of (by rw[HX.out];rfl) bel
  ·rw[hf]at HD;have HC:=z2c (HC.out.trans (by rw[hf,Bool.true_and]));clear hf;by_cases hw:s.dropWhile digB=[119]
   ·rw[show decide (s.dropWhile digB=[119])=true by simp[hw]]at hRw;have HX:=z2c (show zdw s=(s.takeWhile digB).any (fun c=>decide (c.toNat≠48)) by rw[HC.out,hw];rfl);have hsp:s.takeWhile digB++[119]=s:=by rw[<-hw,List.takeWhile_append_dropWhile]
    have HN:=z2c (zz4 (s.takeWhile digB) List.all_takeWhile);rw[hsp]at HN;obtain⟨V,hV⟩: ∃V:ByteArray,⟨(z4q s 48).toArray⟩=V:=⟨_,rfl⟩;have HT:=z2c (fun W=>show Calls z2f 31 #[.string S,.string ⟨#[48]⟩] W (Ret (.string V) W)from by
     have:=Tryz.strings_Trim_one ⟨s.toArray⟩ 48 (by decide) W (by show s.length<=_;omega);rw[show(⟨s.toArray⟩:ByteArray).data.toList=s from rfl,hV,hS]at this;refine this.mono ?_;rintro e w' ⟨rfl,rfl|rfl⟩
     ·exact Ret.same rfl
     ·exact Ret.of rfl bel)
    have hVw:(V.toList==[119])=decide (z4q s 48=[119]):=by rw[<-hV,ByteArray.toList_eq,z2l];simp
    have hVw2:(V.toList !=[119])= !decide (z4q s 48=[119]):=by rw[bne,hVw]
    rw[HN.out]at hVw hVw2;rw[Bool.not_not]at hVw2;clear hV hsp hw;generalize(s.takeWhile digB).any (fun c=>decide (c.toNat≠48))=q at*;go_enter z59,z5y;go_wp2_with(first|(go_at_call 44;(with_reducible refine(HD.out _).mono ?_);rintro e w' ⟨rfl,X,rfl⟩)|(go_at_call 31;(with_reducible refine(HT.out _).mono ?_);rintro e w' ⟨rfl,X2,rfl⟩))
    go_ret;exact Ret.of (by rw[HX.out];rfl) bel
   ·rw[show decide (s.dropWhile digB=[119])=false by simp[hw]]at hRw;have HP:=z2c (fun W=>show Calls z2f 45 #[.string R,.string ⟨#[46]⟩] W fun e w'=>e= .returned (.bool (zin (s.dropWhile digB)))/\w'=W from by
     have:=Tryz.strings_HasPrefix ⟨(s.dropWhile digB).toArray⟩ ⟨#[46]⟩ W;rw[show(⟨(s.dropWhile digB).toArray⟩:ByteArray).data.toList=s.dropWhile digB from rfl,show(⟨#[46]⟩:ByteArray).data.toList=[46]from rfl,zuq,hR]at this;exact this)
    have hRs:R.size=(s.dropWhile digB).length:=by rw[<-hR];rfl
    have hdl:=zat digB s;cases hd:zin (s.dropWhile digB)
    ·have HX:=z2c (show zdw s=decide (s.dropWhile digB=[120]) by
      rw[HC.out];split
      ·contradiction
      ·rename_i he;rw[he]at hd;simp[zin]at hd
      ·rw[zr2])
     rw[hd]at HP;generalize decide (s.dropWhile digB=[120])=q at*;clear hRs hd hw;go_enter z59,z5y;go_wp2_with(first|(go_at_call 44;(with_reducible refine(HD.out _).mono ?_);rintro e w' ⟨rfl,X,rfl⟩)|(go_at_call 45;(with_reducible refine(HP.out _).mono ?_);rintro e w' ⟨rfl,rfl⟩))
     go_ret;exact Ret.of (by rw[HX.out];rfl) bel
    ·rw[hd]at HP;cases hq:s.dropWhile digB with
     |nil=>rw[hq]at hd;simp[zin]at hd
     |cons c r=>
      rw[hq]at hd;have hc:c=46:=by
       have:c.toNat=46:=by simpa[zin]using hd
       exact UInt8.toNat_inj.1 this
      subst hc;have HX:=z2c (show zdw s=((decide (1<=tw digB r)&&decide (tw digB r<=9))&&decide (r.dropWhile digB=[120])) by
       rw[HC.out,hq,<-zr2];cases r<;>rfl)
      rw[hq]at hRs hdl;have hr1:1<=R.size:=by rw[hRs];simp
      have hR1:R.extract 1 R.size=⟨r.toArray⟩:=by
       rw[zdn,<-hR,hq];rfl
      obtain⟨R2,hR2⟩: ∃S:ByteArray,⟨r.toArray⟩=S:=⟨_,rfl⟩;obtain⟨R3,hR3⟩: ∃S:ByteArray,⟨(r.dropWhile digB).toArray⟩=S:=⟨_,rfl⟩;have hm2:R.size<=9223372036854775807:=by omega
      have HD2:=z2c (fun W=>zpb r W (by simp at hdl;omega));have hR3x:(R3.toList==[120])=decide (r.dropWhile digB=[120]):=by rw[<-hR3,ByteArray.toList_eq,z2l];simp
      rw[hR2,hR3]at HD2;rw[hR2]at hR1;clear hR2 hR3 hRs hR hq hd hw hdl;generalize(decide (1<=tw digB r)&&decide (tw digB r<=9))=f at*;generalize decide (r.dropWhile digB=[120])=q at*;cases f;all_goals
       go_enter z59,z5y;go_wp2_with(first|(go_at_call 44;(with_reducible refine(HD.out _).mono ?_);rintro e w' ⟨rfl,X,rfl⟩)|(go_at_call 45;(with_reducible refine(HP.out _).mono ?_);rintro e w' ⟨rfl,rfl⟩)|(go_at_call 44;(with_reducible refine(HD2.out _).mono ?_);rintro e w' ⟨rfl,X3,rfl⟩))
       go_ret;exact Ret.of (by rw[HX.out];first|rfl|simp) bel
theorem zta (l:Bs):decide (z4q l 44=l)=match l with
  |[]=>true
  |c::r=>decide (c.toNat≠44)&& !zgl (c::r):=by
 cases l with
 |nil=>rfl
 |cons c r=>
  have hr:=zln (c::r);unfold z4q;rw[znq,z2l];cases he:zgl (c::r)
  ·rw[he]at hr;have h1:zce (c::r)=c::r:=by simpa using hr.symm
   rw[h1];unfold Lib.trimLeftB;by_cases hc:c=44
   ·rw[z22 (by simp[hc])];have h2:=zat (fun x=>x==44) r;constructor
    ·intro h;have:=congrArg List.length (of_decide_eq_true h);simp at this;omega
    ·intro h;simp[hc]at h
   ·rw[z2s (by simp[hc])];have h2:c.toNat≠44:=fun e=>hc (UInt8.toNat_inj.1 e);simp[h2,he]
  ·rw[he]at hr;have h1:zce (c::r)≠c::r:=by simpa using hr.symm
   simp only[he,Bool.not_true,Bool.and_false,decide_eq_true_eq,Bool.false_eq_true,iff_false];intro h;have h2:=congrArg List.length h;have h3:=znr (c::r);have h4:=zat (fun x=>x==44) (zce (c::r));unfold Lib.trimLeftB at h2;have h5:(zce (c::r)).length=(c::r).length:=by omega
   apply h1;unfold zce at h5 ⊢;rw[List.length_reverse]at h5;have h6:=(z3s (fun c:UInt8=>decide (c.toNat=44)) (l:=(c::r).reverse)).eq_of_length (by rw[h5];simp);rw[h6,List.reverse_reverse]
theorem tw_all (p:UInt8->Bool) (l:Bs):l.all p=decide (tw p l=l.length):=by
 induction l with
 |nil=>rfl
 |cons c l ih=>
  cases h:p c
  ·rw[zds _ h,List.all_cons,h];simp
  ·rw[zdr _ h,List.all_cons,h,ih];simp
theorem zqk (p:Pic):okP p=(!decide (p.url=[])&&decide (z4q p.url 44=p.url)&&decide (tw nspB p.url=p.url.length)&&zdw p.size):=by
 rw[zta,<-tw_all];unfold okP nspB;cases p.url<;>simp
theorem zor (p:Pic) (w:World) (h1:p.url.length<=9223372036854775807) (h2:p.size.length<=9223372036854775807):Calls z2f 13 #[Pic.agg p] w (Ret (.bool (okP p)) w):=by
 have HX:=z2c (zqk p);have HZ:=z2c (fun W=>zlp p.size W h2);have HU:=z2c (fun W=>znp p.url W h1);obtain⟨V,hV⟩: ∃V:ByteArray,⟨(z4q p.url 44).toArray⟩=V:=⟨_,rfl⟩;obtain⟨U,hU⟩: ∃V:ByteArray,⟨p.url.toArray⟩=V:=⟨_,rfl⟩;obtain⟨S,hS⟩: ∃V:ByteArray,⟨p.size.toArray⟩=V:=⟨_,rfl⟩;have HT:=z2c (fun W=>show Calls z2f 31 #[.string U,.string ⟨#[44]⟩] W (Ret (.string V) W)from by
  have:=Tryz.strings_Trim_one ⟨p.url.toArray⟩ 44 (by decide) W (by show p.url.length<=_;omega);rw[show(⟨p.url.toArray⟩:ByteArray).data.toList=p.url from rfl,hV,hU]at this;refine this.mono ?_;rintro e w' ⟨rfl,rfl|rfl⟩
  ·exact Ret.same rfl
  ·exact Ret.of rfl bel)
 have hUe:U.toList.isEmpty=decide (p.url=[]):=by rw[zf7,<-hU]
 have hVU:(V.toList==U.toList)=decide (z4q p.url 44=p.url):=by rw[zhs,<-hV,<-hU]
 have hUs:U.size=p.url.length:=by rw[<-hU];rfl
 have hTU:((tw nspB p.url:Int)==(U.size:Int))=decide (tw nspB p.url=p.url.length):=by rw[hUs,z2l];simp;omega
 have hmx:=mxd;rw[hU]at HU;rw[hS]at HZ;rw[Pic.agg,sv,sv,hU,hS];clear hU hS hV h1 h2 hUs;generalize okP p=R at*;generalize decide (p.url=[])=b1 at*;generalize decide (z4q p.url 44=p.url)=b2 at*;generalize decide (tw nspB p.url=p.url.length)=b3 at*;generalize tw nspB p.url=n at*;generalize zdw p.size=b4 at*;cases b1
 ·cases b2
  ·go_enter Tryz.func13,Tryz.ntmps13;go_wp2
   refine zad (by kernel_rfl) (by kernel_rfl) ?_;repeat(go_big_quiet_step(first|(go_at_call 31;with_reducible exact Calls.grow_of (HT.out _))|(go_at_call 32;with_reducible exact Calls.grow_of (HU.out _))|(go_at_call 19;with_reducible exact Calls.grow_of (HZ.out _))))
   refine wpQuiet_nil ?_;intro _ hw';obtain⟨nq,hw''⟩:=hw';subst hw'';go_wp2
   go_ret;exact Ret.of (by rw[HX.out];rfl) bel
  ·cases b3;all_goals
    go_enter Tryz.func13,Tryz.ntmps13;go_wp2
    refine zad (by kernel_rfl) (by kernel_rfl) ?_;repeat(go_big_quiet_step(first|(go_at_call 31;with_reducible exact Calls.grow_of (HT.out _))|(go_at_call 32;with_reducible exact Calls.grow_of (HU.out _))|(go_at_call 19;with_reducible exact Calls.grow_of (HZ.out _))))
    refine wpQuiet_nil ?_;intro _ hw';obtain⟨nq,hw''⟩:=hw';subst hw'';go_wp2
    go_ret;exact Ret.of (by rw[HX.out];first|rfl|simp) bel
 ·go_enter Tryz.func13,Tryz.ntmps13;go_wp2
  refine zad (by kernel_rfl) (by kernel_rfl) ?_;repeat(go_big_quiet_step(fail))
  refine wpQuiet_nil ?_;intro _ hw';obtain⟨nq,hw''⟩:=hw';subst hw'';go_wp2
  go_ret;exact Ret.of (by rw[HX.out];rfl) bel
def w1:Bs:=[97,32,49,120,44,32,98]
theorem zu2:picL w1=[⟨[97],[49,120]⟩,⟨[98],[]⟩]:=by decide
theorem zu0:zd0 [⟨[97],[49,120]⟩,⟨[98],[]⟩]=w1:=by decide
theorem zu1:zdw [49,48,119]=true:=by decide
theorem zrp (w:World):Calls z2f 7 #[] w (Ret (.bool true) w):=by
 have HP:=z2c (fun W=>show Calls z2f 12 #[.string ⟨#[97,32,49,120,44,32,98]⟩] W (RetS W 2 2 (zca [⟨[97],[49,120]⟩,⟨[98],[]⟩]))from zu2 ▸ zzy w1 W (by decide));have HT:=z2c (fun(A:Option Addr) (n c:Nat) (W:World) (h:Rd W (.slice A n c) 2 2 (zca [⟨[97],[49,120]⟩,⟨[98],[]⟩]))=>show Calls z2f 18 #[.slice A n c] W (Ret (.string ⟨#[97,32,49,120,44,32,98]⟩) W)from by
  have:=zj2 A n c _ W h (by decide) (by decide) (by decide);rw[zu0]at this;exact this)
 have HZ:=z2c (fun W=>show Calls z2f 19 #[.string ⟨#[49,48,119]⟩] W (Ret (.bool true) W)from zu1 ▸ zlp [49,48,119] W (by decide));have hmx:=mxd;go_enter Tryz.func7,Tryz.ntmps7;go_wp2_with(first|(go_at_call 12;(with_reducible refine(HP.out _).mono ?_);rintro e w' ⟨A3,c3,X3,rfl,rfl,hc3,hr3⟩;obtain⟨b,off,rfl,hb,c0,c1⟩:=hr3.pic 0 (by decide);simp only[List.getElem_cons_zero,Nat.zero_mul,Nat.add_zero,sv]at c0 c1;have HR3:=z2c hr3;clear hr3)|(go_at_call 18;(with_reducible refine(HT.out _ _ _ _ HR3.out).mono ?_);rintro e w' ⟨rfl,X4,rfl⟩)|(go_at_call 19;(with_reducible refine(HZ.out _).mono ?_);rintro e w' ⟨rfl,X5,rfl⟩))
 go_ret;exact Ret.of rfl bel
end Go.Proofs.YtiikamobcmgekaaGreatDoor
