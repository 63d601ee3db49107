/- The walks of the reference's figures and row of chapter 09. -/
import Derived.Lib.ItoaLen
import Derived.BigRegion
import Derived.Test.YtbhhgbgfaemfdaaGreatDoorPrwB
namespace Go.Proofs.YtbhhgbgfaemfdaaGreatDoor
open Lib renaming decDigits→z3p
open List renaming length_append→z2i
set_option maxRecDepth 100000
set_option maxHeartbeats 1600000
open Go.RowKit
attribute [local go_sem] Oper.semAt_some
def fgB (d:Nat):UInt8:=UInt8.ofNat (48+d)
theorem str_eq {a b:ByteArray} (h:a.data.toList=b.data.toList):Value.string a=Value.string b:=by rw[zb7 h]
theorem zxr (n:Nat) (h:n<10):z3p n=[fgB n]:=by rw[z3p,dif_pos h];rfl
theorem zz6 (n:Nat) (h: ¬n<10):z3p n=z3p (n/10)++z3p (n%10):=by
 rw[zxr (n%10) (by omega)]
 conv=>lhs;rw[z3p,dif_neg h]
 rfl
theorem zxs (n:Nat) (h:n<=9223372036854775807):(z3p n).length<=21:=by
 have h9:=Lib.itoa_length_le (n:Int) (by omega) (by omega)
 unfold Lib.itoa at h9
 rw[if_neg (by omega)]at h9
 simpa using h9
theorem z12 (n:Nat) (h:n<10):bv (fgB n)= .int .u8 (48+(n:Int)):=by
 have:(fgB n).toNat=48+n:=by simp only[fgB,UInt8.toNat_ofNat'];omega
 simp[bv,this]
theorem tdivN (a b:Nat):Int.tdiv (a:Int) (b:Int)=((a/b:Nat):Int):=by rw[Int.tdiv_eq_ediv_of_nonneg (by omega)];rfl
theorem tmodN (a b:Nat):Int.tmod (a:Int) (b:Int)=((a%b:Nat):Int):=by rw[Int.tmod_eq_emod_of_nonneg (by omega)];rfl
theorem zv4: ∀(n:Nat),n<=9223372036854775807-> ∀w:World,Calls Tryz.prog 66 #[.int .i64 n] w (Ret (.string ⟨(z3p n).toArray⟩) w):=by
 intro n
 induction n using Nat.strongRecOn with
 |ind n ih=>
 intro hn w
 by_cases h10:n<10
 ·have HD:=Lib.hid (zxr n h10)
  have b0:decide ((n:Int)<10)=true:=by simp;omega
  have hw:IntKind.u8.wrap (48+(n:Int))=48+(n:Int):=IntWalk.u8_in _ (by omega)
  have hcv: ∀W:World,(convert 56 9 (.slice (some ⟨W.heap.size,0,none⟩) 1 1)).run Tryz.prog (W.alloc (.cells #[.int .u8 (48+(n:Int))] 5))= .ok (.string ⟨#[fgB n]⟩) (W.alloc (.cells #[.int .u8 (48+(n:Int))] 5)):=fun W=>by
   refine Rd.str (l:=[fgB n]) ⟨rfl,by simp,_,1,rfl,fun _=>⟨W.heap.size,0,rfl,by simp,fun j u hu=> ?_⟩⟩ 56 9 5 Tryz.underlying56 Tryz.underlying5 Tryz.underlying9
   have hj:j=0:=by have:=(List.getElem?_eq_some_iff.1 hu).1;simp at this;omega
   subst hj
   simp only[List.map_cons,List.map_nil,List.getElem?_cons_zero,Option.some.injEq]at hu
   rw[<-hu,z12 n h10]
   simp only[World.cell?,heap_alloc_new];rfl
  clear ih
  go_enter Tryz.func66,Tryz.ntmps66
  go_wp2_with fail
  go_ret
  exact Ret.of (by rw[HD.out];rfl) bel
 ·have b0:decide ((n:Int)<10)=false:=by simp;omega
  obtain⟨T1,hT1⟩: ∃T:ByteArray,⟨(z3p (n/10)).toArray⟩=T:=⟨_,rfl⟩
  obtain⟨T2,hT2⟩: ∃T:ByteArray,⟨(z3p (n%10)).toArray⟩=T:=⟨_,rfl⟩
  have h1:=Lib.hid (fun W=>hT1 ▸ ih (n/10) (by omega) (by omega) W)
  have h2:=Lib.hid (fun W=>hT2 ▸ ih (n%10) (by omega) (by omega) W)
  have e1:Int.tdiv (n:Int) 10=((n/10:Nat):Int):=tdivN n 10
  have e2:Int.tmod (n:Int) 10=((n%10:Nat):Int):=tmodN n 10
  have s1:T1.size<=21:=by rw[<-hT1];exact zxs _ (by omega)
  have s2:T2.size<=21:=by rw[<-hT2];exact zxs _ (by omega)
  have HD:Hid (z3p n=T1.data.toList++T2.data.toList):=by show _=_;rw[<-hT1,<-hT2];exact zz6 n h10
  have hq:n/10<=9223372036854775807:=by omega
  have hr:n%10<=9:=by omega
  clear ih hT1 hT2
  generalize n/10=q at*
  generalize n%10=r at*
  go_enter Tryz.func66,Tryz.ntmps66
  go_wp2_with(go_at_call 66;first|((with_reducible refine(h1.out _).mono ?_);rintro e w' ⟨rfl,X1,rfl⟩)|((with_reducible refine(h2.out _).mono ?_);rintro e w' ⟨rfl,X2,rfl⟩))
  go_ret
  exact Ret.of (str_eq (by rw[ByteArray.data_append,Array.toList_append,HD.out])) bel
theorem zma (n:Int) (h0:0<=n) (h1:n<=1000000000) (w:World):Calls Tryz.prog 66 #[.int .i64 n] w (Ret (.string ⟨(Lib.itoa n).toArray⟩) w):=by
 obtain⟨m,rfl⟩: ∃m:Nat,n=m:=⟨n.toNat,by omega⟩
 have e:Lib.itoa (m:Int)=z3p m:=by unfold Lib.itoa;rw[if_neg (by omega)];simp
 rw[e]
 exact zv4 m (by omega) w
theorem zgb {l:List Bs} {k:Nat}:(zck (l.take k)).length<=(zck l).length:=by
 unfold zck Lib.joinTail
 conv=>rhs;rw[<-List.take_append_drop k l,List.map_append,List.flatten_append,z2i]
 omega
theorem zim (v:Value) (k:Bs) (l:List Bs) (w:World) (h:Rd w v l.length 1 (l.map sv)) (hm:(sayN k l).length<=35184372088832):Calls Tryz.prog 64 #[.string ⟨k.toArray⟩,v] w (Ret (.string ⟨(sayN k l).toArray⟩) w):=by
 obtain⟨_,hm1,A,c,rfl,h4⟩:=h
 by_cases h0:l.length=0
 ·obtain rfl:=List.eq_nil_of_length_eq_zero h0
  have HE:Hid (sayN k []=[]):=rfl
  clear hm h4 h0 hm1
  go_enter Tryz.func64,Tryz.ntmps64
  go_wp2_with fail
  go_ret
  exact Ret.of (by rw[HE.out];rfl) bel
 have HE:Hid (sayN k l=k++zck l++[59,10]):=by
  show _=_
  unfold sayN
  rw[if_neg (fun e=>h0 (by rw[e];rfl))]
  simp[sayS]
 have hsz:(k++zck l).length<=35184372088832:=by
  rw[HE.out,z2i]at hm
  omega
 have H4:=Lib.hid h4
 obtain⟨n,hn⟩: ∃n,l.length=n:=⟨_,rfl⟩
 have HN:=Lib.hid hn
 rw[hn]at h0 H4 hm1 ⊢
 have HSz:=Lib.hid hsz
 have hks:(⟨k.toArray⟩:ByteArray).size<=35184372088832:=by
  rw[z2i]at hsz
  show k.toArray.size<=_
  simp only[List.size_toArray];omega
 have HK0:Hid ((⟨k.toArray⟩:ByteArray)=⟨(k++zck (l.take 0)).toArray⟩):=by show _=_;simp[zck,Lib.joinTail]
 clear hm h4 hn hsz
 have h0':((n:Int)==0)=false:=by simp;omega
 generalize(⟨k.toArray⟩:ByteArray)=kb at*
 go_enter Tryz.func64,Tryz.ntmps64
 go_wp2_with fail
 go_loopw [5,6] (fun o i wr=> ∃j:Nat,j<=n/\i= .int .i64 (j:Nat)/\o= .string ⟨(k++zck (l.take j)).toArray⟩/\Hid (Below w.heap.size w wr)) (fun _ i _=>n-(intOf i).toNat)
 case atStart=>exact⟨0,by omega,rfl,by rw[<-HK0.out],by show Below _ _ _;exact bel⟩
 case round=>
  clear HK0
  obtain⟨j,hj,rfl,rfl,HB⟩:=hrel
  have hos:(⟨(k++zck (l.take j)).toArray⟩:ByteArray).size<=35184372088832:=by
   have h1:=HSz.out
   have h2:=zgb (l:=l) (k:=j)
   show(k++zck (l.take j)).toArray.size<=_
   simp only[List.size_toArray,z2i]at*
   omega
  by_cases hlt:j<n
  ·obtain⟨b,off,rfl,hb,hc⟩:=H4.out (by omega)
   have hkl:j<l.length:=by rw[HN.out];exact hlt
   obtain⟨x,hx⟩: ∃x,l[j]=x:=⟨_,rfl⟩
   have x0:wr.cell? ⟨b,off+j,none⟩=some (.string ⟨x.toArray⟩):=(HB.out.cell (p:=⟨b,off+j,none⟩) hb).trans (hc j (sv x) (by simp[hkl,hx]))
   have hbr:b<wr.heap.size:=Nat.lt_of_lt_of_le hb HB.out.size
   have ht:zck (l.take (j+1))=zck (l.take j)++(32::x):=by
    rw[List.take_succ_eq_append_getElem hkl,hx]
    unfold zck Lib.joinTail
    simp
   have HT:Hid ((⟨(k++zck (l.take j)).toArray⟩:ByteArray)++⟨#[32]⟩++⟨x.toArray⟩=⟨(k++zck (l.take (j+1))).toArray⟩):=by
    refine zb7 ?_
    rw[ht]
    simp
   have hxs:(⟨x.toArray⟩:ByteArray).size<=35184372088832:=by
    have h1:=HSz.out
    have h2:=zgb (l:=l) (k:=j+1)
    rw[ht]at h2
    show x.toArray.size<=_
    simp only[List.size_toArray,z2i,List.length_cons]at*
    omega
   clear hc hx hkl ht
   generalize(⟨(k++zck (l.take j)).toArray⟩:ByteArray)=ob at*
   generalize(⟨x.toArray⟩:ByteArray)=xb at*
   go_wp2_with fail
   go_roundw
   case rel=>exact⟨j+1,by omega,by go_num,by rw[<-HT.out],by show Below _ _ _;exact HB.out.trans ((bel:Below wr.heap.size wr _).mono HB.out.size)⟩
   case measure=>simp[intOf];omega
  ·have HT:Hid ((⟨(k++zck (l.take j)).toArray⟩:ByteArray)++⟨#[59,10]⟩=⟨(sayN k l).toArray⟩):=by
    refine zb7 ?_
    rw[HE.out,List.take_of_length_le (by rw[HN.out];omega)]
    simp
   generalize(⟨(k++zck (l.take j)).toArray⟩:ByteArray)=ob at*
   go_wp2_with fail
   go_ret
   exact Ret.of (by rw[<-HT.out];rfl) (HB.out.trans ((bel:Below wr.heap.size wr _).mono HB.out.size))
end Go.Proofs.YtbhhgbgfaemfdaaGreatDoor

