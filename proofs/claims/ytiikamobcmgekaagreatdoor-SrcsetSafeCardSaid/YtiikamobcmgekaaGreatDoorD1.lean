/- Addresses: in plain words; the walks of Split, Local, Clean, Filter. -/
import Derived.Lib.TrimUEq
import Derived.Shelf.GgClosure.StringsTrimFunc
import Derived.Test.YtiikamobcmgekaaGreatDoorC3
import Derived.Test.YtiikamobcmgekaaGreatDoorLA
import Derived.Test.YtiikamobcmgekaaGreatDoorShelf
namespace Go.Proofs.YtiikamobcmgekaaGreatDoor
def blankB (c:UInt8):Bool:=decide (c.toNat<=32)
def dropC (c:UInt8):Bool:=decide (c.toNat=9\/c.toNat=10\/c.toNat=13)
def keepC (c:UInt8):Bool:= !dropC c
def trimL (l:Bs):Bs:=((l.dropWhile blankB).reverse.dropWhile blankB).reverse
def cleanL (l:Bs):Bs:=(trimL l).filter keepC
def ltrB (c:UInt8):Bool:=lowB c||upB c
def lowC (c:UInt8):UInt8:=if upB c=true then c+32 else c
def goesB (c:UInt8):Bool:=ltrB c||digB c||decide (c.toNat=43\/c.toNat=45\/c.toNat=46)
def splitL (l:Bs):Option (Bs × Bs):=match l with
 |[]=>none
 |c::r=>if ltrB c=true then match (c::r).dropWhile goesB with
   |d::q=>if d.toNat=58 then some (((c::r).takeWhile goesB).map lowC,q)else none
   |[]=>none
  else none
def strokeB (c:UInt8):Bool:=decide (c.toNat=47\/c.toNat=92)
def slashB:Bs->Bool
 |a::b::_=>strokeB a&&strokeB b
 |_=>false
def localL (l:Bs):Bool:=(splitL l).isNone&& !slashB l
def filtL (p:Pol) (s:Bs):Option Bs:=match splitL (cleanL s)with
 |some (n,r)=>if schR p n=true then some (n++58::r)else none
 |none=>if(p.rel&&localL (cleanL s))=true then some (cleanL s)else none
theorem drop_blank {c:UInt8} (h:dropC c=true):blankB c=true:=by
 unfold dropC at h
 unfold blankB
 rw[decide_eq_true_eq]at h ⊢
 omega
theorem while_keep (l:Bs):(l.dropWhile blankB).filter keepC=(l.filter keepC).dropWhile blankB:=by
 induction l with
 |nil=>rfl
 |cons c r ih=>
  by_cases hb:blankB c=true
  ·rw[List.dropWhile_cons_of_pos hb,ih]
   by_cases hk:keepC c=true
   ·rw[List.filter_cons_of_pos hk,List.dropWhile_cons_of_pos hb]
   ·rw[List.filter_cons_of_neg hk]
  ·have hk:keepC c=true:=by
    unfold keepC
    cases hd:dropC c
    ·rfl
    ·exact absurd (drop_blank hd) hb
   rw[List.dropWhile_cons_of_neg hb,List.filter_cons_of_pos hk,List.dropWhile_cons_of_neg hb]
theorem clean_eq (l:Bs):cleanL l=trimL (l.filter keepC):=by
 unfold cleanL trimL
 rw[List.filter_reverse,while_keep,List.filter_reverse,while_keep]
structure Cln (l:Bs):Prop where
 no: ∀c∈l,keepC c=true
 hd: ∀c,l.head? =some c->blankB c=false
 lst: ∀c,l.getLast? =some c->blankB c=false
theorem while_stop {l:Bs} (h: ∀c,l.head? =some c->blankB c=false):l.dropWhile blankB=l:=by
 cases l with
 |nil=>rfl
 |cons c r=>exact List.dropWhile_cons_of_neg (by rw[h c rfl];decide)
theorem Cln.eq {l:Bs} (h:Cln l):cleanL l=l:=by
 unfold cleanL trimL
 rw[while_stop h.hd,while_stop (l:=l.reverse) (fun c hc=>h.lst c (by rw[List.head?_reverse]at hc;exact hc)),List.reverse_reverse]
 exact List.filter_eq_self.2 h.no
theorem while_head (l:Bs): ∀c,(l.dropWhile blankB).head? =some c->blankB c=false:=by
 intro c hc
 have h:=List.head?_dropWhile_not blankB l
 rw[hc]at h
 simpa using h
theorem clean_cln (l:Bs):Cln (cleanL l):=by
 refine⟨fun c hc=>(List.mem_filter.1 hc).2,fun c hc=> ?_,fun c hc=> ?_⟩
 ·rw[clean_eq]at hc
  unfold trimL at hc
  obtain⟨m,hm⟩: ∃m,(l.filter keepC).dropWhile blankB=m:=⟨_,rfl⟩
  have h1: ∀c,m.head? =some c->blankB c=false:=by rw[<-hm];exact while_head _
  rw[hm]at hc
  obtain⟨k,hk⟩: ∃k,m.reverse.takeWhile blankB=k:=⟨_,rfl⟩
  have h2:m.reverse=k++m.reverse.dropWhile blankB:=by rw[<-hk];exact(List.takeWhile_append_dropWhile).symm
  have h3:m=(m.reverse.dropWhile blankB).reverse++k.reverse:=by rw[<-List.reverse_append,<-h2,List.reverse_reverse]
  refine h1 c ?_
  rw[h3,List.head?_append,hc]
  rfl
 ·rw[clean_eq]at hc
  unfold trimL at hc
  rw[List.getLast?_reverse]at hc
  exact while_head _ c hc
theorem low_ltr {c:UInt8} (h:ltrB c=true):lowB (lowC c)=true:=by
 unfold lowC
 unfold ltrB at h
 by_cases hu:upB c=true
 ·rw[if_pos hu]
  unfold upB at hu
  unfold lowB
  rw[decide_eq_true_eq]at hu ⊢
  have:(c+32).toNat=c.toNat+32:=by rw[UInt8.toNat_add];show(c.toNat+32)%256=_;omega
  omega
 ·rw[if_neg hu]
  rcases Bool.or_eq_true _ _ ▸ h with h|h
  ·exact h
  ·exact absurd h hu
theorem low_goes {c:UInt8} (h:goesB c=true):goesB (lowC c)=true:=by
 by_cases hl:ltrB c=true
 ·unfold goesB ltrB
  rw[low_ltr hl];rfl
 ·have hu: ¬upB c=true:=fun e=>hl (by unfold ltrB;rw[e,Bool.or_true])
  unfold lowC
  rw[if_neg hu];exact h
theorem low_again {c:UInt8}:lowC (lowC c)=lowC c:=by
 by_cases hu:upB c=true
 ·have h:=low_ltr (c:=c) (by unfold ltrB;rw[hu,Bool.or_true])
  have: ¬upB (lowC c)=true:=by
   intro e
   unfold lowB at h
   unfold upB at e
   rw[decide_eq_true_eq]at h e
   omega
  show(if upB (lowC c)=true then lowC c+32 else lowC c)=lowC c
  rw[if_neg this]
 ·have e:lowC c=c:=by unfold lowC;rw[if_neg hu]
  rw[e,e]
theorem goes_keep {c:UInt8} (h:goesB c=true):blankB c=false/\keepC c=true:=by
 have h32:32<c.toNat:=by
  unfold goesB ltrB lowB upB digB at h
  simp only[Bool.or_eq_true,decide_eq_true_eq]at h
  omega
 unfold blankB keepC dropC
 rw[decide_eq_false_iff_not,Bool.not_eq_true',decide_eq_false_iff_not]
 omega
theorem colon_goes: ∀c:UInt8,c.toNat=58->goesB c=false:=by
 intro c h
 unfold goesB ltrB lowB upB digB
 simp only[Bool.or_eq_false_iff,decide_eq_false_iff_not]
 omega
theorem colon_is {c:UInt8} (h:c.toNat=58):c=58:=UInt8.toNat_inj.1 h
theorem split_some {l n r:Bs} (h:splitL l=some (n,r)): ∃a m:Bs,l=m++58::r/\n=m.map lowC/\(∀c∈m,goesB c=true)/\m.head? =some (a.headD 0)/\ltrB (a.headD 0)=true:=by
 unfold splitL at h
 split at h
 ·cases h
 ·next c q=>
  split at h
  ·next hl=>
   split at h
   ·next d q2 hd=>
    split at h
    ·next h58=>
     cases h
     have h1:(c::q).takeWhile goesB++(c::q).dropWhile goesB=c::q:=List.takeWhile_append_dropWhile
     rw[hd,colon_is h58]at h1
     refine⟨[c],(c::q).takeWhile goesB,h1.symm,rfl,fun x hx=>List.all_eq_true.1 (List.all_takeWhile (p:=goesB) (l:=c::q)) x hx, ?_,hl⟩
     rw[List.takeWhile_cons_of_pos (by unfold goesB;rw[hl];rfl)]
     rfl
    ·cases h
   ·cases h
  ·cases h
theorem split_made {m r:Bs} {c:UInt8} (hg: ∀x∈m,goesB x=true) (hc:m.head? =some c) (hl:ltrB c=true):splitL (m++58::r)=some (m.map lowC,r):=by
 cases m with
 |nil=>cases hc
 |cons a q=>
  cases hc
  have h1:(c::q++58::r).takeWhile goesB=c::q:=by
   rw[List.takeWhile_append_of_pos hg,List.takeWhile_cons_of_neg (by rw[colon_goes 58 rfl];decide),List.append_nil]
  have h2:(c::q++58::r).dropWhile goesB=58::r:=by
   rw[List.dropWhile_append_of_pos hg,List.dropWhile_cons_of_neg (by rw[colon_goes 58 rfl];decide)]
  show(if ltrB c=true then _ else _)=_
  rw[if_pos hl]
  show(match (c::q++58::r).dropWhile goesB with|d::q2=>if d.toNat=58 then some (((c::q++58::r).takeWhile goesB).map lowC,q2)else none|[]=>none)=_
  rw[h2,h1]
  rfl
theorem told_cln {s n r:Bs} (h:splitL (cleanL s)=some (n,r)):Cln (n++58::r):=by
 obtain⟨a,m,h1,rfl,hg,hh,hl⟩:=split_some h
 have hC:=clean_cln s
 rw[h1]at hC
 refine⟨fun c hc=> ?_,fun c hc=> ?_,fun c hc=> ?_⟩
 ·rcases List.mem_append.1 hc with hc|hc
  ·obtain⟨x,hx,rfl⟩:=List.mem_map.1 hc
   exact(goes_keep (low_goes (hg x hx))).2
  ·exact hC.no c (List.mem_append_right _ hc)
 ·cases m with
  |nil=>cases hh
  |cons x q=>
   cases hc
   exact(goes_keep (low_goes (hg x List.mem_cons_self))).1
 ·refine hC.lst c ?_
  rw[List.getLast?_append]at hc ⊢
  rw[List.getLast?_cons]at hc ⊢
  exact hc
theorem split_low {l n r:Bs} (h:splitL l=some (n,r)) (v:Bs):splitL (n++58::v)=some (n,v):=by
 obtain⟨a,m,h1,rfl,hg,hh,hl⟩:=split_some h
 have hm:m.map lowC=(m.map lowC).map lowC:=by
  rw[List.map_map]
  exact List.map_congr_left fun x _=>low_again.symm
 have:=split_made (m:=m.map lowC) (r:=v) (c:=lowC (a.headD 0)) (fun x hx=>by
  obtain⟨y,hy,rfl⟩:=List.mem_map.1 hx
  exact low_goes (hg y hy)) (by rw[List.head?_map,hh];rfl) (by unfold ltrB;rw[low_ltr hl];rfl)
 rw[<-hm]at this
 exact this
theorem told_split {s n r:Bs} (h:splitL (cleanL s)=some (n,r)):splitL (n++58::r)=some (n,r):=split_low h r
theorem filt_safe {p:Pol} {s a:Bs} (h:filtL p s=some a):cleanL a=a/\filtL p a=some a/\match splitL a with
  |some (n,_)=>schR p n=true
  |none=>(p.rel&&localL a)=true:=by
 unfold filtL at h
 split at h
 ·next n r hs=>
  split at h
  ·next hp=>
   cases h
   have hc:=(told_cln hs).eq
   have ht:=told_split hs
   refine⟨hc, ?_, ?_⟩
   ·unfold filtL
    rw[hc,ht]
    simp only
    rw[if_pos hp]
   ·rw[ht];exact hp
  ·cases h
 ·next hs=>
  split at h
  ·next hp=>
   cases h
   have hc:=(clean_cln s).eq
   refine⟨hc, ?_, ?_⟩
   ·unfold filtL
    rw[hc,hs]
    simp only
    rw[if_pos hp]
   ·rw[hs];exact hp
  ·cases h
open Go.RowKit Go.Shelf
attribute [local go_sem] Oper.semAt_some
def lwB (c:UInt8):UInt8:=if upB c then c+32 else c
def lowL (s:Bs):Bs:=s.map lwB
theorem lw_low (c:UInt8):lwB c=lowC c:=by unfold lwB lowC;cases upB c<;>rfl
theorem low_map (l:Bs):lowL l=l.map lowC:=by unfold lowL;exact List.map_congr_left fun c _=>lw_low c
def BytesOf (W:World) (nb:Nat) (e:TypeId) (l:Bs):Prop:=
 ∃C m,W.heap[nb]? =some (.cells C e (m,m+1))/\l.length<=m/\l.length<=C.size/\ ∀k (h:k<l.length),C[k]? =some (bv l[k])
theorem BytesOf.cell {W:World} {nb:Nat} {e:TypeId} {l:Bs} (h:BytesOf W nb e l) (k:Nat) (hk:k<l.length):W.cell? ⟨nb,k,none⟩=some (.int .u8 (l[k].toNat:Int)):=by
 obtain⟨C,m,h1,_,_,h2⟩:=h
 simp[World.cell?,h1,h2 k hk,bv]
theorem BytesOf.free {W:World} {nb:Nat} {e:TypeId} {l:Bs} (h:BytesOf W nb e l) (k:Nat) (hk:k<l.length):W.frozen? ⟨nb,k,none⟩=false:=by
 obtain⟨C,m,h1,h3,_,_⟩:=h
 simp[World.frozen?,h1];omega
theorem BytesOf.lt {W:World} {nb:Nat} {e:TypeId} {l:Bs} (h:BytesOf W nb e l):nb<W.heap.size:=by
 obtain⟨C,m,h1,_⟩:=h
 exact(Array.getElem?_eq_some_iff.1 h1).1
theorem BytesOf.set {W:World} {nb:Nat} {e:TypeId} {l:Bs} (h:BytesOf W nb e l) (k:Nat) (hk:k<l.length) (c:UInt8):BytesOf (W.setCell ⟨nb,k,none⟩ (bv c)) nb e (l.set k c):=by
 have hl:=h.lt
 obtain⟨C,m,h1,h2,h3,h4⟩:=h
 refine⟨C.setIfInBounds k (bv c),m, ?_,by simpa using h2,by simpa using h3,fun j hj=> ?_⟩
 ·unfold World.setCell
  simp only[Array.getElem?_modify,if_true,h1,Option.map_some]
  rfl
 ·rw[List.length_set]at hj
  rw[Array.getElem?_setIfInBounds]
  by_cases hjk:k=j
  ·subst hjk;simp;omega
  ·rw[if_neg hjk,h4 j hj];simp[hjk]
theorem BytesOf.new (W:World) (e:TypeId) (s:ByteArray):BytesOf (W.grow (bytesGr W e s)) W.heap.size e s.data.toList:=by
 have hb:(W.grow (bytesGr W e s)).heap[W.heap.size]? =some (.cells (Lib.bytesCells W e s) e ((Lib.bytesCells W e s).size,(Lib.bytesCells W e s).size+1)):=by
  simp only[World.grow]
  rw[Array.getElem?_append_right (Nat.le_refl _),Nat.sub_self];rfl
 have hc: ∀k (h:k<s.data.toList.length),(Lib.bytesCells W e s)[k]? =some (bv s.data.toList[k]):=fun k hk=>by
  have h:=bytes_cells W e s k (by rw[<-len_data];exact hk)
  unfold World.cell? at h
  have h3:(Lib.bytesCells W e s)[k]? =some (.int .u8 ((s[k]'(by rw[<-len_data];exact hk)).toNat:Int)):=by simpa[hb]using h
  exact h3
 have hsz:s.data.toList.length<=(Lib.bytesCells W e s).size:=by
  rcases Nat.eq_zero_or_pos s.data.toList.length with h0|h0
  ·omega
  ·have:=hc (s.data.toList.length-1) (by omega)
   have:=(Array.getElem?_eq_some_iff.1 this).1;omega
 exact⟨_,_,hb,hsz,hsz,hc⟩
theorem BytesOf.rd {W:World} {nb:Nat} {e:TypeId} {l:Bs} (h:BytesOf W nb e l) (c:Nat) (hm:l.length<=9223372036854775807):Rd W (.slice (some ⟨nb,0,none⟩) l.length c) l.length 1 (l.map bv):=
 ⟨by simp,hm,_,c,rfl,fun _=>⟨nb,0,rfl,h.lt,fun j u hu=>by
  rw[List.getElem?_map]at hu
  obtain⟨hj,_⟩:=List.getElem?_eq_some_iff.1 (show l[j]? =some l[j]!from by
   cases hq:l[j]? with
   |none=>rw[hq]at hu;cases hu
   |some x=>simp[List.getElem!_eq_getElem?_getD,hq])
  rw[List.getElem?_eq_getElem hj]at hu
  simp at hu
  rw[Nat.zero_add,h.cell j hj,<-hu];rfl⟩⟩
theorem up_bits (c:UInt8) (h:upB c=true):bits .or .u8 c.toNat 32=((lwB c).toNat:Int):=by
 have h0: ∀n:Fin 256,(65<=n.val/\n.val<=90)->bits .or .u8 ((n.val:Nat):Int) 32=((n.val+32:Nat):Int):=by decide+kernel
 have h1:=h
 simp only[upB,decide_eq_true_eq]at h1
 have h2:(lwB c).toNat=c.toNat+32:=by
  unfold lwB;rw[if_pos h,UInt8.toNat_add];simp;omega
 rw[h2]
 exact h0 ⟨c.toNat,c.toNat_lt⟩ h1
theorem btw_up (c:UInt8):btwB c.toNat 65 90=upB c:=by unfold btwB upB;rw[Bool.eq_iff_iff];simp;omega
theorem low_step (S:Bs) (k:Nat) (h:k<S.length):(lowL (S.take k)++S.drop k).set k (lwB S[k])=lowL (S.take (k+1))++S.drop (k+1):=by
 have h1:(lowL (S.take k)).length=k:=by simp[lowL];omega
 rw[List.set_append_right _ _ (by omega),h1,Nat.sub_self,List.drop_eq_getElem_cons h,List.set_cons_zero,List.take_succ_eq_append_getElem h,lowL,lowL,List.map_append,List.append_assoc]
 rfl
theorem low_at (S:Bs) (k:Nat) (h:k<S.length) (h2:k<(lowL (S.take k)++S.drop k).length):(lowL (S.take k)++S.drop k)[k]=S[k]:=by
 have h1:(lowL (S.take k)).length=k:=by simp[lowL];omega
 rw[List.getElem_append_right (by omega)]
 simp[h1]
theorem low_len (S:Bs) (k:Nat):(lowL (S.take k)++S.drop k).length=S.length:=by simp[lowL];omega
set_option maxHeartbeats 3200000 in
theorem lower_any (s:ByteArray) (w:World) (hm:s.size<=140737488355328):Calls Tryz.prog 162 #[.string s] w (Ret (.string ⟨(lowL s.data.toList).toArray⟩) w):=by
 have hlen:=len_data s
 have HB:=Lib.hid (fun W=>BytesOf.new W 5 s)
 have HL:=Lib.hid hlen
 have hcv: ∀W:World,(convert 9 135 (.string s)).run Tryz.prog W= .ok (.slice (some ⟨W.heap.size,0,none⟩) s.size (grownCap W s.size 0 5)) (W.grow (bytesGr W 5 s)):=fun W=>bytes_run W _ _ _ s Tryz.underlying9 Tryz.underlying135 Tryz.underlying5
 go_enter Tryz.func162,Tryz.ntmps162
 go_wp2_with fail
 go_loopw [10] (fun i wr=> ∃k:Nat,k<=s.size/\i= .int .i64 k/\Hid (Below w.heap.size w wr)/\Hid (BytesOf wr w.heap.size 5 (lowL (s.data.toList.take k)++s.data.toList.drop k))) (fun i _=>s.size-(intOf i).toNat)
 case atStart=>exact⟨0,by omega,rfl,below_grow _ _,by show BytesOf _ _ _ _;have:=HB.out w;simpa[lowL]using this⟩
 case round=>
  obtain⟨k,hk,rfl,HW,HK⟩:=hrel
  by_cases hlt:k<s.size
  ·have hk2:k<s.data.toList.length:=by rw[HL.out];exact hlt
   have hk3:k<(lowL (s.data.toList.take k)++s.data.toList.drop k).length:=by rw[low_len];exact hk2
   have c0:=HK.out.cell k hk3
   rw[low_at _ _ hk2]at c0
   have f0:=HK.out.free k hk3
   have HS:=Lib.hid (HK.out.set k hk3 (lwB s.data.toList[k]))
   have HS1:=Lib.hid (low_step s.data.toList k hk2)
   have HU:=Lib.hid (up_bits s.data.toList[k])
   have HU0:Hid (upB s.data.toList[k]=false->lwB s.data.toList[k]=s.data.toList[k]):=fun h=>by unfold lwB;rw[h];rfl
   have HX:Hid (lwB s.data.toList[k]=s.data.toList[k]->BytesOf wr w.heap.size 5 (lowL (s.data.toList.take (k+1))++s.data.toList.drop (k+1))):=fun h=>by
    rw[<-HS1.out,h]
    have:=HK.out
    rwa[<-low_at _ _ hk2 hk3,List.set_getElem_self]
   have HBt:Hid (∀W,Calls Tryz.prog 91 #[.int .u8 s.data.toList[k].toNat,.int .u8 65,.int .u8 90] W fun e w'=>e= .returned (.bool (upB s.data.toList[k]))/\W=w'):=fun W=>btw_up _ ▸ between_any _ 65 90 W
   have hlt1:w.heap.size<wr.heap.size:=HK.out.lt
   clear hk3
   generalize s.data.toList[k]=c at*
   cases hu:upB c
   ·have HN:=Lib.hid (HX.out (HU0.out hu))
    have HBt2:=Lib.hid (show ∀W,Calls Tryz.prog 91 #[.int .u8 c.toNat,.int .u8 65,.int .u8 90] W fun e w'=>e= .returned (.bool false)/\W=w' from hu ▸ HBt.out)
    clear hu
    go_wp2_with(go_at_call 91;(with_reducible refine(HBt2.out _).mono ?_);rintro e w' ⟨rfl,rfl⟩)
    go_roundw
    case rel=>exact⟨k+1,by omega,by go_num,HW,HN⟩
    case measure=>simp[intOf];omega
   ·have hbits:=HU.out hu
    have HBt2:=Lib.hid (show ∀W,Calls Tryz.prog 91 #[.int .u8 c.toNat,.int .u8 65,.int .u8 90] W fun e w'=>e= .returned (.bool true)/\W=w' from hu ▸ HBt.out)
    clear hu
    go_wp2_with(go_at_call 91;(with_reducible refine(HBt2.out _).mono ?_);rintro e w' ⟨rfl,rfl⟩)
    go_roundw
    case rel=>exact⟨k+1,by omega,by go_num,Lib.hid (HW.out.setCell (by simp) _),by have:=HS.out;rw[HS1.out]at this;exact this⟩
    case measure=>simp[intOf];omega
  ·have hk2:k=s.size:=by omega
   subst hk2
   have hend:Rd wr (.slice (some ⟨w.heap.size,0,none⟩) s.size (grownCap w s.size 0 5)) (lowL s.data.toList).length 1 ((lowL s.data.toList).map bv):=by
    have:=HK.out
    rw[<-HL.out,List.take_length,List.drop_length,List.append_nil]at this
    have h2:=BytesOf.rd this (grownCap w s.size 0 5) (by simp[lowL];have:=HL.out;simp at this;omega)
    rw[show(lowL s.data.toList).length=s.size by rw[lowL,List.length_map,HL.out]]at h2 ⊢
    exact h2
   have hcv2:=hend.str 135 9 5 Tryz.underlying135 Tryz.underlying5 Tryz.underlying9
   clear hend
   go_wp2_with fail
   go_ret
   exact Ret.of rfl HW.out
open Go.Lib
def blankN (r:Nat):Bool:=decide (r<=32)
set_option maxRecDepth 100000 in
theorem rune_big (n b0 b1 b2 b3:Nat) (h:128<=b0):33<=(decodeN n b0 b1 b2 b3).1:=by
 unfold decodeN
 repeat' split
 all_goals(simp only;omega)
theorem blank_no {c:UInt8} (h: ¬c.toNat<128):blankB c=false:=by unfold blankB;rw[decide_eq_false_iff_not];omega
theorem blankN_no {r:Nat} (h:33<=r):blankN r=false:=by unfold blankN;rw[decide_eq_false_iff_not];omega
theorem blank_decode (s:ByteArray) (pos:Nat):blankN (Utf8.decode s pos).1=blankB (s.data.toList.getD pos 0)/\(blankB (s.data.toList.getD pos 0)=true->(Utf8.decode s pos).2=1):=by
 rw[decode_N]
 by_cases h:(s.data.toList.getD pos 0).toNat<128
 ·rw[decodeN_ascii _ _ _ _ _ h]
  exact⟨rfl,fun _=>rfl⟩
 ·rw[blank_no h,blankN_no (rune_big _ _ _ _ _ (by omega))]
  exact⟨rfl,fun h=>by cases h⟩
theorem getD_cons {l:Bs} {i:Nat} (h:i<l.length):l.drop i=l.getD i 0::l.drop (i+1):=by
 rw[List.drop_eq_getElem_cons h]
 congr 1
 simp[List.getD,h]
theorem left_blank (s:ByteArray): ∀(f pos:Nat),s.size<=pos+f->
  (if idxFuncFrom blankN false s f pos= -1 then []else s.data.toList.drop (idxFuncFrom blankN false s f pos).toNat)=(s.data.toList.drop pos).dropWhile blankB
 |0,pos,h=>by
  have:s.data.toList.drop pos=[]:=List.drop_eq_nil_of_le (by rw[<-size_eq];omega)
  simp[idxFuncFrom,this]
 |f+1,pos,h=>by
  by_cases hp:pos<s.size
  ·obtain⟨h1,h2⟩:=blank_decode s pos
   have hd:s.data.toList.drop pos=s.data.toList.getD pos 0::s.data.toList.drop (pos+1):=getD_cons (by rw[<-size_eq];exact hp)
   cases hb:blankB (s.data.toList.getD pos 0)with
   |true=>
    simp only[idxFuncFrom,if_pos hp,h1,hb,Bool.true_eq_false,if_false,h2 hb]
    rw[hd,List.dropWhile_cons_of_pos (p:=blankB) (a:=s.data.toList.getD pos 0) hb]
    exact left_blank s f _ (by omega)
   |false=>
    simp only[idxFuncFrom,if_pos hp,h1,hb,if_true]
    rw[if_neg (by omega),Int.toNat_natCast,hd,List.dropWhile_cons_of_neg (p:=blankB) (a:=s.data.toList.getD pos 0) (by rw[hb];decide)]
  ·have:s.data.toList.drop pos=[]:=List.drop_eq_nil_of_le (by rw[<-size_eq];omega)
   rw[this,idxFuncFrom_end _ _ s _ _ hp,if_pos rfl];rfl
theorem trim_left (s:ByteArray):(trimLeftF blankN s).data.toList=s.data.toList.dropWhile blankB:=by
 have h:=left_blank s s.size 0 (by omega)
 rw[List.drop_zero]at h
 rw[<-h]
 unfold trimLeftF idxFunc
 split
 ·rfl
 ·rw[extract_data,List.take_of_length_le (by rw[List.length_drop,<-size_eq];exact Nat.le_refl _)]
theorem last_blank (l:Bs) (i:Nat) (hi:0<i) (hil:i<=l.length):blankN (decodeLastL (l.take i)).1=blankB (l.getD (i-1) 0)/\(blankB (l.getD (i-1) 0)=true->(decodeLastL (l.take i)).2=1):=by
 rcases last_cases l i hi hil with⟨ha,hd⟩|⟨ha,hd⟩|⟨ha,st,hst,hd,hsum⟩
 ·rw[hd];exact⟨rfl,fun _=>rfl⟩
 ·rw[hd,blank_no (by omega)];exact⟨rfl,fun h=>by cases h⟩
 ·rw[hd,blank_no (by omega)]
  refine⟨?_,fun h=>by cases h⟩
  rw[decodeL_N,getD_dropU,Nat.add_zero,getD_takeU l i st hst]at hsum ⊢
  by_cases hb:(l.getD st 0).toNat<128
  ·rw[decodeN_ascii _ _ _ _ _ hb]at hsum
   have:st=i-1:=by simp only at hsum;omega
   rw[this]at hb
   omega
  ·exact blankN_no (rune_big _ _ _ _ _ (by omega))
theorem take_last {l:Bs} {i:Nat} (hi:0<i) (hil:i<=l.length):l.take i=l.take (i-1)++[l.getD (i-1) 0]:=by
 obtain⟨j,rfl⟩: ∃j,i=j+1:=⟨i-1,by omega⟩
 rw[Nat.add_sub_cancel,List.take_add_one]
 congr 1
 simp[List.getD,show j<l.length by omega]
theorem right_blank (s:ByteArray): ∀(f i:Nat),i<=f->i<=s.data.toList.length->OpenAt s.data.toList i->
  ((s.data.toList.take i).reverse.dropWhile blankB).reverse=s.data.toList.take (if 0<=lastIdxFuncFrom blankN false s f i then(lastIdxFuncFrom blankN false s f i).toNat+(decodeL (s.data.toList.drop (lastIdxFuncFrom blankN false s f i).toNat)).2 else 0)
 |0,i,hf,_,_=>by
  obtain rfl:i=0:=by omega
  simp[lastIdxFuncFrom]
 |f+1,i,hf,hil,ho=>by
  by_cases hi:0<i
  ·have hlen:(s.data.toList.take i).length=i:=by rw[List.length_take];omega
   have hw:=decodeLastL_width (s.data.toList.take i) (by omega)
   rw[hlen]at hw
   obtain⟨h1,h2⟩:=last_blank s.data.toList i hi hil
   have hrev:(s.data.toList.take i).reverse=s.data.toList.getD (i-1) 0::(s.data.toList.take (i-1)).reverse:=by rw[take_last hi hil,List.reverse_append];rfl
   cases hb:blankB (s.data.toList.getD (i-1) 0)with
   |true=>
    simp only[lastIdxFuncFrom,if_pos hi,h1,hb,Bool.true_eq_false,if_false,h2 hb]
    rw[hrev,List.dropWhile_cons_of_pos (p:=blankB) (a:=s.data.toList.getD (i-1) 0) hb]
    refine right_blank s f _ (by omega) (by omega) (.inr fun hc=> ?_)
    unfold blankB at hb
    rw[decide_eq_true_eq]at hb
    omega
   |false=>
    simp only[lastIdxFuncFrom,if_pos hi,h1,hb,if_true]
    rw[if_pos (by omega),Int.toNat_natCast,fw_width _ i hi hil ho,Nat.sub_add_cancel hw.2,hrev,List.dropWhile_cons_of_neg (p:=blankB) (a:=s.data.toList.getD (i-1) 0) (by rw[hb];decide),<-hrev,List.reverse_reverse]
  ·obtain rfl:i=0:=by omega
   rw[lastIdxFuncFrom_zero]
   simp
theorem last_lt (s:ByteArray): ∀(f i:Nat),i<=s.size->lastIdxFuncFrom blankN false s f i= -1\/(0<=lastIdxFuncFrom blankN false s f i/\lastIdxFuncFrom blankN false s f i<i)
 |0,_,_=> .inl rfl
 |f+1,i,hi=>by
  unfold lastIdxFuncFrom
  split
  ·rename_i h0
   have hw:=decodeLastL_width (s.data.toList.take i) (by rw[List.length_take,<-size_eq];omega)
   rw[List.length_take,<-size_eq,Nat.min_eq_left hi]at hw
   split
   ·exact .inr ⟨by omega,by omega⟩
   ·rcases last_lt s f (i-(decodeLastL (s.data.toList.take i)).2) (by omega)with h|h
    ·exact .inl h
    ·exact .inr ⟨h.1,by omega⟩
  ·exact .inl rfl
theorem trim_right (s:ByteArray):(trimRightF blankN s).data.toList=(s.data.toList.reverse.dropWhile blankB).reverse:=by
 have h:=right_blank s s.size s.size (Nat.le_refl _) (by rw[<-size_eq];exact Nat.le_refl _) (.inl (size_eq s))
 rw[List.take_of_length_le (by rw[<-size_eq];exact Nat.le_refl _)]at h
 rw[h]
 unfold trimRightF rightEndF lastIdxFunc
 rw[extract_data,List.drop_zero,Nat.sub_zero]
 congr 1
 split
 ·rename_i h0
  congr 2
  rcases last_lt s s.size s.size (Nat.le_refl _)with hm|hlt
  ·omega
  ·have hx:s.extract (lastIdxFuncFrom blankN false s s.size s.size).toNat s.size=⟨(s.data.toList.drop (lastIdxFuncFrom blankN false s s.size s.size).toNat).toArray⟩:=by
    rw[extract_eq,List.take_of_length_le (by rw[List.length_drop,<-size_eq];exact Nat.le_refl _)]
   have hxs:(⟨(s.data.toList.drop (lastIdxFuncFrom blankN false s s.size s.size).toNat).toArray⟩:ByteArray).size≠0:=by
    rw[size_eq]
    simp only[List.length_drop]
    rw[<-size_eq]
    omega
   rw[hx]
   unfold decodeGoB decodeL
   rw[if_neg hxs]
 ·rfl
theorem trim_blank (s:ByteArray):(trimF blankN s).data.toList=trimL s.data.toList:=by
 unfold trimF trimL
 rw[trim_right,trim_left]
open Go.RowKit
set_option maxHeartbeats 1600000 in
theorem goes11_any (c:UInt8) (w:World):Calls Tryz.prog 160 #[.int .u8 c.toNat] w fun e w'=>e= .returned (.bool (goesB c))/\w=w':=by
 have e1:((c.toNat:Int)==43)=decide (c.toNat=43):=by rw[Bool.eq_iff_iff];simp;omega
 have e2:((c.toNat:Int)==45)=decide (c.toNat=45):=by rw[Bool.eq_iff_iff];simp;omega
 have e3:((c.toNat:Int)==46)=decide (c.toNat=46):=by rw[Bool.eq_iff_iff];simp;omega
 have HE:Hid (goesB c=((upB c||lowB c)||digB c||(decide (c.toNat=43)||(decide (c.toNat=45)||decide (c.toNat=46))))):=by
  show _=_
  unfold goesB ltrB
  rw[Bool.or_comm (lowB c)]
  congr 1
  rw[Bool.eq_iff_iff]
  simp
 have HL:=Lib.hid (fun W=>letter_any c W)
 have HD:=Lib.hid (fun W=>digit_any c W)
 generalize goesB c=G at*
 generalize(upB c||lowB c)=L at*
 generalize digB c=D at*
 generalize decide (c.toNat=43)=b1 at*
 generalize decide (c.toNat=45)=b2 at*
 generalize decide (c.toNat=46)=b3 at*
 cases L
 rotate_left
 ·go_enter Tryz.func160,Tryz.ntmps160
  go_wp2_with(first|(go_at_call 161;(with_reducible refine(HL.out _).mono ?_);rintro e w' ⟨rfl,rfl⟩)|(go_at_call 108;(with_reducible refine(HD.out _).mono ?_);rintro e w' ⟨rfl,rfl⟩))
  go_ret
  exact⟨by rw[HE.out];rfl,rfl⟩
 cases D
 rotate_left
 ·go_enter Tryz.func160,Tryz.ntmps160
  go_wp2_with(first|(go_at_call 161;(with_reducible refine(HL.out _).mono ?_);rintro e w' ⟨rfl,rfl⟩)|(go_at_call 108;(with_reducible refine(HD.out _).mono ?_);rintro e w' ⟨rfl,rfl⟩))
  go_ret
  exact⟨by rw[HE.out];rfl,rfl⟩
 cases b1<;>cases b2
 all_goals
  go_enter Tryz.func160,Tryz.ntmps160
  go_wp2_with(first|(go_at_call 161;(with_reducible refine(HL.out _).mono ?_);rintro e w' ⟨rfl,rfl⟩)|(go_at_call 108;(with_reducible refine(HD.out _).mono ?_);rintro e w' ⟨rfl,rfl⟩))
  go_ret
  exact⟨by rw[HE.out];rfl,rfl⟩
theorem ltr_goes {c:UInt8} (h:ltrB c=true):goesB c=true:=by unfold goesB;rw[h];rfl
theorem while_take (p:UInt8->Bool) (l:Bs):l.dropWhile p=l.drop (l.takeWhile p).length/\l.takeWhile p=l.take (l.takeWhile p).length:=by
 have h:=List.takeWhile_append_dropWhile (p:=p) (l:=l)
 constructor
 ·conv=>rhs;arg 2;rw[<-h]
  rw[List.drop_left]
 ·conv=>rhs;arg 2;rw[<-h]
  rw[List.take_left]
theorem split11_none (l:Bs) (h:(l.takeWhile goesB).length=0\/(l.takeWhile goesB).length=l.length):splitL l=none:=by
 unfold splitL
 cases l with
 |nil=>rfl
 |cons c r=>
  by_cases hl:ltrB c=true
  ·simp only[hl,if_true]
   have hd:=(while_take goesB (c::r)).1
   rcases h with h|h
   ·rw[List.takeWhile_cons_of_pos (ltr_goes hl)]at h
    simp at h
   ·rw[h,List.drop_length]at hd
    rw[hd]
  ·simp only[hl]
   rfl
theorem split11_some (l:Bs) (K:Nat) (hK:(l.takeWhile goesB).length=K) (h:K<l.length) (h0:0<K):splitL l=if(l[K].toNat=58/\ltrB (l[0]'(by omega))=true)then some ((l.take K).map lowC,l.drop (K+1))else none:=by
 unfold splitL
 cases l with
 |nil=>simp at h
 |cons c r=>
  obtain⟨hd,ht⟩:=while_take goesB (c::r)
  rw[hK]at hd ht
  rw[List.drop_eq_getElem_cons h]at hd
  by_cases hl:ltrB c=true
  ·simp only[hl,if_true,hd]
   by_cases h58:(c::r)[K].toNat=58
   ·rw[if_pos h58,if_pos ⟨h58,by simpa using hl⟩,ht]
   ·rw[if_neg h58,if_neg (fun h=>h58 h.1)]
  ·dsimp only
   rw[if_neg hl,if_neg (fun h=>hl h.2)]
def splitV (s:ByteArray):Option (Bs × Bs)->Value
 |none=> .tuple #[.string ⟨#[]⟩,.string s,.bool false]
 |some x=> .tuple #[.string ⟨x.1.toArray⟩,.string ⟨x.2.toArray⟩,.bool true]
theorem tw_stop11 {p:UInt8->Bool} {c:UInt8} {r:Bs} (h:p c=false):((c::r).takeWhile p).length=0:=by rw[List.takeWhile_cons_of_neg (by simp[h])];rfl
theorem tw_step11 {p:UInt8->Bool} {c:UInt8} {r:Bs} (h:p c=true):((c::r).takeWhile p).length=(r.takeWhile p).length+1:=by rw[List.takeWhile_cons_of_pos h];rfl
set_option maxRecDepth 100000 in
set_option maxHeartbeats 4000000 in
theorem split11_any (s:ByteArray) (w:World) (hm:s.size<=140737488355328):Calls Tryz.prog 70 #[.string s] w (Ret (splitV s (splitL s.data.toList)) w):=by
 have hmx:Tryz.prog.follows .mixedOrders=true:=by kernel_rfl
 obtain⟨K,hK⟩: ∃K,(s.data.toList.takeWhile goesB).length=K:=⟨_,rfl⟩
 have HK0:Hid (K=0+((s.data.toList.drop 0).takeWhile goesB).length):=by show _=_;rw[List.drop_zero,hK];omega
 have hlen:s.data.toList.length=s.size:=len_data s
 have hKs:K<=s.size:=by rw[<-hK,<-hlen];exact(List.takeWhile_prefix _).length_le
 have HN:=Lib.hid (split11_none s.data.toList)
 have HS:=Lib.hid (split11_some s.data.toList K hK)
 obtain⟨R,hR⟩: ∃R,splitL s.data.toList=R:=⟨_,rfl⟩
 rw[hR]at HN HS ⊢
 rw[hK]at HN
 have HLn:=Lib.hid hlen
 clear hK hR hlen
 go_enter Tryz.func70,Tryz.ntmps70
 go_wp2_with fail
 go_loopw [5] (fun i wr=> ∃k:Nat,k<=s.size/\i= .int .i64 (k:Nat)/\Hid (K=k+((s.data.toList.drop k).takeWhile goesB).length)/\wr=w) (fun i _=>s.size-(intOf i).toNat)
 case atStart=>exact⟨0,by omega,rfl,HK0.out,rfl⟩
 case round=>
  clear HK0
  obtain⟨k,hk,rfl,HK,rfl⟩:=hrel
  by_cases hgo: ∃h:k<s.size,goesB s[k]=true
  ·obtain⟨hlt,hg⟩:=hgo
   have HT:Hid (K=k+1+((s.data.toList.drop (k+1)).takeWhile goesB).length):=by
    show _=_
    rw[HK.out,drop_at s k hlt,tw_step11 hg];omega
   have HG:=Lib.hid (fun W=>hg ▸ goes11_any s[k] W)
   clear HK hg HN HS
   go_wp2_with(go_at_call 160;(with_reducible refine(HG.out _).mono ?_);rintro e w' ⟨rfl,rfl⟩)
   go_roundw
   case rel=>exact⟨k+1,by omega,by go_num,HT.out,by first|rfl|trivial⟩
   case measure=>simp[intOf];omega
  ·have hkK:k=K:=by
    have h1:=HK.out
    by_cases hlt:k<s.size
    ·have hg:goesB s[k]=false:=by
      cases hq:goesB s[k]
      ·rfl
      ·exact absurd ⟨hlt,hq⟩ hgo
     rw[drop_at s k hlt,tw_stop11 hg]at h1
     omega
    ·rw[drop_end s k (by omega)]at h1
     simp at h1
     omega
   subst hkK
   clear HK
   by_cases hlt:k<s.size
   ·have hg:goesB s[k]=false:=by
     cases hq:goesB s[k]
     ·rfl
     ·exact absurd ⟨hlt,hq⟩ hgo
    have HG:=Lib.hid (fun W=>hg ▸ goes11_any s[k] W)
    clear hgo hg
    have hkl:k<s.data.toList.length:=by rw[HLn.out];exact hlt
    by_cases h0:k=0
    ·have HR:Hid (R=none):=HN.out (.inl h0)
     have b0:((k:Int)==0)=true:=by rw[h0];rfl
     clear HN HS h0
     go_wp2_with(go_at_call 160;(with_reducible refine(HG.out _).mono ?_);rintro e w' ⟨rfl,rfl⟩)
     go_ret3
     exact Ret.of (by rw[HR.out];rfl) bel
    ·have HSx:=Lib.hid (HS.out hkl (by omega))
     have b0:((k:Int)==0)=false:=by simp;omega
     have b1:((k:Int)==(s.size:Int))=false:=by simp;omega
     have hz:0<s.size:=by omega
     have e58:((s[k].toNat:Int) !=58)= !decide (s[k].toNat=58):=by rw[Bool.eq_iff_iff];simp;omega
     have HLt:=Lib.hid (fun W=>letter_any (s[0]'hz) W)
     have hsk:s.data.toList[k]=s[k]:=rfl
     have hs0:s.data.toList[0]'(by omega)=s[0]'hz:=rfl
     have HSy:Hid (R=if(s[k].toNat=58/\(upB (s[0]'hz)||lowB (s[0]'hz))=true)then some ((s.data.toList.take k).map lowC,s.data.toList.drop (k+1))else none):=by
      show _=_
      rw[HSx.out,hsk,hs0]
      unfold ltrB
      rw[Bool.or_comm]
     clear HN HS HSx hsk hs0
     by_cases h58:s[k].toNat=58
     rotate_left
     ·have HR:Hid (R=none):=by show _=_;rw[HSy.out,if_neg (fun h=>h58 h.1)]
      rw[decide_eq_false h58]at e58
      clear HSy h58 h0
      go_wp2_with(go_at_call 160;(with_reducible refine(HG.out _).mono ?_);rintro e w' ⟨rfl,rfl⟩)
      go_ret3
      exact Ret.of (by rw[HR.out];rfl) bel
     rw[decide_eq_true h58]at e58
     cases hl:(upB (s[0]'hz)||lowB (s[0]'hz))with
     |false=>
      have HR:Hid (R=none):=by show _=_;rw[HSy.out,hl,if_neg (fun h=>by cases h.2)]
      rw[hl]at HLt
      clear HSy h58 h0 hl
      go_wp2_with(first|(go_at_call 160;(with_reducible refine(HG.out _).mono ?_);rintro e w' ⟨rfl,rfl⟩)|(go_at_call 161;(with_reducible refine(HLt.out _).mono ?_);rintro e w' ⟨rfl,rfl⟩))
      go_ret3
      exact Ret.of (by rw[HR.out];rfl) bel
     |true=>
      have HR:Hid (R=some ((s.data.toList.take k).map lowC,s.data.toList.drop (k+1))):=by show _=_;rw[HSy.out,hl,if_pos ⟨h58,rfl⟩]
      rw[hl]at HLt
      have HLo:=Lib.hid (fun W=>lower_any (s.extract 0 k) W (by rw[ByteArray.size_extract];omega))
      have HV:Hid (Value.tuple #[.string ⟨(lowL (s.extract 0 k).data.toList).toArray⟩,.string (s.extract (k+1) s.size),.bool true]=splitV s (some ((s.data.toList.take k).map lowC,s.data.toList.drop (k+1)))):=by
       show _=_
       have h1:(s.extract 0 k).data.toList=s.data.toList.take k:=by rw[Lib.extract_data];simp
       have h2:s.extract (k+1) s.size=⟨(s.data.toList.drop (k+1)).toArray⟩:=ba_ext (by rw[Lib.extract_data,List.take_of_length_le (by rw[List.length_drop,HLn.out];omega)])
       rw[h1,h2,low_map]
       rfl
      have hw1:IntKind.i64.wrap ((k:Int)+1)=((k+1:Nat):Int):=by rw[IntKind.wrap_i64];omega
      clear HSy h58 h0 hl
      go_upto_region 6 with(first|(go_at_call 160;(with_reducible refine(HG.out _).mono ?_);rintro e w' ⟨rfl,rfl⟩)|(go_at_call 161;(with_reducible refine(HLt.out _).mono ?_);rintro e w' ⟨rfl,rfl⟩))
      refine wp_region_row 9 [(0,true),(1,true),(2,true),(4,true),(5,true),(6,true),(7,true),(3,false),(8,true)] (fun _=>True) hmx (by kernel_rfl) (by kernel_rfl) (by kernel_rfl) (by decide) rfl (fun c a d v w h=>by first|exact h|(obtain⟨x,y⟩:=(h:_/\_);cases d<;>exact⟨x,y⟩)) (by kernel_rfl) trivial ?_
      refine wpRow_rdD (v:= .string s) 39 rfl rfl rfl (fun W hW=>by simp[execOp,go_sem]) ?_
      simp only[Act.put,List.setIfInBounds_toArray,List.set_cons_succ,List.set_cons_zero]
      refine wpRow_rdD (v:= .int .i64 (k:Nat)) 40 rfl rfl rfl (fun W hW=>by simp[execOp,go_sem]) ?_
      simp only[Act.put,List.setIfInBounds_toArray,List.set_cons_succ,List.set_cons_zero]
      refine wpRow_rdD (v:= .string (s.extract 0 k)) 41 rfl rfl rfl (fun W hW=>by simp[execOp,go_sem];omega) ?_
      simp only[Act.put,List.setIfInBounds_toArray,List.set_cons_succ,List.set_cons_zero]
      refine wpRow_rdD (v:= .string s) 43 rfl rfl rfl (fun W hW=>by simp[execOp,go_sem]) ?_
      simp only[Act.put,List.setIfInBounds_toArray,List.set_cons_succ,List.set_cons_zero]
      refine wpRow_rdD (v:= .int .i64 (k:Nat)) 44 rfl rfl rfl (fun W hW=>by simp[execOp,go_sem]) ?_
      simp only[Act.put,List.setIfInBounds_toArray,List.set_cons_succ,List.set_cons_zero]
      refine wpRow_rdD (v:= .int .i64 ((k+1:Nat):Int)) 45 rfl rfl rfl (fun W hW=>by simp[execOp,go_sem,hw1]) ?_
      simp only[Act.put,List.setIfInBounds_toArray,List.set_cons_succ,List.set_cons_zero]
      refine wpRow_rdD (v:= .string (s.extract (k+1) s.size)) 46 rfl rfl rfl (fun W hW=>by simp[execOp,go_sem];omega) ?_
      simp only[Act.put,List.setIfInBounds_toArray,List.set_cons_succ,List.set_cons_zero]
      refine wpRow_op rfl rfl fun Kc hKc=> ?_
      unfold Oper.wp
      simp[execOp,go_sem]
      refine(HLo.out _).mono ?_
      rintro e W1 ⟨rfl,X1,rfl⟩
      show Kc _ _
      apply hKc
      refine⟨trivial, ?_⟩
      refine wpRow_rdD (v:= .string ⟨(lowL (s.extract 0 k).data.toList).toArray⟩) 2 rfl rfl rfl (fun W hW=>by simp[execOp,go_sem]) ?_
      simp only[Act.put,List.setIfInBounds_toArray,List.set_cons_succ,List.set_cons_zero]
      simp only[wpRow,List.drop]
      go_wp2_with fail
      go_ret3
      exact Ret.of (by rw[HR.out];exact HV.out) bel
   ·have hkn:k=s.size:=by omega
    have HR:Hid (R=none):=HN.out (.inr (by rw[HLn.out];exact hkn))
    have b1:((k:Int)==(s.size:Int))=true:=by rw[hkn];simp
    have b2:decide ((k:Int)<s.size)=false:=by simp;omega
    clear HN HS hgo hkn
    by_cases h0:k=0
    ·have b0:((k:Int)==0)=true:=by rw[h0];rfl
     clear h0
     go_wp2_with fail
     go_ret3
     exact Ret.of (by rw[HR.out];rfl) bel
    ·have b0:((k:Int)==0)=false:=by simp;omega
     clear h0
     go_wp2_with fail
     go_ret3
     exact Ret.of (by rw[HR.out];rfl) bel
def strokeAt (s:ByteArray) (k:Nat):Bool:=match s.data.toList[k]? with
 |some c=>strokeB c
 |none=>false
set_option maxHeartbeats 1600000 in
theorem stroke11_any (s:ByteArray) (B k:Nat) (w:World) (hc:w.cell? ⟨B,0,none⟩=some (.string s)) (_hB:B<w.heap.size) (_hk:k<=1) (_hm:s.size<=140737488355328):Calls Tryz.prog 163 #[.int .i64 (k:Nat),.pointer (some ⟨B,0,none⟩)] w (Ret (.bool (strokeAt s k)) w):=by
 have hmx:Tryz.prog.follows .mixedOrders=true:=by kernel_rfl
 unfold strokeAt
 by_cases hlt:k<s.size
 ·have hg:s.data.toList[k]? =some (s[k]'hlt):=List.getElem?_eq_getElem (by rw[len_data];exact hlt)
  rw[hg]
  have e1:((s[k].toNat:Int)==47)=decide (s[k].toNat=47):=by rw[Bool.eq_iff_iff];simp;omega
  have e2:((s[k].toNat:Int)==92)=decide (s[k].toNat=92):=by rw[Bool.eq_iff_iff];simp;omega
  have HE:Hid (strokeB s[k]=(decide (s[k].toNat=47)||decide (s[k].toNat=92))):=by show _=_;unfold strokeB;rw[Bool.eq_iff_iff];simp
  dsimp only
  rw[HE.out]
  clear HE hg
  generalize decide (s[k].toNat=47)=b1 at*
  generalize decide (s[k].toNat=92)=b2 at*
  have hb1:decide ((k:Int)<s.size)=true:=by simp;omega
  cases b1
  all_goals
   go_enter Tryz.func163,Tryz.ntmps163
   go_wp2_with fail
   go_ret
   exact Ret.of rfl bel
 ·have hg:s.data.toList[k]? =none:=List.getElem?_eq_none (by rw[len_data];omega)
  rw[hg]
  have hb1:decide ((k:Int)<s.size)=false:=by simp;omega
  go_enter Tryz.func163,Tryz.ntmps163
  go_wp2_with fail
  go_ret
  exact Ret.of rfl bel
theorem slash_at (s:ByteArray):slashB s.data.toList=(strokeAt s 0&&strokeAt s 1):=by
 unfold slashB strokeAt
 match s.data.toList with
 |[]=>rfl
 |[a]=>simp
 |a::b::r=>rfl
set_option maxRecDepth 100000 in
set_option maxHeartbeats 1600000 in
theorem local11_any (s:ByteArray) (w:World) (hm:s.size<=140737488355328):Calls Tryz.prog 73 #[.string s] w (Ret (.bool (localL s.data.toList)) w):=by
 have hmx:Tryz.prog.follows .mixedOrders=true:=by kernel_rfl
 have HSp:=Lib.hid (fun W=>split11_any s W hm)
 have HSt:=Lib.hid (fun B W k hc hB hk=>stroke11_any s B k W hc hB hk hm)
 have HE:Hid (localL s.data.toList=((splitL s.data.toList).isNone&& !(strokeAt s 0&&strokeAt s 1))):=by show _=_;unfold localL;rw[slash_at]
 rw[HE.out]
 clear HE hm
 obtain⟨R,hR⟩: ∃R,splitL s.data.toList=R:=⟨_,rfl⟩
 rw[hR]at HSp ⊢
 clear hR
 cases R with
 |some x=>
  have HSq:=Lib.hid (fun W=>show Calls Tryz.prog 70 #[.string s] W (Ret (.tuple #[.string ⟨x.1.toArray⟩,.string ⟨x.2.toArray⟩,.bool true]) W)from HSp.out W)
  clear HSp
  go_enter Tryz.func73,Tryz.ntmps73
  go_wp2_with(go_at_call 70;(with_reducible refine(HSq.out _).mono ?_);rintro e W1 ⟨rfl,X1,rfl⟩)
  go_ret
  exact Ret.of rfl bel
 |none=>
  have HSq:=Lib.hid (fun W=>show Calls Tryz.prog 70 #[.string s] W (Ret (.tuple #[.string ⟨#[]⟩,.string s,.bool false]) W)from HSp.out W)
  clear HSp
  go_enter Tryz.func73,Tryz.ntmps73
  go_upto_region 3 with(go_at_call 70;(with_reducible refine(HSq.out _).mono ?_);rintro e W1 ⟨rfl,X1,rfl⟩)
  refine name_world fun W0 hW0=> ?_
  obtain⟨B,hB⟩: ∃B,w.heap.size=B:=⟨_,rfl⟩
  have hb0:Below w.heap.size w W0:=by rw[hW0];exact bel
  have c0:W0.cell? ⟨B,0,none⟩=some (.string s):=by rw[hW0,<-hB];simp[go_sem]
  have hBl:=World.block_lt_of_cell? W0 _ c0
  have H0:=Lib.hid (fun W (hb:Below W0.heap.size W0 W)=>show Calls Tryz.prog 163 #[.int .i64 0,.pointer (some ⟨B,0,none⟩)] W _ from HSt.out B W 0 ((hb.cell (p:=⟨B,0,none⟩) hBl).trans c0) (Nat.lt_of_lt_of_le hBl hb.size) (by omega))
  have H1:=Lib.hid (fun W (hb:Below W0.heap.size W0 W)=>show Calls Tryz.prog 163 #[.int .i64 1,.pointer (some ⟨B,0,none⟩)] W _ from HSt.out B W 1 ((hb.cell (p:=⟨B,0,none⟩) hBl).trans c0) (Nat.lt_of_lt_of_le hBl hb.size) (by omega))
  have HB0:=Lib.hid (fun W (hb:Below W0.heap.size W0 W)=>show Below w.heap.size w W from hb0.trans (hb.mono hb0.size))
  rw[hB]
  generalize strokeAt s 0=b0 at*
  generalize strokeAt s 1=b1 at*
  clear hW0 hb0 HSt
  cases b0
  all_goals
   go_wp2_with(first
    |(go_at_call 163;(with_reducible refine(H0.out _ bel).mono ?_);rintro e V1 ⟨rfl,Y1,rfl⟩)
    |(go_at_call 163;(with_reducible refine(Ret.flat (H1.out _ bel)).mono ?_);rintro e V2 ⟨rfl,Y2,rfl⟩))
   go_ret
   exact Ret.of rfl (HB0.out _ bel)
def U8 (w:World):Prop:=Lib.Utf8Tabs 0 1 w
theorem U8.below {w w':World} (h:U8 w) (hb:Below w.heap.size w w'):U8 w':=Utf8Tabs_below h hb
theorem bytes_rowS:SlT Tryz.prog 135 5 (.int .u8 0) 1 1:=⟨by kernel_rfl,by kernel_rfl,by kernel_rfl,by decide⟩
theorem byte_strS {W:World} {B:Nat} {v:Value} {l:Bs} (h:W.ownsRow B 5 1 v l.length (l.map bv)):(convert 135 9 v).run Tryz.prog W= .ok (.string ⟨l.toArray⟩) W:=
 (Rd.own h).str 135 9 5 Tryz.underlying135 Tryz.underlying5 Tryz.underlying9
set_option maxHeartbeats 800000 in
theorem blank11_any (x:Nat) (w:World):Calls Tryz.prog 157 #[.int .i32 (x:Nat)] w fun e w'=>e= .returned (.bool (blankN x))/\w=w':=by
 have h0:decide ((0:Int)<=(x:Nat))=true:=by simp
 have h1:decide (((x:Nat):Int)<=32)=blankN x:=by unfold blankN;rw[Bool.eq_iff_iff];simp;omega
 generalize blankN x=D at*
 go_enter Tryz.func157,Tryz.ntmps157
 go_wp2_with fail
 go_ret
 exact⟨rfl,rfl⟩
set_option maxHeartbeats 800000 in
theorem drop11_any (c:UInt8) (w:World):Calls Tryz.prog 158 #[.int .u8 c.toNat] w fun e w'=>e= .returned (.bool (dropC c))/\w=w':=by
 have e1:((c.toNat:Int)==9)=decide (c.toNat=9):=by rw[Bool.eq_iff_iff];simp;omega
 have e2:((c.toNat:Int)==10)=decide (c.toNat=10):=by rw[Bool.eq_iff_iff];simp;omega
 have e3:((c.toNat:Int)==13)=decide (c.toNat=13):=by rw[Bool.eq_iff_iff];simp;omega
 have HE:Hid (dropC c=(decide (c.toNat=9)||(decide (c.toNat=10)||decide (c.toNat=13)))):=by
  show _=_
  unfold dropC
  rw[Bool.eq_iff_iff]
  simp
 rw[HE.out]
 clear HE
 generalize decide (c.toNat=9)=b1 at*
 generalize decide (c.toNat=10)=b2 at*
 generalize decide (c.toNat=13)=b3 at*
 cases b1<;>cases b2
 all_goals
  go_enter Tryz.func158,Tryz.ntmps158
  go_wp2_with fail
  go_ret
  exact⟨rfl,rfl⟩
theorem keep11_step (t:Bs) (k:Nat) (h:k<t.length):(t.take (k+1)).filter keepC=if dropC t[k]=true then(t.take k).filter keepC else(t.take k).filter keepC++[t[k]]:=by
 rw[List.take_succ_eq_append_getElem h,List.filter_append]
 unfold keepC
 cases hd:dropC t[k]<;>simp[hd]
set_option maxRecDepth 100000 in
set_option maxHeartbeats 4000000 in
theorem clean11_any (s:ByteArray) (w:World) (hT:U8 w) (hm:s.size<=35184372088832):Calls Tryz.prog 69 #[.string s] w (Ret (.string ⟨(cleanL s.data.toList).toArray⟩) w):=by
 have htr:=trim_blank s
 have hpa:PredAt Tryz.prog 157 #[] encR blankN w:=fun W x _=>by
  refine(blank11_any x W).mono fun e w' h=> ?_
  obtain⟨h1,rfl⟩:=h
  exact⟨h1,0,rfl⟩
 have HTr:=Lib.hid (show Calls Tryz.prog 159 #[.string s,.func (.func 157) #[] #[]] w _ from Tryz.strings_TrimFunc 157 #[] (enters_of Tryz.func157 (by kernel_rfl) rfl) blankN s w (by omega) hT hpa)
 obtain⟨T,hTt⟩: ∃T,Lib.trimF blankN s=T:=⟨_,rfl⟩
 rw[hTt]at HTr htr
 have hTs:T.size<=35184372088832:=by
  rw[<-len_data,htr]
  refine Nat.le_trans ?_ hm
  rw[<-len_data]
  unfold trimL
  rw[List.length_reverse]
  refine Nat.le_trans (List.dropWhile_suffix _).length_le ?_
  rw[List.length_reverse]
  exact(List.dropWhile_suffix _).length_le
 have HC:Hid (cleanL s.data.toList=(T.data.toList.take T.size).filter keepC):=by
  show _=_
  unfold cleanL
  rw[<-htr,List.take_of_length_le (by rw[len_data];exact Nat.le_refl _)]
 obtain⟨R,hR⟩: ∃R,cleanL s.data.toList=R:=⟨_,rfl⟩
 rw[hR]at HC ⊢
 clear hR htr hTt hpa hT hm
 have hcv: ∀W:World,(convert 9 135 (.string T)).run Tryz.prog W= .ok (.slice (some ⟨W.heap.size,0,none⟩) T.size (grownCap W T.size 0 5)) (W.grow (bytesGr W 5 T)):=fun W=>bytes_run W _ _ _ T Tryz.underlying9 Tryz.underlying135 Tryz.underlying5
 go_enter Tryz.func69,Tryz.ntmps69
 go_wp2_with(go_at_call 159;(with_reducible refine HTr.out.mono ?_);rintro e W1 ⟨rfl,hb1⟩;have HB1:=Lib.hid hb1;clear hb1)
 refine name_world fun W2 hW2=> ?_
 obtain⟨nb,hnb⟩: ∃B,W1.heap.size=B:=⟨_,rfl⟩
 have hb2:Below W1.heap.size W1 W2:=by rw[hW2];exact bel
 have hby2:BytesAt W2 nb 5 T:=by rw[hW2,<-hnb];exact BytesAt.new W1 5 T
 have HB2:=Lib.hid (HB1.out.trans (hb2.mono HB1.out.size))
 have HY2:=Lib.hid hby2
 rw[hnb]
 clear hW2 hb2 hby2 HB1 HTr
 go_loopw [5,13] (fun v i wr=> ∃(k:Nat) (out:Bs),k<=T.size/\out=(T.data.toList.take k).filter keepC/\i= .int .i64 (k:Nat)/\Below w.heap.size w wr/\wr.ownsRow w.heap.size 5 1 v out.length (out.map bv)/\BytesAt wr nb 5 T) (fun _ i _=>T.size-(intOf i).toNat)
 case atStart=>exact⟨0,[],by omega,by simp,rfl,HB2.out,World.ownsRow_nil _ _ _ _,HY2.out⟩
 case round=>
  clear HB2 HY2
  obtain⟨k,out,hk,hout,rfl,hB,hown,hby⟩:=hrel
  have hsz:=hB.size
  have hol:out.length<=35184372088832:=by
   rw[hout]
   refine Nat.le_trans (List.length_filter_le _ _) ?_
   rw[List.length_take];omega
  have HOut:=Lib.hid hout
  clear hout
  by_cases hlt:k<T.size
  ·have hc:=hby.cell k hlt
   have hkl:k<T.data.toList.length:=by rw[len_data];exact hlt
   have HS:=Lib.hid (keep11_step T.data.toList k hkl)
   have hsk:T.data.toList[k]=T[k]:=rfl
   have HBY:=Lib.hid hby
   have HB:=Lib.hid hB
   have HO:=Lib.hid hown
   have HDr:=Lib.hid (fun W=>drop11_any T[k] W)
   rw[hsk]at HS
   clear hB hby hsk
   cases hd:dropC T[k]
   ·rw[hd]at HDr HS
    have HL:Hid ((out++[T[k]]).map bv=out.map bv++[.int .u8 (T[k].toNat:Int)]):=by show _=_;simp[bv]
    have HL2:Hid ((out++[T[k]]).length=out.length+1):=by show _=_;simp
    have HN:Hid (out++[T[k]]=(T.data.toList.take (k+1)).filter keepC):=by show _=_;rw[HS.out,if_neg (by decide),HOut.out]
    clear HS hd
    go_wp2_with(first
     |(go_at_call 158;(with_reducible refine(HDr.out _).mono ?_);rintro e w' ⟨rfl,rfl⟩)
     |(at_builtin;refine append_abs rfl _ _ 135 rfl bytes_rowS w.heap.size rfl (hown.alloc _) (by simp;omega) ⟨_,0,none⟩ 1 1 [.int .u8 (T[k].toNat:Int)] rfl rfl (new_cells (c:= #[.int .u8 (T[k].toNat:Int)]) (by simp[go_sem])) (by simp[Value.oneCell']) (by unfold maxLen;omega) (by omega) ?_;intro v1 W1 hown1 hg1;have hB1:=Lib.hid (HB.out.trans (((Below.refl _ _).alloc hsz _).trans (below_own (hown.alloc _) hg1 (Nat.le_refl _) (by simp;omega))));have hBy1:=Lib.hid ((HBY.out.alloc _).kept (hown.alloc _) hg1);clear hg1))
    go_roundw
    case rel=>exact⟨k+1,out++[T[k]],by omega,HN.out,by go_num,hB1.out,by rw[HL.out,HL2.out];exact hown1,hBy1.out⟩
    case measure=>simp[intOf];omega
   ·rw[hd]at HDr HS
    have HN:Hid (out=(T.data.toList.take (k+1)).filter keepC):=by show _=_;rw[HS.out,if_pos rfl,HOut.out]
    clear HS hd
    go_wp2_with(go_at_call 158;(with_reducible refine(HDr.out _).mono ?_);rintro e w' ⟨rfl,rfl⟩)
    go_roundw
    case rel=>exact⟨k+1,out,by omega,HN.out,by go_num,HB.out,HO.out,HBY.out⟩
    case measure=>simp[intOf];omega
  ·have hkn:k=T.size:=by omega
   have HR:Hid (R=out):=by show _=_;rw[HC.out,HOut.out,hkn]
   have HB:=Lib.hid hB
   have hcs:=byte_strS hown
   clear hB hby hkn
   go_wp2_with fail
   go_ret
   exact Ret.of (by rw[HR.out];rfl) HB.out
def filtV:Option Bs->Value
 |some x=> .tuple #[.string ⟨x.toArray⟩,.bool true]
 |none=> .tuple #[.string ⟨#[]⟩,.bool false]
theorem split11_len {l:Bs} {x:Bs × Bs} (h:splitL l=some x):x.1.length<=l.length/\x.2.length<=l.length:=by
 unfold splitL at h
 cases l with
 |nil=>cases h
 |cons c r=>
  by_cases hl:ltrB c=true
  ·simp only[hl,if_true]at h
   split at h
   ·next d q hq=>
    split at h
    ·cases h
     simp only[List.length_map]
     have h9:=(List.dropWhile_suffix goesB (l:=c::r)).length_le
     rw[hq,List.length_cons]at h9
     exact⟨(List.takeWhile_prefix _).length_le,by omega⟩
    ·cases h
   ·cases h
  ·dsimp only at h
   rw[if_neg hl]at h
   cases h
theorem clean_len (l:Bs):(cleanL l).length<=l.length:=by
 unfold cleanL
 refine Nat.le_trans (List.length_filter_le _ _) ?_
 unfold trimL
 rw[List.length_reverse]
 refine Nat.le_trans (List.dropWhile_suffix _).length_le ?_
 rw[List.length_reverse]
 exact(List.dropWhile_suffix _).length_le
theorem cat_colon (a b:Bs):(⟨a.toArray⟩:ByteArray)++⟨#[58]⟩++⟨b.toArray⟩=⟨(a++58::b).toArray⟩:=by
 refine ba_ext ?_
 simp
set_option maxRecDepth 100000 in
set_option maxHeartbeats 3200000 in
theorem filter11_any (g:Nat) (P:Pol) (s:ByteArray) (w:World) (hr:RulesV w g P) (hT:U8 w) (hm:s.size<=1000000):Calls Tryz.prog 25 #[.pointer (some ⟨g,0,none⟩),.string s] w (Ret (filtV (filtL P s.data.toList)) w):=by
 have hmx:Tryz.prog.follows .mixedOrders=true:=by kernel_rfl
 have HCl:=Lib.hid (fun W (hb:Below w.heap.size w W)=>clean11_any s W (hT.below hb) (by omega))
 have HF:Hid (filtL P s.data.toList=match splitL (cleanL s.data.toList)with
  |some (n,r)=>if schR P n=true then some (n++58::r)else none
  |none=>if(P.rel&&localL (cleanL s.data.toList))=true then some (cleanL s.data.toList)else none):=rfl
 have hcl:(cleanL s.data.toList).length<=1000000:=Nat.le_trans (clean_len _) (by rw[len_data];exact hm)
 obtain⟨F,hF⟩: ∃F,filtL P s.data.toList=F:=⟨_,rfl⟩
 obtain⟨C,hC⟩: ∃C,cleanL s.data.toList=C:=⟨_,rfl⟩
 rw[hF,hC]at HF
 rw[hC]at HCl hcl
 rw[hF]
 have hxs:(⟨C.toArray⟩:ByteArray).size<=1000000:=by show C.toArray.size<=_;simpa using hcl
 have HSp:=Lib.hid (fun W=>show Calls Tryz.prog 70 #[.string ⟨C.toArray⟩] W (Ret (splitV ⟨C.toArray⟩ (splitL C)) W)from split11_any ⟨C.toArray⟩ W (by omega))
 have HLo:=Lib.hid (fun W=>show Calls Tryz.prog 73 #[.string ⟨C.toArray⟩] W (Ret (.bool (localL C)) W)from local11_any ⟨C.toArray⟩ W (by omega))
 have HRl:=Lib.hid hr
 have hgl:=hr.lt
 clear hF hC hT hr hm
 cases hs:splitL C with
 |some x=>
  obtain⟨n,r⟩:=x
  have hn:n.length<=maxLen:=Nat.le_trans (split11_len hs).1 (Nat.le_trans hcl (by simp[maxLen]))
  have hnb1:(⟨n.toArray⟩:ByteArray).size<=1000000:=by show n.toArray.size<=_;have:=(split11_len hs).1;simp at this ⊢;omega
  have hrb1:(⟨r.toArray⟩:ByteArray).size<=1000000:=by show r.toArray.size<=_;have:=(split11_len hs).2;simp at this ⊢;omega
  have HSq:=Lib.hid (fun W=>show Calls Tryz.prog 70 #[.string ⟨C.toArray⟩] W (Ret (.tuple #[.string ⟨n.toArray⟩,.string ⟨r.toArray⟩,.bool true]) W)from(by have h9:=HSp.out W;rw[hs]at h9;exact h9))
  have HSc:=Lib.hid (fun W (hb:Below w.heap.size w W)=>show Calls Tryz.prog 71 #[.pointer (some ⟨g,0,none⟩),.string ⟨n.toArray⟩] W _ from scheme_any g P n W (HRl.out.below hb) hn)
  rw[hs]at HF
  have HF2:Hid (F=if schR P n=true then some (n++58::r)else none):=HF.out
  have HV:=Lib.hid (cat_colon n r)
  clear HF hs hn HSp hcl hxs
  obtain⟨D,hD⟩: ∃D,schR P n=D:=⟨_,rfl⟩
  rw[hD]at HF2 HSc
  clear hD
  generalize hx:(⟨C.toArray⟩:ByteArray)=x at*
  generalize hnb:(⟨n.toArray⟩:ByteArray)=nb at*
  generalize hrb:(⟨r.toArray⟩:ByteArray)=rb at*
  clear hx hnb hrb
  cases D with
  |true=>
   have HR:Hid (F=some (n++58::r)):=HF2.out
   go_enter Tryz.func25,Tryz.ntmps25
   go_wp2_with(first
    |(go_at_call 69;(with_reducible refine(HCl.out _ bel).mono ?_);rintro e V1 ⟨rfl,Y1,rfl⟩)
    |(go_at_call 70;(with_reducible refine(Ret.flat (HSq.out _)).mono ?_);rintro e V2 ⟨rfl,Y2,rfl⟩)
    |(go_at_call 71;(with_reducible refine(Ret.flat (HSc.out _ bel)).mono ?_);rintro e V3 ⟨rfl,Y3,rfl⟩))
   go_ret2
   exact Ret.of (by rw[HR.out];show _=Value.tuple #[.string ⟨(n++58::r).toArray⟩,.bool true];rw[<-HV.out];rfl) bel
  |false=>
   have HR:Hid (F=none):=HF2.out
   go_enter Tryz.func25,Tryz.ntmps25
   go_wp2_with(first
    |(go_at_call 69;(with_reducible refine(HCl.out _ bel).mono ?_);rintro e V1 ⟨rfl,Y1,rfl⟩)
    |(go_at_call 70;(with_reducible refine(Ret.flat (HSq.out _)).mono ?_);rintro e V2 ⟨rfl,Y2,rfl⟩)
    |(go_at_call 71;(with_reducible refine(Ret.flat (HSc.out _ bel)).mono ?_);rintro e V3 ⟨rfl,Y3,rfl⟩))
   go_ret2
   exact Ret.of (by rw[HR.out];rfl) bel
 |none=>
  have HSq:=Lib.hid (fun W=>show Calls Tryz.prog 70 #[.string ⟨C.toArray⟩] W (Ret (.tuple #[.string ⟨#[]⟩,.string ⟨C.toArray⟩,.bool false]) W)from(by have h9:=HSp.out W;rw[hs]at h9;exact h9))
  have HRe:=Lib.hid (fun W (hb:Below w.heap.size w W)=>relative_any g P W (HRl.out.below hb))
  rw[hs]at HF
  have HF2:Hid (F=if(P.rel&&localL C)=true then some C else none):=HF.out
  have HFV:Hid (filtV (some C)= .tuple #[.string ⟨C.toArray⟩,.bool true]):=rfl
  clear HF hs HSp hcl hxs
  generalize P.rel=D at*
  generalize localL C=E at*
  generalize(⟨C.toArray⟩:ByteArray)=x at*
  cases D<;>cases E
  all_goals
   have HR:=Lib.hid HF2.out
   clear HF2
   go_enter Tryz.func25,Tryz.ntmps25
   go_wp2_with(first
    |(go_at_call 69;(with_reducible refine(HCl.out _ bel).mono ?_);rintro e V1 ⟨rfl,Y1,rfl⟩)
    |(go_at_call 70;(with_reducible refine(Ret.flat (HSq.out _)).mono ?_);rintro e V2 ⟨rfl,Y2,rfl⟩)
    |(go_at_call 72;(with_reducible refine(Ret.flat (HRe.out _ bel)).mono ?_);rintro e V3 ⟨rfl,Y3,rfl⟩)
    |(go_at_call 73;(with_reducible refine(Ret.flat (HLo.out _)).mono ?_);rintro e V4 ⟨rfl,Y4,rfl⟩))
   go_ret2
   exact Ret.of (by rw[HR.out];first|rfl|(simp only[Bool.and_self,if_true];rw[HFV.out];rfl)) bel
end Go.Proofs.YtiikamobcmgekaaGreatDoor

