/- The walk of a size's end: the closure that counts brackets, and the search over it. -/
import Derived.Test.YtiikamobcmgekaaGreatDoorPicB
import Derived.Test.YtiikamobcmgekaaGreatDoorKA
import Derived.Test.YtiikamobcmgekaaGreatDoorKB
import Derived.Test.YtiikamobcmgekaaGreatDoorPicPlainC
namespace Go.Proofs.YtiikamobcmgekaaGreatDoor
open Go.RowKit Go.Shelf
attribute [local go_sem] Oper.semAt_some
def lenAt (w:World) (b:Nat):Nat:=match w.cell? ⟨b,0,none⟩with
 |some (.string t)=>t.size
 |_=>0
theorem lenAt_boxed {w:World} {b:Nat} {t:TypeId} {s:ByteArray} (h:Boxed w b t (.string s)):lenAt w b=s.size:=by
 unfold lenAt;rw[h.cell]
def nspB (c:UInt8):Bool:= !spB c
theorem trim_head {l:Bs} {c:UInt8} {r:Bs} (h:trimSL l=c::r):spB c=false:=by
 have h1:=List.head?_dropWhile_not spB l
 unfold trimSL at h
 cases hd:l.dropWhile spB with
 |nil=>rw[hd]at h;simp[rtrim]at h
 |cons d t=>
  rw[hd]at h h1
  have h2:spB d=false:=by simpa using h1
  have h3:rtrim (d::t)<+:d::t:=by
   unfold rtrim
   have:=List.dropWhile_suffix spB (l:=(d::t).reverse)
   rw[<-List.reverse_prefix]at this
   simpa using this
  rw[h]at h3
  obtain⟨u,hu⟩:=h3
  simp at hu
  rw[hu.1];exact h2
theorem trim_len (l:Bs):(trimSL l).length<=l.length:=by
 unfold trimSL rtrim
 have h1:=drop_while_len spB l
 have h2:=drop_while_len spB (l.dropWhile spB).reverse
 simp at*;omega
theorem words_nil:wordsL []=[]:=rfl
theorem words_next {c:UInt8} {r:Bs} (h:spB c=false):wordsL (c::r)=(c::r).takeWhile nspB::wordsL (trimSL ((c::r).dropWhile nspB)):=by
 rw[words_trim];exact words_round h
set_option maxRecDepth 100000 in
set_option maxHeartbeats 4000000 in
theorem fields1_iter (s:ByteArray) (bs:Nat) (bw:Nat->Prop) (W:World) (hb:Boxed W bs 9 (.string s)) (hbw: ¬bw bs) (hm:s.size<=140737488355328):
  IterAt Tryz.prog 224 #[.pointer (some ⟨bs,0,none⟩)] (fun u=> #[sv u]) (fun k=>k=bs) bw (wordsL s.data.toList) W:=by
 intro l J Jx hJ hY h0
 refine callsIn_of_wp Tryz.func224 rfl trivial ?_ rfl
 have hc:=hb.cell
 have hf:=hb.frozen
 have HT:=Lib.hid (fun W=>trim_any s W (by omega))
 simp only[Tryz.ntmps224,List.size_toArray,List.length_cons,List.length_nil,Nat.reduceAdd,Nat.reduceSub,Array.replicate_succ,Array.replicate_zero,List.push_toArray,List.append_toArray,List.nil_append,List.cons_append]
 gi_wp2_with (gi_at_call 225;refine(callsIn_wide.2 (HT.out _)).mono ?_;rintro e w' ⟨rfl,rfl⟩)
 clear hc hf
 gi_loopw [3] (fun _ wr=> ∃(t:Bs) (pre:List Bs),t.length<=s.size/\Boxed wr bs 9 (.string ⟨(trimSL t).toArray⟩)/\J pre wr/\Hid (pre++wordsL (trimSL t)=wordsL s.data.toList)) (fun _ wr=>lenAt wr bs)
 case atStart=>
  exact⟨s.data.toList,[],Nat.le_of_eq (len_data s),hb.set _,hJ _ _ _ h0 (Turned.setCell (pv:=fun k=>k=bs) (Turned.refl _ _) (Or.inr rfl) _),by show _=_;rw[words_trim];rfl⟩
 case round=>
  obtain⟨t,pre,ht,hbx,hJs,HK⟩:=hrel
  have hh:=fun c r=> @trim_head t c r
  have hl:=trim_len t
  generalize trimSL t=u at*
  have hc:=hbx.cell
  have hf:=hbx.frozen
  cases u with
  |nil=>
   have HE:Hid (pre=wordsL s.data.toList):=by
    show _=_
    rw[<-HK.out,words_nil,List.append_nil]
   clear HK hh
   gi_wp2
   go_end0
   exact⟨⟨_,rfl⟩,.inl (HE.out ▸ hJs)⟩
  |cons c r=>
   have hs:=hh c r rfl
   obtain⟨S,hS⟩: ∃S:ByteArray,⟨(c::r).toArray⟩=S:=⟨_,rfl⟩
   have HS:=Lib.hid hS
   have hz:S.size=r.length+1:=by rw[<-hS];rfl
   have hne:=ba_full (a:=S) (by omega)
   have hm2:S.size<=140737488355328:=by simp at hl;omega
   rw[hS]at hbx hc
   have HD:Hid (S.data.toList=c::r):=by show _=_;rw[<-hS]
   have hpos:0<S.size:=by omega
   have HZ:=Lib.hid hz
   clear hS hh hz
   gi_wp2
   gi_loop [3] (fun i=> ∃k:Nat,k<=S.size/\i= .int .i64 k/\Hid (tw nspB S.data.toList=k+tw nspB (S.data.toList.drop k))) (fun i=>S.size-(intOf i).toNat)
   case atStart=>exact⟨0,by omega,rfl,by show _=_;simp⟩
   case round=>
    obtain⟨k,hk,rfl,HI⟩:=hrel
    by_cases hgo: ∃h:k<S.size,spB S[k]=false
    ·obtain⟨hlt,hsp⟩:=hgo
     have HDk:=Lib.hid (drop_at S k hlt)
     have HN:Hid (tw nspB S.data.toList=k+1+tw nspB (S.data.toList.drop (k+1))):=by
      show _=_
      rw[HI.out,HDk.out,tw_cons_t _ (by simp[nspB,hsp])];omega
     gi_wp2_with (gi_at_call 33;(with_reducible refine(callsIn_wide.2 (space_any _ _)).mono ?_);rintro e w' ⟨rfl,rfl⟩;rw[hsp])
     go_round
     case rel=>exact⟨k+1,by omega,by go_num,HN⟩
     case measure=>simp[intOf];omega
    ·have hend:(∃h:k<S.size,spB S[k]=true)\/k=S.size:=by
      by_cases hlt:k<S.size
      ·left;refine⟨hlt, ?_⟩
       cases hq:spB S[k]
       ·exact absurd ⟨hlt,hq⟩ hgo
       ·rfl
      ·right;omega
     have hkt:k=tw nspB S.data.toList:=by
      have:=HI.out
      rcases hend with⟨hlt,hq⟩|rfl
      ·rw[drop_at S k hlt,tw_cons_f _ (by simp[nspB,hq])]at this;omega
      ·rw[drop_end S _ (Nat.le_refl _)]at this;simp[tw]at this;simpa[tw]using this.symm
     have HK2:Hid (S.extract 0 k=⟨((c::r).takeWhile nspB).toArray⟩):=by
      show _=_
      rw[str_takeS,hkt,take_twS,HD.out]
     have HK3:Hid (S.extract k S.size=⟨((c::r).dropWhile nspB).toArray⟩):=by
      show _=_
      rw[str_drop,hkt,drop_tw,HD.out]
     have HX:Hid (pre++[(c::r).takeWhile nspB]++wordsL (trimSL ((c::r).dropWhile nspB))=wordsL s.data.toList):=by
      show _=_
      rw[<-HK.out,words_next hs,List.append_assoc];rfl
     have HL:Hid (((c::r).dropWhile nspB).length<=r.length):=by
      show _<=_
      rw[List.dropWhile_cons_of_pos (by simp[nspB,hs])];exact drop_while_len _ _
     obtain⟨fn,tmps,assign,body,hy,hR⟩:=hY pre ((c::r).takeWhile nspB) _ ⟨wordsL (trimSL ((c::r).dropWhile nspB)),HX.out⟩ hJs
     rw[sv,<-HK2.out]at hy
     clear hgo hkt
     have hend2:(∃h:k<S.size,spB S[k]=true)\/ ¬(k<S.size):=by
      rcases hend with h|h
      ·exact .inl h
      ·right;omega
     clear hend
     rcases hend2 with⟨hlt,hsp⟩|hlt
     all_goals
      gi_wp2_with (gi_at_call 33;(with_reducible refine(callsIn_wide.2 (space_any _ _)).mono ?_);rintro e w' ⟨rfl,rfl⟩;rw[hsp])
      try rw[hy]
      try go_simp
      refine hR.mono ?_
      rintro e W3 (⟨rfl,hJ3,ht3⟩|⟨rfl,hJx⟩)
      ·have hb3:=ht3.boxed hbx hbw
       have hc3:=hb3.cell
       have hf3:=hb3.frozen
       have HT3:=Lib.hid (fun W=>(by
        have h1:=trim_any (S.extract k S.size) W (by rw[ByteArray.size_extract];omega)
        have h2:(S.extract k S.size).data.toList=(c::r).dropWhile nspB:=by rw[HK3.out]
        rw[h2]at h1;exact h1:Calls Tryz.prog 225 #[.string (S.extract k S.size)] W fun e w'=>e= .returned (.string ⟨(trimSL ((c::r).dropWhile nspB)).toArray⟩)/\W=w'))
       have hLT:=Lib.hid (trim_len ((c::r).dropWhile nspB))
       gi_wp2_with (gi_at_call 225;(with_reducible refine(callsIn_wide.2 (HT3.out _)).mono ?_);rintro e w' ⟨rfl,rfl⟩)
       go_roundw
       case rel=>
        refine⟨(c::r).dropWhile nspB,pre++[(c::r).takeWhile nspB], ?_,(hb3.set _).set _,hJ _ _ _ (hJ _ _ _ hJ3 (Turned.setCell (pv:=fun k=>k=bs) (Turned.refl _ _) (Or.inr rfl) _)) (Turned.setCell (pv:=fun k=>k=bs) (Turned.refl _ _) (Or.inr rfl) _),HX.out⟩
        have:=HL.out;simp at hl;omega
       case measure=>
        have h1:=lenAt_boxed ((hb3.set (.string (S.extract k S.size))).set (.string ⟨(trimSL ((c::r).dropWhile nspB)).toArray⟩))
        have h2:=lenAt_boxed hbx
        rw[h1,h2,HZ.out]
        have h3:(⟨(trimSL ((c::r).dropWhile nspB)).toArray⟩:ByteArray).size=(trimSL ((c::r).dropWhile nspB)).length:=rfl
        have:=HL.out;have:=hLT.out;omega
      ·gi_wp2
       refine bodyPost_ret (results_none rfl _ _ _) rfl ?_
       exact⟨⟨_,rfl⟩,.inr ⟨pre,_,⟨_,HX.out⟩,hJx⟩⟩
theorem strs_row:SlT Tryz.prog 47 9 (.string ⟨#[]⟩) 1 16:=⟨by kernel_rfl,by kernel_rfl,by kernel_rfl,by decide⟩
theorem fields0_any (s:ByteArray) (w:World):Calls Tryz.prog 156 #[.string s] w fun e w'=>e= .returned (.func (.func 224) #[] #[.pointer (some ⟨w.heap.size,0,none⟩)])/\w.alloc (.cells #[.string s] 9)=w':=by
 go_enter Tryz.func156,Tryz.ntmps156
 go_wp2
 go_ret
 exact⟨rfl,rfl⟩
theorem words_few (l:Bs):(wordsL l).length<=l.length:=by
 suffices H: ∀l acc,(wordsA acc l).length<=l.length+(if acc=[]then 0 else 1) by simpa[wordsL]using H l []
 intro l
 induction l with
 |nil=>intro acc;rw[wordsA];split<;>simp
 |cons c l ih=>
  intro acc
  rw[wordsA]
  have h1:=ih []
  have h2:=ih (acc++[c])
  rw[if_pos rfl]at h1
  rw[if_neg (by simp)]at h2
  split
  ·split<;>simp<;>omega
  ·simp only[List.length_cons];split<;>omega
def svL (u:Bs):List Value:=[sv u]
theorem svL_map (us:List Bs):us.flatMap svL=us.map sv:=by
 induction us with
 |nil=>rfl
 |cons u us ih=>rw[List.flatMap_cons,ih];rfl
abbrev FieldsI (w:World):=CollI w w.heap.size (w.heap.size+4) 47 9 1 svL
set_option maxRecDepth 100000 in
set_option maxHeartbeats 4000000 in
theorem fields_any (s:ByteArray) (w:World) (hm:s.size<=140737488355):Calls Tryz.prog 68 #[.string s] w (RetS w (wordsL s.data.toList).length 1 ((wordsL s.data.toList).map sv)):=by
 refine(callsIn_wide (n:=0)).1 ?_
 refine callsIn_of_wp_marks (n:=0) Tryz.func68 rfl trivial ?_ rfl
 simp only[Tryz.ntmps68,List.size_toArray,List.length_cons,List.length_nil,Nat.reduceAdd,Nat.reduceSub,Array.replicate_succ,Array.replicate_zero,List.push_toArray,List.append_toArray,List.nil_append,List.cons_append]
 have hfew:=words_few s.data.toList
 rw[len_data]at hfew
 gi_wp2_with (gi_at_call 156;refine(callsIn_wide.2 (fields0_any s _)).mono ?_;rintro e w' ⟨rfl,rfl⟩)
 refine wp_range (B:=w.heap.size+2) (by simp) rfl (enters_of Tryz.func224 (by kernel_rfl) rfl) (encs:=fun u=> #[sv u]) (fun _=>rfl) (xs:=wordsL s.data.toList) (fun k=>k=w.heap.size+1)
  (fun k=>k=w.heap.size\/w.heap.size+4<=k) (by intro k hk;omega) (by intro k hk;omega) (FieldsI w) (fun _ _ _=>False) ?hI ?hIx ?h0 ?hiter ?hround ?hdone ?hstop
 case hI=>
  intro pre A C h ht
  exact h.turned ht (by omega) (by intro k hk;omega) (by intro k hk;omega)
 case hIx=>intro c pre A C h _;exact h.elim
 case h0=>exact⟨⟨_,(Boxed.new w 47 (.slice none 0 0)).alloc (.cells #[.string s] 9),World.ownsRow_nil _ _ _ _⟩,bel⟩
 case hiter=>
  intro o1 o2
  have b5:=(Boxed.new (w.alloc (.cells #[.slice none 0 0] 47)) 9 (.string s)).alloc o1 |>.alloc o2
  simp only[World.size_alloc]at b5
  exact fields1_iter s _ _ _ b5 (by omega) (by omega)
 case hround=>
  rintro l pre x A hx ⟨_,hBA⟩ hsz
  simp only[sv]
  gi_wp2
  refine⟨Turned.refl _ _,fun A2 ht hI2 hs2=> ?_⟩
  obtain⟨⟨v,bv,ho⟩,hB⟩:=hI2
  have d4:=bv.cell
  have e4:=bv.frozen
  have HX:=Lib.hid hx
  have HB:=Lib.hid hB
  have hlen:pre.length<=140737488355:=by
   have h1:=hx.length_le
   simp at h1;omega
  have hs3:w.heap.size+4<=A2.heap.size:=by omega
  clear hx hB hs2 ht
  gi_wp2_with (gi_at_builtin;go_loud(refine appendIn_turn rfl _ _ 47 rfl strs_row (w.heap.size+4) rfl (ho.alloc _) (by simp;omega) ⟨_,0,none⟩ 0 1 (svL x) rfl rfl (new_cells (c:= #[sv x]) (by simp[go_sem])) (by simp[svL,sv,Value.oneCell']) (by unfold maxLen;omega) (by omega) ?_);intro g cap W' ho' ht';have bv':=ht'.boxed (bv.alloc _) (by omega);have d5:=bv'.cell;have e5:=bv'.frozen)
  have h3:=CollI.put (x:=x) (HB.out.trans ((Below.refl _ _).alloc HB.out.size _)) (bv.alloc _) ho' rfl ht' (by omega) (Nat.le_refl _)
  exact⟨(((Turned.refl _ _).alloc _).trans h3.1),h3.2⟩
 case hdone=>
  rintro W ⟨⟨v,bv,ho⟩,hB⟩ hK
  have d1:=bv.cell
  gi_wp2
  have hT:Turned (fun k=>k=w.heap.size+2) W (W.putObj (w.heap.size+2) (.deferred none)):=Turned.putObj (pv:=fun k=>k=w.heap.size+2) (Turned.refl _ _) (Or.inr rfl) _
  refine⟨by simp,.inl ⟨_,_,rfl,run_takeDeferred hK, ?_⟩⟩
  refine⟨v,by simp[results,Tryz.results68,go_sem], ?_⟩
  rw[<-svL_map]
  exact RetS.own (hB.trans (hT.below hB.size (fun k hk=>by omega))) (hT.own ho (fun k hk=>by omega))
 case hstop=>intro c pre x W _ h;exact h.elim
def dpN (d:Nat) (c:UInt8):Nat:=if c.toNat=40 then d+1 else if c.toNat=41 then d-1 else d
def szE (d:Nat) (c:UInt8):Bool:=decide (c.toNat=44)&&decide (d=0)
theorem sz_stop {d:Nat} {c:UInt8} {r:Bs} (h:szE (dpN d c) c=true):szL d (c::r)=0:=by
 unfold szE dpN at h
 simp at h
 rw[if_neg (by omega),if_neg (by omega)]at h
 rw[szL,if_pos h]
theorem sz_go {d:Nat} {c:UInt8} {r:Bs} (h:szE (dpN d c) c=false):szL d (c::r)=1+szL (dpN d c) r:=by
 unfold szE at h
 rw[szL,if_neg]
 ·rfl
 ·rintro⟨h1,h2⟩
  unfold dpN at h
  rw[if_neg (by omega),if_neg (by omega)]at h
  simp[h1,h2]at h
def idxV (N n:Nat):Int:=if N<n then(N:Nat)else-1
theorem sz_le (l:Bs): ∀d,szL d l<=l.length:=by
 induction l with
 |nil=>intro d;simp[szL]
 |cons c r ih=>
  intro d
  cases h:szE (dpN d c) c
  ·rw[sz_go h];have:=ih (dpN d c);simp;omega
  ·rw[sz_stop h];omega
set_option maxHeartbeats 800000 in
theorem size1_any (c:UInt8) (b d:Nat) (w:World) (hb:Boxed w b 3 (.int .i64 d)) (hd:d<=140737488355328):
  Calls Tryz.prog 155 #[.int .u8 c.toNat,.pointer (some ⟨b,0,none⟩)] w fun e w'=>e= .returned (.bool (szE (dpN d c) c))/\Turned (fun k=>k=b) w w'/\Boxed w' b 3 (.int .i64 (dpN d c:Nat)):=by
 have hc:=hb.cell
 have hf:=hb.frozen
 by_cases h40:c.toNat=40
 ·have b40:((c.toNat:Int)==40)=true:=by simp;omega
  have b44:((c.toNat:Int)==44)=false:=by simp;omega
  have HX:Hid (szE (dpN d c) c=false):=by show _=_;unfold szE;simp;omega
  have HN:Hid ((dpN d c:Int)=d+1):=by show _=_;unfold dpN;rw[if_pos h40];omega
  have hb2:=hb.set (.int .i64 ((d:Int)+1))
  have hc2:=hb2.cell
  have hf2:=hb2.frozen
  clear h40
  go_enter Tryz.func155,Tryz.ntmps155
  go_wp2
  go_ret
  refine⟨by rw[HX.out];rfl,Turned.setCell (pv:=fun k=>k=b) (Turned.refl _ _) (p:=⟨b,0,none⟩) (Or.inr rfl) _,by rw[HN.out];exact hb2⟩
 ·have b40:((c.toNat:Int)==40)=false:=by simp;omega
  by_cases h41:c.toNat=41
  ·have b41:((c.toNat:Int)==41)=true:=by simp;omega
   have b44:((c.toNat:Int)==44)=false:=by simp;omega
   have HX:Hid (szE (dpN d c) c=false):=by show _=_;unfold szE;simp;omega
   rcases Nat.eq_zero_or_pos d with rfl|hd0
   ·have HN:Hid (((dpN 0 c:Nat):Int)=0):=by show _=_;unfold dpN;rw[if_neg h40,if_pos h41];rfl
    have hb2:=hb.set (.int .i64 0)
    have hc2:=hb2.cell
    have hf2:=hb2.frozen
    clear h40 h41
    go_enter Tryz.func155,Tryz.ntmps155
    go_wp2
    go_ret
    refine⟨by rw[HX.out];rfl,Turned.setCell (pv:=fun k=>k=b) (Turned.refl _ _) (p:=⟨b,0,none⟩) (Or.inr rfl) _,by rw[HN.out];exact hb2⟩
   ·have HN:Hid (((dpN d c:Nat):Int)=(d:Int)-1):=by show _=_;unfold dpN;rw[if_neg h40,if_pos h41];omega
    have hmx:max ((d:Int)-1) 0=(d:Int)-1:=by omega
    have hb2:=hb.set (.int .i64 ((d:Int)-1))
    have hc2:=hb2.cell
    have hf2:=hb2.frozen
    have hlt0: ¬((d:Int)-1<0):=by omega
    clear h40 h41
    go_enter Tryz.func155,Tryz.ntmps155
    go_wp2
    all_goals go_ret
    all_goals refine⟨by rw[HX.out];rfl,Turned.setCell (pv:=fun k=>k=b) (Turned.refl _ _) (p:=⟨b,0,none⟩) (Or.inr rfl) _,by rw[HN.out];exact hb2⟩
  ·have b41:((c.toNat:Int)==41)=false:=by simp;omega
   have HN:Hid (dpN d c=d):=by show _=_;unfold dpN;rw[if_neg h40,if_neg h41]
   have e44:((c.toNat:Int)==44)=decide (c.toNat=44):=by rw[Bool.eq_iff_iff];simp;omega
   have e0:((d:Int)==0)=decide (d=0):=by rw[Bool.eq_iff_iff];simp
   have HX:Hid (szE (dpN d c) c=(decide (c.toNat=44)&&decide (d=0))):=by show _=_;rw[HN.out];rfl
   clear h40 h41
   generalize decide (c.toNat=44)=q at*
   generalize decide (d=0)=z at*
   cases q
   all_goals
    go_enter Tryz.func155,Tryz.ntmps155
    go_wp2
    go_ret
    exact⟨by rw[HX.out];simp,Turned.refl _ _,by rw[HN.out];exact hb⟩
theorem BytesAt.turned {W W':World} {nb:Nat} {e:TypeId} {s:ByteArray} {pv:Nat->Prop} (h:BytesAt W nb e s) (ht:Turned pv W W') (hn: ¬pv nb):BytesAt W' nb e s:=by
 have hl:=h.lt
 obtain⟨C,m,h1,h2⟩:=h
 exact⟨C,m,(ht.block nb hl hn).trans h1,h2⟩
set_option maxHeartbeats 800000 in
theorem szIdx_any (s:ByteArray) (nb b:Nat) (cp:Nat) (w:World) (hy:BytesAt w nb 5 s) (hne:nb≠b) (hb:Boxed w b 3 (.int .i64 0)) (hm:s.size<=140737488355327):
  Calls Tryz.prog 90 #[.slice (some ⟨nb,0,none⟩) s.size cp,.func (.func 155) #[] #[.pointer (some ⟨b,0,none⟩)]] w fun e w'=>e= .returned (.int .i64 (idxV (szL 0 s.data.toList) s.size))/\Turned (fun k=>k=b) w w':=by
 obtain⟨N,hN⟩: ∃N,szL 0 s.data.toList=N:=⟨_,rfl⟩
 have HN:=Lib.hid hN
 have hle:=sz_le s.data.toList 0
 rw[len_data]at hle
 rw[hN]at hle ⊢
 clear hN
 have eg:=enters_of Tryz.func155 (P:=Tryz.prog) (by kernel_rfl) rfl
 go_enter Tryz.func90,Tryz.ntmps90
 go_wp2_with fail
 go_loopw [8] (fun i wr=> ∃k d:Nat,k<=s.size/\d<=k/\i= .int .i64 k/\Boxed wr b 3 (.int .i64 d)/\Turned (fun k=>k=b) w wr/\Hid (k+szL d (s.data.toList.drop k)=N)) (fun i _=>s.size-(intOf i).toNat)
 case atStart=>exact⟨0,0,by omega,by omega,rfl,hb,Turned.refl _ _,by show _=_;rw[List.drop_zero,HN.out];omega⟩
 case round=>
  obtain⟨k,d,hk,hd,rfl,hbx,ht,HK⟩:=hrel
  by_cases hlt:k<s.size
  ·have hcc:=(hy.turned ht hne).cell k hlt
   have HD:=Lib.hid (drop_at s k hlt)
   have HT:=Lib.hid ht
   clear ht
   have hdn:dpN d s[k]<=k+1:=by unfold dpN;split;omega;split<;>omega
   cases hz:szE (dpN d s[k]) s[k]
   ·have HS:Hid (k+1+szL (dpN d s[k]) (s.data.toList.drop (k+1))=N):=by
     show _=_
     rw[<-HK.out,HD.out,sz_go hz];omega
    go_wp2_with((with_reducible refine(size1_any s[k] b d _ hbx (by omega)).mono ?_);rintro e w' ⟨rfl,ht2,hb2⟩;rw[hz])
    go_roundw
    case rel=>exact⟨k+1,_,by omega,hdn,by go_num,hb2,HT.out.trans ht2,HS⟩
    case measure=>simp[intOf];omega
   ·have HS:Hid (idxV N s.size=k):=by
     show _=_
     have:=HK.out
     rw[HD.out,sz_stop hz]at this
     unfold idxV;rw[if_pos (by omega)];omega
    go_wp2_with((with_reducible refine(size1_any s[k] b d _ hbx (by omega)).mono ?_);rintro e w' ⟨rfl,ht2,hb2⟩;rw[hz])
    go_ret
    exact⟨ret_int HS.out.symm,HT.out.trans ht2⟩
  ·have HS:Hid (idxV N s.size= -1):=by
    show _=_
    have:=HK.out
    unfold idxV;rw[if_neg (by omega)]
   go_wp2
   go_ret
   exact⟨ret_int HS.out.symm,ht⟩
set_option maxHeartbeats 800000 in
theorem untilSz_any (s:ByteArray) (b:Nat) (w:World) (hb:Boxed w b 3 (.int .i64 0)) (hm:s.size<=140737488355327):
  Calls Tryz.prog 32 #[.string s,.func (.func 155) #[] #[.pointer (some ⟨b,0,none⟩)]] w fun e w'=>e= .returned (.int .i64 (szL 0 s.data.toList:Nat))/\Turned (fun k=>k=b) w w':=by
 have hlt:=hb.lt
 have hI:=Lib.hid (szIdx_any s w.heap.size b (grownCap w s.size 0 5) (w.grow (bytesGr w 5 s)) (BytesAt.new w _ s) (by omega) (((Turned.refl (fun _=>False) w).grow _).boxed hb (fun h=>h)) hm)
 have hle:=sz_le s.data.toList 0
 rw[len_data]at hle
 have HT:Hid (Turned (fun k=>k=b) w (w.grow (bytesGr w 5 s))):=(Turned.refl _ w).grow _
 by_cases hs:szL 0 s.data.toList<s.size
 ·simp only[idxV,if_pos hs]at hI
  generalize szL 0 s.data.toList=N at*
  go_enter Tryz.func32,Tryz.ntmps32
  go_wp2_with(go_at_call 90;(with_reducible refine hI.out.mono ?_);rintro e w' ⟨rfl,ht⟩)
  go_ret
  exact⟨rfl,HT.out.trans ht⟩
 ·simp only[idxV,if_neg hs]at hI
  have HE:Hid (szL 0 s.data.toList=s.size):=by show _=_;omega
  rw[HE.out]at hs hle ⊢
  go_enter Tryz.func32,Tryz.ntmps32
  go_wp2_with(go_at_call 90;(with_reducible refine hI.out.mono ?_);rintro e w' ⟨rfl,ht⟩)
  go_ret
  exact⟨rfl,HT.out.trans ht⟩
set_option maxHeartbeats 800000 in
theorem size_any (s:ByteArray) (w:World) (hm:s.size<=140737488355327):
  Calls Tryz.prog 67 #[.string s] w (Ret (.int .i64 (szL 0 s.data.toList:Nat)) w):=by
 have hb:=Boxed.new w 3 (.int .i64 0)
 have hU:=Lib.hid (untilSz_any s _ _ hb hm)
 have hB:Hid (Below w.heap.size w (w.alloc (.cells #[.int .i64 0] 3))):=(Below.refl _ _).alloc (Nat.le_refl _) _
 go_enter Tryz.func67,Tryz.ntmps67
 go_wp2_with(go_at_call 32;(with_reducible refine hU.out.mono ?_);rintro e w' ⟨rfl,ht⟩)
 go_ret
 exact Ret.of rfl (hB.out.trans (ht.below (by simp) (by intro k hk;omega)))
end Go.Proofs.YtiikamobcmgekaaGreatDoor
