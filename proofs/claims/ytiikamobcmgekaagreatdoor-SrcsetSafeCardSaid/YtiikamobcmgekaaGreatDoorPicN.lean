/- The walk of Right: whether a picture may be told. -/
import Derived.Test.YtiikamobcmgekaaGreatDoorKB
import Derived.Test.YtiikamobcmgekaaGreatDoorPicJ
namespace Go.Proofs.YtiikamobcmgekaaGreatDoor
open Go.RowKit Go.Shelf
attribute [local go_sem] Oper.semAt_some
theorem src_row:SlT Tryz.prog 34 38 (.agg #[.string ⟨#[]⟩,.string ⟨#[]⟩]) 2 32:=⟨by kernel_rfl,by kernel_rfl,by kernel_rfl,by decide⟩
def Pic.cells (p:Pic):List Value:=[sv p.url,sv p.size]
def picCells (l:List Pic):List Value:=l.flatMap Pic.cells
abbrev ColI (pv:Nat->Prop) (w:World):=CollT pv w w.heap.size (w.heap.size+3) 34 38 2 Pic.cells
set_option maxRecDepth 100000 in
set_option maxHeartbeats 4000000 in
theorem appendSeq_any (gf:Nat) (lb:Array Value) (xs:List Pic) (pv:Nat->Prop) (w:World) (hpv: ∀k,pv k->k<w.heap.size) (eg:Enters Tryz.prog gf) (hlen:xs.length<=140737488355)
  (hiter: ∀W bw,Turned (fun _=>False) w W->(∀k,bw k->w.heap.size<=k)->IterAt Tryz.prog gf lb (fun p=> #[Pic.agg p]) pv bw xs W):
  Calls Tryz.prog 82 #[.slice none 0 0,.func (.func gf) #[] lb] w fun e w'=> ∃v,e= .returned v/\Turned pv w w'/\w'.ownsRow (w.heap.size+3) 38 2 v xs.length (picCells xs):=by
 refine(callsIn_wide (n:=0)).1 ?_
 refine callsIn_of_wp_marks (n:=0) Tryz.func82 rfl trivial ?_ rfl
 simp only[Tryz.ntmps82,List.size_toArray,List.length_cons,List.length_nil,Nat.reduceAdd,Nat.reduceSub,Array.replicate_succ,Array.replicate_zero,List.push_toArray,List.append_toArray,List.nil_append,List.cons_append]
 have HI:=Lib.hid hiter
 clear hiter
 gi_wp2
 refine wp_range (B:=w.heap.size+1) (by simp) rfl eg (encs:=fun p=> #[Pic.agg p]) (fun _=>rfl) (xs:=xs) pv
  (fun k=>k=w.heap.size\/w.heap.size+3<=k) (by intro k hk;have:=hpv k hk;omega) (by intro k hk;omega) (ColI pv w) (fun _ _ _=>False) ?hI ?hIx ?h0 ?hiter ?hround ?hdone ?hstop
 case hI=>
  intro pre A C h ht
  exact h.turn ht (by intro hk;rcases hk with hk|hk;have:=hpv _ hk;omega;omega) (by intro k hk;rcases hk with hk|hk;have:=hpv _ hk;omega;omega) (by intro k hk hl;rcases hk with hk|hk;exact hk;omega)
 case hIx=>intro c pre A C h _;exact h.elim
 case h0=>exact⟨⟨_,Boxed.new w 34 (.slice none 0 0),World.ownsRow_nil _ _ _ _⟩,(Turned.refl _ _).alloc _⟩
 case hiter=>
  intro o1 o2
  exact HI.out _ _ (((Turned.refl _ _).alloc _).alloc _ |>.alloc _) (by intro k hk;omega)
 case hround=>
  rintro l pre ⟨xu,xz⟩ A hx ⟨_,hBA⟩ hsz
  simp only[Pic.agg,sv]
  gi_wp2
  refine⟨(Turned.refl _ _).alloc _,fun A2 ht hI2 hs2=> ?_⟩
  have hx2:A2.heap[A.heap.size]? =some (.cells #[.string ⟨xu.toArray⟩,.string ⟨xz.toArray⟩] 38):=(ht.block _ (by simp) (by omega)).trans (World.alloc_heap_new A _)
  have c0:A2.cell? ⟨A.heap.size,0,none⟩=some (.string ⟨xu.toArray⟩):=by simp[World.cell?,hx2]
  have c1:A2.cell? ⟨A.heap.size,1,none⟩=some (.string ⟨xz.toArray⟩):=by simp[World.cell?,hx2]
  obtain⟨⟨v,bv,ho⟩,hB⟩:=hI2
  have d4:=bv.cell
  have e4:=bv.frozen
  have HX:=Lib.hid hx
  have HB:=Lib.hid hB
  have hlen2:pre.length+1<=140737488355:=by
   have h1:=hx.length_le
   simp at h1;omega
  have hs3:w.heap.size+3<=A2.heap.size:=by rw[hs2];simp;omega
  clear hx hB hs2 ht hx2
  gi_wp2_with (gi_at_builtin;go_loud(refine appendIn_turn rfl _ _ 34 rfl src_row (w.heap.size+3) rfl (ho.alloc _) (by simp;omega) ⟨_,0,none⟩ 0 1 (Pic.cells ⟨xu,xz⟩) rfl rfl (new_cells (c:= #[sv xu,sv xz]) (by simp[go_sem])) (by simp[Pic.cells,sv,Value.oneCell']) (by unfold maxLen;omega) (by omega) ?_);intro g cap W' ho' ht';have bv':=ht'.boxed (bv.alloc _) (by omega);have d5:=bv'.cell;have e5:=bv'.frozen)
  have h3:=CollT.put (x:=(⟨xu,xz⟩:Pic)) (HB.out.alloc _) (bv.alloc _) ho' rfl ht' (by omega) (Nat.le_refl _)
  exact⟨(((Turned.refl _ _).alloc _).trans h3.1),h3.2⟩
 case hdone=>
  rintro W ⟨⟨v,bv,ho⟩,hB⟩ hK
  have d1:=bv.cell
  gi_wp2
  have hT:Turned (fun k=>k=w.heap.size+1) W (W.putObj (w.heap.size+1) (.deferred none)):=Turned.putObj (pv:=fun k=>k=w.heap.size+1) (Turned.refl _ _) (Or.inr rfl) _
  refine⟨by simp,.inl ⟨_,_,rfl,run_takeDeferred hK, ?_⟩⟩
  exact⟨v,by simp[results,Tryz.results82,go_sem],v,rfl,hB.next hT (fun k hk=>by omega),hT.own ho (fun k hk=>by omega)⟩
 case hstop=>intro c pre x W _ h;exact h.elim
theorem collect_any (gf:Nat) (lb:Array Value) (xs:List Pic) (pv:Nat->Prop) (w:World) (hpv: ∀k,pv k->k<w.heap.size) (eg:Enters Tryz.prog gf) (hlen:xs.length<=140737488355)
  (hiter: ∀W bw,Turned (fun _=>False) w W->(∀k,bw k->w.heap.size<=k)->IterAt Tryz.prog gf lb (fun p=> #[Pic.agg p]) pv bw xs W):
  Calls Tryz.prog 30 #[.func (.func gf) #[] lb] w fun e w'=> ∃v,e= .returned v/\Turned pv w w'/\w'.ownsRow (w.heap.size+3) 38 2 v xs.length (picCells xs):=by
 have HA:=Lib.hid (appendSeq_any gf lb xs pv w hpv eg hlen hiter)
 clear hiter
 go_enter Tryz.func30,Tryz.ntmps30
 go_wp2_with(go_at_call 82;(with_reducible refine HA.out.mono ?_);rintro e w' ⟨v,rfl,ht,ho⟩;have HT:=Lib.hid ht;have HO:=Lib.hid ho;clear ht ho)
 go_ret
 exact⟨_,rfl,HT.out,HO.out⟩
theorem pic_few: ∀(n:Nat) (l:Bs),l.length<=n->(picL l).length<=l.length:=by
 intro n
 induction n with
 |zero=>intro l h;obtain rfl:l=[]:=List.eq_nil_of_length_eq_zero (by omega);simp[pic_nil]
 |succ n ih=>
  intro l h
  cases l with
  |nil=>simp[pic_nil]
  |cons c r=>
   cases hs:sepB c
   ·have h1:=tail_len (r:=r) (sep_sp hs)
    have hr:r.length<=n:=by simpa using h
    rw[pic_round hs]
    split
    ·have:=ih _ (Nat.le_trans h1 hr);simp at*;omega
    ·have h2:(((c::r).dropWhile (fun c=> !spB c)).drop (szL 0 ((c::r).dropWhile (fun c=> !spB c)))).length<=r.length:=by rw[List.length_drop];omega
     have:=ih _ (Nat.le_trans h2 hr);simp at*;omega
   ·rw[pic_sep hs];have:=ih r (by simpa using h);simp;omega
theorem sources_any (s:Bs) (W:World):Calls Tryz.prog 24 #[.string ⟨s.toArray⟩] W fun e w'=>e= .returned (.func (.func 65) #[] #[.pointer (some ⟨W.heap.size,0,none⟩),.pointer (some ⟨W.heap.size+1,0,none⟩)])/\(W.alloc (.cells #[.string ⟨s.toArray⟩] 9)).alloc (.cells #[.func (.func 64) #[] #[]] 64)=w':=by
 go_enter Tryz.func24,Tryz.ntmps24
 go_wp2
 go_ret
 exact⟨rfl,rfl⟩
set_option maxHeartbeats 800000 in
theorem pics_any (s:Bs) (w:World) (hm:s.length<=140737488355):Calls Tryz.prog 12 #[.string ⟨s.toArray⟩] w (RetS w (picL s).length 2 (picCells (picL s))):=by
 have HS:=Lib.hid (sources_any s)
 have hfew:=pic_few _ s (Nat.le_refl _)
 have b1:=(Boxed.new w 9 (.string ⟨s.toArray⟩)).alloc (.cells #[.func (.func 64) #[] #[]] 64)
 have b2:=Boxed.new (w.alloc (.cells #[.string ⟨s.toArray⟩] 9)) 64 (.func (.func 64) #[] #[])
 rw[World.size_alloc]at b2
 have HC:=Lib.hid (collect_any 65 #[.pointer (some ⟨w.heap.size,0,none⟩),.pointer (some ⟨w.heap.size+1,0,none⟩)] (picL s) (fun k=>k=w.heap.size)
  ((w.alloc (.cells #[.string ⟨s.toArray⟩] 9)).alloc (.cells #[.func (.func 64) #[] #[]] 64)) (by intro k hk;simp;omega) (enters_of Tryz.func65 (by kernel_rfl) rfl) (by omega)
  (fun W bw ht hb=>sources2_iter s w.heap.size bw W (ht.boxed b1 (fun h=>h)) (ht.boxed b2 (fun h=>h)) (by intro h;have:=hb _ h;simp at this;omega) (by intro h;have:=hb _ h;simp at this;omega) hm))
 go_enter Tryz.func12,Tryz.ntmps12
 go_wp2_with(first|(go_at_call 24;(with_reducible refine(HS.out _).mono ?_);rintro e w' ⟨rfl,rfl⟩)|(go_at_call 30;(with_reducible refine HC.out.mono ?_);rintro e w' ⟨v,rfl,ht,ho⟩;have HT:=Lib.hid ht;have HO:=Lib.hid ho;clear ht ho))
 go_ret
 exact RetS.own ((Below.refl _ _).alloc (Nat.le_refl _) _ |>.alloc (by simp) _ |>.trans (HT.out.below (by simp;omega) (by intro k hk;omega))) HO.out
theorem Rd.pic {w:World} {A:Option Addr} {m c:Nat} {l:List Pic} (h:Rd w (.slice A m c) l.length 2 (picCells l)) (k:Nat) (hk:k<l.length):
  ∃b off,A=some ⟨b,off,none⟩/\b<w.heap.size/\w.cell? ⟨b,off+k*2,none⟩=some (sv l[k].url)/\w.cell? ⟨b,off+k*2+1,none⟩=some (sv l[k].size):=by
 obtain⟨b,off,rfl,hb,hc⟩:=Rd.flat (n:=2) (cells:=Pic.cells) (fun _=>rfl) h k hk
 exact⟨b,off,rfl,hb,hc 0 _ (by omega) rfl,hc 1 _ (by omega) rfl⟩
set_option maxRecDepth 100000 in
set_option maxHeartbeats 4000000 in
theorem pictext_any (A:Option Addr) (n c:Nat) (l:List Pic) (w:World) (h:Rd w (.slice A n c) l.length 2 (picCells l)) (hl:l.length<=1000000) (ht:(textP l).length<=140737488355) (he: ∀p∈l,p.url.length<=140737488355/\p.size.length<=140737488355):
  Calls Tryz.prog 18 #[.slice A n c] w (Ret (.string ⟨(textP l).toArray⟩) w):=by
 have HR:=Lib.hid h
 obtain⟨_,hm,A',c',heq,_⟩:=h
 cases heq
 have HE:=Lib.hid he
 have HT:=Lib.hid ht
 clear he ht
 go_enter Tryz.func18,Tryz.ntmps18
 go_wp2_with fail
 go_loopw [3,8] (fun v i wr=> ∃(k:Nat) (X:Gr),k<=l.length/\i= .int .i64 k/\wr=w.grow X/\(w.grow X).ownsRow w.heap.size 9 1 v k (((l.take k).map toldP').map sv)) (fun _ i _=>l.length-(intOf i).toNat)
 case atStart=>exact⟨0,_,by omega,rfl,(grow_refl w).symm,by rw[grow_refl];exact World.ownsRow_nil _ _ _ _⟩
 case round=>
  obtain⟨k,X,hk,rfl,rfl,hown⟩:=hrel
  by_cases hlt:k<l.length
  ·obtain⟨b,off,rfl,hb,c0,c1⟩:=(HR.out.grow X).pic k hlt
   have HL:=Lib.hid (show((l.take (k+1)).map toldP').map sv=((l.take k).map toldP').map sv++[sv (toldP' l[k])] by rw[List.take_succ_eq_append_getElem hlt,List.map_append,List.map_append];rfl)
   obtain⟨h1,h2⟩:=HE.out _ (List.getElem_mem hlt)
   have HPe:Hid (toldP' l[k]=if l[k].size=[]then l[k].url else l[k].url++32::l[k].size):=rfl
   generalize l[k]=p at*
   have hb2:b<(w.grow X).heap.size+1:=by omega
   obtain⟨U,hU⟩: ∃U:ByteArray,⟨p.url.toArray⟩=U:=⟨_,rfl⟩
   obtain⟨Z,hZ⟩: ∃U:ByteArray,⟨p.size.toArray⟩=U:=⟨_,rfl⟩
   simp only[sv,hU,hZ]at c0 c1
   have hZe:Z.toList.isEmpty=decide (p.size=[]):=by rw[ba_emp,<-hZ]
   have HU:=Lib.hid hU
   have HZ:=Lib.hid hZ
   have hus:U.size<=140737488355:=by rw[<-hU];exact h1
   have hzs:Z.size<=140737488355:=by rw[<-hZ];exact h2
   clear hU hZ h1 h2
   by_cases hz:p.size=[]
   ·have HV:=Lib.hid (show sv (toldP' p)= .string U by rw[HPe.out,if_pos hz,sv,HU.out])
    rw[show decide (p.size=[])=true by simp[hz]]at hZe
    go_wp2_with(at_builtin;go_loud(refine append_grow rfl _ _ 47 rfl strs_row w rfl ((hown.alloc _).alloc _) bel ⟨_,0,none⟩ 1 1 [.string U] rfl rfl (new_cells (c:= #[.string U]) (by simp[go_sem])) (by simp[Value.oneCell']) (by unfold maxLen;omega) (by omega) ?_);intro v' Y hown' _)
    go_roundw
    case rel=>exact⟨k+1,Y,by omega,by go_num,rfl,by rw[HL.out,HV.out];exact hown'⟩
    case measure=>simp[intOf];omega
   ·have HV:=Lib.hid (show sv (toldP' p)= .string (U++(⟨#[32]⟩++Z)) by
     rw[HPe.out,if_neg hz,sv,<-HU.out,<-HZ.out,show(⟨#[32]⟩:ByteArray)=⟨([32]:Bs).toArray⟩from rfl,cat_bs,cat_bs];rfl)
    rw[show decide (p.size=[])=false by simp[hz]]at hZe
    go_wp2_with(at_builtin;go_loud(refine append_grow rfl _ _ 47 rfl strs_row w rfl ((hown.alloc _).alloc _) bel ⟨_,0,none⟩ 1 1 [.string (U++(⟨#[32]⟩++Z))] rfl rfl (new_cells (c:= #[.string (U++(⟨#[32]⟩++Z))]) (by simp[go_sem])) (by simp[Value.oneCell']) (by unfold maxLen;omega) (by omega) ?_);intro v' Y hown' _)
    go_roundw
    case rel=>exact⟨k+1,Y,by omega,by go_num,rfl,by rw[HL.out,HV.out];exact hown'⟩
    case measure=>simp[intOf];omega
  ·obtain rfl:k=l.length:=by omega
   rw[List.take_length]at hown
   have hrd:=Rd.own hown
   obtain⟨A1,c1,rfl,hc1⟩:=own_cap hown
   have HJ:=Lib.hid (strjoin_any (l.map toldP') [44,32] (A:=A1) (n:=l.length) (c:=c1) (by rw[List.length_map];exact hrd) (by rw[List.length_map];exact hc1) (by show(textP l).length<=_;have:=HT.out;omega) (by rw[List.length_map];omega))
   go_wp2_with(go_at_call 43;(with_reducible refine HJ.out.mono ?_);rintro e w' ⟨rfl,Y,rfl⟩)
   go_ret
   exact Ret.of rfl bel
theorem digits_bs (s:Bs) (w:World) (hm:s.length<=9223372036854775807):
  Calls Tryz.prog 44 #[.string ⟨s.toArray⟩] w (Ret (.tuple #[.string ⟨(s.dropWhile digB).toArray⟩,.bool (decide (1<=tw digB s)&&decide (tw digB s<=9))]) w):=
 digits_any ⟨s.toArray⟩ w (by show s.length<=_;omega)
theorem size_cases (s:Bs) (h:s≠[]):sizeB s=((decide (1<=tw digB s)&&decide (tw digB s<=9))&&match s.dropWhile digB with
   |[119]=>(s.takeWhile digB).any (fun c=>decide (c.toNat≠48))
   |46::r=>decide (1<=tw digB r)&&decide (tw digB r<=9)&&sizeTail (r.dropWhile digB)
   |t=>sizeTail t):=by
 rw[sizeB,if_neg h]
 show(if tw digB s<1\/9<tw digB s then false else _)=_
 split
 ·rename_i h1
  symm
  rw[Bool.and_eq_false_iff];left;simp;omega
 ·rename_i h1
  rw[show(decide (1<=tw digB s)&&decide (tw digB s<=9))=true by simp;omega,Bool.true_and];rfl
theorem nul_trim (d:Bs) (hd:d.all digB=true):(decide (Lib.trimB (d++[119]) 48=[119]))= !d.any (fun c=>decide (c.toNat≠48)):=by
 have h1:Lib.trimRightB (d++[119]) 48=d++[119]:=by
  unfold Lib.trimRightB
  rw[List.reverse_append,List.reverse_singleton,List.singleton_append,List.dropWhile_cons_of_neg (by decide)];simp
 unfold Lib.trimB
 rw[h1]
 unfold Lib.trimLeftB
 clear h1
 induction d with
 |nil=>rfl
 |cons c d ih=>
  simp only[List.all_cons,Bool.and_eq_true]at hd
  rw[List.cons_append,List.any_cons]
  by_cases h:c=48
  ·rw[List.dropWhile_cons_of_pos (by simp[h]),ih hd.2,h];rfl
  ·have h2:c.toNat≠48:=fun e=>h (UInt8.toNat_inj.1 e)
   rw[List.dropWhile_cons_of_neg (by simp[h])]
   simp[h2]
theorem tail_x (t:Bs):sizeTail t=decide (t=[120]):=by
 unfold sizeTail
 split<;>simp_all
def isDot:Bs->Bool
 |c::_=>decide (c.toNat=46)
 |[]=>false
theorem dot_prefix (t:Bs):Lib.hasPrefix t [46]=isDot t:=by
 unfold Lib.hasPrefix
 cases t with
 |nil=>rfl
 |cons c r=>rw[Bool.eq_iff_iff];simp[List.isPrefixOf,isDot,<-UInt8.toNat_inj];exact eq_comm
set_option maxHeartbeats 1600000 in
theorem sizeok_any (s:Bs) (w:World) (hm:s.length<=9223372036854775807):Calls Tryz.prog 19 #[.string ⟨s.toArray⟩] w (Ret (.bool (sizeB s)) w):=by
 obtain⟨S,hS⟩: ∃S:ByteArray,⟨s.toArray⟩=S:=⟨_,rfl⟩
 obtain⟨R,hR⟩: ∃S:ByteArray,⟨(s.dropWhile digB).toArray⟩=S:=⟨_,rfl⟩
 have HD:=Lib.hid (fun W=>digits_bs s W hm)
 have hSe:S.toList.isEmpty=decide (s=[]):=by rw[ba_emp,<-hS]
 have hRw:(R.toList==[119])=decide (s.dropWhile digB=[119]):=by rw[<-hR,ByteArray.toList_eq,Bool.eq_iff_iff];simp
 have hRx:(R.toList==[120])=decide (s.dropWhile digB=[120]):=by rw[<-hR,ByteArray.toList_eq,Bool.eq_iff_iff];simp
 rw[hS,hR]at HD
 rw[hS]
 by_cases hs:s=[]
 ·have HX:=Lib.hid (show sizeB s=true by rw[sizeB,if_pos hs])
  rw[show decide (s=[])=true by simp[hs]]at hSe
  go_enter Tryz.func19,Tryz.ntmps19
  go_wp2_with(go_at_call 44;(with_reducible refine(HD.out _).mono ?_);rintro e w' ⟨rfl,X,rfl⟩)
  go_ret
  exact Ret.of (by rw[HX.out];rfl) bel
 ·have HC:=Lib.hid (size_cases s hs)
  rw[show decide (s=[])=false by simp[hs]]at hSe
  cases hf:(decide (1<=tw digB s)&&decide (tw digB s<=9))
  ·have HX:=Lib.hid (show sizeB s=false by rw[HC.out,hf];rfl)
   rw[hf]at HD
   clear hf
   go_enter Tryz.func19,Tryz.ntmps19
   go_wp2_with(go_at_call 44;(with_reducible refine(HD.out _).mono ?_);rintro e w' ⟨rfl,X,rfl⟩)
   go_ret
   exact Ret.of (by rw[HX.out];rfl) bel
  ·rw[hf]at HD
   have HC:=Lib.hid (HC.out.trans (by rw[hf,Bool.true_and]))
   clear hf
   by_cases hw:s.dropWhile digB=[119]
   ·rw[show decide (s.dropWhile digB=[119])=true by simp[hw]]at hRw
    have HX:=Lib.hid (show sizeB s=(s.takeWhile digB).any (fun c=>decide (c.toNat≠48)) by rw[HC.out,hw];rfl)
    have hsp:s.takeWhile digB++[119]=s:=by rw[<-hw,List.takeWhile_append_dropWhile]
    have HN:=Lib.hid (nul_trim (s.takeWhile digB) List.all_takeWhile)
    rw[hsp]at HN
    obtain⟨V,hV⟩: ∃V:ByteArray,⟨(Lib.trimB s 48).toArray⟩=V:=⟨_,rfl⟩
    have HT:=Lib.hid (fun W=>show Calls Tryz.prog 31 #[.string S,.string ⟨#[48]⟩] W (Ret (.string V) W)from by
     have:=Tryz.strings_Trim_one ⟨s.toArray⟩ 48 (by decide) W (by show s.length<=_;omega)
     rw[show(⟨s.toArray⟩:ByteArray).data.toList=s from rfl,hV,hS]at this
     refine this.mono ?_
     rintro e w' ⟨rfl,rfl|rfl⟩
     ·exact Ret.same rfl
     ·exact Ret.of rfl bel)
    have hVw:(V.toList==[119])=decide (Lib.trimB s 48=[119]):=by rw[<-hV,ByteArray.toList_eq,Bool.eq_iff_iff];simp
    have hVw2:(V.toList !=[119])= !decide (Lib.trimB s 48=[119]):=by rw[bne,hVw]
    rw[HN.out]at hVw hVw2
    rw[Bool.not_not]at hVw2
    clear hV hsp hw
    generalize(s.takeWhile digB).any (fun c=>decide (c.toNat≠48))=q at*
    go_enter Tryz.func19,Tryz.ntmps19
    go_wp2_with(first|(go_at_call 44;(with_reducible refine(HD.out _).mono ?_);rintro e w' ⟨rfl,X,rfl⟩)|(go_at_call 31;(with_reducible refine(HT.out _).mono ?_);rintro e w' ⟨rfl,X2,rfl⟩))
    go_ret
    exact Ret.of (by rw[HX.out];rfl) bel
   ·rw[show decide (s.dropWhile digB=[119])=false by simp[hw]]at hRw
    have HP:=Lib.hid (fun W=>show Calls Tryz.prog 45 #[.string R,.string ⟨#[46]⟩] W fun e w'=>e= .returned (.bool (isDot (s.dropWhile digB)))/\w'=W from by
     have:=Tryz.strings_HasPrefix ⟨(s.dropWhile digB).toArray⟩ ⟨#[46]⟩ W
     rw[show(⟨(s.dropWhile digB).toArray⟩:ByteArray).data.toList=s.dropWhile digB from rfl,show(⟨#[46]⟩:ByteArray).data.toList=[46]from rfl,dot_prefix,hR]at this
     exact this)
    have hRs:R.size=(s.dropWhile digB).length:=by rw[<-hR];rfl
    have hdl:=drop_while_len digB s
    cases hd:isDot (s.dropWhile digB)
    ·have HX:=Lib.hid (show sizeB s=decide (s.dropWhile digB=[120]) by
      rw[HC.out]
      split
      ·contradiction
      ·rename_i he;rw[he]at hd;simp[isDot]at hd
      ·rw[tail_x])
     rw[hd]at HP
     generalize decide (s.dropWhile digB=[120])=q at*
     clear hRs hd hw
     go_enter Tryz.func19,Tryz.ntmps19
     go_wp2_with(first|(go_at_call 44;(with_reducible refine(HD.out _).mono ?_);rintro e w' ⟨rfl,X,rfl⟩)|(go_at_call 45;(with_reducible refine(HP.out _).mono ?_);rintro e w' ⟨rfl,rfl⟩))
     go_ret
     exact Ret.of (by rw[HX.out];rfl) bel
    ·rw[hd]at HP
     cases hq:s.dropWhile digB with
     |nil=>rw[hq]at hd;simp[isDot]at hd
     |cons c r=>
      rw[hq]at hd
      have hc:c=46:=by
       have:c.toNat=46:=by simpa[isDot]using hd
       exact UInt8.toNat_inj.1 this
      subst hc
      have HX:=Lib.hid (show sizeB s=((decide (1<=tw digB r)&&decide (tw digB r<=9))&&decide (r.dropWhile digB=[120])) by
       rw[HC.out,hq,<-tail_x]
       cases r<;>rfl)
      rw[hq]at hRs hdl
      have hr1:1<=R.size:=by rw[hRs];simp
      have hR1:R.extract 1 R.size=⟨r.toArray⟩:=by
       rw[str_drop,<-hR,hq];rfl
      obtain⟨R2,hR2⟩: ∃S:ByteArray,⟨r.toArray⟩=S:=⟨_,rfl⟩
      obtain⟨R3,hR3⟩: ∃S:ByteArray,⟨(r.dropWhile digB).toArray⟩=S:=⟨_,rfl⟩
      have hm2:R.size<=9223372036854775807:=by omega
      have HD2:=Lib.hid (fun W=>digits_bs r W (by simp at hdl;omega))
      have hR3x:(R3.toList==[120])=decide (r.dropWhile digB=[120]):=by rw[<-hR3,ByteArray.toList_eq,Bool.eq_iff_iff];simp
      rw[hR2,hR3]at HD2
      rw[hR2]at hR1
      clear hR2 hR3 hRs hR hq hd hw hdl
      generalize(decide (1<=tw digB r)&&decide (tw digB r<=9))=f at*
      generalize decide (r.dropWhile digB=[120])=q at*
      cases f
      all_goals
       go_enter Tryz.func19,Tryz.ntmps19
       go_wp2_with(first|(go_at_call 44;(with_reducible refine(HD.out _).mono ?_);rintro e w' ⟨rfl,X,rfl⟩)|(go_at_call 45;(with_reducible refine(HP.out _).mono ?_);rintro e w' ⟨rfl,rfl⟩)|(go_at_call 44;(with_reducible refine(HD2.out _).mono ?_);rintro e w' ⟨rfl,X3,rfl⟩))
       go_ret
       exact Ret.of (by rw[HX.out];first|rfl|simp) bel
theorem trimB_same (l:Bs):decide (Lib.trimB l 44=l)=match l with
  |[]=>true
  |c::r=>decide (c.toNat≠44)&& !endsC (c::r):=by
 cases l with
 |nil=>rfl
 |cons c r=>
  have hr:=trimC_ends (c::r)
  unfold Lib.trimB
  rw[trimC_lib,Bool.eq_iff_iff]
  cases he:endsC (c::r)
  ·rw[he]at hr
   have h1:trimC (c::r)=c::r:=by simpa using hr.symm
   rw[h1]
   unfold Lib.trimLeftB
   by_cases hc:c=44
   ·rw[List.dropWhile_cons_of_pos (by simp[hc])]
    have h2:=drop_while_len (fun x=>x==44) r
    constructor
    ·intro h
     have:=congrArg List.length (of_decide_eq_true h)
     simp at this;omega
    ·intro h;simp[hc]at h
   ·rw[List.dropWhile_cons_of_neg (by simp[hc])]
    have h2:c.toNat≠44:=fun e=>hc (UInt8.toNat_inj.1 e)
    simp[h2,he]
  ·rw[he]at hr
   have h1:trimC (c::r)≠c::r:=by simpa using hr.symm
   simp only[he,Bool.not_true,Bool.and_false,decide_eq_true_eq,Bool.false_eq_true,iff_false]
   intro h
   have h2:=congrArg List.length h
   have h3:=trimC_len (c::r)
   have h4:=drop_while_len (fun x=>x==44) (trimC (c::r))
   unfold Lib.trimLeftB at h2
   have h5:(trimC (c::r)).length=(c::r).length:=by omega
   apply h1
   unfold trimC at h5 ⊢
   rw[List.length_reverse]at h5
   have h6:=(List.dropWhile_suffix (fun c:UInt8=>decide (c.toNat=44)) (l:=(c::r).reverse)).eq_of_length (by rw[h5];simp)
   rw[h6,List.reverse_reverse]
theorem tw_all (p:UInt8->Bool) (l:Bs):l.all p=decide (tw p l=l.length):=by
 induction l with
 |nil=>rfl
 |cons c l ih=>
  cases h:p c
  ·rw[tw_cons_f _ h,List.all_cons,h];simp
  ·rw[tw_cons_t _ h,List.all_cons,h,ih];simp
theorem right_cases (p:Pic):okP p=(!decide (p.url=[])&&decide (Lib.trimB p.url 44=p.url)&&decide (tw nspB p.url=p.url.length)&&sizeB p.size):=by
 rw[trimB_same,<-tw_all]
 unfold okP nspB
 cases p.url<;>simp
set_option maxRecDepth 100000 in
set_option maxHeartbeats 3200000 in
theorem picright_any (p:Pic) (w:World) (h1:p.url.length<=9223372036854775807) (h2:p.size.length<=9223372036854775807):Calls Tryz.prog 13 #[Pic.agg p] w (Ret (.bool (okP p)) w):=by
 have HX:=Lib.hid (right_cases p)
 have HZ:=Lib.hid (fun W=>sizeok_any p.size W h2)
 have HU:=Lib.hid (fun W=>until_nsp p.url W h1)
 obtain⟨V,hV⟩: ∃V:ByteArray,⟨(Lib.trimB p.url 44).toArray⟩=V:=⟨_,rfl⟩
 obtain⟨U,hU⟩: ∃V:ByteArray,⟨p.url.toArray⟩=V:=⟨_,rfl⟩
 obtain⟨S,hS⟩: ∃V:ByteArray,⟨p.size.toArray⟩=V:=⟨_,rfl⟩
 have HT:=Lib.hid (fun W=>show Calls Tryz.prog 31 #[.string U,.string ⟨#[44]⟩] W (Ret (.string V) W)from by
  have:=Tryz.strings_Trim_one ⟨p.url.toArray⟩ 44 (by decide) W (by show p.url.length<=_;omega)
  rw[show(⟨p.url.toArray⟩:ByteArray).data.toList=p.url from rfl,hV,hU]at this
  refine this.mono ?_
  rintro e w' ⟨rfl,rfl|rfl⟩
  ·exact Ret.same rfl
  ·exact Ret.of rfl bel)
 have hUe:U.toList.isEmpty=decide (p.url=[]):=by rw[ba_emp,<-hU]
 have hVU:(V.toList==U.toList)=decide (Lib.trimB p.url 44=p.url):=by rw[ba_bq,<-hV,<-hU]
 have hUs:U.size=p.url.length:=by rw[<-hU];rfl
 have hTU:((tw nspB p.url:Int)==(U.size:Int))=decide (tw nspB p.url=p.url.length):=by rw[hUs,Bool.eq_iff_iff];simp;omega
 have hmx:Tryz.prog.follows .mixedOrders=true:=by kernel_rfl
 rw[hU]at HU
 rw[hS]at HZ
 rw[Pic.agg,sv,sv,hU,hS]
 clear hU hS hV h1 h2 hUs
 generalize okP p=R at*
 generalize decide (p.url=[])=b1 at*
 generalize decide (Lib.trimB p.url 44=p.url)=b2 at*
 generalize decide (tw nspB p.url=p.url.length)=b3 at*
 generalize tw nspB p.url=n at*
 generalize sizeB p.size=b4 at*
 cases b1
 ·cases b2
  ·go_enter Tryz.func13,Tryz.ntmps13
   go_wp2
   refine wp_region_grow (by kernel_rfl) (by kernel_rfl) ?_
   repeat(go_big_quiet_step(first|(go_at_call 31;with_reducible exact Calls.grow_of (HT.out _))|(go_at_call 32;with_reducible exact Calls.grow_of (HU.out _))|(go_at_call 19;with_reducible exact Calls.grow_of (HZ.out _))))
   refine wpQuiet_nil ?_
   intro _ hw';obtain⟨nq,hw''⟩:=hw';subst hw''
   go_wp2
   go_ret
   exact Ret.of (by rw[HX.out];rfl) bel
  ·cases b3
   all_goals
    go_enter Tryz.func13,Tryz.ntmps13
    go_wp2
    refine wp_region_grow (by kernel_rfl) (by kernel_rfl) ?_
    repeat(go_big_quiet_step(first|(go_at_call 31;with_reducible exact Calls.grow_of (HT.out _))|(go_at_call 32;with_reducible exact Calls.grow_of (HU.out _))|(go_at_call 19;with_reducible exact Calls.grow_of (HZ.out _))))
    refine wpQuiet_nil ?_
    intro _ hw';obtain⟨nq,hw''⟩:=hw';subst hw''
    go_wp2
    go_ret
    exact Ret.of (by rw[HX.out];first|rfl|simp) bel
 ·go_enter Tryz.func13,Tryz.ntmps13
  go_wp2
  refine wp_region_grow (by kernel_rfl) (by kernel_rfl) ?_
  repeat(go_big_quiet_step(fail))
  refine wpQuiet_nil ?_
  intro _ hw';obtain⟨nq,hw''⟩:=hw';subst hw''
  go_wp2
  go_ret
  exact Ret.of (by rw[HX.out];rfl) bel
end Go.Proofs.YtiikamobcmgekaaGreatDoor
